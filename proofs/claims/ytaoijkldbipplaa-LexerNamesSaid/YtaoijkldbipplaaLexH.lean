/-
  'LexerNames'.
-/
import Derived.Test.YtaoijkldbipplaaLexG
namespace Go.Proofs.Ytaoijkldbipplaa
open Go Go.DI
set_option linter.unusedSimpArgs false
set_option linter.unusedVariables false

/-- a name -/
def nm (T : ByteArray) : Prop := 0 < T.size ∧ T.size ≤ 16 ∧ isLetter (byI T 0) = true ∧ rowN isInner T T.size 0 = T.size
open Classical in
noncomputable def nmB (T : ByteArray) : Bool := decide (nm T)
theorem nmB_true {T : ByteArray} (h : nm T) : nmB T = true := by simp [nmB, h]
theorem nmB_false {T : ByteArray} (h : ¬ nm T) : nmB T = false := by simp [nmB, h]

theorem nm13_loop {T : ByteArray} (hT : T.size < 10000000) {Q : IExit → Slots → Mem → Prop} : ∀ (r i : Nat) (m : Mem) (σ : Slots), i + r = T.size → σ 0 = .string T → σ 3 = .int .i64 i →
    (rowN isInner T r i = r → ∀ σ', Q (.exit 0) σ' m) → (rowN isInner T r i ≠ r → ∀ σ', σ' 2 = .bool false → Q .ret σ' m) → WP Try.prog (.loop ir13_l0) σ m Q
  | 0, i, m, σ, hi, s0, s3, q1, q2 => by
    refine wp_round fun J hJ => ?_
    have : ¬ (i : Int) < T.size := by omega
    simp [ir13_l0, s0, s3, this]
    exact q1 rfl _
  | r + 1, i, m, σ, hi, s0, s3, q1, q2 => by
    refine wp_round fun J hJ => ?_
    have h1 : (i : Int) < T.size := by omega
    have w1 : IntKind.i64.wrap ((i : Int) + 1) = (i : Int) + 1 := i64_id (by omega) (by omega)
    by_cases hb : isInner (byI T i) = true
    · simp [ir13_l0, s0, s3, h1, hb, w1]
      refine hJ _ _ (nm13_loop hT r (i + 1) _ _ (by omega) (by simp [s0]) (by simp) (fun h => q1 (by simp [rowN, hb, h])) (fun h => q2 (by simp [rowN, hb]; exact h)))
    · have hb' : isInner (byI T i) = false := by simpa using hb
      simp [ir13_l0, s0, s3, h1, hb']
      exact q2 (by simp [rowN, hb']) _ (by simp)
theorem nm14_loop {T : ByteArray} (hT : T.size < 10000000) {Q : IExit → Slots → Mem → Prop} : ∀ (r i : Nat) (m : Mem) (σ : Slots), i + r = T.size → σ 0 = .string T → σ 3 = .int .i64 i →
    (rowN isInner T r i = r → ∀ σ', Q (.exit 0) σ' m) → (rowN isInner T r i ≠ r → ∀ σ', σ' 2 = .bool false → Q .ret σ' m) → WP Try.prog (.loop ir14_l0) σ m Q
  | 0, i, m, σ, hi, s0, s3, q1, q2 => by
    refine wp_round fun J hJ => ?_
    have : ¬ (i : Int) < T.size := by omega
    simp [ir14_l0, s0, s3, this]
    exact q1 rfl _
  | r + 1, i, m, σ, hi, s0, s3, q1, q2 => by
    refine wp_round fun J hJ => ?_
    have h1 : (i : Int) < T.size := by omega
    have w1 : IntKind.i64.wrap ((i : Int) + 1) = (i : Int) + 1 := i64_id (by omega) (by omega)
    by_cases hb : isInner (byI T i) = true
    · simp [ir14_l0, s0, s3, h1, hb, w1]
      refine hJ _ _ (nm14_loop hT r (i + 1) _ _ (by omega) (by simp [s0]) (by simp) (fun h => q1 (by simp [rowN, hb, h])) (fun h => q2 (by simp [rowN, hb]; exact h)))
    · have hb' : isInner (byI T i) = false := by simpa using hb
      simp [ir14_l0, s0, s3, h1, hb']
      exact q2 (by simp [rowN, hb']) _ (by simp)

theorem empty_of_size {T : ByteArray} (h : T.size = 0) : T = ⟨#[]⟩ := by
  apply ByteArray.ext; exact Array.eq_empty_of_size_eq_zero h
theorem isName_ret {T : ByteArray} (hT : T.size < 10000000) (m : Mem) : Ret Try.prog 13 [.string T] m (.bool (nmB T)) m := by
  apply Ret.of_wp
  rw [call13 (by simp)]
  by_cases h0 : T.size = 0
  · have e := empty_of_size h0
    have hn : ¬ nm T := fun h => by have := h.1; omega
    simp [ir13_b, e]
    rw [← e, nmB_false hn]
  · have e : ¬ T = ⟨#[]⟩ := fun h => h0 (by rw [h]; rfl)
    have h0' : (0 : Int) < T.size := by omega
    have hp : 0 < T.size := by omega
    by_cases h1 : 16 < T.size
    · have h1' : (16 : Int) < T.size := by omega
      have hn : ¬ nm T := fun h => by have := h.2.1; omega
      simp [ir13_b, e, h1', nmB_false hn]
    · have h1' : ¬ (16 : Int) < T.size := by omega
      by_cases h2 : isLetter (byI T 0) = true
      · simp [ir13_b, e, h0', hp, h1', h2]
        refine nm13_loop hT T.size 0 _ _ (by omega) (by simp) (by simp) (fun h σ' => ?_) (fun h σ' g => ?_)
        · simp [nmB_true ⟨by omega, by omega, h2, h⟩]
        · have hn : ¬ nm T := fun h' => h h'.2.2.2
          simp [g, nmB_false hn]
      · have hn : ¬ nm T := fun h' => h2 h'.2.2.1
        have h2' : isLetter (byI T 0) = false := by simpa using h2
        simp [ir13_b, e, h0', hp, h1', h2', nmB_false hn]
theorem risName_ret {T : ByteArray} (hT : T.size < 10000000) (m : Mem) : Ret Try.prog 14 [.string T] m (.bool (nmB T)) m := by
  apply Ret.of_wp
  rw [call14 (by simp)]
  by_cases h0 : T.size = 0
  · have h0' : (T.size : Int) < 1 := by omega
    have hn : ¬ nm T := fun h => by have := h.1; omega
    simp [ir14_b, h0', nmB_false hn]
  · have h0' : (0 : Int) < T.size := by omega
    have hp : 0 < T.size := by omega
    have h0'' : ¬ (T.size : Int) < 1 := by omega
    by_cases h1 : 16 < T.size
    · have h1' : (16 : Int) < T.size := by omega
      have hn : ¬ nm T := fun h => by have := h.2.1; omega
      simp [ir14_b, h0'', h1', nmB_false hn]
    · have h1' : ¬ (16 : Int) < T.size := by omega
      by_cases h2 : isLetter (byI T 0) = true
      · simp [ir14_b, h0', hp, h0'', h1', h2]
        refine nm14_loop hT T.size 0 _ _ (by omega) (by simp) (by simp) (fun h σ' => ?_) (fun h σ' g => ?_)
        · simp [nmB_true ⟨by omega, by omega, h2, h⟩]
        · have hn : ¬ nm T := fun h' => h h'.2.2.2
          simp [g, nmB_false hn]
      · have hn : ¬ nm T := fun h' => h2 h'.2.2.1
        have h2' : isLetter (byI T 0) = false := by simpa using h2
        simp [ir14_b, h0', hp, h0'', h1', h2', nmB_false hn]

theorem lex_name {T : ByteArray} {i : Nat} {l c : Int} {o : Out} (hL : Lex T i l c o) : ∀ ts, o = .ok ts → ∀ t ∈ ts, t.kind = 1 → ∃ j k, i ≤ j ∧ j + k ≤ T.size ∧ k ≤ 16 ∧ isLetter (byI T j) = true ∧ k = rw1 isInner T j ∧ t.text = T.extract j (j + k) := by
  induction hL with
  | done h => intro ts h1 t ht hk; cases h1; simp at ht; subst ht; simp at hk
  | nl h0 h1 hL ih => intro ts h2 t ht hk; obtain ⟨j, k, a, r⟩ := ih ts h2 t ht hk; exact ⟨j, k, by omega, r⟩
  | sp h0 h1 h2 hL ih => intro ts h2 t ht hk; obtain ⟨j, k, a, r⟩ := ih ts h2 t ht hk; exact ⟨j, k, by omega, r⟩
  | com h0 h1 hk hL ih => intro ts h2 t ht hk; obtain ⟨j, k, a, r⟩ := ih ts h2 t ht hk; exact ⟨j, k, by omega, r⟩
  | @name i l c o k h0 h1 hk hk2 hL ih =>
    intro ts h2 t ht hkd
    obtain ⟨us, rfl, rfl⟩ := pre_ok h2
    have p2 := @rw1_le isInner T i
    rw [← hk] at p2
    simp only [List.cons_append, List.nil_append, List.mem_cons] at ht
    rcases ht with rfl | ht
    · exact ⟨i, k, Nat.le_refl _, by omega, hk2, h1, hk, rfl⟩
    · obtain ⟨j, k, a, r⟩ := ih us rfl t ht hkd; exact ⟨j, k, by omega, r⟩
  | nameX => intro ts h; cases h
  | @num i l c o k h0 h1 hk hk2 hL ih =>
    intro ts h2 t ht hkd
    obtain ⟨us, rfl, rfl⟩ := pre_ok h2
    simp only [List.cons_append, List.nil_append, List.mem_cons] at ht
    rcases ht with rfl | ht
    · simp at hkd
    · obtain ⟨j, k, a, r⟩ := ih us rfl t ht hkd; exact ⟨j, k, by omega, r⟩
  | numX => intro ts h; cases h
  | @sign i l c o h0 h1 hL ih =>
    intro ts h2 t ht hkd
    obtain ⟨us, rfl, rfl⟩ := pre_ok h2
    simp only [List.cons_append, List.nil_append, List.mem_cons] at ht
    rcases ht with rfl | ht
    · simp at hkd
    · obtain ⟨j, k, a, r⟩ := ih us rfl t ht hkd; exact ⟨j, k, by omega, r⟩
  | bad => intro ts h; cases h

theorem extract_all {T : ByteArray} : T.extract 0 T.size = T := by
  apply ByteArray.ext; apply Array.ext'; simp
theorem one_nm {T : ByteArray} {t u : Tk} {l c : Int} (hL : Lex T 0 l c (.ok [t, u])) (hk : t.kind = 1) (ht : t.text = T) : nm T := by
  obtain ⟨j, k, a, b, c1, d, e, f⟩ := lex_name hL _ rfl t (by simp) hk
  have hs : (T.extract j (j + k)).size = T.size := by rw [← f, ht]
  simp at hs
  have hj : j = 0 := by omega
  subst hj
  have hk2 : k = T.size := by omega
  have p : 0 < T.size ∨ T.size = 0 := by omega
  rcases p with p | p
  · have e2 : rw1 isInner T 0 = T.size := by omega
    exact ⟨p, by omega, d, by simpa [rw1] using e2⟩
  · exfalso
    have : byI T 0 = 0 := by simp [byI, empty_of_size p]
    rw [this] at d; cases d
theorem nm_one {T : ByteArray} {o : Out} {l c : Int} (hn : nm T) (hL : Lex T 0 l c o) : ∃ t u, o = .ok [t, u] ∧ t.kind = 1 ∧ t.text = T := by
  obtain ⟨h1, h2, h3, h4⟩ := hn
  have hr : rw1 isInner T 0 = T.size := by simpa [rw1] using h4
  obtain ⟨n1, n2, n3⟩ := letter_not h3
  cases hL with
  | done h => omega
  | nl h0 h => exact absurd h n3
  | sp h0 h hs => rw [n1] at hs; cases hs
  | com h0 h => exact absurd h n2
  | @name _ _ _ o k h0 h hk hk2 hL =>
    have e : k = T.size := by rw [hk, hr]
    subst e
    simp only [Nat.zero_add] at hL
    cases hL with
    | done h => exact ⟨_, _, rfl, rfl, by simp [extract_all]⟩
    | nl h0 => omega
    | sp h0 => omega
    | com h0 => omega
    | name h0 => omega
    | nameX h0 => omega
    | num h0 => omega
    | numX h0 => omega
    | sign h0 => omega
    | bad h0 => omega
  | nameX h0 h hk hk2 => omega
  | num h0 h => have := (digit_not h).2.2.2; rw [h3] at this; cases this
  | numX h0 h => have := (digit_not h).2.2.2; rw [h3] at this; cases this
  | sign h0 h => have := (sign_not h).2.2.2.1; rw [h3] at this; cases this
  | bad h0 a b d => rw [h3] at d; cases d

theorem names_wp (T : ByteArray) (m : Mem) : WPCall Try.prog 7 [.string T] m fun r _ => r = .bool true := by
  rw [call7 (by simp)]
  by_cases h9 : 200 < T.size
  · have h9' : (200 : Int) < T.size := by omega
    simp [ir7_b, h9']
    refine (awake_wp _).mono fun r m' hp => ?_
    obtain ⟨rfl, _, _⟩ := hp
    simp
  · have h9' : ¬ (200 : Int) < T.size := by omega
    have w1 : ∀ m Φ, WPCall Try.prog 13 [.string T] m Φ = Φ (.bool (nmB T)) m := fun m Φ => (isName_ret (by omega) m).wp
    have w2 : ∀ m Φ, WPCall Try.prog 14 [.string T] m Φ = Φ (.bool (nmB T)) m := fun m Φ => (risName_ret (by omega) m).wp
    have aw : ∀ {m : Mem} {Φ : Value → Mem → Prop}, (∀ m', Φ (.bool true) m') → WPCall Try.prog 8 [] m Φ := fun h => (awake_wp _).mono fun r m' hp => by
      obtain ⟨rfl, _, _⟩ := hp
      exact h m'
    obtain ⟨o, ho⟩ := scans_total (T := T)
    simp [ir7_b, h9']
    refine (scan_wp (by omega) ho _).mono fun r1 m1 hp1 => ?_
    obtain ⟨k1, k2, hp1⟩ := hp1
    simp only [next_put, next_bump] at k1 k2
    unfold Scans at ho
    rw [if_neg (by omega)] at ho
    cases o with
    | ok ts =>
      obtain ⟨v, rfl, hv⟩ := hp1
      have hnil : nm T → ts.length = 2 := fun hn => by
        obtain ⟨t, u, h, _⟩ := nm_one hn ho
        cases h; rfl
      rcases hv with ⟨rfl, rfl⟩ | ⟨a, ha, rfl, ga⟩
      · have hn : ¬ nm T := fun h => by have := hnil h; cases this
        simp (disch := first | omega | (simp only [next_put, next_bump]; omega)) [get_put_self, get_put_ne, get_bump, put_put, w1, w2, nmB_false hn]
        exact aw fun m' => by simp
      · by_cases h2 : ts.length = 2
        · obtain ⟨t, u, rfl⟩ : ∃ t u, ts = [t, u] := by
            match ts, h2 with
            | [t, u], _ => exact ⟨t, u, rfl⟩
          have hla := get_lt ga
          simp only [next_bump] at ha
          by_cases hk : t.kind = 1
          · by_cases ht : t.text = T
            · have hn := one_nm ho hk ht
              simp (disch := first | omega | (simp only [next_put, next_bump]; omega)) [get_put_self, get_put_ne, get_bump, put_put, w1, w2, nmB_true hn, ga, cells4, tokCells, hk, ht]
              exact aw fun m' => by simp
            · have hn : ¬ nm T := fun h => by
                obtain ⟨t', u', h, _, h2⟩ := nm_one h ho
                cases h; exact ht h2
              simp (disch := first | omega | (simp only [next_put, next_bump]; omega)) [get_put_self, get_put_ne, get_bump, put_put, w1, w2, nmB_false hn, ga, cells4, tokCells, hk, ht]
              exact aw fun m' => by simp
          · have hn : ¬ nm T := fun h => by
              obtain ⟨t', u', h, h2, _⟩ := nm_one h ho
              cases h; exact hk h2
            simp (disch := first | omega | (simp only [next_put, next_bump]; omega)) [get_put_self, get_put_ne, get_bump, put_put, w1, w2, nmB_false hn, ga, cells4, tokCells, hk]
            exact aw fun m' => by simp
        · have hn : ¬ nm T := fun h => h2 (hnil h)
          have h2' : ¬ (ts.length : Int) = 2 := by omega
          simp (disch := first | omega | (simp only [next_put, next_bump]; omega)) [get_put_self, get_put_ne, get_bump, put_put, w1, w2, nmB_false hn, h2']
          exact aw fun m' => by simp
    | err e l c =>
      subst hp1
      have hn : ¬ nm T := fun h => by
        obtain ⟨t, u, h, _⟩ := nm_one h ho
        cases h
      by_cases he : e = 0
      · subst he
        simp (disch := first | omega | (simp only [next_put, next_bump]; omega)) [get_put_self, get_put_ne, get_bump, put_put, w1, w2, nmB_false hn]
        exact aw fun m' => by simp
      · simp (disch := first | omega | (simp only [next_put, next_bump]; omega)) [get_put_self, get_put_ne, get_bump, put_put, w1, w2, nmB_false hn, he]
        exact aw fun m' => by simp
end Go.Proofs.Ytaoijkldbipplaa
