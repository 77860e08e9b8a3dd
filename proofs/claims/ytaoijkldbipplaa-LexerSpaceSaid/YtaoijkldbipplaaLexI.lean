/-
  'LexerLimits'.
-/
import Derived.Test.YtaoijkldbipplaaLexG
namespace Go.Proofs.Ytaoijkldbipplaa
open Go Go.DI
set_option linter.unusedSimpArgs false
set_option linter.unusedVariables false

theorem all_set {cs : List Value} {v : Value} (h : cs.all isU8 = true) (hv : isU8 v = true) {i : Nat} : (cs.set i v).all isU8 = true := by
  rw [List.all_eq_true] at h ⊢
  intro x hx
  rcases List.mem_or_eq_of_mem_set hx with h1 | h1
  · exact h x h1
  · rw [h1]; exact hv

theorem lrow_loop {n : Nat} (hn : n < 10000000) {c : Int} {bb : Nat} {Q : IExit → Slots → Mem → Prop} : ∀ (r i : Nat) (m : Mem) (σ : Slots) (cs : List Value), i + r = n → m.get bb = some ⟨cs, true⟩ → cs.length = n → cs.all isU8 = true → σ 0 = .int .u8 c → σ 1 = .int .i64 n → σ 5 = .slice (some ⟨bb, 0, none⟩) n 1 → σ 6 = .int .i64 i →
    (∀ σ' m' cs', σ' 5 = .slice (some ⟨bb, 0, none⟩) n 1 → m' = m.put bb (some ⟨cs', true⟩) → cs'.length = n → cs'.all isU8 = true → Q (.exit 0) σ' m') → WP Try.prog (.loop ir12_l0) σ m Q
  | 0, i, m, σ, cs, hi, h, hl, ha, s0, s1, s5, s6, hQ => by
    refine wp_round fun J hJ => ?_
    have : ¬ (i : Int) < n := by omega
    have h2 : ¬ i < n := by omega
    simp [ir12_l0, s0, s1, s5, s6, this, h2]
    exact hQ _ _ cs (by simp [s5]) (put_same h).symm hl ha
  | r + 1, i, m, σ, cs, hi, h, hl, ha, s0, s1, s5, s6, hQ => by
    refine wp_round fun J hJ => ?_
    have h1 : (i : Int) < n := by omega
    have h2 : i < n := by omega
    have h3 : i + 1 ≤ n := by omega
    have w1 : IntKind.i64.wrap ((i : Int) + 1) = (i : Int) + 1 := i64_id (by omega) (by omega)
    simp [ir12_l0, s0, s1, s5, s6, h1, h2, h3, h, hl, w1]
    refine hJ _ _ (lrow_loop (c := c) hn r (i + 1) _ _ (cs.set i (.int .u8 c)) (by omega) (get_put_self (get_lt h)) (by simp [hl]) (all_set ha rfl) (by simp [s0]) (by simp [s1]) (by simp [s5]) (by simp) fun σ' m' cs' g1 g2 g3 g4 => hQ _ _ _ g1 (by rw [g2, put_put]) g3 g4)

theorem lrow_wp {n : Nat} (hn : n < 10000000) (c : Int) (m : Mem) : WPCall Try.prog 12 [.int .u8 c, .int .i64 n] m fun r m' => ∃ s : ByteArray, r = .string s ∧ s.size = n ∧ m.next ≤ m'.next ∧ ∀ a, a < m.next → m'.get a = m.get a := by
  rw [call12 (by simp)]
  have h1 : (n : Int) ≤ 140737488355328 := by omega
  have h2 : (n : Int) ≤ 9223372036854775807 := by omega
  have h3 : n ≤ 140737488355328 := by omega
  have h4 : n ≤ 9223372036854775807 := by omega
  simp (disch := first | omega | (simp only [next_put, next_bump]; omega)) [ir12_b, h1, h2, h3, h4, get_put_self, get_put_ne, get_bump, put_put]
  refine lrow_loop (n := n) (c := c) (bb := m.next + 1) hn n 0 _ _ (List.replicate n (.int .u8 0)) (by omega) (by simp (disch := first | omega | (simp only [next_put, next_bump]; omega)) [get_put_self]) (by simp) (by simp) (by simp) (by simp) (by simp) (by simp) fun σ' m' cs' g1 g2 g3 g4 => ?_
  subst g2
  have g5 : cs'.take n = cs' := List.take_of_length_le (by omega)
  simp (disch := first | omega | (simp only [next_put, next_bump]; omega)) [g1, g3, g4, g5, get_put_self, get_put_ne, get_bump, put_put, -List.all_eq_true]
  refine ⟨by simp [toBytes, ByteArray.size, g3], fun a ha => by simp (disch := first | omega | (simp only [next_put, next_bump]; omega)) only [get_put_ne, get_bump]⟩

def Out.tks : Out → List Tk
  | .ok ts => ts
  | .err _ _ _ => []
def Out.e : Out → Int
  | .ok _ => 0
  | .err e _ _ => e
def Out.l : Out → Int
  | .ok _ => 0
  | .err _ l _ => l
def Out.c : Out → Int
  | .ok _ => 0
  | .err _ _ c => c
theorem ScanPost.uni {m m' : Mem} {o : Out} {r : Value} (h : ScanPost m o r m') : m.next ≤ m'.next ∧ (∀ a, a < m.next → m'.get a = m.get a) ∧ ∃ v, r = .tuple #[v, .int .i64 o.e, .agg #[.int .i64 o.l, .int .i64 o.c]] ∧ TokSl m' (fun a => m.next ≤ a) v o.tks := by
  obtain ⟨h1, h2, h3⟩ := h
  refine ⟨h1, h2, ?_⟩
  cases o with
  | ok ts => exact h3
  | err e l c => exact ⟨_, h3, .inl ⟨rfl, rfl⟩⟩
theorem tks_len {X : ByteArray} {o : Out} (h : Scans X o) : o.tks.length ≤ X.size + 1 := by
  cases o with
  | ok ts => exact scans_len h
  | err e l c => simp [Out.tks]
theorem scan_go {X : ByteArray} {m : Mem} {Φ : Value → Mem → Prop} (hX : X.size < 10000000) (h : ∀ o v m', Scans X o → m.next ≤ m'.next → (∀ a, a < m.next → m'.get a = m.get a) → TokSl m' (fun a => m.next ≤ a) v o.tks → Φ (.tuple #[v, .int .i64 o.e, .agg #[.int .i64 o.l, .int .i64 o.c]]) m') : WPCall Try.prog 9 [.string X] m Φ := by
  obtain ⟨o, ho⟩ := scans_total (T := X)
  refine (scan_wp hX ho m).mono fun r m' hp => ?_
  obtain ⟨h1, h2, v, rfl, h3⟩ := hp.uni
  exact h o v m' ho h1 h2 h3
theorem rscan_go {X : ByteArray} {o : Out} {m : Mem} {Φ : Value → Mem → Prop} (ho : Scans X o) (hX : X.size < 10000000) (h : ∀ v m', m.next ≤ m'.next → (∀ a, a < m.next → m'.get a = m.get a) → TokSl m' (fun a => m.next ≤ a) v o.tks → Φ (.tuple #[v, .int .i64 o.e, .agg #[.int .i64 o.l, .int .i64 o.c]]) m') : WPCall Try.prog 10 [.string X] m Φ := by
  refine (rscan_wp hX ho m).mono fun r m' hp => ?_
  obtain ⟨h1, h2, v, rfl, h3⟩ := hp.uni
  exact h v m' h1 h2 h3

/-- both scans of one text agree, and the comparison says so -/
theorem limits_wp (n mm bl : Nat) (hn : n < 256) (hm : mm < 256) (hb : bl < 256) (odd : Bool) (m : Mem) : WPCall Try.prog 6 [.int .u8 n, .int .u8 mm, .int .u8 bl, .bool odd] m fun r _ => r = .bool true := by
  rw [call6 (by simp)]
  have e1 : (n : Int).tmod 5 = ((n % 5 : Nat) : Int) := by rw [Int.tmod_eq_emod_of_nonneg (by omega)]; omega
  have e2 : (mm : Int).tmod 5 = ((mm % 5 : Nat) : Int) := by rw [Int.tmod_eq_emod_of_nonneg (by omega)]; omega
  have w1 : IntKind.i64.wrap (n : Int) = n := i64_id (by omega) (by omega)
  have w2 : IntKind.i64.wrap (mm : Int) = mm := i64_id (by omega) (by omega)
  have w3 : IntKind.i64.wrap (bl : Int) = bl := i64_id (by omega) (by omega)
  have w4 : IntKind.i64.wrap (14 + ((n % 5 : Nat) : Int)) = ((14 + n % 5 : Nat) : Int) := by rw [i64_id (by omega) (by omega)]; omega
  have w5 : IntKind.i64.wrap (38 + ((mm % 5 : Nat) : Int)) = ((38 + mm % 5 : Nat) : Int) := by rw [i64_id (by omega) (by omega)]; omega
  simp only [ir6_b]
  simp [w1, w2, w3, e1, e2, w4, w5]
  refine (lrow_wp (by omega) _ _).mono fun r1 m1 hp => ?_
  obtain ⟨s1, rfl, z1, k1, l1⟩ := hp
  simp [w1, w2, w3, e1, e2, w4, w5, -Int.natCast_add, -Int.natCast_emod]
  refine (lrow_wp (by omega) _ _).mono fun r2 m2 hp => ?_
  obtain ⟨s2, rfl, z2, k2, l2⟩ := hp
  have y1 : s1.size + s2.size ≤ 9223372036854775807 := by omega
  have y2 : s1.size + s2.size + 1 ≤ 9223372036854775807 := by omega
  have c1 : (⟨#[10]⟩ : ByteArray).size = 1 := rfl
  have c2 : (⟨#[33]⟩ : ByteArray).size = 1 := rfl
  simp [w1, w2, w3, e1, e2, w4, w5, y1, y2, c1, -Int.natCast_add, -Int.natCast_emod]
  refine (lrow_wp (by omega) _ _).mono fun r3 m3 hp => ?_
  obtain ⟨s3, rfl, z3, k3, l3⟩ := hp
  have y3 : s1.size + s2.size + 1 + s3.size ≤ 9223372036854775807 := by omega
  have y4 : s1.size + s2.size + 1 + s3.size + 1 ≤ 9223372036854775807 := by omega
  cases odd <;> simp [c1, c2, y3, y4]
  all_goals
    refine scan_go (by simp [c1, c2]; omega) fun o v m4 ho k4 l4 hv => ?_
    simp only [next_bump] at k4 l4 hv
    simp (disch := first | omega | (simp only [next_put, next_bump]; omega)) [get_put_self, get_put_ne, get_bump, put_put]
    refine rscan_go ho (by simp [c1, c2]; omega) fun w m5 k5 l5 hw => ?_
    simp only [next_put, next_bump] at k5 l5 hw
    simp (disch := first | omega | (simp only [next_put, next_bump]; omega)) [get_put_self, get_put_ne, get_bump, put_put, w1, w2, w3, e1, e2]
    refine (lrow_wp (by omega) _ _).mono fun r m6 hp => ?_
    obtain ⟨s6, rfl, z6, k6, l6⟩ := hp
    simp only [next_put, next_bump] at k6 l6
    have w6 : IntKind.i64.wrap (7998 - (mm : Int)) = 7998 - (mm : Int) := i64_id (by omega) (by omega)
    have w7 : IntKind.i64.wrap (7998 - (mm : Int) + ((n % 5 : Nat) : Int)) = ((7998 - mm + n % 5 : Nat) : Int) := by rw [i64_id (by omega) (by omega)]; omega
    simp (disch := first | omega | (simp only [next_put, next_bump]; omega)) [get_put_self, get_put_ne, get_bump, put_put, w1, w2, w3, e1, e2, w6, w7, -Int.natCast_add, -Int.natCast_emod]
    refine (lrow_wp (by omega) _ _).mono fun r m7 hp => ?_
    obtain ⟨s7, rfl, z7, k7, l7⟩ := hp
    have y6 : s6.size + s7.size ≤ 9223372036854775807 := by omega
    simp (disch := first | omega | (simp only [next_put, next_bump]; omega)) [get_put_self, get_put_ne, get_bump, put_put, y6]
    refine scan_go (by simp; omega) fun o' v' m8 ho' k8 l8 hv' => ?_
    simp only [next_put, next_bump] at k8 l8 hv'
    simp (disch := first | omega | (simp only [next_put, next_bump]; omega)) [get_put_self, get_put_ne, get_bump, put_put]
    refine rscan_go ho' (by simp; omega) fun w' m9 k9 l9 hw' => ?_
    simp only [next_put, next_bump] at k9 l9 hw'
    have b5 : ∀ a z, a < m5.next → a ≠ m4.next + 6 → m5.get a = some z → (m9.put (m8.next + 6) (some ⟨[.int .i64 o'.l, .int .i64 o'.c], true⟩)).get a = some z := fun a z ha hne h => by
      rw [get_put_ne (by omega), l9 a (by omega)]; simp (disch := first | omega | (simp only [next_put, next_bump]; omega)) only [get_put_ne, get_bump]
      rw [l8 a (by omega)]; simp (disch := first | omega | (simp only [next_put, next_bump]; omega)) only [get_put_ne, get_bump]
      rw [l7 a (by omega), l6 a (by omega)]; simp (disch := first | omega | (simp only [next_put, next_bump]; omega)) only [get_put_ne, get_bump, h]
    have hA : m9.get (m3.next + 6) = some ⟨[.int .i64 o.l, .int .i64 o.c], true⟩ := by
      have := b5 (m3.next + 6) ⟨[.int .i64 o.l, .int .i64 o.c], true⟩ (by omega) (by omega) (by rw [l5 _ (by omega)]; simp (disch := first | omega | (simp only [next_put, next_bump]; omega)) only [get_put_self, get_bump])
      rw [get_put_ne (by omega)] at this; exact this
    have hB : m9.get (m4.next + 6) = some ⟨[.int .i64 o.l, .int .i64 o.c], true⟩ := by
      rw [l9 _ (by omega)]; simp (disch := first | omega | (simp only [next_put, next_bump]; omega)) only [get_put_ne, get_bump]
      rw [l8 _ (by omega)]; simp (disch := first | omega | (simp only [next_put, next_bump]; omega)) only [get_put_ne, get_bump]
      rw [l7 _ (by omega), l6 _ (by omega)]; simp (disch := first | omega | (simp only [next_put, next_bump]; omega)) only [get_put_self]
    have hC : m9.get (m7.next + 6) = some ⟨[.int .i64 o'.l, .int .i64 o'.c], true⟩ := by
      rw [l9 _ (by omega)]; simp (disch := first | omega | (simp only [next_put, next_bump]; omega)) only [get_put_self, get_bump]
    have hv2 : TokSl (m9.put (m8.next + 6) (some ⟨[.int .i64 o'.l, .int .i64 o'.c], true⟩)) (fun _ => True) v o.tks := hv.mono fun a z ha hz => by
      have := get_lt hz
      refine ⟨trivial, b5 a z (by omega) (by omega) ?_⟩
      rw [l5 a (by omega)]; simp (disch := first | omega | (simp only [next_put, next_bump]; omega)) only [get_put_ne, get_bump, hz]
    have hw2 : TokSl (m9.put (m8.next + 6) (some ⟨[.int .i64 o'.l, .int .i64 o'.c], true⟩)) (fun _ => True) w o.tks := hw.mono fun a z ha hz => by
      have := get_lt hz
      exact ⟨trivial, b5 a z (by omega) (by omega) hz⟩
    have hv3 : TokSl (m9.put (m8.next + 6) (some ⟨[.int .i64 o'.l, .int .i64 o'.c], true⟩)) (fun _ => True) v' o'.tks := hv'.mono fun a z ha hz => by
      have := get_lt hz
      refine ⟨trivial, ?_⟩
      rw [get_put_ne (by omega), l9 a (by omega)]; simp (disch := first | omega | (simp only [next_put, next_bump]; omega)) only [get_put_ne, get_bump, hz]
    have hw3 : TokSl (m9.put (m8.next + 6) (some ⟨[.int .i64 o'.l, .int .i64 o'.c], true⟩)) (fun _ => True) w' o'.tks := hw'.mono fun a z ha hz => by
      have := get_lt hz
      exact ⟨trivial, by rw [get_put_ne (by omega), hz]⟩
    have t1 := tks_len ho
    have t2 := tks_len ho'
    simp [c1, c2] at t1 t2
    have q1 : ∀ Φ, WPCall Try.prog 11 [v, w] (m9.put (m8.next + 6) (some ⟨[.int .i64 o'.l, .int .i64 o'.c], true⟩)) Φ = Φ (.bool true) _ := fun Φ => (same_ret hv2 hw2 (by omega)).wp
    have q2 : ∀ Φ, WPCall Try.prog 11 [v', w'] (m9.put (m8.next + 6) (some ⟨[.int .i64 o'.l, .int .i64 o'.c], true⟩)) Φ = Φ (.bool true) _ := fun Φ => (same_ret hv3 hw3 (by omega)).wp
    simp (disch := first | omega | (simp only [next_put, next_bump]; omega)) [get_put_self, get_put_ne, get_bump, put_put, hA, hB, hC, q1, q2]
    refine (awake_wp _).mono fun r m' hp => ?_
    obtain ⟨rfl, _, _⟩ := hp
    simp
end Go.Proofs.Ytaoijkldbipplaa
