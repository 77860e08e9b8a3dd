/-
  'LexerPlaces': the outer loop, and the law.
-/
import Derived.Test.YtaoijkldbipplaaLexJ
namespace Go.Proofs.Ytaoijkldbipplaa
open Go Go.DI
set_option linter.unusedSimpArgs false
set_option linter.unusedVariables false

theorem lex_ne {T : ByteArray} {i : Nat} {l c : Int} {o : Out} (hL : Lex T i l c o) : o ≠ .ok [] := by
  induction hL with
  | done h => intro h; cases h
  | nl h0 h1 hL ih => exact ih
  | sp h0 h1 h2 hL ih => exact ih
  | com h0 h1 hk hL ih => exact ih
  | name h0 h1 hk hk2 hL ih => intro h; obtain ⟨us, rfl, e⟩ := pre_ok h; cases e
  | nameX => intro h; cases h
  | num h0 h1 hk hk2 hL ih => intro h; obtain ⟨us, rfl, e⟩ := pre_ok h; cases e
  | numX => intro h; cases h
  | sign h0 h1 hL ih => intro h; obtain ⟨us, rfl, e⟩ := pre_ok h; cases e
  | bad => intro h; cases h

theorem lex_head {T : ByteArray} {j : Nat} {l c : Int} {t : Tk} {rest : List Tk} (hL : Lex T j l c (.ok (t :: rest))) (hnb : NonBlank T j) :
    (j = T.size ∧ t.kind = 4 ∧ t.text = .empty ∧ rest = []) ∨ (∃ k, 0 < k ∧ j + k ≤ T.size ∧ t.kind ≠ 4 ∧ t.text = T.extract j (j + k) ∧ rest ≠ [] ∧ Lex T (j + k) l (c + k) (.ok rest)) := by
  generalize ho : Out.ok (t :: rest) = o at hL
  cases hL with
  | done h => cases ho; exact .inl ⟨h, rfl, rfl, rfl⟩
  | nl h0 h1 hL => exfalso; rcases hnb with h | ⟨h, h2, h3⟩; omega; rw [h1] at h2; cases h2
  | sp h0 h1 h2 hL => exfalso; rcases hnb with h | ⟨h, h3, h4⟩; omega; rw [h2] at h3; cases h3
  | com h0 h1 hk hL => exfalso; rcases hnb with h | ⟨h, h3, h4⟩; omega; exact h4 h1
  | @name _ _ _ o k h0 h1 hk hk2 hL =>
    right
    obtain ⟨us, rfl, e⟩ := pre_ok ho.symm
    cases e
    have p1 := rw1_pos h0 (letter_inner h1)
    have p2 := @rw1_le isInner T j
    rw [← hk] at p1 p2
    exact ⟨k, p1, by omega, by simp, rfl, fun h => lex_ne hL (congrArg Out.ok h), hL⟩
  | nameX => cases ho
  | @num _ _ _ o k h0 h1 hk hk2 hL =>
    right
    obtain ⟨us, rfl, e⟩ := pre_ok ho.symm
    cases e
    have p1 := rw1_pos h0 h1
    have p2 := @rw1_le isDigit T j
    rw [← hk] at p1 p2
    exact ⟨k, p1, by omega, by simp, rfl, fun h => lex_ne hL (congrArg Out.ok h), hL⟩
  | numX => cases ho
  | @sign _ _ _ o h0 h1 hL =>
    right
    obtain ⟨us, rfl, e⟩ := pre_ok ho.symm
    cases e
    exact ⟨1, by omega, by omega, by simp, rfl, fun h => lex_ne hL (congrArg Out.ok h), hL⟩
  | bad => cases ho

set_option maxRecDepth 20000 in
set_option maxHeartbeats 2000000 in
theorem pl_outer {T : ByteArray} (hT : T.size < 10000000) {a : Nat} {ts : List Tk} {m : Mem} (hg : m.get a = some ⟨cells4 ts, true⟩) (hlen : ts.length < 10000000) {Q : IExit → Slots → Mem → Prop} : ∀ (r i j : Nat) (l c : Int) (cm : Bool) (σ : Slots), i + r = ts.length → j ≤ T.size → 1 ≤ l ∧ l ≤ j + 1 → 1 ≤ c ∧ c ≤ j + 1 → (cm = true → r = 0) → ((r = 0 ∧ j = T.size) ∨ Lex T j l c (.ok (ts.drop i))) → Pl T a i ts.length j l c cm σ →
    (∀ σ', σ' 8 = .int .i64 T.size → σ' 0 = .string T → Q (.exit 0) σ' m) → WP Try.prog (.loop ir4_l1) σ m Q
  | 0, i, j, l, c, cm, σ, hi, hj, hl, hc, hcm, hL, hP, hQ => by
    refine wp_round fun J hJ => ?_
    have hj : j = T.size := by
      rcases hL with ⟨_, h⟩ | h
      · exact h
      · exfalso; rw [List.drop_of_length_le (by omega)] at h; exact lex_ne h rfl
    obtain ⟨s0, s3, s6, s7, s8, s9, s10⟩ := hP
    have : ¬ (i : Int) < ts.length := by omega
    have h2 : ¬ i < ts.length := by omega
    simp [ir4_l1, s0, s3, s6, s7, s8, s9, s10, this, h2]
    exact hQ _ (by simp [s8, hj]) (by simp [s0])
  | r + 1, i, j, l, c, cm, σ, hi, hj, hl, hc, hcm, hL, hP, hQ => by
    have hcm : cm = false := by cases cm; rfl; exact absurd (hcm rfl) (by omega)
    subst hcm
    have hi2 : i < ts.length := by omega
    obtain ⟨t, ht⟩ : ∃ t, ts[i]? = some t := ⟨ts[i]'hi2, by simp⟩
    have hdrop : ts.drop i = t :: ts.drop (i + 1) := by
      rw [List.drop_eq_getElem_cons hi2]; rw [List.getElem?_eq_getElem hi2] at ht; cases ht; rfl
    have hL : Lex T j l c (.ok (t :: ts.drop (i + 1))) := by
      rcases hL with ⟨h, _⟩ | h
      · omega
      · rw [← hdrop]; exact h
    refine wp_round fun J hJ => ?_
    have hP' := hP
    obtain ⟨s0, s3, s6, s7, s8, s9, s10⟩ := hP'
    have hi' : (i : Int) < ts.length := by omega
    simp [ir4_l1, s0, s3, s6, s7, s8, s9, s10, hi', hi2]
    refine pl_loop hT ht hg hL (ts.drop (i + 1)) false _ rfl hj (fun h => by cases h) hl hc ⟨by simp [s0], by simp [s3], by simp [s6], by simp [s7], by simp [s8], by simp [s9], by simp [s10]⟩ fun σ' j' cm' hP' hl' hc' hnb hj' hcm' hL' => ?_
    obtain ⟨s0, s3, s6, s7, s8, s9, s10⟩ := hP'
    have c0 := cells4_get ht (j := 0) (by omega)
    have c1 := cells4_get ht (j := 1) (by omega)
    have c2 := cells4_get ht (j := 2) (by omega)
    have c3 := cells4_get ht (j := 3) (by omega)
    simp only [tokCells, Nat.add_zero] at c0 c1 c2 c3
    have c0' : ∀ h : i * 4 < (cells4 ts).length, (cells4 ts)[i * 4]'h = .int .i64 t.kind := fun h => by
      have := c0; rw [List.getElem?_eq_getElem h] at this; simpa using this
    simp at c1 c2 c3
    have hb : i * 4 + 4 ≤ ts.length * 4 := by omega
    have hb1 : i * 4 + 3 ≤ ts.length * 4 := by omega
    have hb2 : i * 4 + 2 ≤ ts.length * 4 := by omega
    have hb3 : i * 4 + 1 ≤ ts.length * 4 := by omega
    have w0 : IntKind.i64.wrap ((i : Int) + 1) = (i : Int) + 1 := i64_id (by omega) (by omega)
    rcases lex_head hL' hnb with ⟨e1, e2, e3, e4⟩ | ⟨k, e1, e2, e3, e4, e5, e6⟩
    · have hlast : i + 1 = ts.length := by
        have := congrArg List.length e4; simp at this; omega
      have hlast' : (i : Int) + 1 = ts.length := by omega
      have hn : ¬ (i : Int) + 1 < ts.length := by omega
      have w1 : IntKind.i64.wrap ((j' : Int)) = (j' : Int) := i64_id (by omega) (by omega)
      have w2 : IntKind.i64.wrap t.col = t.col := i64_id (by omega) (by omega)
      have x1 : ByteArray.empty = t.text := e3.symm
      have x2 : t.text.size = 0 := by rw [e3]; rfl
      have w3 : IntKind.i64.wrap (ts.length : Int) = ts.length := i64_id (by omega) (by omega)
      have x3 : ¬ T.size < j' := by omega
      have x4 : ¬ (T.size : Int) < j' := by omega
      have x5 : (j' : Int) ≤ T.size := by omega
      cases cm'
      · simp [s0, s3, s6, s7, s8, s9, s10, hg, hi', hi2, hb, hb1, hb2, hb3, c0', c1, c2, c3, head_td, e2, w0, w1, w2, hlast, hlast', hn, hj', x1, x2, x3, x4, x5, w3]
        refine hJ _ _ (pl_outer hT hg hlen r (i + 1) j' t.line t.col false _ (by omega) hj' hl' hc' (fun _ => by omega) (.inl ⟨by omega, e1⟩) ⟨by simp [s0], by simp [s3], by simp [s6], by simp [s7, x2], by simp [x2], by simp [s9], by simp [s10, hlast']⟩ hQ)
      · simp [s0, s3, s6, s7, s8, s9, s10, hg, hi', hi2, hb, hb1, hb2, hb3, c0', c1, c2, c3, head_td, e2, w0, w1, w2, hlast, hlast', hn, hj', x1, x2, x3, x4, x5, w3]
        refine hJ _ _ (pl_outer hT hg hlen r (i + 1) j' t.line t.col true _ (by omega) hj' hl' hc' (fun _ => by omega) (.inl ⟨by omega, e1⟩) ⟨by simp [s0], by simp [s3], by simp [s6], by simp [s7, x2], by simp [x2], by simp [s9], by simp [s10, hlast']⟩ hQ)
    · have hmore : ¬ i + 1 = ts.length := by
        intro h; apply e5; exact List.drop_of_length_le (by omega)
      have hmore' : ¬ (i : Int) + 1 = ts.length := by omega
      have hcf : cm' = false := by cases cm'; rfl; exact absurd (hcm' rfl) (by omega)
      subst hcf
      have w1 : IntKind.i64.wrap ((j' : Int) + k) = (j' : Int) + k := i64_id (by omega) (by omega)
      have w2 : IntKind.i64.wrap (t.col + k) = t.col + k := i64_id (by omega) (by omega)
      have x1 : t.text.size = k := by rw [e4, ByteArray.size_extract]; omega
      have x9 : T.extract j' (j' + k) = t.text := e4.symm
      have x2 : ¬ (T.size : Int) < (j' : Int) + k := by omega
      have x3 : (j' : Int) ≤ j' + k := by omega
      have x4 : (j' : Int) + k ≤ T.size := by omega
      have x5 : ((j' : Int) + k).toNat = j' + k := by omega
      have x6 : ¬ (k : Int) = 0 := by omega
      have x7 : ¬ k = 0 := by omega
      have x8 : ¬ T.size < j' + k := by omega
      simp [s0, s3, s6, s7, s8, s9, s10, hg, hi', hi2, hb, hb1, hb2, hb3, c0', c1, c2, c3, head_td, e3, w0, w1, w2, hmore, hmore', hj', x1, x2, x3, x4, x5, x6, x7, x8, x9]
      refine hJ _ _ (pl_outer hT hg hlen r (i + 1) (j' + k) t.line (t.col + k) false _ (by omega) e2 (by omega) (by omega) (fun h => by cases h) (.inr e6) ⟨by simp [s0], by simp [s3], by simp [s6], by simp [s7], by simp [s8], by simp [s9], by simp [s10]⟩ hQ)

theorem places_wp (T : ByteArray) (m : Mem) : WPCall Try.prog 4 [.string T] m fun r _ => r = .bool true := by
  rw [call4 (by simp)]
  by_cases h9 : 2000 < T.size
  · have h9' : (2000 : Int) < T.size := by omega
    simp [ir4_b, h9']
    refine (awake_wp _).mono fun r m' hp => ?_
    obtain ⟨rfl, _, _⟩ := hp
    simp
  · have h9' : ¬ (2000 : Int) < T.size := by omega
    simp [ir4_b, h9']
    refine scan_go (by omega) fun o v m1 ho k1 l1 hv => ?_
    simp only [next_put, next_bump] at k1 l1
    simp (disch := first | omega | (simp only [next_put, next_bump]; omega)) [get_put_self, get_put_ne, get_bump, put_put]
    have ho' := ho
    unfold Scans at ho'
    rw [if_neg (by omega)] at ho'
    cases o with
    | err e l c =>
      have he : e ≠ 0 := by
        intro h0
        have : ∀ {i l c o}, Lex T i l c o → ∀ e' l' c', o = .err e' l' c' → e' ≠ 0 := by
          intro i l c o hL
          induction hL with
          | done h => intro e' l' c' h; cases h
          | nl h0 h1 hL ih => exact ih
          | sp h0 h1 h2 hL ih => exact ih
          | com h0 h1 hk hL ih => exact ih
          | @name _ _ _ o _ h0 h1 hk hk2 hL ih => intro e' l' c' h; cases o with
            | ok us => cases h
            | err a b c => exact ih _ _ _ h
          | nameX => intro e' l' c' h; cases h; decide
          | @num _ _ _ o _ h0 h1 hk hk2 hL ih => intro e' l' c' h; cases o with
            | ok us => cases h
            | err a b c => exact ih _ _ _ h
          | numX => intro e' l' c' h; cases h; decide
          | @sign _ _ _ o h0 h1 hL ih => intro e' l' c' h; cases o with
            | ok us => cases h
            | err a b c => exact ih _ _ _ h
          | bad => intro e' l' c' h; cases h; decide
        exact this ho' _ _ _ rfl h0
      rcases hv with ⟨_, rfl⟩ | ⟨a, _, rfl, hga⟩
      · simp [Out.e, he]
        refine (awake_wp _).mono fun r m' hp => ?_
        obtain ⟨rfl, _, _⟩ := hp
        simp
      · simp [Out.e, Out.tks, he]
        refine (awake_wp _).mono fun r m' hp => ?_
        obtain ⟨rfl, _, _⟩ := hp
        simp
    | ok ts =>
      have hlen := scans_len ho
      rcases hv with ⟨h0, rfl⟩ | ⟨a, ha, rfl, hga⟩
      · exact absurd (by rw [← h0]; rfl) (lex_ne ho')
      have hla := get_lt hga
      simp [Out.tks, Out.e] at hga ha ⊢
      refine pl_outer (T := T) (by omega) (a := a) (ts := ts) (by simp (disch := first | omega | (simp only [next_put, next_bump]; omega)) only [get_put_ne, get_bump, hga]) (by omega) ts.length 0 0 1 1 false _ (by omega) (by omega) (by omega) (by omega) (fun h => by cases h) (.inr (by simpa using ho')) ⟨by simp, by simp, by simp, by simp, by simp, by simp, by simp⟩ fun σ' q8 q0 => ?_
      simp [q8, q0]
      refine (awake_wp _).mono fun r m' hp => ?_
      obtain ⟨rfl, _, _⟩ := hp
      simp
end Go.Proofs.Ytaoijkldbipplaa
