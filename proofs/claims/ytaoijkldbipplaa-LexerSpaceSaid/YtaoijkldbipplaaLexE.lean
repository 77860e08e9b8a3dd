/-
  The reference's place and scan; the comparison.
-/
import Derived.Test.YtaoijkldbipplaaLexD
namespace Go.Proofs.Ytaoijkldbipplaa
open Go Go.DI
set_option linter.unusedSimpArgs false
set_option linter.unusedVariables false

theorem place_loop {T : ByteArray} (hT : T.size < 10000000) (h8 : 8000 < T.size) {b : Nat} {Q : IExit → Slots → Mem → Prop} : ∀ (k i : Nat) (l c : Int) (m : Mem) (σ : Slots), i + k = 8000 → m.get b = some ⟨[.int .i64 l, .int .i64 c], true⟩ → 1 ≤ l ∧ l ≤ i + 1 → 1 ≤ c ∧ c ≤ i + 1 → σ 0 = .string T → σ 1 = .int .i64 8000 → σ 5 = ptr b → σ 6 = .int .i64 i →
    (∀ σ' m', σ' 5 = ptr b → σ' 4 = σ 4 → m' = m.put b (some ⟨[.int .i64 (posN T k i l c).1, .int .i64 (posN T k i l c).2], true⟩) → Q (.exit 0) σ' m') → WP Try.prog (.loop ir18_l0) σ m Q
  | 0, i, l, c, m, σ, hk, h, hl, hc, h0, h1, h5, h6, hQ => by
    refine wp_round fun J hJ => ?_
    have : ¬ (i : Int) < 8000 := by omega
    simp [ir18_l0, h0, h1, h5, h6, h, this]
    exact hQ _ _ (by simp [h5]) (by simp) (by simp [posN, put_same h])
  | k + 1, i, l, c, m, σ, hk, h, hl, hc, h0, h1, h5, h6, hQ => by
    refine wp_round fun J hJ => ?_
    have hlt := get_lt h
    have t1 : (i : Int) < 8000 := by omega
    have t2 : (i : Int) < T.size := by omega
    have w1 : IntKind.i64.wrap (c + 1) = c + 1 := i64_id (by omega) (by omega)
    have w2 : IntKind.i64.wrap (l + 1) = l + 1 := i64_id (by omega) (by omega)
    have w3 : IntKind.i64.wrap ((i : Int) + 1) = (i : Int) + 1 := i64_id (by omega) (by omega)
    by_cases hb : byI T i = 10
    · simp (disch := first | omega | (simp only [next_put, next_bump]; omega)) [ir18_l0, h0, h1, h5, h6, h, t1, t2, w1, w2, w3, hb, get_put_self, put_put]
      refine hJ _ _ (place_loop hT h8 k (i + 1) (l + 1) 1 _ _ (by omega) (get_put_self hlt) (by omega) (by omega) (by simp [h0]) (by simp [h1]) (by simp [h5]) (by simp) fun σ' m' g1 g2 g3 => hQ _ _ g1 (by rw [g2]; simp) (by rw [g3, put_put]; simp [posN, hb]))
    · simp (disch := first | omega | (simp only [next_put, next_bump]; omega)) [ir18_l0, h0, h1, h5, h6, h, t1, t2, w1, w2, w3, hb, get_put_self, put_put]
      refine hJ _ _ (place_loop hT h8 k (i + 1) l (c + 1) _ _ (by omega) (get_put_self hlt) (by omega) (by omega) (by simp [h0]) (by simp [h1]) (by simp [h5]) (by simp) fun σ' m' g1 g2 g3 => hQ _ _ g1 (by rw [g2]; simp) (by rw [g3, put_put]; simp [posN, hb]))

theorem place_wp {T : ByteArray} (hT : T.size < 10000000) (h8 : 8000 < T.size) (m : Mem) : WPCall Try.prog 18 [.string T, .int .i64 8000] m fun r m' => m.next ≤ m'.next ∧ (∀ a, a < m.next → m'.get a = m.get a) ∧ r = .agg #[.int .i64 (posN T 8000 0 1 1).1, .int .i64 (posN T 8000 0 1 1).2] := by
  rw [call18 (by simp)]
  simp (disch := first | omega | (simp only [next_put, next_bump]; omega)) [ir18_b, get_put_self, get_put_ne, get_bump, put_put]
  refine place_loop (b := m.next + 1 + 1) hT h8 8000 0 1 1 _ _ rfl ?_ (by omega) (by omega) (by simp) (by simp) (by simp) (by simp) fun σ' m' g1 g2 g3 => ?_
  · simp (disch := first | omega | (simp only [next_put, next_bump]; omega)) [get_put_self]
  subst g3
  simp at g2
  simp (disch := first | omega | (simp only [next_put, next_bump]; omega)) [g1, g2, get_put_self, get_put_ne, get_bump, put_put]
  refine ⟨by omega, fun a ha => by simp (disch := first | omega | (simp only [next_put, next_bump]; omega)) only [get_put_ne, get_bump]⟩

theorem rscan_wp {T : ByteArray} (hT : T.size < 10000000) {o : Out} (hS : Scans T o) (m : Mem) : WPCall Try.prog 10 [.string T] m (ScanPost m o) := by
  rw [call10 (by simp)]
  unfold Scans at hS
  by_cases h8 : 8000 < T.size
  · rw [if_pos h8] at hS
    subst hS
    have h8' : (8000 : Int) < T.size := by omega
    simp (disch := first | omega | (simp only [next_put, next_bump]; omega)) [ir10_b, h8', get_put_self, get_put_ne, get_bump, put_put]
    refine (place_wp hT h8 _).mono fun r m2 hp => ?_
    obtain ⟨k1, k2, rfl⟩ := hp
    simp only [next_put, next_bump] at k1 k2
    have h4 : m2.get (m.next + 2) = some ⟨[.int .i64 0, .int .i64 0], true⟩ := by
      rw [k2 _ (by omega)]; simp (disch := first | omega | (simp only [next_put, next_bump]; omega)) [get_put_self]
    simp (disch := first | omega | (simp only [next_put, next_bump]; omega)) [h4, get_put_self, get_put_ne, get_bump, put_put]
    refine ⟨by simp only [next_put, next_bump]; omega, fun a ha => ?_, rfl⟩
    simp (disch := first | omega | (simp only [next_put, next_bump]; omega)) only [get_put_ne, get_bump]
    rw [k2 a (by omega)]; simp (disch := first | omega | (simp only [next_put, next_bump]; omega)) only [get_put_ne, get_bump]
  · rw [if_neg h8] at hS
    have h8' : ¬ (8000 : Int) < T.size := by omega
    simp (disch := first | omega | (simp only [next_put, next_bump]; omega)) [ir10_b, h8', get_put_self, get_put_ne, get_bump, put_put]
    refine ref_loop (m0 := m) (b4 := m.next + 2) hT (by omega) hS [] _ _ (.int .i64 0) (.int .i64 0) (by omega) ?_ (by omega) (by omega) (by simp) (by simp) (by simp) (.inl ⟨rfl, by simp⟩) (by simp) (by simp) (by simp) (by simp only [next_put, next_bump]; omega) fun e σ' m' g2 g3 g4 => ?_
    · simp (disch := first | omega | (simp only [next_put, next_bump]; omega)) [get_put_self, get_put_ne, get_bump]
    have hold : ∀ a, a < m.next → m'.get a = m.get a := fun a ha => by
      rw [g4 a ha]; simp (disch := first | omega | (simp only [next_put, next_bump]; omega)) only [get_put_ne, get_bump]
    simp only [next_put, next_bump] at g3
    cases o with
    | ok ts =>
      obtain ⟨rfl, f0, f4, acc, l, c, rfl, f5, f6, f7, fl, fc, fn, x, y, fb⟩ := g2
      have hlb := get_lt fb
      have w1 : IntKind.i64.wrap ((T.size : Int) - ((T.size : Int) + 1 - c)) = c - 1 := by rw [i64_id (by omega) (by omega)]; omega
      have w2 : IntKind.i64.wrap (c - 1 + 1) = c := by rw [i64_id (by omega) (by omega)]; omega
      have w3 : IntKind.i64.wrap c = c := i64_id (by omega) (by omega)
      rcases f5 with ⟨rfl, f5⟩ | ⟨a, ⟨ha, hab⟩, f5, fg⟩
      · simp (disch := first | omega | (simp only [next_put, next_bump]; omega)) [f0, f4, f5, f6, f7, w1, w2, w3, fb, get_put_self, get_put_ne, get_bump, put_put]
        refine ⟨by simp only [next_put, next_bump]; omega, fun a ha => ?_, _, rfl, .inr ⟨m'.next + 10, by omega, by simp, ?_⟩⟩
        · simp (disch := first | omega | (simp only [next_put, next_bump]; omega)) only [get_put_ne, get_bump]; exact hold a ha
        · simp (disch := first | omega | (simp only [next_put, next_bump]; omega)) [get_put_self, get_put_ne, cells4_append]; simp [cells4, tokCells]; rfl
      · have hla := get_lt fg
        simp (disch := first | omega | (simp only [next_put, next_bump]; omega)) [f0, f4, f5, f6, f7, w1, w2, w3, fb, fg, get_put_self, get_put_ne, get_bump, put_put]
        refine ⟨⟨by omega, by omega⟩, by simp only [next_put, next_bump]; omega, fun a ha => ?_, _, rfl, .inr ⟨m'.next + 10, by omega, by simp, ?_⟩⟩
        · simp (disch := first | omega | (simp only [next_put, next_bump]; omega)) only [get_put_ne, get_bump]; exact hold a ha
        · simp (disch := first | omega | (simp only [next_put, next_bump]; omega)) [get_put_self, get_put_ne, cells4_append]; simp [cells4, tokCells]; rfl
    | err e l c =>
      obtain ⟨rfl, f4, f2, f3, fb⟩ := g2
      simp [f4, f2, f3, fb]
      exact ⟨by omega, hold, rfl⟩

theorem scans_total {T : ByteArray} : ∃ o, Scans T o := by
  unfold Scans
  by_cases h8 : 8000 < T.size
  · exact ⟨_, by rw [if_pos h8]⟩
  · obtain ⟨o, ho⟩ := lex_total (T := T) (T.size - 0) 0 1 1 (Nat.le_refl _) (Nat.zero_le _)
    exact ⟨o, by rw [if_neg h8]; exact ho⟩

end Go.Proofs.Ytaoijkldbipplaa
