/-
  What keeps the statements awake; 'heavy', 'solved'.
-/
import Derived.Test.YtapnkfkpkcajjaaMfL
namespace Go.Proofs.Ytapnkfkpkcajjaa
open Go Go.DI Go.Nets
set_option linter.unusedSimpArgs false
set_option linter.unusedVariables false

theorem checkR_of {n : Net} {fl : List Int} {cut : List Bool} {V : Int} (h1 : valueR n fl = (V, true)) (h2 : capR n cut = (V, true)) : checkR n fl cut = true := by
  simp [checkR, h1, h2]
def nA : Net := ⟨3, 0, 2, [⟨0, 1, 2, 0⟩, ⟨1, 2, 3, 0⟩]⟩
def n0 : Net := ⟨0, 0, 0, []⟩
theorem nA_valid : nA.Valid := validB_iff.1 (by decide)
theorem n0_not : validB n0 = false := by decide
theorem nA_value {fl : List Int} {cut : List Bool} (hf : IsFlow nA fl) (hc : capR nA cut = (value nA fl, true)) : value nA fl = 2 := by
  have hl : fl.length = 2 := hf.bnd.1
  match fl, hl with
  | [x, y], _ =>
    have h1 := hf.con 1 ⟨by decide, by decide⟩ (by decide) (by decide)
    have h2 := hf.bnd.2 0 ⟨0, 1, 2, 0⟩ x rfl rfl
    have hv : value nA [x, y] = x := by simp [value, nA, netAt, pt]
    rw [hv] at hc ⊢
    simp [nA, netAt, pt] at h1
    simp at h2
    unfold capR at hc
    split at hc
    · have : capOf nA.arcs (cutF cut) = x := by injection hc
      rename_i hcc
      simp only [Bool.and_eq_true, decide_eq_true_eq, Bool.not_eq_true'] at hcc
      obtain ⟨⟨_, c1⟩, c2⟩ := hcc
      have c1' : cutF cut 0 = true := c1
      have c2' : cutF cut 2 = false := c2
      simp only [nA, capOf, c1', c2'] at this
      cases h : cutF cut 1 <;> simp [h] at this <;> omega
    · simp at hc
theorem nA_ones {cut : List Bool} {V : Int} (hV : V = 2) (hc : capR nA cut = (V, true)) : checkR nA [1, 1] cut = false := by
  have : valueR nA [1, 1] = (1, true) := by decide
  simp [checkR, this, hc, hV]

set_option maxHeartbeats 4000000 in
set_option maxRecDepth 20000 in
theorem awake_wp (m : Mem) : WPCall Try.prog 16 [] m fun r m' => r = .bool true ∧ Old m m' := by
  rw [call16 (by simp)]
  simp (disch := first | omega | (simp only [next_put, next_bump]; omega)) [ir16_b, get_put_self, get_put_ne, get_bump, put_put]
  generalize hMA : ((m.bump 6).put (m.next + 2) (some ⟨[.int .i64 0, .int .i64 1, .int .i64 2, .int .i64 0, .int .i64 1, .int .i64 2, .int .i64 3, .int .i64 0], true⟩)).put (m.next + 4) (some ⟨[.int .i64 3, .int .i64 0, .int .i64 2, .slice (some ⟨m.next + 2, 0, none⟩) 2 4], true⟩) = MA
  have oA : Old m MA := ⟨by rw [← hMA]; simp only [next_put, next_bump]; omega, fun b hb => by rw [← hMA]; simp (disch := first | omega | (simp only [next_put, next_bump]; omega)) only [get_put_ne, get_bump]⟩
  have gA : MA.get (m.next + 2) = some ⟨arcsC nA.arcs, true⟩ := by
    rw [← hMA]; simp (disch := first | omega | (simp only [next_put, next_bump]; omega)) only [get_put_self, get_put_ne]; rfl
  have gA4 : MA.get (m.next + 4) = some ⟨[.int .i64 3, .int .i64 0, .int .i64 2, .slice (some ⟨m.next + 2, 0, none⟩) 2 4], true⟩ := by
    rw [← hMA]; simp (disch := first | omega | (simp only [next_put, next_bump]; omega)) only [get_put_self]
  have hvA : Arcs MA (.slice (some ⟨m.next + 2, 0, none⟩) 2 4) nA.arcs := .inr ⟨_, _, rfl, gA⟩
  have hs := solve_wp (n := nA) hvA
  refine hs.mono fun r m1 hp => ?_
  obtain ⟨o1, hp⟩ := hp
  rcases hp with ⟨h, _⟩ | ⟨_, w, u, fl, cut, rfl, hw, hu, hf, hcl, hvr, hcr⟩
  · rw [validB_iff.2 nA_valid] at h; cases h
  have hval := nA_value hf hcr
  have g4 := o1.some gA4
  have hv1 := hvA.mono o1
  simp (disch := first | omega | (simp only [next_put, next_bump]; omega)) [hval, g4, get_put_self, get_put_ne, get_bump, put_put]
  have hs2 := solve_wp (n := n0) (v := .slice none 0 0) (m := m1) (.inl ⟨rfl, rfl⟩)
  refine hs2.mono fun r m2 hp => ?_
  obtain ⟨o2, hp⟩ := hp
  have hr : r = .tuple #[.slice none 0 0, I 0, .slice none 0 0, I 1] := by
    rcases hp with ⟨_, h⟩ | ⟨hV, _⟩
    · exact h
    · have h1 := validB_iff.2 hV
      rw [n0_not] at h1; cases h1
  subst hr
  have g42 := o2.some g4
  have l42 := get_lt g42
  have hv2 := hv1.mono o2
  have hw2 := hw.mono o2
  have hu2 := hu.mono o2
  obtain ⟨wl, ws⟩ := hw2.len
  obtain ⟨ul, us⟩ := hu2.len
  have hfl : fl.length = 2 := hf.bnd.1
  have hcl' : cut.length = 3 := by have : (cut.length : Int) = 3 := hcl; omega
  rw [hfl] at wl
  rw [hcl'] at ul
  have h1 := checkR_of hvr hcr
  have h2 := nA_ones hval hcr
  have ob : Old m2 (m2.bump 34) := (Old.refl m2).bump 34
  simp (disch := first | omega | (simp only [next_put, next_bump]; omega)) [hval, g42, wl, ws, ul, us, get_put_self, get_put_ne, get_bump, put_put, -lenOfV, -isSl]
  refine (check_wp (n := nA) (hv2.mono ((Old.refl m2).bump 34)) (hw2.mono ((Old.refl m2).bump 34)) (hu2.mono ((Old.refl m2).bump 34))).mono fun r m3 hp => ?_
  obtain ⟨rfl, o3⟩ := hp
  have g43 := o3.some (((Old.refl m2).bump 34).some g42)
  have l43 := get_lt g43
  simp (disch := first | omega | (simp only [next_put, next_bump]; omega)) [h1, g43, get_put_self, get_put_ne, get_bump, put_put]
  have n3 := o3.next
  simp only [next_bump] at n3
  have o4 : Old m2 (m3.put (m2.next + 24) (some ⟨[.int .i64 1, .int .i64 1], true⟩)) := ((((Old.refl m2).bump 34).trans o3).put (by omega))
  refine (check_wp (n := nA) (fl := [1, 1]) (hv2.mono o4) (.inr ⟨m2.next + 24, true, rfl, get_put_self (by omega)⟩) (hu2.mono o4)).mono fun r m4 hp => ?_
  obtain ⟨rfl, o5⟩ := hp
  simp (disch := first | omega | (simp only [next_put, next_bump]; omega)) [h2, get_put_self, get_put_ne, get_bump, put_put]
  exact oA.trans (o1.trans (o2.trans (o4.trans o5)))

def heavyB (n : Net) : Bool := decide (60 < (n.arcs.length : Int)) || (decide (60 < n.nodes) && decide (n.nodes ≤ 700))
set_option maxHeartbeats 4000000 in
theorem heavy_wp {n : Net} {v : Value} {m : Mem} (hv : Arcs m v n.arcs) : WPCall Try.prog 15 [netV n v] m fun r m' => r = .bool (heavyB n) ∧ Old m m' := by
  rw [call15 (by simp)]
  obtain ⟨hlen, hsl⟩ := hv.len
  have hM : Old m ((m.bump 2).put m.next (some ⟨netC n v, true⟩)) := ((Old.refl m).bump 2).put (Nat.le_refl _)
  by_cases k1 : 60 < (n.arcs.length : Int)
  · simp (disch := first | omega | (simp only [next_put, next_bump]; omega)) [ir15_b, hlen, hsl, k1, get_put_self, get_put_ne, get_bump, put_put, -lenOfV, -isSl]
    exact ⟨by simp [heavyB, k1], hM⟩
  by_cases k2 : 60 < n.nodes
  · by_cases k3 : n.nodes ≤ 700
    · simp (disch := first | omega | (simp only [next_put, next_bump]; omega)) [ir15_b, hlen, hsl, k1, k2, k3, get_put_self, get_put_ne, get_bump, put_put, -lenOfV, -isSl]
      exact ⟨by simp [heavyB, k1, k2, k3], hM⟩
    · simp (disch := first | omega | (simp only [next_put, next_bump]; omega)) [ir15_b, hlen, hsl, k1, k2, k3, get_put_self, get_put_ne, get_bump, put_put, -lenOfV, -isSl]
      exact ⟨by simp [heavyB, k1, k2, k3], hM⟩
  · simp (disch := first | omega | (simp only [next_put, next_bump]; omega)) [ir15_b, hlen, hsl, k1, k2, get_put_self, get_put_ne, get_bump, put_put, -lenOfV, -isSl]
    exact ⟨by simp [heavyB, k1, k2], hM⟩

set_option maxHeartbeats 4000000 in
theorem solved_wp {n : Net} (hV : n.Valid) {v : Value} {m : Mem} (hv : Arcs m v n.arcs) : WPCall Try.prog 26 [netV n v] m fun r m' => Old m m' ∧ ∃ fl cut, IsFlow n fl ∧ r = .tuple #[I (value n fl), .bool true] ∧ (cut.length : Int) = n.nodes ∧ capR n cut = (value n fl, true) := by
  rw [call26 (by simp)]
  have hM : Old m ((m.bump 3).put m.next (some ⟨netC n v, true⟩)) := ((Old.refl m).bump 3).put (Nat.le_refl _)
  have hg : ((m.bump 3).put m.next (some ⟨netC n v, true⟩)).get m.next = some ⟨netC n v, true⟩ := get_put_self (by simp)
  simp (disch := first | omega | (simp only [next_put, next_bump]; omega)) [ir26_b, get_put_self, get_put_ne, get_bump, put_put]
  refine (solve_wp (n := n) (hv.mono hM)).mono fun r m1 hp => ?_
  obtain ⟨o1, hp⟩ := hp
  rcases hp with ⟨h, _⟩ | ⟨_, w, u, fl, cut, rfl, hw, hu, hf, hcl, hvr, hcr⟩
  · rw [validB_iff.2 hV] at h; cases h
  have g1 := o1.some hg
  have hv1 := (hv.mono hM).mono o1
  simp (disch := first | omega | (simp only [next_put, next_bump]; omega)) [g1, get_put_self, get_put_ne, get_bump, put_put]
  refine (rvalue_wp (n := n) hv1 hw).mono fun r m2 hp => ?_
  obtain ⟨rfl, o2⟩ := hp
  have g2 := o2.some g1
  have hch := checkR_of hvr hcr
  simp (disch := first | omega | (simp only [next_put, next_bump]; omega)) [g2, hvr, get_put_self, get_put_ne, get_bump, put_put]
  refine (rcheck_wp (n := n) (hv1.mono o2) (hw.mono o2) (hu.mono o2)).mono fun r m3 hp => ?_
  obtain ⟨rfl, o3⟩ := hp
  simp (disch := first | omega | (simp only [next_put, next_bump]; omega)) [hch, get_put_self, get_put_ne, get_bump, put_put]
  exact ⟨hM.trans (o1.trans (o2.trans o3)), fl, hf, rfl, cut, hcl, hcr⟩

theorem keep_of {σ : Slots} {x y : Operand} {m m' : Mem} (h : Old m m') {b : Nat} (hb : blkOf (ev σ x) = some b) (hlt : b < m.next) : keepOk σ [(x, y)] m m' := by
  intro p hp c hc
  simp at hp; subst hp
  simp only at hc
  rw [hb] at hc; cases hc
  exact h.get b hlt

set_option maxHeartbeats 8000000 in
set_option maxRecDepth 20000 in
theorem mfExact_wp {n : Net} {v w u : Value} {fl : List Int} {cut : List Bool} {m : Mem} (hv : Arcs m v n.arcs) (hw : Ints m w fl) (hu : Bools m u cut) : WPCall Try.prog 3 [netV n v, w, u] m fun r _ => r = .bool true := by
  rw [call3 (by simp)]
  obtain ⟨wl, ws⟩ := hw.len
  obtain ⟨ul, us⟩ := hu.len
  have hM : Old m ((m.bump 2).put m.next (some ⟨netC n v, true⟩)) := ((Old.refl m).bump 2).put (Nat.le_refl _)
  have hg : ((m.bump 2).put m.next (some ⟨netC n v, true⟩)).get m.next = some ⟨netC n v, true⟩ := get_put_self (by simp)
  simp (disch := first | omega | (simp only [next_put, next_bump]; omega)) [ir3_b, get_put_self, get_put_ne, get_bump, put_put]
  refine (heavy_wp (n := n) (hv.mono hM)).mono fun r m1 hp => ?_
  obtain ⟨rfl, o1⟩ := hp
  have g1 := o1.some hg
  have aw : ∀ (m : Mem) (K : Value → Mem → Prop), (∀ m', K (.bool true) m') → WPCall Try.prog 16 [] m K := fun m K hK => (awake_wp m).mono fun r m' hp => by obtain ⟨rfl, _⟩ := hp; exact hK m'
  by_cases k1 : heavyB n = true
  · simp (disch := first | omega | (simp only [next_put, next_bump]; omega)) [k1, wl, ws, ul, us, g1, get_put_self, get_put_ne, get_bump, put_put, -lenOfV, -isSl]
    refine aw _ _ fun m' => ?_
    simp
  by_cases k2 : 100 < (fl.length : Int)
  · simp (disch := first | omega | (simp only [next_put, next_bump]; omega)) [k1, k2, wl, ws, ul, us, g1, get_put_self, get_put_ne, get_bump, put_put, -lenOfV, -isSl]
    refine aw _ _ fun m' => ?_
    simp
  by_cases k3 : 100 < (cut.length : Int)
  · simp (disch := first | omega | (simp only [next_put, next_bump]; omega)) [k1, k2, k3, wl, ws, ul, us, g1, get_put_self, get_put_ne, get_bump, put_put, -lenOfV, -isSl]
    refine aw _ _ fun m' => ?_
    simp
  simp (disch := first | omega | (simp only [next_put, next_bump]; omega)) [k1, k2, k3, wl, ws, ul, us, g1, get_put_self, get_put_ne, get_bump, put_put, -lenOfV, -isSl]
  have hv1 := (hv.mono hM).mono o1
  have hw1 := (hw.mono hM).mono o1
  have hu1 := (hu.mono hM).mono o1
  refine (value_wp (n := n) hv1 hw1).mono fun r m2 hp => ?_
  obtain ⟨rfl, o2⟩ := hp
  have g2 := o2.some g1
  simp (disch := first | omega | (simp only [next_put, next_bump]; omega)) [g2, get_put_self, get_put_ne, get_bump, put_put]
  refine (rvalue_wp (n := n) (hv1.mono o2) (hw1.mono o2)).mono fun r m3 hp => ?_
  obtain ⟨rfl, o3⟩ := hp
  have g3 := o3.some g2
  have o13 := o2.trans o3
  simp (disch := first | omega | (simp only [next_put, next_bump]; omega)) [g3, get_put_self, get_put_ne, get_bump, put_put]
  refine (cap_wp (n := n) (hv1.mono o13) (hu1.mono o13)).mono fun r m4 hp => ?_
  obtain ⟨rfl, o4⟩ := hp
  have g4 := o4.some g3
  have o14 := o13.trans o4
  simp (disch := first | omega | (simp only [next_put, next_bump]; omega)) [g4, get_put_self, get_put_ne, get_bump, put_put]
  refine (rcap_wp (n := n) (hv1.mono o14) (hu1.mono o14)).mono fun r m5 hp => ?_
  obtain ⟨rfl, o5⟩ := hp
  have g5 := o5.some g4
  have o15 := o14.trans o5
  simp (disch := first | omega | (simp only [next_put, next_bump]; omega)) [g5, get_put_self, get_put_ne, get_bump, put_put]
  refine (valid_wp (n := n) (hv1.mono o15)).mono fun r m6 hp => ?_
  obtain ⟨rfl, o6⟩ := hp
  have g6 := o6.some g5
  have o16 := o15.trans o6
  refine ⟨keep_of o6 (b := m.next) (by simp) (get_lt g5), ?_⟩
  simp (disch := first | omega | (simp only [next_put, next_bump]; omega)) [g6, get_put_self, get_put_ne, get_bump, put_put]
  refine (rvalid_wp (n := n) (hv1.mono o16)).mono fun r m7 hp => ?_
  obtain ⟨rfl, o7⟩ := hp
  have g7 := o7.some g6
  have o17 := o16.trans o7
  simp (disch := first | omega | (simp only [next_put, next_bump]; omega)) [g7, get_put_self, get_put_ne, get_bump, put_put]
  refine (check_wp (n := n) (hv1.mono o17) (hw1.mono o17) (hu1.mono o17)).mono fun r m8 hp => ?_
  obtain ⟨rfl, o8⟩ := hp
  have g8 := o8.some g7
  have o18 := o17.trans o8
  refine ⟨keep_of o8 (b := m.next) (by simp) (get_lt g7), ?_⟩
  simp (disch := first | omega | (simp only [next_put, next_bump]; omega)) [g8, get_put_self, get_put_ne, get_bump, put_put]
  refine (rcheck_wp (n := n) (hv1.mono o18) (hw1.mono o18) (hu1.mono o18)).mono fun r m9 hp => ?_
  obtain ⟨rfl, o9⟩ := hp
  simp (disch := first | omega | (simp only [next_put, next_bump]; omega)) [g8, get_put_self, get_put_ne, get_bump, put_put]
  refine aw _ _ fun m' => ?_
  simp

set_option maxHeartbeats 8000000 in
set_option maxRecDepth 20000 in
theorem mfRaw_wp {n : Net} {v : Value} {m : Mem} (hv : Arcs m v n.arcs) : WPCall Try.prog 4 [netV n v] m fun r _ => r = .bool true := by
  rw [call4 (by simp)]
  have hM : Old m ((m.bump 2).put m.next (some ⟨netC n v, true⟩)) := ((Old.refl m).bump 2).put (Nat.le_refl _)
  have hg : ((m.bump 2).put m.next (some ⟨netC n v, true⟩)).get m.next = some ⟨netC n v, true⟩ := get_put_self (by simp)
  simp (disch := first | omega | (simp only [next_put, next_bump]; omega)) [ir4_b, get_put_self, get_put_ne, get_bump, put_put]
  refine (heavy_wp (n := n) (hv.mono hM)).mono fun r m1 hp => ?_
  obtain ⟨rfl, o1⟩ := hp
  have g1 := o1.some hg
  have aw : ∀ (m : Mem) (K : Value → Mem → Prop), (∀ m', K (.bool true) m') → WPCall Try.prog 16 [] m K := fun m K hK => (awake_wp m).mono fun r m' hp => by obtain ⟨rfl, _⟩ := hp; exact hK m'
  by_cases k1 : heavyB n = true
  · simp (disch := first | omega | (simp only [next_put, next_bump]; omega)) [k1, g1, get_put_self, get_put_ne, get_bump, put_put]
    refine aw _ _ fun m' => ?_
    simp
  simp (disch := first | omega | (simp only [next_put, next_bump]; omega)) [k1, g1, get_put_self, get_put_ne, get_bump, put_put]
  have hv1 := (hv.mono hM).mono o1
  refine (rvalid_wp (n := n) hv1).mono fun r m2 hp => ?_
  obtain ⟨rfl, o2⟩ := hp
  have g2 := o2.some g1
  cases k2 : validB n
  · simp (disch := first | omega | (simp only [next_put, next_bump]; omega)) [k2, g2, get_put_self, get_put_ne, get_bump, put_put]
    refine (solve_wp (n := n) (hv1.mono o2)).mono fun r m3 hp => ?_
    obtain ⟨o3, hp⟩ := hp
    have hr : r = .tuple #[.slice none 0 0, I 0, .slice none 0 0, I 1] := by
      rcases hp with ⟨_, h⟩ | ⟨hV, _⟩
      · exact h
      · rw [validB_iff.2 hV] at k2; cases k2
    subst hr
    simp
    refine aw _ _ fun m' => ?_
    simp
  · have hV := validB_iff.1 k2
    simp (disch := first | omega | (simp only [next_put, next_bump]; omega)) [k2, g2, get_put_self, get_put_ne, get_bump, put_put]
    refine (solved_wp hV (hv1.mono o2)).mono fun r m3 hp => ?_
    obtain ⟨o3, fl, cut, hf, rfl, hcl, hcr⟩ := hp
    simp
    refine aw _ _ fun m' => ?_
    simp
end Go.Proofs.Ytapnkfkpkcajjaa
