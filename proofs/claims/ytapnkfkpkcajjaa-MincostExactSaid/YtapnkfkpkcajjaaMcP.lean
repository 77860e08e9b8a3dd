/-
  'MincostExact'.
-/
import Derived.Test.YtapnkfkpkcajjaaMcO
namespace Go.Proofs.Ytapnkfkpkcajjaa
open Go Go.DI Go.Nets
set_option linter.unusedSimpArgs false
set_option linter.unusedVariables false

set_option maxHeartbeats 8000000 in
set_option maxRecDepth 20000 in
theorem mcExact_wp {n : Net} {v w u : Value} {fl ps : List Int} {m : Mem} (hv : Arcs m v n.arcs) (amount : Int) (hw : Ints m w fl) (hu : Ints m u ps) : WPCall Try.prog 14 [netV n v, I amount, w, u] m fun r _ => r = .bool true := by
  rw [call14 (by simp)]
  obtain ⟨wl, ws⟩ := hw.len
  obtain ⟨ul, us⟩ := hu.len
  have hM : Old m ((m.bump 2).put m.next (some ⟨netC n v, true⟩)) := ((Old.refl m).bump 2).put (Nat.le_refl _)
  have hg : ((m.bump 2).put m.next (some ⟨netC n v, true⟩)).get m.next = some ⟨netC n v, true⟩ := get_put_self (by simp)
  simp (disch := first | omega | (simp only [next_put, next_bump]; omega)) [ir14_b, get_put_self, get_put_ne, get_bump, put_put]
  refine (mheavy_wp (n := n) (hv.mono hM)).mono fun r m1 hp => ?_
  obtain ⟨rfl, o1⟩ := hp
  have g1 := o1.some hg
  by_cases k1 : heavyM n = true
  · simp (disch := first | omega | (simp only [next_put, next_bump]; omega)) [k1, wl, ws, ul, us, g1, get_put_self, get_put_ne, get_bump, put_put, -lenOfV, -isSl]
    refine maw_wp _ _ fun m' => ?_
    simp
  have hl : n.arcs.length < 1000000000 := by
    have k1' : heavyM n = false := by simpa using k1
    unfold heavyM at k1'
    simp at k1'
    omega
  by_cases k2 : 100 < (fl.length : Int)
  · simp (disch := first | omega | (simp only [next_put, next_bump]; omega)) [k1, k2, wl, ws, ul, us, g1, get_put_self, get_put_ne, get_bump, put_put, -lenOfV, -isSl]
    refine maw_wp _ _ fun m' => ?_
    simp
  by_cases k3 : 100 < (ps.length : Int)
  · simp (disch := first | omega | (simp only [next_put, next_bump]; omega)) [k1, k2, k3, wl, ws, ul, us, g1, get_put_self, get_put_ne, get_bump, put_put, -lenOfV, -isSl]
    refine maw_wp _ _ fun m' => ?_
    simp
  simp (disch := first | omega | (simp only [next_put, next_bump]; omega)) [k1, k2, k3, wl, ws, ul, us, g1, get_put_self, get_put_ne, get_bump, put_put, -lenOfV, -isSl]
  have hv1 := (hv.mono hM).mono o1
  have hw1 := (hw.mono hM).mono o1
  have hu1 := (hu.mono hM).mono o1
  refine (cost_wp (n := n) hv1 hw1 hl).mono fun r m2 hp => ?_
  obtain ⟨rfl, o2⟩ := hp
  have g2 := o2.some g1
  simp (disch := first | omega | (simp only [next_put, next_bump]; omega)) [g2, get_put_self, get_put_ne, get_bump, put_put]
  refine (rcost_wp (n := n) (hv1.mono o2) (hw1.mono o2)).mono fun r m3 hp => ?_
  obtain ⟨rfl, o3⟩ := hp
  have g3 := o3.some g2
  have o13 := o2.trans o3
  simp (disch := first | omega | (simp only [next_put, next_bump]; omega)) [g3, get_put_self, get_put_ne, get_bump, put_put]
  refine (mvalid_wp (n := n) (hv1.mono o13) hl).mono fun r m6 hp => ?_
  obtain ⟨rfl, o6⟩ := hp
  have g6 := o6.some g3
  have o16 := o13.trans o6
  refine ⟨keep_of o6 (b := m.next) (by simp) (get_lt g3), ?_⟩
  simp (disch := first | omega | (simp only [next_put, next_bump]; omega)) [g6, get_put_self, get_put_ne, get_bump, put_put]
  refine (rmvalid_wp (n := n) (hv1.mono o16)).mono fun r m7 hp => ?_
  obtain ⟨rfl, o7⟩ := hp
  have g7 := o7.some g6
  have o17 := o16.trans o7
  simp (disch := first | omega | (simp only [next_put, next_bump]; omega)) [g7, get_put_self, get_put_ne, get_bump, put_put]
  refine (mcheck_wp (n := n) (hv1.mono o17) (hw1.mono o17) (hu1.mono o17) hl amount).mono fun r m8 hp => ?_
  obtain ⟨rfl, o8⟩ := hp
  have g8 := o8.some g7
  have o18 := o17.trans o8
  refine ⟨keep_of o8 (b := m.next) (by simp) (get_lt g7), ?_⟩
  simp (disch := first | omega | (simp only [next_put, next_bump]; omega)) [g8, get_put_self, get_put_ne, get_bump, put_put]
  refine (rmcheck_wp (n := n) (hv1.mono o18) (hw1.mono o18) (hu1.mono o18) amount).mono fun r m9 hp => ?_
  obtain ⟨rfl, o9⟩ := hp
  simp (disch := first | omega | (simp only [next_put, next_bump]; omega)) [g8, get_put_self, get_put_ne, get_bump, put_put]
  refine maw_wp _ _ fun m' => ?_
  simp
theorem mincostExact_law (m : Mem) (us : List Value) (h : AbsArgs m [netSh, .int .i64, .slice (.int .i64), .slice (.int .i64)] us) : WPCall Try.prog 14 us m fun r _ => r = .bool true := by
  rcases h with _ | ⟨h1, h⟩
  rcases h with _ | ⟨h2, h⟩
  rcases h with _ | ⟨h3, h⟩
  rcases h with _ | ⟨h4, h⟩
  cases h
  obtain ⟨n, v, rfl, hv⟩ := net_of h1
  obtain ⟨rfl, _⟩ := h2.int
  exact mcExact_wp hv _ (ints_of h3) (ints_of h4)
end Go.Proofs.Ytapnkfkpkcajjaa
