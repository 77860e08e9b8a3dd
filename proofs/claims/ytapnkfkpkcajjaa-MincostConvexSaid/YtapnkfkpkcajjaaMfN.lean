/-
  'MaxflowExact', 'MaxflowRaw': the arguments.
-/
import Derived.Test.YtapnkfkpkcajjaaMfM
namespace Go.Proofs.Ytapnkfkpkcajjaa
open Go Go.DI Go.Nets
set_option linter.unusedSimpArgs false
set_option linter.unusedVariables false

abbrev arcSh : Sh := .pair (.int .i64) (.pair (.int .i64) (.pair (.int .i64) (.pair (.int .i64) .unit)))
abbrev netSh : Sh := .pair (.int .i64) (.pair (.int .i64) (.pair (.int .i64) (.pair (.slice arcSh) .unit)))
def toArc (d : arcSh.D) : Arc := ⟨d.1, d.2.1, d.2.2.1, d.2.2.2.1⟩
theorem arcs_of {m : Mem} {cs : List Value} {l : List arcSh.D} (h : Abs m (.slice arcSh) cs l) : ∃ v, cs = [v] ∧ Arcs m v (l.map toArc) := by
  rcases h.flatSlice rfl with ⟨rfl, h0⟩ | ⟨b, rfl, hb, _⟩
  · have : l = [] := h0
    subst this
    exact ⟨_, rfl, .inl ⟨rfl, rfl⟩⟩
  · refine ⟨_, rfl, .inr ⟨b, false, by simp [Sh.cells], ?_⟩⟩
    rw [hb]; simp only [arcsC, List.map_map]
    rfl
theorem net_of {m : Mem} {x : Value} {d : netSh.D} (h : AbsV m netSh x d) : ∃ (n : Net) (v : Value), x = netV n v ∧ Arcs m v n.arcs := by
  obtain ⟨cs, h, rfl⟩ := h
  obtain ⟨c1, r1, rfl, h1, h⟩ := h
  obtain ⟨c2, r2, rfl, h2, h⟩ := h
  obtain ⟨c3, r3, rfl, h3, h⟩ := h
  obtain ⟨c4, r4, rfl, h4, h⟩ := h
  obtain ⟨rfl, _⟩ := h1
  obtain ⟨rfl, _⟩ := h2
  obtain ⟨rfl, _⟩ := h3
  obtain ⟨v, rfl, hv⟩ := arcs_of h4
  have : r4 = [] := h
  subst this
  exact ⟨⟨_, _, _, _⟩, v, rfl, hv⟩
theorem ints_of {m : Mem} {v : Value} {l : List Int} (h : AbsV m (.slice (.int .i64)) v l) : Ints m v l := by
  rcases h.ints.1 with h | ⟨b, h1, h2⟩
  · exact .inl h
  · exact .inr ⟨b, false, h1, h2⟩
theorem bools_of {m : Mem} {v : Value} {l : List Bool} (h : AbsV m (.slice .bool) v l) : Bools m v l := by
  rcases h.bools.1 with h | ⟨b, h1, h2⟩
  · exact .inl h
  · exact .inr ⟨b, false, h1, h2⟩
theorem maxflowExact_law (m : Mem) (us : List Value) (h : AbsArgs m [netSh, .slice (.int .i64), .slice .bool] us) : WPCall Try.prog 3 us m fun r _ => r = .bool true := by
  rcases h with _ | ⟨h1, h⟩
  rcases h with _ | ⟨h2, h⟩
  rcases h with _ | ⟨h3, h⟩
  cases h
  obtain ⟨n, v, rfl, hv⟩ := net_of h1
  exact mfExact_wp hv (ints_of h2) (bools_of h3)
theorem maxflowRaw_law (m : Mem) (us : List Value) (h : AbsArgs m [netSh] us) : WPCall Try.prog 4 us m fun r _ => r = .bool true := by
  rcases h with _ | ⟨h1, h⟩
  cases h
  obtain ⟨n, v, rfl, hv⟩ := net_of h1
  exact mfRaw_wp hv
end Go.Proofs.Ytapnkfkpkcajjaa
