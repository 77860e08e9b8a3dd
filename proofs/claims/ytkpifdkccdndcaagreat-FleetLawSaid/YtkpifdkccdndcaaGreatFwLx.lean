/-
  'FleetLaw' over its arguments' shapes.
-/
import Derived.Test.YtkpifdkccdndcaaGreatFwLw
namespace Go.Proofs.YtkpifdkccdndcaaGreat
open Go Go.DI Go.Big
set_option linter.unusedSimpArgs false
set_option linter.unusedVariables false
abbrev natSh : Sh := .slice (.int .u32)
abbrev fracSh : Sh := .pair .bool (.pair natSh (.pair natSh .unit))
abbrev lawSh : Sh := .pair .str (.pair (.slice fracSh) (.pair (.slice (.slice fracSh)) (.pair (.slice fracSh) .unit)))
def rawD (d : fracSh.D) : RawF := ⟨d.1, d.2.1, d.2.2.1⟩
theorem nat_sl {m : Mem} {cs : List Value} {l : List Int} (h : Abs m natSh cs l) : ∃ v, cs = [v] ∧ Sl m v l ∧ l.length ≤ 140737488355328 := by
  have h1 := h.len
  obtain ⟨v, rfl⟩ := List.length_eq_one_iff.1 (show cs.length = 1 from h1)
  obtain ⟨h2, h3, h4⟩ := AbsV.ints (v := v) ⟨[v], h, rfl⟩
  have ok : OkL l := fun x hx => by
    have h5 := h4 x hx
    simp only [Lit.wf, Bool.and_eq_true, decide_eq_true_eq] at h5
    obtain ⟨a, b⟩ := h5
    have e1 : IntKind.u32.min = 0 := by decide
    have e2 : IntKind.u32.max = 4294967295 := by decide
    rw [e1] at a
    rw [e2] at b
    omega
  refine ⟨v, rfl, ⟨ok, ?_⟩, by simp only [reachBytes] at h3; omega⟩
  rcases h2 with h2 | ⟨b, rfl, hb⟩
  · exact .inl h2
  · exact .inr ⟨b, 0, _, _, rfl, hb, by rw [List.drop_zero, List.take_of_length_le (by simp)], by simp⟩
theorem frac_raw {m : Mem} {cs : List Value} {d : fracSh.D} (h : Abs m fracSh cs d) : rawRp.R m cs (rawD d) ∧ (rawD d).ok := by
  obtain ⟨c1, c2, rfl, h1, d1, d2, rfl, h2, d3, d4, rfl, h3, h4⟩ := h
  have e1 : c1 = [.bool d.1] := h1
  have e4 : d4 = [] := h4
  obtain ⟨va, rfl, ha, la⟩ := nat_sl h2
  obtain ⟨vb, rfl, hb, lb⟩ := nat_sl h3
  subst e1; subst e4
  exact ⟨⟨va, vb, rfl, ha, hb⟩, la, lb⟩
theorem fracs_raw {m : Mem} {cs : List Value} {l : List fracSh.D} (h : Abs m (.slice fracSh) cs l) : ∃ v, cs = [v] ∧ rawRp.S m v (l.map rawD) ∧ (l.map rawD).length ≤ 140737488355328 ∧ ∀ x ∈ l.map rawD, x.ok := by
  obtain ⟨v, e, hS⟩ := Abs.toS (q := rawRp) rawD h rfl (fun cs x hx => (frac_raw hx).1)
  have ok := h.ok
  refine ⟨v, e, hS, ?_, fun x hx => ?_⟩
  · have := ok.1
    simp only [reachBytes] at this
    rw [List.length_map]
    exact Nat.le_trans this (by omega)
  · rw [List.mem_map] at hx
    obtain ⟨d, hd, rfl⟩ := hx
    have h6 := ok.2 d hd
    have h7 := h6.2.1.1
    have h8 := h6.2.2.1.1
    simp only [reachBytes] at h7 h8
    exact ⟨Nat.le_trans h7 (by omega), Nat.le_trans h8 (by omega)⟩
theorem fleetLaw_law (m : Mem) (us : List Value) (h : AbsArgs m [lawSh] us) : WPCall Tryz.prog 3 us m fun r _ => r = .bool true := by
  cases h with
  | cons h hs =>
    cases hs
    obtain ⟨cs, h, rfl⟩ := h
    obtain ⟨c1, c2, rfl, h1, c3, c4, rfl, h2, c5, c6, rfl, h3, c7, c8, rfl, h4, h5⟩ := h
    have e5 : c8 = [] := h5
    obtain ⟨e1, _⟩ := h1
    subst e5; subst e1
    obtain ⟨vs, rfl, hs, ls, bs⟩ := fracs_raw h2
    obtain ⟨ve, rfl, he, le, be⟩ := fracs_raw h4
    have okr := h3.ok
    obtain ⟨vr, rfl, hr⟩ := Abs.toS (q := rawRp.list) (fun l : List fracSh.D => l.map rawD) h3 rfl (fun cs x hx => by
      obtain ⟨v, e, hS, _⟩ := fracs_raw hx
      exact ⟨v, e, hS⟩)
    have hl : (∀ row ∈ List.map (fun l : List fracSh.D => l.map rawD) _, row.length ≤ 140737488355328 ∧ ∀ x ∈ row, x.ok) := fun row hrow => by
      rw [List.mem_map] at hrow
      obtain ⟨d, hd, rfl⟩ := hrow
      have h6 := okr.2 d hd
      have h9 := h6.1
      simp only [reachBytes] at h9
      refine ⟨by rw [List.length_map]; exact Nat.le_trans h9 (by omega), fun x hx => ?_⟩
      rw [List.mem_map] at hx
      obtain ⟨y, hy, rfl⟩ := hx
      have h7 := (h6.2 y hy).2.1.1
      have h8 := (h6.2 y hy).2.2.1.1
      simp only [reachBytes] at h7 h8
      exact ⟨Nat.le_trans h7 (by omega), Nat.le_trans h8 (by omega)⟩
    have lr := okr.1
    simp only [reachBytes] at lr
    exact fleetlaw_wp hs hr he ls le (by rw [List.length_map]; exact Nat.le_trans lr (by omega)) bs be hl
end Go.Proofs.YtkpifdkccdndcaaGreat
