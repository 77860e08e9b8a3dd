/-
  The residual network in memory: 'ends', 'back'.
-/
import Derived.Test.YtapnkfkpkcajjaaMfBE
import Derived.Test.YtapnkfkpkcajjaaNet2
namespace Go.Proofs.Ytapnkfkpkcajjaa
open Go Go.DI Go.Nets
set_option linter.unusedSimpArgs false
set_option linter.unusedVariables false

/-- the residual network in memory -/
structure Sr (n : Net) (fl : List Int) (v : Value) (sb fb ub : Nat) (N : Nat) (m : Mem) : Prop where
  s : m.get sb = some ⟨[I n.nodes, I n.src, I n.snk, v, .slice (some ⟨fb, 0, none⟩) fl.length 1, .slice (some ⟨ub, 0, none⟩) N 1], true⟩
  a : Arcs m v n.arcs
  f : m.get fb = some ⟨fl.map (Value.int .i64 ·), true⟩
theorem Sr.mono {n : Net} {fl : List Int} {v : Value} {sb fb ub N : Nat} {m m' : Mem} (h : Sr n fl v sb fb ub N m) (ho : Old m m') : Sr n fl v sb fb ub N m' := ⟨ho.some h.s, h.a.mono ho, ho.some h.f⟩

theorem dec_cases (z : Int) : (∃ i : Nat, 0 ≤ z ∧ z = i ∧ z.toNat = i ∧ dec z = (i, true)) ∨ (∃ i : Nat, ¬ 0 ≤ z ∧ -1 - z = (i : Int) ∧ dec z = (i, false)) := by
  by_cases h : 0 ≤ z
  · exact .inl ⟨z.toNat, h, by omega, rfl, by simp [dec, h]⟩
  · exact .inr ⟨(-1 - z).toNat, h, by omega, by simp [dec, h]⟩
set_option maxHeartbeats 4000000 in
theorem ends_ret {n : Net} (hV : n.Valid) {fl : List Int} (hb : Bnd n fl) {v : Value} {sb fb ub N : Nat} {m : Mem} (h : Sr n fl v sb fb ub N m) {z : Int} (hz : (dec z).1 < n.arcs.length) : Ret Try.prog 51 [ptr sb, I z] m (.tuple #[I (stT n (dec z)), I (room n fl (dec z))]) m := by
  apply Ret.of_wp
  rw [call51 (by simp)]
  have hs := h.s
  have hf := h.f
  have hal := hV.al
  rcases dec_cases z with ⟨i, h0, hi, hi2, hd⟩ | ⟨i, h0, hi, hd⟩
  all_goals
    rw [hd] at hz ⊢
    simp only at hz
    obtain ⟨c, o, rfl, hc⟩ := h.a.blk hz
    obtain ⟨a, ha⟩ : ∃ a, n.arcs[i]? = some a := ⟨n.arcs[i]'hz, by simp⟩
    have hfi : i < fl.length := by rw [hb.1]; exact hz
    obtain ⟨φ, hφ⟩ : ∃ φ, fl[i]? = some φ := ⟨fl[i]'hfi, by simp⟩
    have hφ2 : ∀ h, fl[i]'h = φ := fun h => by rw [List.getElem?_eq_getElem h] at hφ; simpa using hφ
    have hbd := hb.2 i a φ ha hφ
    have hac := (hV.arc a (List.mem_of_getElem? ha)).2.2
    have q0b := arcs_get ha (j := 0) (by omega)
    have q1 := arcs_get ha (j := 1) (by omega)
    have q2 := arcs_get ha (j := 2) (by omega)
    rw [Nat.add_zero] at q0b
    simp only [arcC] at q0b
    simp [arcC] at q1 q2
    have q0c : (arcsC n.arcs)[i * 4]? = some (I a.f) := q0b
    have q0 : ∀ h : i * 4 < (arcsC n.arcs).length, (arcsC n.arcs)[i * 4]'h = I a.f := fun h => by
      have := q0c; rw [List.getElem?_eq_getElem h] at this; simpa using this
    have b1 : i * 4 + 1 ≤ n.arcs.length * 4 := by omega
    have b2 : i * 4 + 2 ≤ n.arcs.length * 4 := by omega
    have b3 : i * 4 + 3 ≤ n.arcs.length * 4 := by omega
    have b4 : (i : Int) < n.arcs.length := by omega
    have b5 : (i : Int) < fl.length := by omega
    have b6 : i + 1 ≤ fl.length := hfi
    have w1 : IntKind.i64.wrap (a.c - φ) = a.c - φ := i64_id (by omega) (by omega)
    have w2 : IntKind.i64.wrap (i : Int) = i := i64_id (by omega) (by omega)
  · have z1 : z < n.arcs.length := by omega
    have z2 : z < fl.length := by omega
    simp (disch := first | omega | (simp only [next_put, next_bump]; omega)) [ir51_b, hs, hf, hc, h0, hi2, q0, q0c, q1, q2, head_td, hφ, hφ2, b1, b2, b3, b4, b5, b6, z1, z2, w1, hz, hfi, get_put_self, get_put_ne, get_bump, put_put]
    simp [stT, room, ha, hφ]
  · simp (disch := first | omega | (simp only [next_put, next_bump]; omega)) [ir51_b, hs, hf, hc, h0, hi, q0, q0c, q1, q2, head_td, hφ, hφ2, b1, b2, b3, b4, b5, b6, w1, w2, hz, hfi, get_put_self, get_put_ne, get_bump, put_put]
    simp [stT, room, ha, hφ]
theorem back_ret {n : Net} (hV : n.Valid) {fl : List Int} {v : Value} {sb fb ub N : Nat} {m : Mem} (h : Sr n fl v sb fb ub N m) {z : Int} (hz : (dec z).1 < n.arcs.length) : Ret Try.prog 52 [ptr sb, I z] m (I (stF n (dec z))) m := by
  apply Ret.of_wp
  rw [call52 (by simp)]
  have hs := h.s
  have hal := hV.al
  rcases dec_cases z with ⟨i, h0, hi, hi2, hd⟩ | ⟨i, h0, hi, hd⟩
  all_goals
    rw [hd] at hz ⊢
    simp only at hz
    obtain ⟨c, o, rfl, hc⟩ := h.a.blk hz
    obtain ⟨a, ha⟩ : ∃ a, n.arcs[i]? = some a := ⟨n.arcs[i]'hz, by simp⟩
    have q0b := arcs_get ha (j := 0) (by omega)
    have q1 := arcs_get ha (j := 1) (by omega)
    rw [Nat.add_zero] at q0b
    simp only [arcC] at q0b
    simp [arcC] at q1
    have q0c : (arcsC n.arcs)[i * 4]? = some (I a.f) := q0b
    have q0 : ∀ h : i * 4 < (arcsC n.arcs).length, (arcsC n.arcs)[i * 4]'h = I a.f := fun h => by
      have := q0c; rw [List.getElem?_eq_getElem h] at this; simpa using this
    have b1 : i * 4 + 1 ≤ n.arcs.length * 4 := by omega
    have b2 : i * 4 + 2 ≤ n.arcs.length * 4 := by omega
    have b4 : (i : Int) < n.arcs.length := by omega
    have w2 : IntKind.i64.wrap (i : Int) = i := i64_id (by omega) (by omega)
  · have z1 : z < n.arcs.length := by omega
    simp (disch := first | omega | (simp only [next_put, next_bump]; omega)) [ir52_b, hs, hc, h0, hi2, q0, q0c, q1, head_td, b1, b2, b4, z1, hz, get_put_self, get_put_ne, get_bump, put_put]
    simp [stF, ha]
  · simp (disch := first | omega | (simp only [next_put, next_bump]; omega)) [ir52_b, hs, hc, h0, hi, q0, q0c, q1, head_td, b1, b2, b4, w2, hz, get_put_self, get_put_ne, get_bump, put_put]
    simp [stF, ha]
end Go.Proofs.Ytapnkfkpkcajjaa
