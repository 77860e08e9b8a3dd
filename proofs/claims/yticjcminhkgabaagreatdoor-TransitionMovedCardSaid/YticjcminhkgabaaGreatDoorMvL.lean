/-
  The statement 'TransitionMoved' over its arguments' shape.
-/
import Derived.Test.YticjcminhkgabaaGreatDoorMvA
import Derived.Test.YticjcminhkgabaaGreatDoorAwT
namespace Go.Proofs.YticjcminhkgabaaGreatDoor
open Go Go.DI Go.Big
set_option linter.unusedSimpArgs false
set_option linter.unusedVariables false
set_option maxRecDepth 8000

@[simp] theorem rows_inj {l l' : List (List Int)} : l.map rowE = l'.map rowE ↔ l = l' := by
  refine ⟨fun h => ?_, fun h => by rw [h]⟩
  induction l generalizing l' with
  | nil => cases l' with | nil => rfl | cons => simp at h
  | cons x l ih => cases l' with
    | nil => simp at h
    | cons y l' =>
      simp only [List.map_cons, List.cons.injEq] at h
      have h1 := h.1
      simp only [rowE, List.cons.injEq, immS_inj, and_true] at h1
      rw [ih h.2, List.map_inj_right (fun a b e => by simpa using e) |>.1 h1]
def RowsOk (a : List (List Int)) : Prop := a.length ≤ 50 ∧ ∀ r ∈ a, r.length ≤ 140737488355328
noncomputable def sMov : PSpec Tryz.prog := .of 11 ((List (List Int)) × (List (List Int))) (fun ⟨a, b⟩ => RowsOk a ∧ RowsOk b) (fun ⟨a, b⟩ => [immS (a.map rowE) 1, immS (b.map rowE) 1]) (fun ⟨a, b⟩ => I (movI a b)) (fun ⟨a, b⟩ h => mov_tp h.1.1 h.1.2 h.2.2)
@[simp] theorem sMov_f : sMov.f = 11 := rfl
@[simp] theorem sMov_fn {a : List (List Int)} {b : List (List Int)} (h : RowsOk a ∧ RowsOk b) : sMov.fn ([immS (a.map rowE) 1, immS (b.map rowE) 1]) = some (I (movI a b)) := PSpec.of_fn (x := (a, b)) h fun y hy => by obtain ⟨y0, y1⟩ := y; simpa using hy
noncomputable def sRMov : PSpec Tryz.prog := .of 12 ((List (List Int)) × (List (List Int))) (fun ⟨a, b⟩ => RowsOk a ∧ RowsOk b) (fun ⟨a, b⟩ => [immS (a.map rowE) 1, immS (b.map rowE) 1]) (fun ⟨a, b⟩ => I (movI a b)) (fun ⟨a, b⟩ h => rmov_tp h.1.1 h.1.2 h.2.2)
@[simp] theorem sRMov_f : sRMov.f = 12 := rfl
@[simp] theorem sRMov_fn {a : List (List Int)} {b : List (List Int)} (h : RowsOk a ∧ RowsOk b) : sRMov.fn ([immS (a.map rowE) 1, immS (b.map rowE) 1]) = some (I (movI a b)) := PSpec.of_fn (x := (a, b)) h fun y hy => by obtain ⟨y0, y1⟩ := y; simpa using hy
noncomputable def sAwake : PSpec Tryz.prog := .of 10 Unit (fun _ => True) (fun _ => []) (fun _ => .bool true) (fun _ _ => awake_tp)
@[simp] theorem sAwake_f : sAwake.f = 10 := rfl
@[simp] theorem sAwake_fn : sAwake.fn [] = some (.bool true) := PSpec.of_fn (x := ()) trivial fun _ _ => rfl
set_option maxHeartbeats 2000000 in
theorem transitionmoved_tp {a b : List (List Int)} (na : a.length ≤ 140737488355328) (nb : b.length ≤ 140737488355328) (hr : ∀ r ∈ a, r.length ≤ 140737488355328) (hs : ∀ r ∈ b, r.length ≤ 140737488355328) : TPure Tryz.prog 3 [immS (a.map rowE) 1, immS (b.map rowE) 1] (.bool true) := by
  refine tpure_of (body_sound (sp := ⟨[sMov, sRMov, sAwake], []⟩) ir3_eq (by kernel_rfl) (by simp [ir3]) ?_)
  by_cases ha : a.length ≤ 50
  case neg =>
    have h1 : (50 : Int) < a.length := by omega
    simp (disch := first | omega | (simp only [zqp, zqq, next_putM]; omega)) [ir3, ir3_b, ir3_k1, ir3_k3, ir3_k4, h1, -vcells, -notTup, -blkOf, -oneC, -List.map_map]
  have h1 : ¬ (50 : Int) < a.length := by omega
  by_cases hb : b.length ≤ 50
  case neg =>
    have h2 : (50 : Int) < b.length := by omega
    simp (disch := first | omega | (simp only [zqp, zqq, next_putM]; omega)) [ir3, ir3_b, ir3_k1, ir3_k3, ir3_k4, h1, h2, -vcells, -notTup, -blkOf, -oneC, -List.map_map]
  have h2 : ¬ (50 : Int) < b.length := by omega
  have oa : RowsOk a := ⟨ha, hr⟩
  have ob : RowsOk b := ⟨hb, hs⟩
  have oab : RowsOk a ∧ RowsOk b := ⟨oa, ob⟩
  have oba : RowsOk b ∧ RowsOk a := ⟨ob, oa⟩
  have oaa : RowsOk a ∧ RowsOk a := ⟨oa, oa⟩
  simp (disch := first | omega | (simp only [zqp, zqq, next_putM]; omega)) [ir3, ir3_b, ir3_k1, ir3_k2, ir3_k3, h1, h2, -vcells, -notTup, -blkOf, -oneC, -List.map_map]
  refine wpt_for (sp := ⟨[sMov, sRMov, sAwake], []⟩) (fun i σ t => σ 0 = immS (a.map rowE) 1 ∧ σ 1 = immS (b.map rowE) 1 ∧ σ 5 = I i) (min a.length b.length) ?_ ?_ 0 _ _ (Nat.zero_le _) ⟨by simp, by simp, by simp⟩
  · rintro i σ t hi ⟨s0, s1, s5⟩ J hJ
    have hia : i < a.length := by omega
    have hib : i < b.length := by omega
    obtain ⟨r, hx⟩ : ∃ r, a[i]? = some r := ⟨_, List.getElem?_eq_getElem hia⟩
    obtain ⟨s, hy⟩ : ∃ s, b[i]? = some s := ⟨_, List.getElem?_eq_getElem hib⟩
    have hxg : a[i] = r := (List.getElem?_eq_some_iff.1 hx).2
    have hyg : b[i] = s := (List.getElem?_eq_some_iff.1 hy).2
    have q0 : (i : Int) < b.length := by omega
    have q1 : (i : Int) < a.length := by omega
    have w0 : IntKind.i64.wrap ((i : Int) + 1) = (i : Int) + 1 := i64_id (by omega) (by omega)
    by_cases c1 : (100 : Int) < r.length
    · simp (disch := first | omega | (simp only [zqp, zqq, next_putM]; omega)) [ir3_l0, ir3_k1, ir3_k2, ir3_k3, ir3_k4, rowE, s0, s1, s5, q0, q1, hia, hib, hx, hy, hxg, hyg, c1, -vcells, -notTup, -blkOf, -oneC, -List.map_map]
    by_cases c2 : (100 : Int) < s.length
    · simp (disch := first | omega | (simp only [zqp, zqq, next_putM]; omega)) [ir3_l0, ir3_k1, ir3_k2, ir3_k3, ir3_k4, rowE, s0, s1, s5, q0, q1, hia, hib, hx, hy, hxg, hyg, c1, c2, -vcells, -notTup, -blkOf, -oneC, -List.map_map]
    simp (disch := first | omega | (simp only [zqp, zqq, next_putM]; omega)) [ir3_l0, ir3_k1, ir3_k2, ir3_k3, ir3_k4, rowE, s0, s1, s5, q0, q1, hia, hib, hx, hy, hxg, hyg, c1, c2, w0, -vcells, -notTup, -blkOf, -oneC, -List.map_map]
    exact hJ _ _ ⟨by simp [s0], by simp [s1], by simp [s5, w0]⟩
  · rintro σ t ⟨s0, s1, s5⟩
    have u0 := movI_self (a := a)
    have u1 := movI_comm (a := b) (b := a)
    obtain ⟨n, hn⟩ : ∃ n, n = min a.length b.length := ⟨_, rfl⟩
    rw [← hn] at s5
    by_cases c1 : (n : Int) < a.length
    · have c2 : ¬ (n : Int) < b.length := by omega
      simp (disch := first | omega | (simp only [zqp, zqq, next_putM]; omega)) [ir3_l0, ir3_k1, ir3_k2, ir3_k3, ir3_k4, rowE, s0, s1, s5, c1, c2, oab, oba, oaa, u0, u1, -vcells, -notTup, -blkOf, -oneC, -List.map_map]
    · simp (disch := first | omega | (simp only [zqp, zqq, next_putM]; omega)) [ir3_l0, ir3_k1, ir3_k2, ir3_k3, ir3_k4, rowE, s0, s1, s5, c1, oab, oba, oaa, u0, u1, -vcells, -notTup, -blkOf, -oneC, -List.map_map]
abbrev rowsSh : Sh := .slice (.slice (.int .i64))
theorem rows_arg (d : rowsSh.D) : argT rowsSh d = immS ((asL (e := .slice (.int .i64)) d).map rowE) 1 := rfl
theorem rows_ok {d : rowsSh.D} (h : okS rowsSh d) : (asL (e := .slice (.int .i64)) d).length ≤ 140737488355328 ∧ ∀ r ∈ asL (e := .slice (.int .i64)) d, r.length ≤ 140737488355328 := by
  have ln : ∀ {e : Sh} {l : List e.D}, okS (.slice e) l → l.length ≤ 140737488355328 := fun {e l} h => by
    have := e.lo_le h.1
    simp only [reachBytes] at this
    exact Nat.le_trans this (by omega)
  exact ⟨ln (e := .slice (.int .i64)) h, fun r hr => ln (e := .int .i64) (h.2 r hr)⟩
theorem transitionMoved_law (m : Mem) (us : List Value) (h : AbsArgs m [rowsSh, rowsSh] us) : WPCall Tryz.prog 3 us m fun r _ => r = .bool true := by
  refine law_tv (fun ts ht => ?_) m us h
  cases ht with
  | @cons _ d _ vs ok hs =>
    cases hs with
    | @cons _ d' _ vs' ok' hs' =>
      cases hs'
      rw [rows_arg, rows_arg]
      exact transitionmoved_tp (rows_ok ok).1 (rows_ok ok').1 (rows_ok ok).2 (rows_ok ok').2
end Go.Proofs.YticjcminhkgabaaGreatDoor
