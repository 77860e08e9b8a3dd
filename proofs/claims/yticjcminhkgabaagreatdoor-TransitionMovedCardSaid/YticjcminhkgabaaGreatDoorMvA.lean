/-
  'Moved' of the program and of the reference.
-/
import Derived.Test.YticjcminhkgabaaGreatDoorMvP
import Derived.Test.YticjcminhkgabaaGreatDoorIrT
namespace Go.Proofs.YticjcminhkgabaaGreatDoor
open Go Go.DI Go.Big
set_option linter.unusedSimpArgs false
set_option linter.unusedVariables false
set_option maxRecDepth 8000

abbrev I (n : Int) : Value := .int .i64 n
def rowE (r : List Int) : List Value := [immS (r.map fun x => [I x]) 1]

set_option maxHeartbeats 2000000 in
theorem mov_tp {a b : List (List Int)} (ha : a.length ≤ 50) (hr : ∀ r ∈ a, r.length ≤ 140737488355328) (hs : ∀ r ∈ b, r.length ≤ 140737488355328) : TPure Tryz.prog 11 [immS (a.map rowE) 1, immS (b.map rowE) 1] (I (movI a b)) := by
  refine tpure_of (body_sound (sp := ⟨[], []⟩) ir11_eq (by kernel_rfl) (by simp [ir11]) ?_)
  by_cases hl : a.length = b.length
  case neg =>
    have hu : movI a b = -1 := by unfold movI; rw [alike_len hl]; rfl
    have hl1 : ¬ (a.length : Int) = b.length := by omega
    simp (disch := first | omega | (simp only [zqp, zqq, next_putM]; omega)) [ir11, ir11_b, ir11_k1, ir11_k2, ir11_k3, ir11_k4, ir11_k5, ir11_k6, ir11_k7, ir11_k8, ir11_k9, ir11_k10, ir11_k11, hl1, hu, -vcells, -notTup, -blkOf, -oneC, -List.map_map]
  simp (disch := first | omega | (simp only [zqp, zqq, next_putM]; omega)) [ir11, ir11_b, ir11_k1, ir11_k2, ir11_k4, ir11_k5, ir11_k6, ir11_k7, ir11_k8, ir11_k9, ir11_k10, ir11_k11, hl, -vcells, -notTup, -blkOf, -oneC, -List.map_map]
  have hb : b.length ≤ 50 := by omega
  simp (disch := first | omega | (simp only [zqp, zqq, next_putM]; omega)) [ir11_k3, ir11_k1, ir11_k2, ir11_k4, ir11_k5, ir11_k6, ir11_k7, ir11_k8, ir11_k9, ir11_k10, ir11_k11, -vcells, -notTup, -blkOf, -oneC, -List.map_map]
  refine wpt_for (sp := ⟨[], []⟩) (fun i σ t => ∃ c : Nat, c = totN (a.take i) (b.take i) ∧ (∀ (j : Nat) r s, j < i → a[j]? = some r → b[j]? = some s → r.length = s.length) ∧ σ 0 = immS (a.map rowE) 1 ∧ σ 1 = immS (b.map rowE) 1 ∧ σ 5 = I c ∧ σ 15 = I i ∧ σ 14 = I a.length) a.length ?_ ?_ 0 _ _ (Nat.zero_le _) ⟨0, by simp [totN], fun j x y h => by omega, by simp [hl], by simp [hl], by simp [hl], by simp [hl], by simp [hl]⟩
  · rintro i σ t hi ⟨c, hc, hall, s0, s1, s5, s15, s14⟩ J hJ
    obtain ⟨r, hx⟩ : ∃ r, a[i]? = some r := ⟨_, List.getElem?_eq_getElem hi⟩
    obtain ⟨s, hy⟩ : ∃ s, b[i]? = some s := ⟨_, List.getElem?_eq_getElem (by omega)⟩
    have hxg : a[i] = r := (List.getElem?_eq_some_iff.1 hx).2
    have hyg : b[i]'(by omega) = s := (List.getElem?_eq_some_iff.1 hy).2
    have q0 : (i : Int) < b.length := by omega
    have q1 : (i : Int) < a.length := by omega
    have q2 : i < b.length := by omega
    have w0 : IntKind.i64.wrap ((i : Int) + 1) = (i : Int) + 1 := i64_id (by omega) (by omega)
    have hrl := hr r (List.mem_of_getElem? hx)
    have hsl := hs s (List.mem_of_getElem? hy)
    have hcb : c ≤ 50 * 140737488355328 := by
      have h1 := totN_le (a := a.take i) (b := b.take i) (M := 140737488355328) fun x hx => hr x (List.mem_of_mem_take hx)
      have h2 : (a.take i).length ≤ 50 := by rw [List.length_take]; omega
      have h3 := Nat.mul_le_mul_right 140737488355328 h2
      omega
    by_cases hrs : r.length = s.length
    case neg =>
      have hu : movI a b = -1 := by unfold movI; rw [alike_at hx hy hrs]; rfl
      have hrs1 : ¬ (r.length : Int) = s.length := by omega
      simp (disch := first | omega | (simp only [zqp, zqq, next_putM]; omega)) [ir11_l1, ir11_k1, ir11_k2, ir11_k3, ir11_k4, ir11_k5, ir11_k6, ir11_k7, ir11_k8, ir11_k9, ir11_k10, ir11_k11, rowE, s0, s1, s5, s15, s14, q0, q1, q2, hi, hx, hy, hxg, hyg, hrs1, hu, -vcells, -notTup, -blkOf, -oneC, -List.map_map]
    simp (disch := first | omega | (simp only [zqp, zqq, next_putM]; omega)) [ir11_l1, ir11_k1, ir11_k2, ir11_k3, ir11_k4, ir11_k5, ir11_k6, ir11_k8, ir11_k9, ir11_k10, ir11_k11, rowE, s0, s1, s5, s15, s14, q0, q1, q2, hi, hx, hy, hxg, hyg, hrs, -vcells, -notTup, -blkOf, -oneC, -List.map_map]
    simp (disch := first | omega | (simp only [zqp, zqq, next_putM]; omega)) [ir11_k7, ir11_k1, ir11_k2, ir11_k3, ir11_k4, ir11_k5, ir11_k6, ir11_k8, ir11_k9, ir11_k10, ir11_k11, rowE, s0, s1, s5, s15, s14, q0, q1, q2, hi, hx, hy, hxg, hyg, hrs, -vcells, -notTup, -blkOf, -oneC, -List.map_map]
    refine wpt_for (sp := ⟨[], []⟩) (fun j σ t => ∃ d : Nat, d = c + difN (r.take j) (s.take j) ∧ σ 0 = immS (a.map rowE) 1 ∧ σ 1 = immS (b.map rowE) 1 ∧ σ 5 = I d ∧ σ 6 = I i ∧ σ 34 = I j ∧ σ 33 = I r.length ∧ σ 15 = I i ∧ σ 14 = I a.length) r.length ?_ ?_ 0 _ _ (Nat.zero_le _) ⟨c, by simp [difN], by simp [s0, s1, s5, s15, s14, hrs], by simp [s0, s1, s5, s15, s14, hrs], by simp [s0, s1, s5, s15, s14, hrs], by simp [s0, s1, s5, s15, s14, hrs], by simp [s0, s1, s5, s15, s14, hrs], by simp [s0, s1, s5, s15, s14, hrs], by simp [s0, s1, s5, s15, s14, hrs], by simp [s0, s1, s5, s15, s14, hrs]⟩
    · rintro j σ t hj ⟨d, hd, s0, s1, s5, s6, s34, s33, s15, s14⟩ J hJ
      obtain ⟨x, ex⟩ : ∃ x, r[j]? = some x := ⟨_, List.getElem?_eq_getElem hj⟩
      obtain ⟨y, ey⟩ : ∃ y, s[j]? = some y := ⟨_, List.getElem?_eq_getElem (by omega)⟩
      have exg : r[j] = x := (List.getElem?_eq_some_iff.1 ex).2
      have eyg : s[j]'(by omega) = y := (List.getElem?_eq_some_iff.1 ey).2
      have p0 : (j : Int) < s.length := by omega
      have p1 : (j : Int) < r.length := by omega
      have p2 : j < s.length := by omega
      have hdb : d ≤ 51 * 140737488355328 := by
        have h1 := difN_le (a := r.take j) (b := s.take j)
        rw [List.length_take] at h1
        omega
      have v0 : IntKind.i64.wrap ((j : Int) + 1) = (j : Int) + 1 := i64_id (by omega) (by omega)
      have v1 : IntKind.i64.wrap ((d : Int) + 1) = (d : Int) + 1 := i64_id (by omega) (by omega)
      have hd2 := difN_take ex ey
      by_cases hxy : x = y
      · rw [if_pos hxy] at hd2
        simp (disch := first | omega | (simp only [zqp, zqq, next_putM]; omega)) [ir11_l0, ir11_k1, ir11_k2, ir11_k3, ir11_k4, ir11_k5, ir11_k6, ir11_k7, ir11_k8, ir11_k9, ir11_k10, ir11_k11, rowE, s0, s1, s5, s6, s34, s33, s15, s14, q0, q1, q2, hi, hx, hy, hxg, hyg, hrs, p0, p1, p2, hj, ex, ey, exg, eyg, v0, v1, hxy, -vcells, -notTup, -blkOf, -oneC, -List.map_map]
        exact hJ _ _ ⟨d, by omega, by simp [s0, s1, s5, s6, s34, s33, s15, s14, v0], by simp [s0, s1, s5, s6, s34, s33, s15, s14, v0], by simp [s0, s1, s5, s6, s34, s33, s15, s14, v0], by simp [s0, s1, s5, s6, s34, s33, s15, s14, v0], by simp [s0, s1, s5, s6, s34, s33, s15, s14, v0], by simp [s0, s1, s5, s6, s34, s33, s15, s14, v0], by simp [s0, s1, s5, s6, s34, s33, s15, s14, v0], by simp [s0, s1, s5, s6, s34, s33, s15, s14, v0]⟩
      · rw [if_neg hxy] at hd2
        simp (disch := first | omega | (simp only [zqp, zqq, next_putM]; omega)) [ir11_l0, ir11_k1, ir11_k2, ir11_k3, ir11_k4, ir11_k5, ir11_k6, ir11_k7, ir11_k8, ir11_k9, ir11_k10, ir11_k11, rowE, s0, s1, s5, s6, s34, s33, s15, s14, q0, q1, q2, hi, hx, hy, hxg, hyg, hrs, p0, p1, p2, hj, ex, ey, exg, eyg, v0, v1, hxy, -vcells, -notTup, -blkOf, -oneC, -List.map_map]
        exact hJ _ _ ⟨d + 1, by omega, by simp [s0, s1, s5, s6, s34, s33, s15, s14, v0], by simp [s0, s1, s5, s6, s34, s33, s15, s14, v0], by simp [s0, s1, s5, s6, s34, s33, s15, s14, v0], by simp [s0, s1, s5, s6, s34, s33, s15, s14, v0], by simp [s0, s1, s5, s6, s34, s33, s15, s14, v0], by simp [s0, s1, s5, s6, s34, s33, s15, s14, v0], by simp [s0, s1, s5, s6, s34, s33, s15, s14, v0], by simp [s0, s1, s5, s6, s34, s33, s15, s14, v0]⟩
    · rintro σ t ⟨d, hd, s0, s1, s5, s6, s34, s33, s15, s14⟩
      have hlt : ¬ (((r.length : Nat) : Int) < r.length) := by omega
      have hlt2 : ¬ (((s.length : Nat) : Int) < s.length) := by omega
      have hcd : d = totN (a.take (i + 1)) (b.take (i + 1)) := by
        rw [totN_take hx hy, hd, hc, List.take_length, hrs, List.take_length]
      simp (disch := first | omega | (simp only [zqp, zqq, next_putM]; omega)) [ir11_l0, ir11_k1, ir11_k2, ir11_k3, ir11_k4, ir11_k5, ir11_k6, ir11_k7, ir11_k8, ir11_k9, ir11_k10, ir11_k11, rowE, s0, s1, s5, s6, s34, s33, s15, s14, q0, q1, q2, hi, hx, hy, hxg, hyg, hrs, hlt, hlt2, w0, -vcells, -notTup, -blkOf, -oneC, -List.map_map]
      refine hJ _ _ ⟨d, hcd, ?_, by simp [s0, s1, s5, s6, s34, s33, s15, s14, w0], by simp [s0, s1, s5, s6, s34, s33, s15, s14, w0], by simp [s0, s1, s5, s6, s34, s33, s15, s14, w0], by simp [s0, s1, s5, s6, s34, s33, s15, s14, w0], by simp [s0, s1, s5, s6, s34, s33, s15, s14, w0]⟩
      intro j' r' s' hj' e1 e2
      by_cases e : j' = i
      · subst e; rw [hx] at e1; rw [hy] at e2; cases e1; cases e2; exact hrs
      · exact hall j' r' s' (by omega) e1 e2
  · rintro σ t ⟨c, hc, hall, s0, s1, s5, s15, s14⟩
    have hlt : ¬ (((b.length : Nat) : Int) < b.length) := by omega
    have hu : movI a b = c := by
      unfold movI
      rw [if_pos (alike_all hl fun i x y h1 h2 => hall i x y (List.getElem?_eq_some_iff.1 h1).1 h1 h2), hc, List.take_length, hl, List.take_length]
    simp (disch := first | omega | (simp only [zqp, zqq, next_putM]; omega)) [ir11_l1, ir11_k1, ir11_k2, ir11_k3, ir11_k4, ir11_k5, ir11_k6, ir11_k7, ir11_k8, ir11_k9, ir11_k10, ir11_k11, rowE, s0, s1, s5, s15, s14, hlt, hl, hu, -vcells, -notTup, -blkOf, -oneC, -List.map_map]


set_option maxHeartbeats 2000000 in
theorem rmov_tp {a b : List (List Int)} (ha : a.length ≤ 50) (hr : ∀ r ∈ a, r.length ≤ 140737488355328) (hs : ∀ r ∈ b, r.length ≤ 140737488355328) : TPure Tryz.prog 12 [immS (a.map rowE) 1, immS (b.map rowE) 1] (I (movI a b)) := by
  refine tpure_of (body_sound (sp := ⟨[], []⟩) ir12_eq (by kernel_rfl) (by simp [ir12]) ?_)
  by_cases hl : a.length = b.length
  case neg =>
    have hu : movI a b = -1 := by unfold movI; rw [alike_len hl]; rfl
    have hl1 : ¬ (a.length : Int) = b.length := by omega
    simp (disch := first | omega | (simp only [zqp, zqq, next_putM]; omega)) [ir12, ir12_b, ir12_k1, ir12_k2, ir12_k3, ir12_k4, ir12_k5, ir12_k6, ir12_k7, hl1, hu, -vcells, -notTup, -blkOf, -oneC, -List.map_map]
  simp (disch := first | omega | (simp only [zqp, zqq, next_putM]; omega)) [ir12, ir12_b, ir12_k1, ir12_k2, ir12_k4, ir12_k5, ir12_k6, ir12_k7, hl, -vcells, -notTup, -blkOf, -oneC, -List.map_map]
  have hb : b.length ≤ 50 := by omega
  simp (disch := first | omega | (simp only [zqp, zqq, next_putM]; omega)) [ir12_k3, ir12_k1, ir12_k2, ir12_k4, ir12_k5, ir12_k6, ir12_k7, -vcells, -notTup, -blkOf, -oneC, -List.map_map]
  refine wpt_for (sp := ⟨[], []⟩) (fun i σ t => ∃ c : Nat, c = totN (a.take i) (b.take i) ∧ (∀ (j : Nat) r s, j < i → a[j]? = some r → b[j]? = some s → r.length = s.length) ∧ σ 0 = immS (a.map rowE) 1 ∧ σ 1 = immS (b.map rowE) 1 ∧ σ 5 = I c ∧ σ 6 = I i) a.length ?_ ?_ 0 _ _ (Nat.zero_le _) ⟨0, by simp [totN], fun j x y h => by omega, by simp [hl], by simp [hl], by simp [hl], by simp [hl]⟩
  · rintro i σ t hi ⟨c, hc, hall, s0, s1, s5, s6⟩ J hJ
    obtain ⟨r, hx⟩ : ∃ r, a[i]? = some r := ⟨_, List.getElem?_eq_getElem hi⟩
    obtain ⟨s, hy⟩ : ∃ s, b[i]? = some s := ⟨_, List.getElem?_eq_getElem (by omega)⟩
    have hxg : a[i] = r := (List.getElem?_eq_some_iff.1 hx).2
    have hyg : b[i]'(by omega) = s := (List.getElem?_eq_some_iff.1 hy).2
    have q0 : (i : Int) < b.length := by omega
    have q1 : (i : Int) < a.length := by omega
    have q2 : i < b.length := by omega
    have w0 : IntKind.i64.wrap ((i : Int) + 1) = (i : Int) + 1 := i64_id (by omega) (by omega)
    have hrl := hr r (List.mem_of_getElem? hx)
    have hsl := hs s (List.mem_of_getElem? hy)
    have hcb : c ≤ 50 * 140737488355328 := by
      have h1 := totN_le (a := a.take i) (b := b.take i) (M := 140737488355328) fun x hx => hr x (List.mem_of_mem_take hx)
      have h2 : (a.take i).length ≤ 50 := by rw [List.length_take]; omega
      have h3 := Nat.mul_le_mul_right 140737488355328 h2
      omega
    by_cases hrs : r.length = s.length
    case neg =>
      have hu : movI a b = -1 := by unfold movI; rw [alike_at hx hy hrs]; rfl
      have hrs1 : ¬ (r.length : Int) = s.length := by omega
      simp (disch := first | omega | (simp only [zqp, zqq, next_putM]; omega)) [ir12_l1, ir12_k1, ir12_k2, ir12_k3, ir12_k4, ir12_k5, ir12_k6, ir12_k7, rowE, s0, s1, s5, s6, q0, q1, q2, hi, hx, hy, hxg, hyg, hrs1, hu, -vcells, -notTup, -blkOf, -oneC, -List.map_map]
    simp (disch := first | omega | (simp only [zqp, zqq, next_putM]; omega)) [ir12_l1, ir12_k1, ir12_k2, ir12_k3, ir12_k4, ir12_k6, ir12_k7, rowE, s0, s1, s5, s6, q0, q1, q2, hi, hx, hy, hxg, hyg, hrs, -vcells, -notTup, -blkOf, -oneC, -List.map_map]
    simp (disch := first | omega | (simp only [zqp, zqq, next_putM]; omega)) [ir12_k5, ir12_k1, ir12_k2, ir12_k3, ir12_k4, ir12_k6, ir12_k7, rowE, s0, s1, s5, s6, q0, q1, q2, hi, hx, hy, hxg, hyg, hrs, -vcells, -notTup, -blkOf, -oneC, -List.map_map]
    refine wpt_for (sp := ⟨[], []⟩) (fun j σ t => ∃ d : Nat, d = c + difN (r.take j) (s.take j) ∧ σ 0 = immS (a.map rowE) 1 ∧ σ 1 = immS (b.map rowE) 1 ∧ σ 5 = I d ∧ σ 6 = I i ∧ σ 7 = I j) r.length ?_ ?_ 0 _ _ (Nat.zero_le _) ⟨c, by simp [difN], by simp [s0, s1, s5, s6, hrs], by simp [s0, s1, s5, s6, hrs], by simp [s0, s1, s5, s6, hrs], by simp [s0, s1, s5, s6, hrs], by simp [s0, s1, s5, s6, hrs]⟩
    · rintro j σ t hj ⟨d, hd, s0, s1, s5, s6, s7⟩ J hJ
      obtain ⟨x, ex⟩ : ∃ x, r[j]? = some x := ⟨_, List.getElem?_eq_getElem hj⟩
      obtain ⟨y, ey⟩ : ∃ y, s[j]? = some y := ⟨_, List.getElem?_eq_getElem (by omega)⟩
      have exg : r[j] = x := (List.getElem?_eq_some_iff.1 ex).2
      have eyg : s[j]'(by omega) = y := (List.getElem?_eq_some_iff.1 ey).2
      have p0 : (j : Int) < s.length := by omega
      have p1 : (j : Int) < r.length := by omega
      have p2 : j < s.length := by omega
      have hdb : d ≤ 51 * 140737488355328 := by
        have h1 := difN_le (a := r.take j) (b := s.take j)
        rw [List.length_take] at h1
        omega
      have v0 : IntKind.i64.wrap ((j : Int) + 1) = (j : Int) + 1 := i64_id (by omega) (by omega)
      have v1 : IntKind.i64.wrap ((d : Int) + 1) = (d : Int) + 1 := i64_id (by omega) (by omega)
      have hd2 := difN_take ex ey
      by_cases hxy : x = y
      · rw [if_pos hxy] at hd2
        simp (disch := first | omega | (simp only [zqp, zqq, next_putM]; omega)) [ir12_l0, ir12_k1, ir12_k2, ir12_k3, ir12_k4, ir12_k5, ir12_k6, ir12_k7, rowE, s0, s1, s5, s6, s7, q0, q1, q2, hi, hx, hy, hxg, hyg, hrs, p0, p1, p2, hj, ex, ey, exg, eyg, v0, v1, hxy, -vcells, -notTup, -blkOf, -oneC, -List.map_map]
        exact hJ _ _ ⟨d, by omega, by simp [s0, s1, s5, s6, s7, v0], by simp [s0, s1, s5, s6, s7, v0], by simp [s0, s1, s5, s6, s7, v0], by simp [s0, s1, s5, s6, s7, v0], by simp [s0, s1, s5, s6, s7, v0]⟩
      · rw [if_neg hxy] at hd2
        simp (disch := first | omega | (simp only [zqp, zqq, next_putM]; omega)) [ir12_l0, ir12_k1, ir12_k2, ir12_k3, ir12_k4, ir12_k5, ir12_k6, ir12_k7, rowE, s0, s1, s5, s6, s7, q0, q1, q2, hi, hx, hy, hxg, hyg, hrs, p0, p1, p2, hj, ex, ey, exg, eyg, v0, v1, hxy, -vcells, -notTup, -blkOf, -oneC, -List.map_map]
        exact hJ _ _ ⟨d + 1, by omega, by simp [s0, s1, s5, s6, s7, v0], by simp [s0, s1, s5, s6, s7, v0], by simp [s0, s1, s5, s6, s7, v0], by simp [s0, s1, s5, s6, s7, v0], by simp [s0, s1, s5, s6, s7, v0]⟩
    · rintro σ t ⟨d, hd, s0, s1, s5, s6, s7⟩
      have hlt : ¬ (((r.length : Nat) : Int) < r.length) := by omega
      have hlt2 : ¬ (((s.length : Nat) : Int) < s.length) := by omega
      have hcd : d = totN (a.take (i + 1)) (b.take (i + 1)) := by
        rw [totN_take hx hy, hd, hc, List.take_length, hrs, List.take_length]
      simp (disch := first | omega | (simp only [zqp, zqq, next_putM]; omega)) [ir12_l0, ir12_k1, ir12_k2, ir12_k3, ir12_k4, ir12_k5, ir12_k6, ir12_k7, rowE, s0, s1, s5, s6, s7, q0, q1, q2, hi, hx, hy, hxg, hyg, hrs, hlt, hlt2, w0, -vcells, -notTup, -blkOf, -oneC, -List.map_map]
      refine hJ _ _ ⟨d, hcd, ?_, by simp [s0, s1, s5, s6, s7, w0], by simp [s0, s1, s5, s6, s7, w0], by simp [s0, s1, s5, s6, s7, w0], by simp [s0, s1, s5, s6, s7, w0]⟩
      intro j' r' s' hj' e1 e2
      by_cases e : j' = i
      · subst e; rw [hx] at e1; rw [hy] at e2; cases e1; cases e2; exact hrs
      · exact hall j' r' s' (by omega) e1 e2
  · rintro σ t ⟨c, hc, hall, s0, s1, s5, s6⟩
    have hlt : ¬ (((b.length : Nat) : Int) < b.length) := by omega
    have hu : movI a b = c := by
      unfold movI
      rw [if_pos (alike_all hl fun i x y h1 h2 => hall i x y (List.getElem?_eq_some_iff.1 h1).1 h1 h2), hc, List.take_length, hl, List.take_length]
    simp (disch := first | omega | (simp only [zqp, zqq, next_putM]; omega)) [ir12_l1, ir12_k1, ir12_k2, ir12_k3, ir12_k4, ir12_k5, ir12_k6, ir12_k7, rowE, s0, s1, s5, s6, hlt, hl, hu, -vcells, -notTup, -blkOf, -oneC, -List.map_map]

end Go.Proofs.YticjcminhkgabaaGreatDoor
