/-
  'limbs' and 'matrix' of the fleet's laws, over raw fractions.
-/
import Derived.Test.YtkpifdkccdndcaaGreatAwAC
namespace Go.Big
/-- a fraction as it is read: the limbs of both numbers -/
structure RawF where
  neg : Bool
  a : List Int
  b : List Int
def RawF.sz (x : RawF) : Nat := x.a.length + x.b.length
def RawF.fr (x : RawF) : Fr := ⟨x.neg, val x.a, val x.b⟩
/-- no list is larger than a machine can hold -/
def RawF.ok (x : RawF) : Prop := x.a.length ≤ 140737488355328 ∧ x.b.length ≤ 140737488355328
end Go.Big
namespace Go.Proofs.YtkpifdkccdndcaaGreat
open Go Go.DI Go.Big
set_option linter.unusedSimpArgs false
set_option linter.unusedVariables false
theorem Sl.subm {m m' : Mem} {v : Value} {l : List Int} (h : Sl m v l) (hs : Sub m m') : Sl m' v l := h.sub' hs
def rawRp : Rp RawF := ⟨3, fun m cs x => ∃ va vb, cs = [.bool x.neg, va, vb] ∧ Sl m va x.a ∧ Sl m vb x.b, fun _ _ _ ⟨_, _, h, _⟩ => by rw [h]; rfl,
  fun _ _ _ _ hs ⟨a, b, h, h1, h2⟩ => ⟨a, b, h, h1.subm hs, h2.subm hs⟩⟩
set_option maxHeartbeats 4000000 in
theorem limbs_loop {m : Mem} {v : Value} {xs : List RawF} (h : rawRp.S m v xs) (hb : ∀ x ∈ xs, x.ok) (hl : xs.length ≤ 140737488355328) {Q : IExit → Slots → Mem → Prop} : ∀ (r i N : Nat) (σ : Slots), i + r = xs.length → xs.length ≤ N → N ≤ 562949953421312 → (∀ j x, j < i → xs[j]? = some x → x.sz ≤ N) →
    σ 0 = v → σ 3 = I N → σ 4 = I i → (∀ σ' (N' : Nat), N' ≤ 562949953421312 → (N' ≤ 300 → xs.length ≤ 300 ∧ ∀ x ∈ xs, x.sz ≤ 300) → σ' 3 = I N' → Q (.exit 0) σ' m) → WP Tryz.prog (.loop ir6_l0) σ m Q := by
  intro r
  obtain ⟨k1, k2, k3, _⟩ := h.len
  have k3' : zqs 3 v = true := k3
  induction r with
  | zero =>
    intro i N σ hi hN hN2 hp s0 s3 s4 hQ
    refine wp_round fun J hJ => ?_
    have e : ¬ (i : Int) < xs.length := by omega
    simp (disch := first | omega | (simp only [zqp, zqq]; omega)) [ir6_l0, ir6_k1, ir6_k2, ir6_k3, ir6_k4, s0, s3, s4, k1, k2, e, zqa, zqb, zqc, zqd, zqe, zqf, zqg, zqh, zqi, zqj, zqk, u64b, u32b, zql, zqm, zqn, zqo, -zqu, -isSl, -zqs, -zqt, -zqv, -zqr]
    refine hQ _ N hN2 (fun h3 => ⟨by omega, fun x hx => ?_⟩) (by simp [s3])
    obtain ⟨j, hj⟩ := List.getElem?_of_mem hx
    have := (List.getElem?_eq_some_iff.1 hj).1
    exact Nat.le_trans (hp j x (by omega) hj) h3
  | succ r ih =>
    intro i N σ hi hN hN2 hp s0 s3 s4 hQ
    refine wp_round fun J hJ => ?_
    have e : (i : Int) < xs.length := by omega
    by_cases h4 : N < 400
    · have h4' : (N : Int) < 400 := by omega
      have hlt : i < xs.length := by omega
      have hx : xs[i]? = some xs[i] := List.getElem?_eq_getElem hlt
      obtain ⟨b, o, cs, w, q1, q2, q3, q4⟩ := h.at_ hx
      obtain ⟨va, vb, hrow, ha, hbv⟩ := q4
      have hcons : cs.drop o = .bool xs[i].neg :: va :: vb :: (cs.drop o).drop 3 := by
        have := List.take_append_drop 3 (cs.drop o)
        rw [show List.take 3 (cs.drop o) = [.bool xs[i].neg, va, vb] from hrow] at this
        exact this.symm
      have c1 : (cs.drop (o + 1)).take 1 = [va] := by rw [← List.drop_drop, hcons]; rfl
      have c2 : (cs.drop (o + 2)).take 1 = [vb] := by rw [← List.drop_drop, hcons]; rfl
      have q1' : zqt v 3 (i : Int) = .pointer (some ⟨b, o, none⟩) := q1
      have q3' : o + 3 ≤ cs.length := q3
      have d1 : o + 1 + 1 ≤ cs.length := by omega
      have d2 : o + 2 + 1 ≤ cs.length := by omega
      obtain ⟨a1, a2, a3⟩ := ha.len
      obtain ⟨b1, b2, b3⟩ := hbv.len
      have hok := hb _ (List.mem_of_getElem? hx)
      have w1 : IntKind.i64.wrap ((N : Int) + xs[i].a.length) = (N : Int) + xs[i].a.length := i64_id (by omega) (by have := hok.1; omega)
      have w2 : IntKind.i64.wrap ((N : Int) + xs[i].a.length + xs[i].b.length) = ((N + xs[i].sz : Nat) : Int) := by
        rw [i64_id (by omega) (by have := hok.1; have := hok.2; omega)]; simp [RawF.sz]; omega
      have w3 : IntKind.i64.wrap ((i : Int) + 1) = ((i + 1 : Nat) : Int) := by rw [i64_id (by omega) (by omega)]; rfl
      simp (disch := first | omega | (simp only [zqp, zqq]; omega)) [ir6_l0, ir6_k1, ir6_k2, ir6_k3, ir6_k4, s0, s3, s4, k1, k2, k3', e, h4', q1', q2, d1, d2, q3', c1, c2, a1, a2, b1, b2, w1, w2, w3, zqa, zqb, zqc, zqd, zqe, zqf, zqg, zqh, zqi, zqj, zqk, u64b, u32b, zql, zqm, zqn, zqo, -zqu, -isSl, -zqs, -zqt, -zqv, -zqr]
      refine hJ _ _ (ih (i + 1) (N + xs[i].sz) _ (by omega) (by omega) (by have := hok.1; have := hok.2; simp only [RawF.sz]; omega) (fun j x hj hx' => ?_) (by simp [s0]) (by simp) (by simp) hQ)
      by_cases hji : j = i
      · subst hji
        rw [hx] at hx'
        cases hx'
        omega
      · exact Nat.le_trans (hp j x (by omega) hx') (by omega)
    · have h4' : ¬ (N : Int) < 400 := by omega
      simp (disch := first | omega | (simp only [zqp, zqq]; omega)) [ir6_l0, ir6_k1, ir6_k2, ir6_k3, ir6_k4, s0, s3, s4, k1, k2, e, h4', zqa, zqb, zqc, zqd, zqe, zqf, zqg, zqh, zqi, zqj, zqk, u64b, u32b, zql, zqm, zqn, zqo, -zqu, -isSl, -zqs, -zqt, -zqv, -zqr]
      exact hQ _ N hN2 (fun h3 => by omega) (by simp [s3])
theorem limbs_wp {m : Mem} {v : Value} {xs : List RawF} (h : rawRp.S m v xs) (hb : ∀ x ∈ xs, x.ok) (hl : xs.length ≤ 140737488355328) {Φ : Value → Mem → Prop}
    (hQ : ∀ N : Nat, N ≤ 562949953421312 → (N ≤ 300 → xs.length ≤ 300 ∧ ∀ x ∈ xs, x.sz ≤ 300) → Φ (I N) m) : WPCall Tryz.prog 6 [v] m Φ := by
  rw [call6 (by simp)]
  obtain ⟨k1, k2, k3, _⟩ := h.len
  simp (disch := first | omega | (simp only [zqp, zqq]; omega)) [ir6_b, ir6_k1, ir6_k2, ir6_k3, ir6_k4, k1, k2, zqa, zqb, zqc, zqd, zqe, zqf, zqg, zqh, zqi, zqj, zqk, u64b, u32b, zql, zqm, zqn, zqo, -zqu, -isSl, -zqs, -zqt, -zqv, -zqr]
  refine limbs_loop h hb hl xs.length 0 xs.length _ (by omega) (by omega) (by omega) (fun j x hj => by omega) (by simp) (by simp) (by simp) fun σ' N' h1 h2 h3 => ?_
  simp (disch := first | omega | (simp only [zqp, zqq]; omega)) [h3, ir6_b, ir6_k1, ir6_k2, ir6_k3, ir6_k4, zqa, zqb, zqc, zqd, zqe, zqf, zqg, zqh, zqi, zqj, zqk, u64b, u32b, zql, zqm, zqn, zqo, -zqu, -isSl, -zqs, -zqt, -zqv, -zqr]
  exact hQ N' h1 h2
set_option maxHeartbeats 4000000 in
theorem matrix_loop {m : Mem} {v : Value} {rs : List (List RawF)} (h : rawRp.list.S m v rs) (hb : ∀ row ∈ rs, row.length ≤ 140737488355328 ∧ ∀ x ∈ row, x.ok) (hl : rs.length ≤ 140737488355328) {Q : IExit → Slots → Mem → Prop} : ∀ (r i N : Nat) (σ : Slots), i + r = rs.length → rs.length ≤ N → N ≤ 1125899906842624 → (N ≤ 300 → ∀ j row, j < i → rs[j]? = some row → row.length ≤ 300 ∧ ∀ x ∈ row, x.sz ≤ 300) →
    σ 0 = v → σ 3 = I N → σ 4 = I i → (∀ σ' (N' : Nat), N' ≤ 1125899906842624 → (N' ≤ 300 → rs.length ≤ 300 ∧ ∀ row ∈ rs, row.length ≤ 300 ∧ ∀ x ∈ row, x.sz ≤ 300) → σ' 3 = I N' → Q (.exit 0) σ' m) → WP Tryz.prog (.loop ir7_l0) σ m Q := by
  intro r
  obtain ⟨k1, k2, k3, _⟩ := h.len
  have k3' : zqs 1 v = true := k3
  induction r with
  | zero =>
    intro i N σ hi hN hN2 hp s0 s3 s4 hQ
    refine wp_round fun J hJ => ?_
    have e : ¬ (i : Int) < rs.length := by omega
    simp (disch := first | omega | (simp only [zqp, zqq]; omega)) [ir7_l0, ir7_k1, ir7_k2, ir7_k3, ir7_k4, s0, s3, s4, k1, k2, e, zqa, zqb, zqc, zqd, zqe, zqf, zqg, zqh, zqi, zqj, zqk, u64b, u32b, zql, zqm, zqn, zqo, -zqu, -isSl, -zqs, -zqt, -zqv, -zqr]
    refine hQ _ N hN2 (fun h3 => ⟨by omega, fun row hx => ?_⟩) (by simp [s3])
    obtain ⟨j, hj⟩ := List.getElem?_of_mem hx
    have := (List.getElem?_eq_some_iff.1 hj).1
    exact hp h3 j row (by omega) hj
  | succ r ih =>
    intro i N σ hi hN hN2 hp s0 s3 s4 hQ
    refine wp_round fun J hJ => ?_
    have e : (i : Int) < rs.length := by omega
    by_cases h4 : N < 400
    · have h4' : (N : Int) < 400 := by omega
      have hlt : i < rs.length := by omega
      have hx : rs[i]? = some rs[i] := List.getElem?_eq_getElem hlt
      obtain ⟨w, b1, b2, hrw⟩ := Rp.S.load1 rfl h (Sub.refl m) hx
      obtain ⟨pw', nw, cw, rfl⟩ := Rp.S.form hrw
      obtain ⟨hb1, hb2⟩ := hb _ (List.mem_of_getElem? hx)
      simp (disch := first | omega | (simp only [zqp, zqq]; omega)) [ir7_l0, ir7_k1, ir7_k2, ir7_k3, ir7_k4, s0, s3, s4, k1, k2, k3', e, h4', b1, b2, zqa, zqb, zqc, zqd, zqe, zqf, zqg, zqh, zqi, zqj, zqk, u64b, u32b, zql, zqm, zqn, zqo, -zqu, -isSl, -zqs, -zqt, -zqv, -zqr]
      refine limbs_wp hrw hb2 hb1 fun M hM hM3 => ?_
      have w2 : IntKind.i64.wrap ((N : Int) + M) = ((N + M : Nat) : Int) := by rw [i64_id (by omega) (by omega)]; rfl
      have w3 : IntKind.i64.wrap ((i : Int) + 1) = ((i + 1 : Nat) : Int) := by rw [i64_id (by omega) (by omega)]; rfl
      simp (disch := first | omega | (simp only [zqp, zqq]; omega)) [callK, keepOk, s4, w2, w3, zqa, zqb, zqc, zqd, zqe, zqf, zqg, zqh, zqi, zqj, zqk, u64b, u32b, zql, zqm, zqn, zqo, -zqu, -isSl, -zqs, -zqt, -zqv, -zqr]
      refine hJ _ _ (ih (i + 1) (N + M) _ (by omega) (by omega) (by omega) (fun h3 j row hj hx' => ?_) (by simp [s0]) (by simp) (by simp) hQ)
      by_cases hji : j = i
      · subst hji
        rw [hx] at hx'
        cases hx'
        exact hM3 (by omega)
      · exact hp (by omega) j row (by omega) hx'
    · have h4' : ¬ (N : Int) < 400 := by omega
      simp (disch := first | omega | (simp only [zqp, zqq]; omega)) [ir7_l0, ir7_k1, ir7_k2, ir7_k3, ir7_k4, s0, s3, s4, k1, k2, e, h4', zqa, zqb, zqc, zqd, zqe, zqf, zqg, zqh, zqi, zqj, zqk, u64b, u32b, zql, zqm, zqn, zqo, -zqu, -isSl, -zqs, -zqt, -zqv, -zqr]
      exact hQ _ N hN2 (fun h3 => by omega) (by simp [s3])
theorem matrix_wp {m : Mem} {v : Value} {rs : List (List RawF)} (h : rawRp.list.S m v rs) (hb : ∀ row ∈ rs, row.length ≤ 140737488355328 ∧ ∀ x ∈ row, x.ok) (hl : rs.length ≤ 140737488355328) {Φ : Value → Mem → Prop}
    (hQ : ∀ N : Nat, N ≤ 1125899906842624 → (N ≤ 300 → rs.length ≤ 300 ∧ ∀ row ∈ rs, row.length ≤ 300 ∧ ∀ x ∈ row, x.sz ≤ 300) → Φ (I N) m) : WPCall Tryz.prog 7 [v] m Φ := by
  rw [call7 (by simp)]
  obtain ⟨k1, k2, k3, _⟩ := h.len
  simp (disch := first | omega | (simp only [zqp, zqq]; omega)) [ir7_b, ir7_k1, ir7_k2, ir7_k3, ir7_k4, k1, k2, zqa, zqb, zqc, zqd, zqe, zqf, zqg, zqh, zqi, zqj, zqk, u64b, u32b, zql, zqm, zqn, zqo, -zqu, -isSl, -zqs, -zqt, -zqv, -zqr]
  refine matrix_loop h hb hl rs.length 0 rs.length _ (by omega) (by omega) (by omega) (fun _ j x hj => by omega) (by simp) (by simp) (by simp) fun σ' N' h1 h2 h3 => ?_
  simp (disch := first | omega | (simp only [zqp, zqq]; omega)) [h3, ir7_b, ir7_k1, ir7_k2, ir7_k3, ir7_k4, zqa, zqb, zqc, zqd, zqe, zqf, zqg, zqh, zqi, zqj, zqk, u64b, u32b, zql, zqm, zqn, zqo, -zqu, -isSl, -zqs, -zqt, -zqv, -zqr]
  exact hQ N' h1 h2
end Go.Proofs.YtkpifdkccdndcaaGreat
