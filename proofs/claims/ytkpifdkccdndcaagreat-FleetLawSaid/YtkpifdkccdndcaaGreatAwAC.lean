/-
  The program's compiler of fleets at the two sources of 'awake'.
  The program's compiler of fleets at the second source of 'awake'.
  'Validate' at the two fleets of 'awake', and 'awake'.
-/
import Derived.Test.YtkpifdkccdndcaaGreatCpA
import Derived.Test.YtkpifdkccdndcaaGreatFlGI
import Derived.Test.YtkpifdkccdndcaaGreatIrW
namespace Go.Proofs.YtkpifdkccdndcaaGreat
open Go Go.DI Go.Big
set_option linter.unusedSimpArgs false
set_option linter.unusedVariables false
theorem eachSourceLaw_nil {m : Mem} {p f : Value} (Φ : Value → Mem → Prop) : WPCall Tryz.prog 37 [p, .slice none 0 0, f] m Φ = Φ (.tuple #[]) m := by
  refine (Ret.of_wp ?_).wp
  rw [call37 (by simp)]
  simp (disch := first | omega | (simp only [zqp, zqq]; omega)) [ir37_b, ir37_k1, ir37_k2, ir37_k3, zqa, zqb, zqc, zqd, zqe, zqf, zqg, zqh, zqi, zqj, zqk, u64b, u32b, zql, zqm, zqn, zqo, -zqu, -isSl, -zqs, -zqt, -zqv, -zqr]
  refine wp_round fun J hJ => ?_
  simp (disch := first | omega | (simp only [zqp, zqq]; omega)) [ir37_l0, ir37_k1, ir37_k2, ir37_k3, ir37_b, ir37_k1, ir37_k2, ir37_k3, zqa, zqb, zqc, zqd, zqe, zqf, zqg, zqh, zqi, zqj, zqk, u64b, u32b, zql, zqm, zqn, zqo, -zqu, -isSl, -zqs, -zqt, -zqv, -zqr]
theorem eachSourceModel_nil {m : Mem} {p f : Value} (Φ : Value → Mem → Prop) : WPCall Tryz.prog 39 [p, .slice none 0 0, f] m Φ = Φ (.tuple #[]) m := by
  refine (Ret.of_wp ?_).wp
  rw [call39 (by simp)]
  simp (disch := first | omega | (simp only [zqp, zqq]; omega)) [ir39_b, ir39_k1, ir39_k2, ir39_k3, zqa, zqb, zqc, zqd, zqe, zqf, zqg, zqh, zqi, zqj, zqk, u64b, u32b, zql, zqm, zqn, zqo, -zqu, -isSl, -zqs, -zqt, -zqv, -zqr]
  refine wp_round fun J hJ => ?_
  simp (disch := first | omega | (simp only [zqp, zqq]; omega)) [ir39_l0, ir39_k1, ir39_k2, ir39_k3, ir39_b, ir39_k1, ir39_k2, ir39_k3, zqa, zqb, zqc, zqd, zqe, zqf, zqg, zqh, zqi, zqj, zqk, u64b, u32b, zql, zqm, zqn, zqo, -zqu, -isSl, -zqs, -zqt, -zqv, -zqr]
theorem eachSourceNode_nil {m : Mem} {p f : Value} (Φ : Value → Mem → Prop) : WPCall Tryz.prog 41 [p, .slice none 0 0, f] m Φ = Φ (.tuple #[]) m := by
  refine (Ret.of_wp ?_).wp
  rw [call41 (by simp)]
  simp (disch := first | omega | (simp only [zqp, zqq]; omega)) [ir41_b, ir41_k1, ir41_k2, ir41_k3, zqa, zqb, zqc, zqd, zqe, zqf, zqg, zqh, zqi, zqj, zqk, u64b, u32b, zql, zqm, zqn, zqo, -zqu, -isSl, -zqs, -zqt, -zqv, -zqr]
  refine wp_round fun J hJ => ?_
  simp (disch := first | omega | (simp only [zqp, zqq]; omega)) [ir41_l0, ir41_k1, ir41_k2, ir41_k3, ir41_b, ir41_k1, ir41_k2, ir41_k3, zqa, zqb, zqc, zqd, zqe, zqf, zqg, zqh, zqi, zqj, zqk, u64b, u32b, zql, zqm, zqn, zqo, -zqu, -isSl, -zqs, -zqt, -zqv, -zqr]
theorem eachSourcePolicy_nil {m : Mem} {p f : Value} (Φ : Value → Mem → Prop) : WPCall Tryz.prog 43 [p, .slice none 0 0, f] m Φ = Φ (.tuple #[]) m := by
  refine (Ret.of_wp ?_).wp
  rw [call43 (by simp)]
  simp (disch := first | omega | (simp only [zqp, zqq]; omega)) [ir43_b, ir43_k1, ir43_k2, ir43_k3, zqa, zqb, zqc, zqd, zqe, zqf, zqg, zqh, zqi, zqj, zqk, u64b, u32b, zql, zqm, zqn, zqo, -zqu, -isSl, -zqs, -zqt, -zqv, -zqr]
  refine wp_round fun J hJ => ?_
  simp (disch := first | omega | (simp only [zqp, zqq]; omega)) [ir43_l0, ir43_k1, ir43_k2, ir43_k3, ir43_b, ir43_k1, ir43_k2, ir43_k3, zqa, zqb, zqc, zqd, zqe, zqf, zqg, zqh, zqi, zqj, zqk, u64b, u32b, zql, zqm, zqn, zqo, -zqu, -isSl, -zqs, -zqt, -zqv, -zqr]
theorem eachSourceVolume_nil {m : Mem} {p f : Value} (Φ : Value → Mem → Prop) : WPCall Tryz.prog 45 [p, .slice none 0 0, f] m Φ = Φ (.tuple #[]) m := by
  refine (Ret.of_wp ?_).wp
  rw [call45 (by simp)]
  simp (disch := first | omega | (simp only [zqp, zqq]; omega)) [ir45_b, ir45_k1, ir45_k2, ir45_k3, zqa, zqb, zqc, zqd, zqe, zqf, zqg, zqh, zqi, zqj, zqk, u64b, u32b, zql, zqm, zqn, zqo, -zqu, -isSl, -zqs, -zqt, -zqv, -zqr]
  refine wp_round fun J hJ => ?_
  simp (disch := first | omega | (simp only [zqp, zqq]; omega)) [ir45_l0, ir45_k1, ir45_k2, ir45_k3, ir45_b, ir45_k1, ir45_k2, ir45_k3, zqa, zqb, zqc, zqd, zqe, zqf, zqg, zqh, zqi, zqj, zqk, u64b, u32b, zql, zqm, zqn, zqo, -zqu, -isSl, -zqs, -zqt, -zqv, -zqr]
theorem sizes_nil {m : Mem} {e : Int} {b : Nat} {v : Value} (hv : v = .slice none 0 0 ∨ v = .slice (some ⟨b, 0, none⟩) 1 6) : WPCall Tryz.prog 36 [.agg #[I e, .slice none 0 0, v, .slice none 0 0, .slice none 0 0, .slice none 0 0]] m fun r m' => Old m m' ∧ r = .bool true := by
  rw [call36 (by simp)]
  rcases hv with rfl | rfl <;>
  · simp (disch := first | omega | (simp only [zqp, zqq]; omega)) [ir36_b, ir36_k1, ir36_k2, ir36_k3, ir36_k4, zqa, zqb, zqc, zqd, zqe, zqf, zqg, zqh, zqi, zqj, zqk, u64b, u32b, zql, zqm, zqn, zqo, -zqu, -isSl, -zqs, -zqt, -zqv, -zqr]
    refine wp_round fun J hJ => ?_
    simp (disch := first | omega | (simp only [zqp, zqq]; omega)) [ir36_l0, ir36_k1, ir36_k2, ir36_k3, ir36_k4, ir36_b, ir36_k1, ir36_k2, ir36_k3, ir36_k4, zqn, zqa, zqb, zqc, zqd, zqe, zqf, zqg, zqh, zqi, zqj, zqk, u64b, u32b, zql, zqm, zqn, zqo, -zqu, -isSl, -zqs, -zqt, -zqv, -zqr]
    simp (disch := first | omega | (simp only [zqp, zqq]; omega)) [ir36_k5, ir36_k1, ir36_k2, ir36_k3, ir36_k4, zqa, zqb, zqc, zqd, zqe, zqf, zqg, zqh, zqi, zqj, zqk, u64b, u32b, zql, zqm, zqn, zqo, -zqu, -isSl, -zqs, -zqt, -zqv, -zqr]
    exact ((Old.refl m).bump _).put (Nat.le_refl _)
theorem cut_part (m : Mem) (l : List Nat) : Part (Mem.cut m l) m := ⟨rfl, rfl, fun b x hb => by
  by_cases h : b ∈ l
  · rw [cut_in h] at hb; cases hb
  · rw [cut_out h] at hb; exact hb⟩
theorem getM_eq {m m' : Mem} {b : Nat} (h : m'.get b = m.get b) (h2 : m'.mp b = m.mp b) : m'.getM b = m.getM b := by unfold Mem.getM; rw [h, h2]
theorem call_keep {P : Program} {f : Nat} {args : List Value} {Φ : Value → Mem → Prop} {fr m : Mem} (hp : Part fr m) (h : WPCall P f args fr Φ) (ho : ∀ r p, Φ r p → Old fr p) :
    WPCall P f args m fun r m' => ∃ fr', Φ r fr' ∧ Part fr' m' ∧ Old m m' ∧ Sub fr fr' ∧ ∀ b, b < m.next → fr.get b = none → fr'.get b = none ∧ m'.getM b = m.getM b := by
  refine (WPCall.frame hp h).mono fun r m' hq => ?_
  obtain ⟨fr', hr, R⟩ := hq
  have o := ho _ _ hr
  refine ⟨fr', hr, R.part, ⟨R.next, fun b hb => ?_⟩, Sub.of_old o, fun b hb hn => ⟨(R.out b hb hn).2.1, getM_eq (R.out b hb hn).1 (R.out b hb hn).2.2⟩⟩
  cases hg : fr.get b with
  | none => exact (R.out b hb hg).1
  | some x => rw [R.part.get _ _ (o.some hg), hp.get _ _ hg]
theorem OldB.putM {m m' : Mem} (h : Old m m') {i : Nat} {es : List (Value × Value)} (hi : m.next ≤ i) : Old m (m'.putM i es) := ⟨h.next, fun b hb => by rw [get_putM_ne (by omega), h.get b hb]⟩
theorem zqp' {m : Mem} {b : Nat} {x : Option Blk} : (m.put b x).next = m.next := rfl
set_option maxHeartbeats 4000000 in
theorem compile_start {m : Mem} {ext : Int} {v1 v2 v3 v4 v5 : Value} {Φ : Value → Mem → Prop} (h0 : 1 = 1)
    (hQ : ∀ σ' m' fr z o b, σ' 1 = ptr m.next → σ' 2 = ptr (m.next + 1) → σ' 4 = ptr (m.next + 3) → σ' 5 = ptr (m.next + 4 + 6) → Old m m' → m.next + 12 ≤ m'.next → m.next + 12 ≤ b →
      m'.get m.next = some ⟨[I ext, v1, v2, v3, v4, v5], true⟩ → m'.get (m.next + 1) = some ⟨[I 0, .slice none 0 0, .slice none 0 0, .slice none 0 0, .slice none 0 0, .slice none 0 0, .slice none 0 0], true⟩ →
      m'.get (m.next + 3) = some ⟨[I 0, I 0], true⟩ → (∀ j, j < 5 → m'.getM (m.next + 4 + j) = some []) →
      m'.get (m.next + 4 + 6) = some ⟨[I ext, .slice none 0 0, .slice none 0 0, .slice (some ⟨b, 0, none⟩) 1 7, .slice none 0 0, .slice none 0 0, .slice none 0 0, .map (some (m.next + 4)), .map (some (m.next + 4 + 1)), .map (some (m.next + 4 + 2)), .map (some (m.next + 4 + 3)), .map (some (m.next + 4 + 4)), I 0, I (-1), I (-1), I (-1), I (-1), I 0, I 0, I 0], true⟩ →
      m'.get b = some ⟨[.string ⟨#[]⟩, I 0, I (-1), I 0, .bool false, z, o], true⟩ → Part fr m' → (∀ i, m.next ≤ i → i < m.next + 12 → fr.get i = none) → fr.get b = none → Sl fr z (digs 0) → Sl fr o (digs 1) →
      WP Tryz.prog ir11_k5 σ' m' (retK [.cell 2 true 7, .tmp 3, .cell 4 true 2] Φ)) :
    WPCall Tryz.prog 11 [.agg #[I ext, v1, v2, v3, v4, v5]] m Φ := by
  rw [call11 (by simp)]
  simp (disch := first | omega | (simp only [zqp, zqq]; omega)) [ir11_b, ir11_k1, ir11_k3, ir11_k4, ir11_k5, ir11_k6, ir11_k7, ir11_k8, ir11_k9, ir11_k10, zqa, zqb, zqc, zqd, zqe, zqf, zqg, zqh, zqi, zqj, zqk, u64b, u32b, zql, zqm, zqn, zqo, -zqu, -isSl, -zqs, -zqt, -zqv, -zqr]
  obtain ⟨M, hM⟩ : ∃ M, M = ((((((((((m.bump 4).put m.next (some ⟨[I ext, v1, v2, v3, v4, v5], true⟩)).put (m.next + 1) (some ⟨[I 0, .slice none 0 0, .slice none 0 0, .slice none 0 0, .slice none 0 0, .slice none 0 0, .slice none 0 0], true⟩)).put (m.next + 3) (some ⟨[I 0, I 0], true⟩)).bump 8).putM (m.next + 4) []).putM (m.next + 4 + 1) []).putM (m.next + 4 + 2) []).putM (m.next + 4 + 3) []).putM (m.next + 4 + 4) []).put (m.next + 4 + 6)
    (some ⟨[I 0, .slice none 0 0, .slice none 0 0, .slice none 0 0, .slice none 0 0, .slice none 0 0, .slice none 0 0, .map (some (m.next + 4)), .map (some (m.next + 4 + 1)), .map (some (m.next + 4 + 2)), .map (some (m.next + 4 + 3)), .map (some (m.next + 4 + 4)), I 0, I 0, I 0, I 0, I 0, I 0, I 0, I 0], true⟩) := ⟨_, rfl⟩
  rw [← hM]
  have hn : M.next = m.next + 12 := by rw [hM]; rfl
  have g0 : M.get m.next = some ⟨[I ext, v1, v2, v3, v4, v5], true⟩ := by
    rw [hM, zqm (by omega), get_putM_ne (by omega), get_putM_ne (by omega), get_putM_ne (by omega), get_putM_ne (by omega), get_putM_ne (by omega), zqn (by simp), zqm (by omega), zqm (by omega), zql (by simp)]
  have g1 : M.get (m.next + 1) = some ⟨[I 0, .slice none 0 0, .slice none 0 0, .slice none 0 0, .slice none 0 0, .slice none 0 0, .slice none 0 0], true⟩ := by
    rw [hM, zqm (by omega), get_putM_ne (by omega), get_putM_ne (by omega), get_putM_ne (by omega), get_putM_ne (by omega), get_putM_ne (by omega), zqn (by simp), zqm (by omega), zql (by simp)]
  have g3 : M.get (m.next + 3) = some ⟨[I 0, I 0], true⟩ := by
    rw [hM, zqm (by omega), get_putM_ne (by omega), get_putM_ne (by omega), get_putM_ne (by omega), get_putM_ne (by omega), get_putM_ne (by omega), zqn (by simp), zql (by simp)]
  have gc : M.get (m.next + 4 + 6) = some ⟨[I 0, .slice none 0 0, .slice none 0 0, .slice none 0 0, .slice none 0 0, .slice none 0 0, .slice none 0 0, .map (some (m.next + 4)), .map (some (m.next + 4 + 1)), .map (some (m.next + 4 + 2)), .map (some (m.next + 4 + 3)), .map (some (m.next + 4 + 4)), I 0, I 0, I 0, I 0, I 0, I 0, I 0, I 0], true⟩ := by
    rw [hM, zql (by simp)]
  have gm : ∀ j, j < 5 → M.getM (m.next + 4 + j) = some [] := by
    intro j hj
    rw [hM, getM_put_ne (by omega)]
    rcases (by omega : j = 0 ∨ j = 1 ∨ j = 2 ∨ j = 3 ∨ j = 4) with rfl | rfl | rfl | rfl | rfl
    · rw [getM_putM_ne (by omega), getM_putM_ne (by omega), getM_putM_ne (by omega), getM_putM_ne (by omega)]; exact getM_putM_self (by simp)
    · rw [getM_putM_ne (by omega), getM_putM_ne (by omega), getM_putM_ne (by omega), getM_putM_self (by simp)]
    · rw [getM_putM_ne (by omega), getM_putM_ne (by omega), getM_putM_self (by simp)]
    · rw [getM_putM_ne (by omega), getM_putM_self (by simp)]
    · rw [getM_putM_self (by simp)]
  have om : Old m M := by
    rw [hM]
    exact (OldB.putM (OldB.putM (OldB.putM (OldB.putM (OldB.putM ((((((Old.refl m).bump 4).put (i := m.next) (by omega)).put (i := m.next + 1) (by omega)).put (i := m.next + 3) (by omega)).bump 8) (i := m.next + 4) (by omega)) (i := m.next + 4 + 1) (by omega)) (i := m.next + 4 + 2) (by omega)) (i := m.next + 4 + 3) (by omega)) (i := m.next + 4 + 4) (by omega)).put (i := m.next + 4 + 6) (by omega)
  clear hM
  simp (disch := first | omega | (simp only [zqp, zqq]; omega)) [ir11_k2, ir11_k1, ir11_k3, ir11_k5, ir11_k6, ir11_k7, ir11_k8, ir11_k9, ir11_k10, gc, g0, hn, zqa, zqb, zqc, zqd, zqe, zqf, zqg, zqh, zqi, zqj, zqk, u64b, u32b, zql, zqm, zqn, zqo, -zqu, -isSl, -zqs, -zqt, -zqv, -zqr]
  obtain ⟨N, hN⟩ : ∃ N, N = M.put (m.next + 4 + 6) (some ⟨[I ext, .slice none 0 0, .slice none 0 0, .slice none 0 0, .slice none 0 0, .slice none 0 0, .slice none 0 0, .map (some (m.next + 4)), .map (some (m.next + 4 + 1)), .map (some (m.next + 4 + 2)), .map (some (m.next + 4 + 3)), .map (some (m.next + 4 + 4)), I 0, I (-1), I (-1), I (-1), I (-1), I 0, I 0, I 0], true⟩) := ⟨_, rfl⟩
  rw [← hN]
  have oN : Old m N := by rw [hN]; exact om.put (by omega)
  have n0 : N.get m.next = some ⟨[I ext, v1, v2, v3, v4, v5], true⟩ := by rw [hN, zqm (by omega), g0]
  have n1 : N.get (m.next + 1) = some ⟨[I 0, .slice none 0 0, .slice none 0 0, .slice none 0 0, .slice none 0 0, .slice none 0 0, .slice none 0 0], true⟩ := by rw [hN, zqm (by omega), g1]
  have n3 : N.get (m.next + 3) = some ⟨[I 0, I 0], true⟩ := by rw [hN, zqm (by omega), g3]
  have nm : ∀ j, j < 5 → N.getM (m.next + 4 + j) = some [] := fun j hj => by rw [hN, getM_put_ne (by omega), gm j hj]
  have nc : N.get (m.next + 4 + 6) = some ⟨[I ext, .slice none 0 0, .slice none 0 0, .slice none 0 0, .slice none 0 0, .slice none 0 0, .slice none 0 0, .map (some (m.next + 4)), .map (some (m.next + 4 + 1)), .map (some (m.next + 4 + 2)), .map (some (m.next + 4 + 3)), .map (some (m.next + 4 + 4)), I 0, I (-1), I (-1), I (-1), I (-1), I 0, I 0, I 0], true⟩ := by rw [hN, zql (by omega)]
  have nn : N.next = m.next + 12 := by rw [hN]; exact hn
  simp (disch := first | omega | (simp only [zqp, zqq]; omega)) [ir11_k4, ir11_k1, ir11_k2, ir11_k3, ir11_k6, ir11_k7, ir11_k8, ir11_k9, ir11_k10, zqa, zqb, zqc, zqd, zqe, zqf, zqg, zqh, zqi, zqj, zqk, u64b, u32b, zql, zqm, zqn, zqo, -zqu, -isSl, -zqs, -zqt, -zqv, -zqr]
  have ml : ∀ i, m.next ≤ i → i < m.next + 12 → i ∈ (List.range 12).map (m.next + ·) := fun i h1 h2 => by
    rw [List.mem_map]; exact ⟨i - m.next, List.mem_range.mpr (by omega), by omega⟩
  have f0 : ∀ i, m.next ≤ i → i < m.next + 12 → (Mem.cut (N.bump 10) ((List.range 12).map (m.next + ·))).get i = none := fun i h1 h2 => cut_in (ml i h1 h2)
  have f0b : (Mem.cut (N.bump 10) ((List.range 12).map (m.next + ·))).get (N.next + 5) = none := by
    rw [cut_out (by simp; omega), Mem.zqn, get_none (by omega)]
  refine (call_keep (cut_part (N.bump 10) ((List.range 12).map (m.next + ·))) (make_wp (n := 0) (by omega) (by omega)) (fun r p h => h.1)).mono fun z p1 hp1 => ?_
  obtain ⟨f1, ⟨_, hz⟩, pt1, o1, s1, q1⟩ := hp1
  have x1 := o1.next
  simp only [zqq] at x1
  obtain ⟨zp, zn, zc, rfl⟩ := hz.form
  simp (disch := first | omega | (simp only [zqp, zqq]; omega)) [zqa, zqb, zqc, zqd, zqe, zqf, zqg, zqh, zqi, zqj, zqk, u64b, u32b, zql, zqm, zqn, zqo, -zqu, -isSl, -zqs, -zqt, -zqv, -zqr]
  refine (call_keep pt1 (make_wp (n := 1) (by omega) (by omega)) (fun r p h => h.1)).mono fun o p2 hp2 => ?_
  obtain ⟨f2, ⟨_, ho⟩, pt2, o2, s2, q2⟩ := hp2
  have x2 := o2.next
  obtain ⟨op, on, oc, rfl⟩ := ho.form
  have oo : Old N p2 := (((Old.refl N).bump 10).trans o1).trans o2
  have b5 : N.next + 5 ≠ m.next + 4 + 6 := by omega
  have lt5 : N.next + 5 < p2.next := by omega
  have cc := oo.some nc
  simp (disch := first | omega | (simp only [zqp, zqq]; omega)) [cc, b5, zqa, zqb, zqc, zqd, zqe, zqf, zqg, zqh, zqi, zqj, zqk, u64b, u32b, zql, zqm, zqn, zqo, -zqu, -isSl, -zqs, -zqt, -zqv, -zqr]
  obtain ⟨L, hL⟩ : ∃ L, L = ((p2.put (N.next + 5) (some ⟨[.string ⟨#[]⟩, I 0, I (-1), I 0, .bool false, .slice zp zn zc, .slice op on oc], true⟩)).put (m.next + 4 + 6) (some ⟨[I ext, .slice none 0 0, .slice none 0 0, .slice (some ⟨N.next + 5, 0, none⟩) 1 7, .slice none 0 0, .slice none 0 0, .slice none 0 0, .map (some (m.next + 4)), .map (some (m.next + 4 + 1)), .map (some (m.next + 4 + 2)), .map (some (m.next + 4 + 3)), .map (some (m.next + 4 + 4)), I 0, I (-1), I (-1), I (-1), I (-1), I 0, I 0, I 0], true⟩)) := ⟨_, rfl⟩
  rw [← hL]
  have f1n : ∀ i, m.next ≤ i → i < m.next + 12 → f1.get i = none := fun i h1 h2 => (q1 i (by simp; omega) (f0 i h1 h2)).1
  have f2n : ∀ i, m.next ≤ i → i < m.next + 12 → f2.get i = none := fun i h1 h2 => (q2 i (by omega) (f1n i h1 h2)).1
  have f2b : f2.get (N.next + 5) = none := (q2 _ (by omega) (q1 _ (by simp) f0b).1).1
  have pL : Part f2 L := by rw [hL]; exact (pt2.put_out f2b).put_out (f2n _ (by omega) (by omega))
  have nL : L.next = p2.next := by rw [hL]; rfl
  refine hQ _ L f2 (.slice zp zn zc) (.slice op on oc) (N.next + 5) (by simp) (by simp) (by simp) (by simp) ?_ (by omega) (by omega) ?_ ?_ ?_ ?_ ?_ ?_ pL f2n f2b (hz.sub' s2) ho
  · rw [hL]; exact ((oN.trans oo).put (by omega)).put (by omega)
  · rw [hL, zqm (by omega), zqm (by omega), oo.some n0]
  · rw [hL, zqm (by omega), zqm (by omega), oo.some n1]
  · rw [hL, zqm (by omega), zqm (by omega), oo.some n3]
  · intro j hj
    rw [hL, getM_put_ne (by omega), getM_put_ne (by omega), (q2 _ (by omega) (f1n _ (by omega) (by omega))).2, (q1 _ (by simp; omega) (f0 _ (by omega) (by omega))).2, getM_bump (by omega), nm j hj]
  · rw [hL, zql (by simp; omega)]
  · rw [hL, zqm (by omega), zql (by omega)]
set_option maxHeartbeats 4000000 in
theorem compile_a {m : Mem} {Φ : Value → Mem → Prop} (hQ : ∀ m' b z o, Old m m' → m'.get b = some ⟨[.string ⟨#[]⟩, I 0, I (-1), I 0, .bool false, z, o], true⟩ → m.next ≤ b → Sl m' z (digs 0) → Sl m' o (digs 1) →
      Φ (.tuple #[.agg #[I 2, .slice none 0 0, .slice none 0 0, .slice (some ⟨b, 0, none⟩) 1 7, .slice none 0 0, .slice none 0 0, .slice none 0 0], I 0, .agg #[I 0, I 0]]) m') :
    WPCall Tryz.prog 11 [.agg #[I 2, .slice none 0 0, .slice none 0 0, .slice none 0 0, .slice none 0 0, .slice none 0 0]] m Φ := by
  refine compile_start rfl fun σ M fr z o b s1 s2 s4 s5 oM nM nb g0 g1 g3 gm gc gb pM fn fb hz ho => ?_
  simp (disch := first | omega | (simp only [zqp, zqq]; omega)) [ir11_k5, ir11_k1, ir11_k2, ir11_k3, ir11_k4, ir11_k7, ir11_k8, ir11_k9, ir11_k10, s1, s5, g0, in_wp, callK, keepOk, zqa, zqb, zqc, zqd, zqe, zqf, zqg, zqh, zqi, zqj, zqk, u64b, u32b, zql, zqm, zqn, zqo, -zqu, -isSl, -zqs, -zqt, -zqv, -zqr]
  refine check_wp (mb := m.next + 4) gc fun M1 e1 l1 c1 hc kp1 hg1 => ?_
  simp [ck3] at hc
  obtain ⟨rfl, rfl, rfl⟩ := hc
  have g01 := kp1.some g0 (by omega)
  simp (disch := first | omega | (simp only [zqp, zqq]; omega)) [callK, keepOk, g01, s1, s5, zqa, zqb, zqc, zqd, zqe, zqf, zqg, zqh, zqi, zqj, zqk, u64b, u32b, zql, zqm, zqn, zqo, -zqu, -isSl, -zqs, -zqt, -zqv, -zqr]
  refine (sizes_nil (b := 0) (.inl rfl)).mono fun r2 M2 hp2 => ?_
  obtain ⟨o2, rfl⟩ := hp2
  simp (disch := first | omega | (simp only [zqp, zqq]; omega)) [callK, keepOk, zqa, zqb, zqc, zqd, zqe, zqf, zqg, zqh, zqi, zqj, zqk, u64b, u32b, zql, zqm, zqn, zqo, -zqu, -isSl, -zqs, -zqt, -zqv, -zqr]
  refine check_wp (mb := m.next + 4) (o2.some hg1) fun M3 e1 l1 c1 hc kp3 hg3 => ?_
  simp [ck3] at hc
  obtain ⟨rfl, rfl, rfl⟩ := hc
  have g03 := kp3.some (o2.some g01) (by omega)
  have g13 := kp3.some (o2.some (kp1.some g1 (by omega))) (by omega)
  have g33 := kp3.some (o2.some (kp1.some g3 (by omega))) (by omega)
  have n3 : M.next ≤ M3.next := Nat.le_trans kp1.next (Nat.le_trans o2.next kp3.next)
  have on : Old m M3 := ⟨by omega, fun i hi => by rw [kp3.get i (by have := kp1.next; have := o2.next; omega) (by omega), o2.get i (by have := kp1.next; omega), kp1.get i (by omega) (by omega), oM.get i hi]⟩
  have sf : ∀ i x, fr.get i = some x → M3.get i = some x := fun i x hx => by
    have hi := get_lt hx
    have hne : i ≠ m.next + 4 + 6 := fun e => by rw [e, fn _ (by omega) (by omega)] at hx; cases hx
    exact kp3.some (o2.some (kp1.some (pM.get _ _ hx) hne)) hne
  simp (disch := first | omega | (simp only [zqp, zqq]; omega)) [callK, keepOk, g03, hg3, g13, g33, s1, s2, s4, s5, eachSourceLaw_nil, eachSourceModel_nil, eachSourceNode_nil, eachSourcePolicy_nil, eachSourceVolume_nil, ir11_k6, ir11_k1, ir11_k2, ir11_k3, ir11_k4, ir11_k5, ir11_k7, ir11_k8, ir11_k10, zqa, zqb, zqc, zqd, zqe, zqf, zqg, zqh, zqi, zqj, zqk, u64b, u32b, zql, zqm, zqn, zqo, -zqu, -isSl, -zqs, -zqt, -zqv, -zqr]
  have put2 : ∀ i x A B, fr.get i = some x ∨ (i = b ∧ M3.get b = some x) → ((M3.put (m.next + 1) A).put (m.next + 3) B).get i = some x := fun i x A B hx => by
    rcases hx with hx | ⟨rfl, hx⟩
    · have e1 : i ≠ m.next + 3 := fun e => by rw [e, fn _ (by omega) (by omega)] at hx; cases hx
      have e2 : i ≠ m.next + 1 := fun e => by rw [e, fn _ (by omega) (by omega)] at hx; cases hx
      rw [zqm e1, zqm e2, sf _ _ hx]
    · rw [zqm (by omega), zqm (by omega), hx]
  have sfs : ∀ A B, Sub fr ((M3.put (m.next + 1) A).put (m.next + 3) B) := fun A B => ⟨by have := pM.next; simp; omega, fun i x hx => put2 i x A B (.inl hx)⟩
  exact hQ _ b z o ((on.put (by omega)).put (by omega)) (put2 _ _ _ _ (.inr ⟨rfl, kp3.some (o2.some (kp1.some gb (by omega))) (by omega)⟩)) (by omega) (hz.sub' (sfs _ _)) (ho.sub' (sfs _ _))
end Go.Proofs.YtkpifdkccdndcaaGreat
namespace Go.Proofs.YtkpifdkccdndcaaGreat
open Go Go.DI Go.Big
set_option linter.unusedSimpArgs false
set_option linter.unusedVariables false
set_option maxHeartbeats 4000000 in
theorem model_ex {m : Mem} {cb lb mb : Nat} {a0 a1 a3 a4 a5 a6 a9 a10 a11 a12 a13 a14 a15 a16 : Value} {l0 c0 l c : Int} {T W : ByteArray}
    (hg : m.get cb = some ⟨[a0, a1, .slice none 0 0, a3, a4, a5, a6, .map (some lb), .map (some mb), a9, a10, a11, a12, a13, a14, a15, a16, I 0, I l0, I c0], true⟩) (hl : m.getM lb = some []) (hm : m.getM mb = some []) (n1 : mb ≠ cb) (n2 : lb ≠ cb) (n3 : lb ≠ mb) (hT : nmB T = true) {Φ : Value → Mem → Prop}
    (hQ : ∀ m' a2, m.next ≤ m'.next → (∀ i, i < m.next → i ≠ cb → m'.get i = m.get i) → m'.get cb = some ⟨[a0, a1, a2, a3, a4, a5, a6, .map (some lb), .map (some mb), a9, a10, a11, a12, a13, a14, a15, a16, I 7, I l, I c], true⟩ → Φ (.tuple #[]) m') :
    WPCall Tryz.prog 40 [ptr cb, .agg #[.string T, I 1, I 1, .string W, I l, I c]] m Φ := by
  rw [call40 (by simp)]
  have hlt := get_lt hg
  have ne : cb ≠ m.next := by omega
  have ml := get_lt (Mem.getM_get hl).1
  have mm := get_lt (Mem.getM_get hm).1
  simp (disch := first | omega | (simp only [zqp, zqq]; omega)) [ir40_b, ir40_k1, ir40_k3, ir40_k4, hg, ne, zqa, zqb, zqc, zqd, zqe, zqf, zqg, zqh, zqi, zqj, zqk, u64b, u32b, zql, zqm, zqn, zqo, -zqu, -isSl, -zqs, -zqt, -zqv, -zqr]
  refine declare_wp (cb := cb) (mb := mb) (es := []) (l0 := l0) (c0 := c0) (by rw [zqm ne, zqn hlt, hg]) (by rw [getM_put_ne (by omega), getM_bump mm, hm]) n1 rfl (fun h => by rw [hT] at h; cases h) (fun _ h => by simp [mget] at h) fun _ _ m1 kp1 hg1 hm1 => ?_
  have x1 := kp1.next
  simp only [zqp, zqq] at x1
  have hl1 : m1.getM lb = some [] := by rw [kp1.getM _ (by simp; omega) n3 n2, getM_put_ne (by omega), getM_bump ml, hl]
  have g1 : m1.get m.next = some ⟨[.string T, I 1, I 1, .string W, I l, I c], true⟩ := kp1.some (zql (by simp)) (by omega)
  simp (disch := first | omega | (simp only [zqp, zqq]; omega)) [callK, keepOk, hg1, hl1, g1, keyLike, mget, ir40_k2, ir40_k1, ir40_k3, zqa, zqb, zqc, zqd, zqe, zqf, zqg, zqh, zqi, zqj, zqk, u64b, u32b, zql, zqm, zqn, zqo, -zqu, -isSl, -zqs, -zqt, -zqv, -zqr]
  refine check_wp (mb := mb) hg1 fun m2 e1 l1 c1 hc kp2 hg2 => ?_
  simp [ck3] at hc
  obtain ⟨rfl, rfl, rfl⟩ := hc
  have g2 := kp2.some g1 (by omega)
  simp (disch := first | omega | (simp only [zqp, zqq]; omega)) [g2, callK, keepOk, ir40_k4, ir40_k1, ir40_k2, ir40_k3, in_wp, zqa, zqb, zqc, zqd, zqe, zqf, zqg, zqh, zqi, zqj, zqk, u64b, u32b, zql, zqm, zqn, zqo, -zqu, -isSl, -zqs, -zqt, -zqv, -zqr]
  refine check_wp (mb := mb) hg2 fun m3 e1 l1 c1 hc kp3 hg3 => ?_
  simp [ck3] at hc
  obtain ⟨rfl, rfl, rfl⟩ := hc
  have g3 := kp3.some g2 (by omega)
  have y2 := kp2.next
  have y3 := kp3.next
  simp (disch := first | omega | (simp only [zqp, zqq]; omega)) [g3, hg3, callK, keepOk, zqa, zqb, zqc, zqd, zqe, zqf, zqg, zqh, zqi, zqj, zqk, u64b, u32b, zql, zqm, zqn, zqo, -zqu, -isSl, -zqs, -zqt, -zqv, -zqr]
  refine hQ _ _ ?_ ?_ (zql (by simp; omega))
  · simp; omega
  · intro i hi hn
    rw [zqm hn, zqm (by omega), zqm (by omega), zqn (by omega), kp3.get i (by omega) hn, kp2.get i (by omega) hn, kp1.get i (by simp; omega) hn, zqm (by omega), zqn hi]
set_option maxHeartbeats 4000000 in
theorem eachModel_one {m : Mem} {cb lb mb vb : Nat} {a0 a1 a3 a4 a5 a6 a9 a10 a11 a12 a13 a14 a15 a16 : Value} {l0 c0 l c : Int} {T W : ByteArray} {w : Bool}
    (hg : m.get cb = some ⟨[a0, a1, .slice none 0 0, a3, a4, a5, a6, .map (some lb), .map (some mb), a9, a10, a11, a12, a13, a14, a15, a16, I 0, I l0, I c0], true⟩) (hl : m.getM lb = some []) (hm : m.getM mb = some []) (n1 : mb ≠ cb) (n2 : lb ≠ cb) (n3 : lb ≠ mb) (hT : nmB T = true)
    (hv : m.get vb = some ⟨[.string T, I 1, I 1, .string W, I l, I c], w⟩) (nv : vb ≠ cb) {Φ : Value → Mem → Prop}
    (hQ : ∀ m' a2, m.next ≤ m'.next → (∀ i, i < m.next → i ≠ cb → m'.get i = m.get i) → m'.get cb = some ⟨[a0, a1, a2, a3, a4, a5, a6, .map (some lb), .map (some mb), a9, a10, a11, a12, a13, a14, a15, a16, I 7, I l, I c], true⟩ → Φ (.tuple #[]) m') :
    WPCall Tryz.prog 39 [ptr cb, .slice (some ⟨vb, 0, none⟩) 1 6, .func (.func 40) #[ptr cb] #[]] m Φ := by
  rw [call39 (by simp)]
  have hlt := get_lt hg
  have vlt := get_lt hv
  have ml := get_lt (Mem.getM_get hl).1
  have mm := get_lt (Mem.getM_get hm).1
  simp (disch := first | omega | (simp only [zqp, zqq]; omega)) [ir39_b, ir39_k1, ir39_k2, ir39_k3, zqa, zqb, zqc, zqd, zqe, zqf, zqg, zqh, zqi, zqj, zqk, u64b, u32b, zql, zqm, zqn, zqo, -zqu, -isSl, -zqs, -zqt, -zqv, -zqr]
  refine wp_round fun J hJ => ?_
  simp (disch := first | omega | (simp only [zqp, zqq]; omega)) [ir39_l0, ir39_k1, ir39_k2, ir39_k3, hv, hg, zqa, zqb, zqc, zqd, zqe, zqf, zqg, zqh, zqi, zqj, zqk, u64b, u32b, zql, zqm, zqn, zqo, -zqu, -isSl, -zqs, -zqt, -zqv, -zqr]
  have w1 : IntKind.i64.wrap (0 + 1) = 1 := i64_id (by omega) (by omega)
  refine model_ex (cb := cb) (lb := lb) (mb := mb) (by rw [zqm (by omega), zqn hlt, hg]) (by rw [getM_put_ne (by omega), getM_bump ml, hl]) (by rw [getM_put_ne (by omega), getM_bump mm, hm]) n1 n2 n3 hT fun m' a2 hn hk hg' => ?_
  simp only [zqp, zqq] at hn hk
  simp (disch := first | omega | (simp only [zqp, zqq]; omega)) [callK, keepOk, w1, zqa, zqb, zqc, zqd, zqe, zqf, zqg, zqh, zqi, zqj, zqk, u64b, u32b, zql, zqm, zqn, zqo, -zqu, -isSl, -zqs, -zqt, -zqv, -zqr]
  refine hJ _ _ (wp_round fun J2 hJ2 => ?_)
  simp (disch := first | omega | (simp only [zqp, zqq]; omega)) [ir39_l0, ir39_k1, ir39_k2, ir39_k3, ir39_b, ir39_k1, ir39_k2, ir39_k3, zqa, zqb, zqc, zqd, zqe, zqf, zqg, zqh, zqi, zqj, zqk, u64b, u32b, zql, zqm, zqn, zqo, -zqu, -isSl, -zqs, -zqt, -zqv, -zqr]
  refine hQ _ _ (by omega) (fun i hi hne => ?_) hg'
  rw [hk i (by omega) hne, zqm (by omega), zqn hi]
theorem nm_m : nmB ⟨#[109]⟩ = true := nmB_true ⟨by decide, by decide, by decide, by decide⟩
set_option maxHeartbeats 4000000 in
theorem compile_b {m : Mem} {vb : Nat} {w : Bool} (hv : m.get vb = some ⟨[.string ⟨#[109]⟩, I 1, I 1, .string ⟨#[120]⟩, I 3, I 4], w⟩) {Φ : Value → Mem → Prop} (hQ : ∀ m', Old m m' →
      Φ (.tuple #[.agg #[I 0, .slice none 0 0, .slice none 0 0, .slice none 0 0, .slice none 0 0, .slice none 0 0, .slice none 0 0], I 7, .agg #[I 3, I 4]]) m') :
    WPCall Tryz.prog 11 [.agg #[I 1, .slice none 0 0, .slice (some ⟨vb, 0, none⟩) 1 6, .slice none 0 0, .slice none 0 0, .slice none 0 0]] m Φ := by
  have vlt := get_lt hv
  refine compile_start rfl fun σ M fr z o b s1 s2 s4 s5 oM nM nb g0 g1 g3 gm gc gb pM fn fb hz ho => ?_
  simp (disch := first | omega | (simp only [zqp, zqq]; omega)) [ir11_k5, ir11_k1, ir11_k2, ir11_k3, ir11_k4, ir11_k7, ir11_k8, ir11_k9, ir11_k10, s1, s5, g0, in_wp, callK, keepOk, zqa, zqb, zqc, zqd, zqe, zqf, zqg, zqh, zqi, zqj, zqk, u64b, u32b, zql, zqm, zqn, zqo, -zqu, -isSl, -zqs, -zqt, -zqv, -zqr]
  refine check_wp (mb := m.next + 4 + 3) gc fun M1 e1 l1 c1 hc kp1 hg1 => ?_
  simp [ck3] at hc
  obtain ⟨rfl, rfl, rfl⟩ := hc
  have g01 := kp1.some g0 (by omega)
  simp (disch := first | omega | (simp only [zqp, zqq]; omega)) [callK, keepOk, g01, s1, s5, zqa, zqb, zqc, zqd, zqe, zqf, zqg, zqh, zqi, zqj, zqk, u64b, u32b, zql, zqm, zqn, zqo, -zqu, -isSl, -zqs, -zqt, -zqv, -zqr]
  have gM : ∀ j, j < 3 → M1.getM (m.next + 4 + j) = some [] := fun j hj => by rw [kp1.getM _ (by omega) (by omega) (by omega), gm j (by omega)]
  have x1 := kp1.next
  refine (call_keep (cut_part M1 [m.next + 4 + 0, m.next + 4 + 1]) (sizes_nil (b := vb) (.inr rfl)) (fun r p h => h.1)).mono fun r2 M2 hp2 => ?_
  obtain ⟨f2, ⟨_, rfl⟩, _, o2, _, q2⟩ := hp2
  have x2 := o2.next
  have gM0 : M2.getM (m.next + 4) = some [] := by rw [(q2 (m.next + 4 + 0) (by omega) (cut_in (by simp))).2]; exact gM 0 (by omega)
  have gM1 : M2.getM (m.next + 4 + 1) = some [] := by rw [(q2 (m.next + 4 + 1) (by omega) (cut_in (by simp))).2]; exact gM 1 (by omega)
  simp (disch := first | omega | (simp only [zqp, zqq]; omega)) [callK, keepOk, zqa, zqb, zqc, zqd, zqe, zqf, zqg, zqh, zqi, zqj, zqk, u64b, u32b, zql, zqm, zqn, zqo, -zqu, -isSl, -zqs, -zqt, -zqv, -zqr]
  refine check_wp (mb := m.next + 4 + 3) (o2.some hg1) fun M3 e1 l1 c1 hc kp3 hg3 => ?_
  simp [ck3] at hc
  obtain ⟨rfl, rfl, rfl⟩ := hc
  have x3 := kp3.next
  have gM0' : M3.getM (m.next + 4) = some [] := by rw [kp3.getM _ (by omega) (by omega) (by omega), gM0]
  have gM1' : M3.getM (m.next + 4 + 1) = some [] := by rw [kp3.getM _ (by omega) (by omega) (by omega), gM1]
  have g03 := kp3.some (o2.some g01) (by omega)
  have g13 := kp3.some (o2.some (kp1.some g1 (by omega))) (by omega)
  have g33 := kp3.some (o2.some (kp1.some g3 (by omega))) (by omega)
  have on : Old m M3 := ⟨by omega, fun i hi => by rw [kp3.get i (by omega) (by omega), o2.get i (by omega), kp1.get i (by omega) (by omega), oM.get i hi]⟩
  simp (disch := first | omega | (simp only [zqp, zqq]; omega)) [callK, keepOk, g03, hg3, g13, g33, s1, s2, s4, s5, eachSourceLaw_nil, ir11_k6, ir11_k1, ir11_k2, ir11_k3, ir11_k4, ir11_k5, ir11_k8, ir11_k9, ir11_k10, zqa, zqb, zqc, zqd, zqe, zqf, zqg, zqh, zqi, zqj, zqk, u64b, u32b, zql, zqm, zqn, zqo, -zqu, -isSl, -zqs, -zqt, -zqv, -zqr]
  refine eachModel_one (cb := m.next + 4 + 6) (lb := m.next + 4) (mb := m.next + 4 + 1) hg3 gM0' gM1' (by omega) (by omega) (by omega) nm_m (on.some hv) (by omega) fun M4 a2 x4 hk4 hg4 => ?_
  have g04 : M4.get m.next = _ := (hk4 _ (by omega) (by omega)).trans g03
  have g14 : M4.get (m.next + 1) = _ := (hk4 _ (by omega) (by omega)).trans g13
  have g34 : M4.get (m.next + 3) = _ := (hk4 _ (by omega) (by omega)).trans g33
  have on4 : Old m M4 := ⟨by omega, fun i hi => by rw [hk4 i (by omega) (by omega), on.get i hi]⟩
  simp (disch := first | omega | (simp only [zqp, zqq]; omega)) [callK, keepOk, ckOk, g04, hg4, g14, g34, s1, s2, s4, s5, eachSourceNode_nil, eachSourcePolicy_nil, eachSourceVolume_nil, ir11_k7, ir11_k1, ir11_k2, ir11_k3, ir11_k4, ir11_k5, ir11_k6, ir11_k8, ir11_k10, zqa, zqb, zqc, zqd, zqe, zqf, zqg, zqh, zqi, zqj, zqk, u64b, u32b, zql, zqm, zqn, zqo, -zqu, -isSl, -zqs, -zqt, -zqv, -zqr]
  exact hQ _ ((on4.put (by omega)).put (by omega))
end Go.Proofs.YtkpifdkccdndcaaGreat
namespace Go.Proofs.YtkpifdkccdndcaaGreat
open Go Go.DI Go.Big
set_option linter.unusedSimpArgs false
set_option linter.unusedVariables false
theorem unique_nil {m : Mem} : WPCall Tryz.prog 65 [.slice none 0 0] m fun r m' => Old m m' ∧ r = .bool true := by
  rw [call65 (by simp)]
  simp (disch := first | omega | (simp only [zqp, zqq]; omega)) [ir65_b, ir65_k1, ir65_k2, ir65_k3, ir65_k4, ir65_k5, ir65_k6, zqa, zqb, zqc, zqd, zqe, zqf, zqg, zqh, zqi, zqj, zqk, u64b, u32b, zql, zqm, zqn, zqo, -zqu, -isSl, -zqs, -zqt, -zqv, -zqr]
  refine wp_round fun J hJ => ?_
  simp (disch := first | omega | (simp only [zqp, zqq]; omega)) [ir65_l0, ir65_k1, ir65_k2, ir65_k3, ir65_k4, ir65_k5, ir65_k6, ir65_b, ir65_k1, ir65_k2, ir65_k3, ir65_k4, ir65_k5, ir65_k6, zqa, zqb, zqc, zqd, zqe, zqf, zqg, zqh, zqi, zqj, zqk, u64b, u32b, zql, zqm, zqn, zqo, -zqu, -isSl, -zqs, -zqt, -zqv, -zqr]
  exact OldB.putM ((Old.refl m).bump _) (by omega)
theorem nil_small : Fr.nil.small = true := by
  have h1 := pw_one
  have h2 := pw_pos 128
  have g : gcdI 0 1 = 1 := by decide
  simp [Fr.small, Fr.ok, Fr.nil, lowF, g, h1, h2]
theorem nil_vf {m : Mem} {z o : Value} (hz : Sl m z (digs 0)) (ho : Sl m o (digs 1)) : Vf m (.agg #[.bool false, z, o]) Fr.nil := ⟨z, o, rfl, Nm.digs hz (by decide) (pw_pos _), Nm.digs ho (by decide) (Int.lt_trans pw_one pw_128_512)⟩
set_option maxHeartbeats 4000000 in
theorem domains_root {m : Mem} {b : Nat} {w : Bool} {z o : Value} (hb : m.get b = some ⟨[.string ⟨#[]⟩, I 0, I (-1), I 0, .bool false, z, o], w⟩) (hz : Sl m z (digs 0)) (ho : Sl m o (digs 1)) :
    WPCall Tryz.prog 63 [.agg #[I 2, .slice none 0 0, .slice none 0 0, .slice (some ⟨b, 0, none⟩) 1 7, .slice none 0 0, .slice none 0 0, .slice none 0 0]] m fun r m' => Old m m' ∧ r = .bool true := by
  rw [call63 (by simp)]
  have hlt := get_lt hb
  obtain ⟨p1, n1, c1, rfl⟩ := hz.form
  obtain ⟨p2, n2, c2, rfl⟩ := ho.form
  simp (disch := first | omega | (simp only [zqp, zqq]; omega)) [ir63_b, ir63_k1, ir63_k2, ir63_k3, ir63_k5, ir63_k6, ir63_k7, ir63_k8, hb, zqa, zqb, zqc, zqd, zqe, zqf, zqg, zqh, zqi, zqj, zqk, u64b, u32b, zql, zqm, zqn, zqo, -zqu, -isSl, -zqs, -zqt, -zqv, -zqr]
  have ok0 : ∀ k x k' y, Old m ((((m.bump k).put m.next x).bump k').put (m.next + 2 + 4) y) := fun k x k' y => ((((Old.refl m).bump k).put (i := m.next) (by omega)).bump k').put (i := m.next + 2 + 4) (by omega)
  have hf := nil_vf hz ho
  refine (inlim_wp (hf.mono (ok0 _ _ _ _))).mono fun r1 m1 hp1 => ?_
  obtain ⟨o1, rfl⟩ := hp1
  have g1 := o1.some (b := m.next + 2 + 4) (zql (by simp))
  have g0 := o1.some (b := m.next) (by rw [zqm (by omega), zqn (by simp), zql (by simp)])
  simp (disch := first | omega | (simp only [zqp, zqq]; omega)) [callK, keepOk, g1, nil_small, zqa, zqb, zqc, zqd, zqe, zqf, zqg, zqh, zqi, zqj, zqk, u64b, u32b, zql, zqm, zqn, zqo, -zqu, -isSl, -zqs, -zqt, -zqv, -zqr]
  refine (above_wp ((hf.mono (ok0 _ _ _ _)).mono o1)).mono fun r2 m2 hp2 => ?_
  obtain ⟨o2, rfl⟩ := hp2
  have g02 := o2.some g0
  have hb2 := o2.some (o1.some (b := b) (by rw [(ok0 _ _ _ _).get b hlt, hb]))
  have z1 : Fr.nil.n = 0 := rfl
  simp (disch := first | omega | (simp only [zqp, zqq]; omega)) [callK, keepOk, z1, g02, hb2, ir63_k4, ir63_k1, ir63_k2, ir63_k3, ir63_k5, ir63_k6, ir63_k7, zqa, zqb, zqc, zqd, zqe, zqf, zqg, zqh, zqi, zqj, zqk, u64b, u32b, zql, zqm, zqn, zqo, -zqu, -isSl, -zqs, -zqt, -zqv, -zqr]
  refine wp_round fun J hJ => ?_
  simp (disch := first | omega | (simp only [zqp, zqq]; omega)) [ir63_l0, ir63_k1, ir63_k2, ir63_k3, ir63_k4, ir63_k5, ir63_k6, ir63_k7, ir63_k8, ir63_k8, ir63_k1, ir63_k2, ir63_k3, ir63_k4, ir63_k5, ir63_k6, ir63_k7, zqa, zqb, zqc, zqd, zqe, zqf, zqg, zqh, zqi, zqj, zqk, u64b, u32b, zql, zqm, zqn, zqo, -zqu, -isSl, -zqs, -zqt, -zqv, -zqr]
  exact ((ok0 _ _ _ _).trans o1).trans o2
theorem domains_nil {m : Mem} : WPCall Tryz.prog 63 [.agg #[I 0, .slice none 0 0, .slice none 0 0, .slice none 0 0, .slice none 0 0, .slice none 0 0, .slice none 0 0]] m fun r m' => Old m m' ∧ r = .bool false := by
  rw [call63 (by simp)]
  simp (disch := first | omega | (simp only [zqp, zqq]; omega)) [ir63_b, ir63_k1, ir63_k3, ir63_k4, ir63_k5, ir63_k6, ir63_k7, ir63_k8, zqa, zqb, zqc, zqd, zqe, zqf, zqg, zqh, zqi, zqj, zqk, u64b, u32b, zql, zqm, zqn, zqo, -zqu, -isSl, -zqs, -zqt, -zqv, -zqr]
  exact ((Old.refl m).bump _).put (by omega)
theorem validate_nil {m : Mem} : WPCall Tryz.prog 14 [.agg #[I 0, .slice none 0 0, .slice none 0 0, .slice none 0 0, .slice none 0 0, .slice none 0 0, .slice none 0 0]] m fun r m' => Old m m' ∧ r = I 1 := by
  rw [call14 (by simp)]
  simp (disch := first | omega | (simp only [zqp, zqq]; omega)) [ir14_b, ir14_k1, ir14_k3, ir14_k4, ir14_k5, ir14_k6, ir14_k7, ir14_k8, ir14_k9, ir14_k10, ir14_k11, ir14_k12, ir14_k13, ir14_k14, ir14_k15, ir14_k16, ir14_k17, ir14_k18, ir14_k19, ir14_k20, ir14_k21, ir14_k22, ir14_k23, ir14_k24, ir14_k25, ir14_k26, ir14_k27, ir14_k28, in_wp, callK, keepOk, zqa, zqb, zqc, zqd, zqe, zqf, zqg, zqh, zqi, zqj, zqk, u64b, u32b, zql, zqm, zqn, zqo, -zqu, -isSl, -zqs, -zqt, -zqv, -zqr]
  exact ((Old.refl m).bump _).put (by omega)
set_option maxHeartbeats 8000000 in
theorem validate_root {m : Mem} {b : Nat} {w : Bool} {z o : Value} (hb : m.get b = some ⟨[.string ⟨#[]⟩, I 0, I (-1), I 0, .bool false, z, o], w⟩) (hz : Sl m z (digs 0)) (ho : Sl m o (digs 1)) :
    WPCall Tryz.prog 14 [.agg #[I 2, .slice none 0 0, .slice none 0 0, .slice (some ⟨b, 0, none⟩) 1 7, .slice none 0 0, .slice none 0 0, .slice none 0 0]] m fun r m' => Old m m' ∧ r = I 0 := by
  rw [call14 (by simp)]
  have hlt := get_lt hb
  simp (disch := first | omega | (simp only [zqp, zqq]; omega)) [ir14_b, ir14_k1, ir14_k3, ir14_k4, ir14_k5, ir14_k6, ir14_k7, ir14_k8, ir14_k9, ir14_k10, ir14_k11, ir14_k12, ir14_k13, ir14_k14, ir14_k15, ir14_k16, ir14_k17, ir14_k18, ir14_k19, ir14_k20, ir14_k21, ir14_k22, ir14_k23, ir14_k24, ir14_k25, ir14_k26, ir14_k27, ir14_k28, in_wp, callK, keepOk, zqa, zqb, zqc, zqd, zqe, zqf, zqg, zqh, zqi, zqj, zqk, u64b, u32b, zql, zqm, zqn, zqo, -zqu, -isSl, -zqs, -zqt, -zqv, -zqr]
  have om : ∀ k x, Old m ((m.bump k).put m.next x) := fun k x => ((Old.refl m).bump k).put (by omega)
  refine (domains_root (w := w) (b := b) (by rw [zqm (by omega), zqn hlt, hb]) (hz.mono (om _ _)) (ho.mono (om _ _))).mono fun r1 m1 hp1 => ?_
  obtain ⟨o1, rfl⟩ := hp1
  have g1 := o1.some (b := m.next) (zql (by simp))
  have hb1 := o1.some (b := b) (by rw [(om _ _).get b hlt, hb])
  simp (disch := first | omega | (simp only [zqp, zqq]; omega)) [callK, keepOk, g1, ir14_k2, ir14_k1, ir14_k3, ir14_k4, ir14_k5, ir14_k6, ir14_k7, ir14_k9, ir14_k10, ir14_k11, ir14_k12, ir14_k13, ir14_k14, ir14_k15, ir14_k16, ir14_k17, ir14_k18, ir14_k19, ir14_k20, ir14_k21, ir14_k22, ir14_k23, ir14_k24, ir14_k25, ir14_k26, ir14_k27, ir14_k28, zqa, zqb, zqc, zqd, zqe, zqf, zqg, zqh, zqi, zqj, zqk, u64b, u32b, zql, zqm, zqn, zqo, -zqu, -isSl, -zqs, -zqt, -zqv, -zqr]
  refine wp_round fun J hJ => ?_
  simp (disch := first | omega | (simp only [zqp, zqq]; omega)) [callK, keepOk, g1, hb1, ir14_l0, ir14_k1, ir14_k2, ir14_k3, ir14_k4, ir14_k5, ir14_k6, ir14_k7, ir14_k8, ir14_k9, ir14_k10, ir14_k11, ir14_k13, ir14_k14, ir14_k15, ir14_k16, ir14_k17, ir14_k18, ir14_k19, ir14_k20, ir14_k21, ir14_k22, ir14_k23, ir14_k24, ir14_k25, ir14_k26, ir14_k27, ir14_k28, zqa, zqb, zqc, zqd, zqe, zqf, zqg, zqh, zqi, zqj, zqk, u64b, u32b, zql, zqm, zqn, zqo, -zqu, -isSl, -zqs, -zqt, -zqv, -zqr]
  refine wp_round fun J hJ => ?_
  simp (disch := first | omega | (simp only [zqp, zqq]; omega)) [callK, keepOk, g1, hb1, ir14_l1, ir14_k1, ir14_k2, ir14_k3, ir14_k4, ir14_k5, ir14_k6, ir14_k7, ir14_k8, ir14_k9, ir14_k10, ir14_k11, ir14_k12, ir14_k13, ir14_k14, ir14_k16, ir14_k17, ir14_k18, ir14_k19, ir14_k20, ir14_k21, ir14_k22, ir14_k23, ir14_k24, ir14_k25, ir14_k26, ir14_k27, ir14_k28, zqa, zqb, zqc, zqd, zqe, zqf, zqg, zqh, zqi, zqj, zqk, u64b, u32b, zql, zqm, zqn, zqo, -zqu, -isSl, -zqs, -zqt, -zqv, -zqr]
  refine wp_round fun J hJ => ?_
  simp (disch := first | omega | (simp only [zqp, zqq]; omega)) [callK, keepOk, g1, hb1, ir14_l2, ir14_k1, ir14_k2, ir14_k3, ir14_k4, ir14_k5, ir14_k6, ir14_k7, ir14_k8, ir14_k9, ir14_k10, ir14_k11, ir14_k12, ir14_k13, ir14_k14, ir14_k15, ir14_k16, ir14_k17, ir14_k18, ir14_k20, ir14_k21, ir14_k22, ir14_k23, ir14_k24, ir14_k25, ir14_k26, ir14_k27, ir14_k28, zqa, zqb, zqc, zqd, zqe, zqf, zqg, zqh, zqi, zqj, zqk, u64b, u32b, zql, zqm, zqn, zqo, -zqu, -isSl, -zqs, -zqt, -zqv, -zqr]
  refine wp_round fun J hJ => ?_
  simp (disch := first | omega | (simp only [zqp, zqq]; omega)) [callK, keepOk, g1, hb1, ir14_l3, ir14_k1, ir14_k2, ir14_k3, ir14_k4, ir14_k5, ir14_k6, ir14_k7, ir14_k8, ir14_k9, ir14_k10, ir14_k11, ir14_k12, ir14_k13, ir14_k14, ir14_k15, ir14_k16, ir14_k17, ir14_k18, ir14_k19, ir14_k20, ir14_k21, ir14_k22, ir14_k24, ir14_k25, ir14_k26, ir14_k27, ir14_k28, zqa, zqb, zqc, zqd, zqe, zqf, zqg, zqh, zqi, zqj, zqk, u64b, u32b, zql, zqm, zqn, zqo, -zqu, -isSl, -zqs, -zqt, -zqv, -zqr]
  refine wp_round fun J hJ => ?_
  simp (disch := first | omega | (simp only [zqp, zqq]; omega)) [callK, keepOk, g1, hb1, ir14_l4, ir14_k1, ir14_k2, ir14_k3, ir14_k4, ir14_k5, ir14_k6, ir14_k7, ir14_k8, ir14_k9, ir14_k10, ir14_k11, ir14_k12, ir14_k13, ir14_k14, ir14_k15, ir14_k16, ir14_k17, ir14_k18, ir14_k19, ir14_k20, ir14_k21, ir14_k22, ir14_k23, ir14_k24, ir14_k25, ir14_k26, ir14_k28, zqa, zqb, zqc, zqd, zqe, zqf, zqg, zqh, zqi, zqj, zqk, u64b, u32b, zql, zqm, zqn, zqo, -zqu, -isSl, -zqs, -zqt, -zqv, -zqr]
  refine wp_round fun J hJ => ?_
  simp (disch := first | omega | (simp only [zqp, zqq]; omega)) [callK, keepOk, g1, hb1, ir14_l5, ir14_k1, ir14_k2, ir14_k3, ir14_k4, ir14_k5, ir14_k6, ir14_k7, ir14_k8, ir14_k9, ir14_k10, ir14_k11, ir14_k12, ir14_k13, ir14_k14, ir14_k15, ir14_k16, ir14_k17, ir14_k18, ir14_k19, ir14_k20, ir14_k21, ir14_k22, ir14_k23, ir14_k24, ir14_k25, ir14_k26, ir14_k27, zqa, zqb, zqc, zqd, zqe, zqf, zqg, zqh, zqi, zqj, zqk, u64b, u32b, zql, zqm, zqn, zqo, -zqu, -isSl, -zqs, -zqt, -zqv, -zqr]
  refine unique_nil.mono fun r2 m2 hp2 => ?_
  obtain ⟨o2, rfl⟩ := hp2
  simp (disch := first | omega | (simp only [zqp, zqq]; omega)) [callK, keepOk, zqa, zqb, zqc, zqd, zqe, zqf, zqg, zqh, zqi, zqj, zqk, u64b, u32b, zql, zqm, zqn, zqo, -zqu, -isSl, -zqs, -zqt, -zqv, -zqr]
  refine unique_nil.mono fun r3 m3 hp3 => ?_
  obtain ⟨o3, rfl⟩ := hp3
  simp (disch := first | omega | (simp only [zqp, zqq]; omega)) [callK, keepOk, zqa, zqb, zqc, zqd, zqe, zqf, zqg, zqh, zqi, zqj, zqk, u64b, u32b, zql, zqm, zqn, zqo, -zqu, -isSl, -zqs, -zqt, -zqv, -zqr]
  refine unique_nil.mono fun r4 m4 hp4 => ?_
  obtain ⟨o4, rfl⟩ := hp4
  simp (disch := first | omega | (simp only [zqp, zqq]; omega)) [callK, keepOk, zqa, zqb, zqc, zqd, zqe, zqf, zqg, zqh, zqi, zqj, zqk, u64b, u32b, zql, zqm, zqn, zqo, -zqu, -isSl, -zqs, -zqt, -zqv, -zqr]
  refine unique_nil.mono fun r5 m5 hp5 => ?_
  obtain ⟨o5, rfl⟩ := hp5
  simp (disch := first | omega | (simp only [zqp, zqq]; omega)) [callK, keepOk, zqa, zqb, zqc, zqd, zqe, zqf, zqg, zqh, zqi, zqj, zqk, u64b, u32b, zql, zqm, zqn, zqo, -zqu, -isSl, -zqs, -zqt, -zqv, -zqr]
  refine unique_nil.mono fun r6 m6 hp6 => ?_
  obtain ⟨o6, rfl⟩ := hp6
  simp (disch := first | omega | (simp only [zqp, zqq]; omega)) [callK, keepOk, ir14_k28, ir14_k1, ir14_k2, ir14_k3, ir14_k4, ir14_k5, ir14_k6, ir14_k7, ir14_k8, ir14_k9, ir14_k10, ir14_k11, ir14_k12, ir14_k13, ir14_k14, ir14_k15, ir14_k16, ir14_k17, ir14_k18, ir14_k19, ir14_k20, ir14_k21, ir14_k22, ir14_k23, ir14_k24, ir14_k25, ir14_k26, ir14_k27, zqa, zqb, zqc, zqd, zqe, zqf, zqg, zqh, zqi, zqj, zqk, u64b, u32b, zql, zqm, zqn, zqo, -zqu, -isSl, -zqs, -zqt, -zqv, -zqr]
  exact ((((((om _ _).trans o1).trans o2).trans o3).trans o4).trans o5).trans o6
set_option maxHeartbeats 8000000 in
theorem awake_wp {m : Mem} : WPCall Tryz.prog 8 [] m fun r m' => Old m m' ∧ r = .bool true := by
  rw [call8 (by simp)]
  simp (disch := first | omega | (simp only [zqp, zqq]; omega)) [ir8_b, ir8_k1, ir8_k3, zqa, zqb, zqc, zqd, zqe, zqf, zqg, zqh, zqi, zqj, zqk, u64b, u32b, zql, zqm, zqn, zqo, -zqu, -isSl, -zqs, -zqt, -zqv, -zqr]
  refine compile_a fun m1 b z o o1 hb hbn hz ho => ?_
  have n1 := o1.next
  simp only [zqq] at n1 hbn
  simp (disch := first | omega | (simp only [zqp, zqq]; omega)) [callK, keepOk, zqa, zqb, zqc, zqd, zqe, zqf, zqg, zqh, zqi, zqj, zqk, u64b, u32b, zql, zqm, zqn, zqo, -zqu, -isSl, -zqs, -zqt, -zqv, -zqr]
  obtain ⟨A, hA⟩ : ∃ A, A = (((m1.put (m.next + 6) (some ⟨[I 0, .slice none 0 0, .slice none 0 0, .slice none 0 0, .slice none 0 0, .slice none 0 0, .slice none 0 0], true⟩)).put (m.next + 7) (some ⟨[I 0, I 0], true⟩)).put (m.next + 6) (some ⟨[I 2, .slice none 0 0, .slice none 0 0, .slice (some ⟨b, 0, none⟩) 1 7, .slice none 0 0, .slice none 0 0, .slice none 0 0], true⟩)).put (m.next + 7) (some ⟨[I 0, I 0], true⟩) := ⟨_, rfl⟩
  rw [← hA]
  have nA : A.next = m1.next := by rw [hA]; rfl
  have oA : Old m A := by rw [hA]; exact (((((((Old.refl m).bump 11).trans o1).put (i := m.next + 6) (by omega)).put (i := m.next + 7) (by omega)).put (i := m.next + 6) (by omega))).put (i := m.next + 7) (by omega)
  have g6 : A.get (m.next + 6) = some ⟨[I 2, .slice none 0 0, .slice none 0 0, .slice (some ⟨b, 0, none⟩) 1 7, .slice none 0 0, .slice none 0 0, .slice none 0 0], true⟩ := by rw [hA, zqm (by omega), zql (by simp; omega)]
  have sA : ∀ i x, i ≠ m.next + 6 → i ≠ m.next + 7 → m1.get i = some x → A.get i = some x := fun i x e1 e2 h => by rw [hA, zqm e2, zqm e1, zqm e2, zqm e1, h]
  have hbA := sA b _ (by omega) (by omega) hb
  have z6 : m1.get (m.next + 6) = none := by rw [o1.get _ (by simp), Mem.zqn, get_none (by omega)]
  have z7 : m1.get (m.next + 7) = none := by rw [o1.get _ (by simp), Mem.zqn, get_none (by omega)]
  have sub : Sub m1 A := ⟨by omega, fun i x h => sA i x (fun e => by rw [e, z6] at h; cases h) (fun e => by rw [e, z7] at h; cases h) h⟩
  clear hA
  simp (disch := first | omega | (simp only [zqp, zqq]; omega)) [ir8_k2, ir8_k1, zqa, zqb, zqc, zqd, zqe, zqf, zqg, zqh, zqi, zqj, zqk, u64b, u32b, zql, zqm, zqn, zqo, -zqu, -isSl, -zqs, -zqt, -zqv, -zqr]
  refine compile_b (w := true) (zql (by simp)) fun m2 o2 => ?_
  have x2 := o2.next
  simp only [zqp, zqq] at x2
  have oA2 : Old A m2 := (((Old.refl A).bump 14).put (i := A.next + 2) (by omega)).trans o2
  have g62 := oA2.some g6
  have hb2 := oA2.some hbA
  simp (disch := first | omega | (simp only [zqp, zqq]; omega)) [callK, keepOk, zqa, zqb, zqc, zqd, zqe, zqf, zqg, zqh, zqi, zqj, zqk, u64b, u32b, zql, zqm, zqn, zqo, -zqu, -isSl, -zqs, -zqt, -zqv, -zqr]
  obtain ⟨B, hB⟩ : ∃ B, B = (((m2.put (A.next + 9) (some ⟨[I 0, .slice none 0 0, .slice none 0 0, .slice none 0 0, .slice none 0 0, .slice none 0 0, .slice none 0 0], true⟩)).put (A.next + 10) (some ⟨[I 0, I 0], true⟩)).put (A.next + 9) (some ⟨[I 0, .slice none 0 0, .slice none 0 0, .slice none 0 0, .slice none 0 0, .slice none 0 0, .slice none 0 0], true⟩)).put (A.next + 10) (some ⟨[I 3, I 4], true⟩) := ⟨_, rfl⟩
  rw [← hB]
  have nB : B.next = m2.next := by rw [hB]; rfl
  have oB : Old A B := by rw [hB]; exact ((((oA2.put (i := A.next + 9) (by omega)).put (i := A.next + 10) (by omega)).put (i := A.next + 9) (by omega))).put (i := A.next + 10) (by omega)
  have g6B := oB.some g6
  have hbB := oB.some hbA
  have gpB : B.get (A.next + 10) = some ⟨[I 3, I 4], true⟩ := by rw [hB, zql (by simp; omega)]
  clear hB
  simp (disch := first | omega | (simp only [zqp, zqq]; omega)) [ir8_k3, ir8_k1, ir8_k2, g6B, hbB, gpB, callK, keepOk, zqa, zqb, zqc, zqd, zqe, zqf, zqg, zqh, zqi, zqj, zqk, u64b, u32b, zql, zqm, zqn, zqo, -zqu, -isSl, -zqs, -zqt, -zqv, -zqr]
  refine (validate_root hbB ((hz.sub' sub).mono oB) ((ho.sub' sub).mono oB)).mono fun r3 m3 hp3 => ?_
  obtain ⟨o3, rfl⟩ := hp3
  simp (disch := first | omega | (simp only [zqp, zqq]; omega)) [callK, keepOk, zqa, zqb, zqc, zqd, zqe, zqf, zqg, zqh, zqi, zqj, zqk, u64b, u32b, zql, zqm, zqn, zqo, -zqu, -isSl, -zqs, -zqt, -zqv, -zqr]
  refine validate_nil.mono fun r4 m4 hp4 => ?_
  obtain ⟨o4, rfl⟩ := hp4
  simp (disch := first | omega | (simp only [zqp, zqq]; omega)) [callK, keepOk, zqa, zqb, zqc, zqd, zqe, zqf, zqg, zqh, zqi, zqj, zqk, u64b, u32b, zql, zqm, zqn, zqo, -zqu, -isSl, -zqs, -zqt, -zqv, -zqr]
  exact ((oA.trans oB).trans o3).trans o4
end Go.Proofs.YtkpifdkccdndcaaGreat
