/-
  The program's fractions: 'lowest', 'times', 'zero', 'Valid', 'Reduce'.
  The program's fractions: 'times', 'zero', 'Valid', 'Reduce', 'Cmp', 'Add'.
  The program's fractions: 'Add', 'Sum', 'Make' of one.
  The program's fractions: 'Sum', 'Make' of one; lists of fractions in memory.
-/
import Derived.Test.YtkpifdkccdndcaaGreatIrF
import Derived.Test.YtkpifdkccdndcaaGreatCut
namespace Go.Proofs.YtkpifdkccdndcaaGreat
open Go Go.DI Go.Big
set_option linter.unusedSimpArgs false
set_option linter.unusedVariables false

/-- behind a call that keeps the old blocks, in a draw region -/
theorem callK_mk {P : Program} {base : Nat} {d : Option Nat} {ck : List (Operand × Operand)} {rest : List IOp} {σ : Slots} {m m' : Mem} {K : Slots → Mem → Prop} {r : Value}
    (ho : Old m m') (hb : ∀ p ∈ ck, ∀ b, blkOf (ev σ p.1) = some b → b < m.next) (h : WPO P base rest (putD σ d r) m' K) : callK P base d ck rest σ m K r m' :=
  ⟨fun p hp b hx => ho.get b (hb p hp b hx), h⟩
abbrev frz : List Value := [.bool false, .slice none 0 0, .slice none 0 0]

set_option maxHeartbeats 4000000 in
theorem lowest_wp {m : Mem} {neg : Bool} {v w : Value} {n d : Int} (hv : Nm m v n) (hw : Nm m w d) (hn : n < pw 512) (hd : 0 < d) (hd2 : d < pw 512) :
    WPCall Tryz.prog 89 [.bool neg, v, w] m (FRes m (sizeE (lowF ⟨neg, n, d⟩))) := by
  rw [call89 (by simp)]
  have n0 := hv.nonneg
  obtain ⟨G, hG⟩ : ∃ G, G = gcdI n d := ⟨_, rfl⟩
  have G0 : 0 < G := by rw [hG]; exact gcdI_pos hd
  have G1 : G ≤ d := by rw [hG]; exact gcdI_le hd
  obtain ⟨q, hq⟩ : ∃ q, q = n / G := ⟨_, rfl⟩
  obtain ⟨e, he⟩ : ∃ e, e = d / G := ⟨_, rfl⟩
  have q0 : 0 ≤ q := by rw [hq]; exact Int.ediv_nonneg n0 (by omega)
  have q1 : q ≤ n := by rw [hq]; exact Int.ediv_le_self _ n0
  have e0 : 0 < e := by rw [he, hG]; exact div_pos_of_dvd (gcdI_pos hd) hd (gcdI_dvd_right (by omega))
  have e1 : e ≤ d := by rw [he]; exact Int.ediv_le_self _ (by omega)
  have qn : 0 < q ↔ 0 < n := by
    refine ⟨fun h => by omega, fun h => ?_⟩
    rw [hq, hG]; exact div_pos_of_dvd (gcdI_pos hd) h (gcdI_dvd_left n0)
  have hlow : lowF ⟨neg, n, d⟩ = ⟨neg && decide (0 < q), q, e⟩ := by
    simp only [lowF, ← hG, ← hq, ← he]
    rw [decide_eq_decide.2 qn]
  rw [hlow]
  have v1 : nbits q ≤ 4096 ↔ q < pw 128 := nbits_128
  have v2 : nbits e ≤ 4096 ↔ e < pw 128 := nbits_128
  obtain ⟨cb, hcb⟩ : ∃ cb, cb = m.next := ⟨_, rfl⟩
  -- behind the division
  have tail : ∀ (mm : Mem) (x y : Value) (σ : Slots), Old m mm → cb < mm.next → mm.get cb = some ⟨frz, true⟩ → Nm (Mem.cut mm [cb]) x q → Nm (Mem.cut mm [cb]) y e → σ 0 = .bool neg → σ 1 = x → σ 2 = y → σ 6 = ptr cb →
      WP Tryz.prog ir89_k3 σ mm (retK [.cell 6 true 3, .tmp 7] (FRes m (sizeE ⟨neg && decide (0 < q), q, e⟩))) := by
    intro mm x y σ ho hlt hg hx hy s0 s1 s2 s6
    by_cases k1 : 4096 < nbits q
    · have hf : ¬ Fr.fits ⟨neg && decide (0 < q), q, e⟩ = true := fun h => by have : q < pw 128 := (Fr.fits_iff.1 h).1; omega
      simp (disch := first | omega | (simp only [zqp, zqq]; omega)) [ir89_k3, ir89_k1, ir89_k2, ir89_k4, s0, s1, s2, s6, bits_cut hx, k1, hg, zqa, zqb, zqc, zqd, zqe, zqf, zqg, zqh, zqi, zqj, zqk, u64b, u32b, zql, zqm, zqn, zqo, -zqu, -isSl, -zqs, -zqt, -zqv, -zqr]
      simp only [sizeE, hf, if_false]
      exact ⟨ho.put (by omega), _, rfl, Cf.zero⟩
    by_cases k2 : 4096 < nbits e
    · have hf : ¬ Fr.fits ⟨neg && decide (0 < q), q, e⟩ = true := fun h => by have : e < pw 128 := (Fr.fits_iff.1 h).2; omega
      simp (disch := first | omega | (simp only [zqp, zqq]; omega)) [ir89_k3, ir89_k1, ir89_k2, ir89_k4, s0, s1, s2, s6, bits_cut hx, bits_cut hy, k1, k2, hg, zqa, zqb, zqc, zqd, zqe, zqf, zqg, zqh, zqi, zqj, zqk, u64b, u32b, zql, zqm, zqn, zqo, -zqu, -isSl, -zqs, -zqt, -zqv, -zqr]
      simp only [sizeE, hf, if_false]
      exact ⟨ho.put (by omega), _, rfl, Cf.zero⟩
    have hf : Fr.fits ⟨neg && decide (0 < q), q, e⟩ = true := Fr.fits_iff.2 ⟨v1.1 (by omega), v2.1 (by omega)⟩
    simp only [sizeE, hf, if_true]
    have hl := one_lt hlt
    have k3 : decide (0 < nbits q) = decide (0 < q) := by rw [decide_eq_decide]; have := nbits_0 (n := q); omega
    have fin : ∀ (c : Bool) (σ1 : Slots) (m1 m2 : Mem) (r1 r2 : Value), c = (neg && decide (0 < q)) → Old mm m1 → Sl (Mem.cut m1 [cb]) r1 (digs q) → Old m1 m2 → Sl (Mem.cut m2 [cb]) r2 (digs e) → FRes m (0, ⟨neg && decide (0 < q), q, e⟩) (.tuple #[.agg #[.bool c, r1, r2], I 0]) (m2.put cb (some ⟨[.bool c, r1, r2], true⟩)) := by
      intro c σ1 m1 m2 r1 r2 hc o1 h1 o2 h2
      subst hc
      have hs : Sub (Mem.cut m2 [cb]) (m2.put cb (some ⟨[.bool (neg && decide (0 < q)), r1, r2], true⟩)) := by
        rw [← cut_put (m := m2) (b := cb) (x := some ⟨[.bool (neg && decide (0 < q)), r1, r2], true⟩) (by simp)]
        exact Sub.cut _ _
      exact ⟨((ho.trans o1).trans o2).put (by omega), _, rfl, _, _, rfl, (h1.sub' (Sub.cut_mono o2)).sub' hs, h2.sub' hs⟩
    cases hneg : neg with
    | false =>
      rw [hneg] at s0 fin
      simp (disch := first | omega | (simp only [zqp, zqq]; omega)) [ir89_k3, ir89_k1, ir89_k2, ir89_k4, s0, s1, s2, s6, bits_cut hx, bits_cut hy, k1, k2, zqa, zqb, zqc, zqd, zqe, zqf, zqg, zqh, zqi, zqj, zqk, u64b, u32b, zql, zqm, zqn, zqo, -zqu, -isSl, -zqs, -zqt, -zqv, -zqr]
      refine (trim_cut hl hx).mono fun r1 m1 hp1 => ?_
      simp (disch := first | omega | (simp only [zqp, zqq]; omega)) [s0, s1, s2, s6, zqa, zqb, zqc, zqd, zqe, zqf, zqg, zqh, zqi, zqj, zqk, u64b, u32b, zql, zqm, zqn, zqo, -zqu, -isSl, -zqs, -zqt, -zqv, -zqr]
      refine (trim_cut (one_lt (Nat.lt_of_lt_of_le hlt hp1.1.next)) (hy.sub (Sub.cut_mono hp1.1))).mono fun r2 m2 hp2 => ?_
      have hg2 := hp2.1.some (hp1.1.some hg)
      obtain ⟨pa, na, ca, rfl⟩ := hp1.2.form
      obtain ⟨pb, nb, cb', rfl⟩ := hp2.2.form
      have := get_lt hg2
      simp (disch := first | omega | (simp only [zqp, zqq]; omega)) [s0, s1, s2, s6, hg2, zqa, zqb, zqc, zqd, zqe, zqf, zqg, zqh, zqi, zqj, zqk, u64b, u32b, zql, zqm, zqn, zqo, -zqu, -isSl, -zqs, -zqt, -zqv, -zqr]
      exact fin false σ m1 m2 _ _ (by simp) hp1.1 hp1.2 hp2.1 hp2.2
    | true =>
      rw [hneg] at s0 fin
      simp (disch := first | omega | (simp only [zqp, zqq]; omega)) [ir89_k3, ir89_k1, ir89_k2, ir89_k4, s0, s1, s2, s6, bits_cut hx, bits_cut hy, k1, k2, zqa, zqb, zqc, zqd, zqe, zqf, zqg, zqh, zqi, zqj, zqk, u64b, u32b, zql, zqm, zqn, zqo, -zqu, -isSl, -zqs, -zqt, -zqv, -zqr]
      refine (trim_cut hl hx).mono fun r1 m1 hp1 => ?_
      simp (disch := first | omega | (simp only [zqp, zqq]; omega)) [s0, s1, s2, s6, zqa, zqb, zqc, zqd, zqe, zqf, zqg, zqh, zqi, zqj, zqk, u64b, u32b, zql, zqm, zqn, zqo, -zqu, -isSl, -zqs, -zqt, -zqv, -zqr]
      refine (trim_cut (one_lt (Nat.lt_of_lt_of_le hlt hp1.1.next)) (hy.sub (Sub.cut_mono hp1.1))).mono fun r2 m2 hp2 => ?_
      have hg2 := hp2.1.some (hp1.1.some hg)
      obtain ⟨pa, na, ca, rfl⟩ := hp1.2.form
      obtain ⟨pb, nb, cb', rfl⟩ := hp2.2.form
      have := get_lt hg2
      simp (disch := first | omega | (simp only [zqp, zqq]; omega)) [s0, s1, s2, s6, hg2, zqa, zqb, zqc, zqd, zqe, zqf, zqg, zqh, zqi, zqj, zqk, u64b, u32b, zql, zqm, zqn, zqo, -zqu, -isSl, -zqs, -zqt, -zqv, -zqr]
      exact fin (decide (0 < nbits q)) σ m1 m2 _ _ (by simp [k3]) hp1.1 hp1.2 hp2.1 hp2.2
  simp (disch := first | omega | (simp only [zqp, zqq]; omega)) [ir89_b, ir89_k1, ir89_k2, ir89_k4, zqa, zqb, zqc, zqd, zqe, zqf, zqg, zqh, zqi, zqj, zqk, u64b, u32b, zql, zqm, zqn, zqo, -zqu, -isSl, -zqs, -zqt, -zqv, -zqr]
  obtain ⟨mm, hmm⟩ : ∃ mm, mm = (m.bump 2).put m.next (some ⟨frz, true⟩) := ⟨_, rfl⟩
  rw [← hmm, ← hcb]
  have om : Old m mm := by rw [hmm]; exact ((Old.refl m).bump 2).put (by omega)
  have hlt : cb < mm.next := by rw [hmm, hcb]; simp
  have hg : mm.get cb = some ⟨frz, true⟩ := by rw [hmm, hcb]; exact zql (by simp)
  have sm := fun {m' : Mem} (o : Old m m') => Sub.cut_old (l := [cb]) o (one_le (by omega))
  refine (gcd_cut (one_lt hlt) (hv.sub (sm om)) (hw.sub (sm om)) hn hd2).mono fun r1 m1 hp1 => ?_
  obtain ⟨o1, g, rfl, hg1⟩ := hp1
  rw [← hG] at hg1
  have om1 := om.trans o1
  have gN := Nm.digs hg1 (by omega) (by omega)
  by_cases kg : 1 < nbits G
  · simp (disch := first | omega | (simp only [zqp, zqq]; omega)) [bits_cut gN, kg, zqa, zqb, zqc, zqd, zqe, zqf, zqg, zqh, zqi, zqj, zqk, u64b, u32b, zql, zqm, zqn, zqo, -zqu, -isSl, -zqs, -zqt, -zqv, -zqr]
    refine (div_cut (one_lt (Nat.lt_of_lt_of_le hlt o1.next)) (hv.sub (sm om1)) gN hn (by omega) (by omega)).mono fun r2 m2 hp2 => ?_
    obtain ⟨o2, q', s', rfl, hq', _⟩ := hp2
    rw [← hq] at hq'
    simp (disch := first | omega | (simp only [zqp, zqq]; omega)) [zqa, zqb, zqc, zqd, zqe, zqf, zqg, zqh, zqi, zqj, zqk, u64b, u32b, zql, zqm, zqn, zqo, -zqu, -isSl, -zqs, -zqt, -zqv, -zqr]
    have om2 := om1.trans o2
    have o12 := o1.trans o2
    refine (div_cut (one_lt (Nat.lt_of_lt_of_le hlt o12.next)) (hw.sub (sm om2)) (gN.sub (Sub.cut_mono o2)) hd2 (by omega) (by omega)).mono fun r3 m3 hp3 => ?_
    obtain ⟨o3, e', s'', rfl, he', _⟩ := hp3
    rw [← he] at he'
    simp (disch := first | omega | (simp only [zqp, zqq]; omega)) [zqa, zqb, zqc, zqd, zqe, zqf, zqg, zqh, zqi, zqj, zqk, u64b, u32b, zql, zqm, zqn, zqo, -zqu, -isSl, -zqs, -zqt, -zqv, -zqr]
    have o13 := o12.trans o3
    exact tail m3 q' e' _ (om2.trans o3) (Nat.lt_of_lt_of_le hlt o13.next) (o13.some hg) ((Nm.digs hq' q0 (by omega)).sub (Sub.cut_mono o3)) (Nm.digs he' (by omega) (by omega)) (by simp) (by simp) (by simp) (by simp [hcb])
  · have G2 : G = 1 := by have := nbits_1 (n := G); omega
    rw [G2, Int.ediv_one] at hq he
    simp (disch := first | omega | (simp only [zqp, zqq]; omega)) [bits_cut gN, kg, zqa, zqb, zqc, zqd, zqe, zqf, zqg, zqh, zqi, zqj, zqk, u64b, u32b, zql, zqm, zqn, zqo, -zqu, -isSl, -zqs, -zqt, -zqv, -zqr]
    exact tail m1 v w _ om1 (Nat.lt_of_lt_of_le hlt o1.next) (o1.some hg) (by rw [hq]; exact hv.sub (sm om1)) (by rw [he]; exact hw.sub (sm om1)) (by simp) (by simp) (by simp) (by simp [hcb])
end Go.Proofs.YtkpifdkccdndcaaGreat
namespace Go.Proofs.YtkpifdkccdndcaaGreat
open Go Go.DI Go.Big
set_option linter.unusedSimpArgs false
set_option linter.unusedVariables false

theorem lowest_cut {m : Mem} {l : List Nat} {neg : Bool} {v w : Value} {n d : Int} (hl : ∀ c ∈ l, c < m.next) (hv : Nm (Mem.cut m l) v n) (hw : Nm (Mem.cut m l) w d) (hn : n < pw 512) (hd : 0 < d) (hd2 : d < pw 512) :
    WPCall Tryz.prog 89 [.bool neg, v, w] m fun r m' => Old m m' ∧ FResV (sizeE (lowF ⟨neg, n, d⟩)) r (Mem.cut m' l) :=
  call_cut FResV.sub hl (lowest_wp hv hw hn hd hd2)
theorem fres_put {m m2 : Mem} {cb : Nat} {p : Int × Fr} {x0 x1 x2 : Value} (ho : Old m m2) (hcb : m.next ≤ cb) (hc : Cf (Mem.cut m2 [cb]) (.agg #[x0, x1, x2]) p.2) : FRes m p (.tuple #[.agg #[x0, x1, x2], I p.1]) (m2.put cb (some ⟨[x0, x1, x2], true⟩)) := by
  refine ⟨ho.put hcb, _, rfl, hc.sub ?_⟩
  rw [← cut_put (m := m2) (b := cb) (l := [cb]) (x := some ⟨[x0, x1, x2], true⟩) (by simp)]
  exact Sub.cut _ _
theorem Cf.form {m : Mem} {v : Value} {x : Fr} (h : Cf m v x) : ∃ p n c p' n' c', v = .agg #[.bool x.neg, .slice p n c, .slice p' n' c'] := by
  obtain ⟨a, b, rfl, h1, h2⟩ := h
  obtain ⟨p, n, c, rfl⟩ := h1.form
  obtain ⟨p', n', c', rfl⟩ := h2.form
  exact ⟨_, _, _, _, _, _, rfl⟩
theorem Vf.form {m : Mem} {v : Value} {x : Fr} (h : Vf m v x) : ∃ p n c p' n' c', v = .agg #[.bool x.neg, .slice p n c, .slice p' n' c'] ∧ Nm m (.slice p n c) x.n ∧ Nm m (.slice p' n' c') x.d := by
  obtain ⟨a, b, rfl, h1, h2⟩ := h
  obtain ⟨p, n, c, rfl⟩ := h1.form
  obtain ⟨p', n', c', rfl⟩ := h2.form
  exact ⟨_, _, _, _, _, _, rfl, h1, h2⟩

section
variable {m : Mem} {l : List Nat} {v w : Value} {a b : Int} {x y : Fr}
theorem times_wp (hv : Nm m v a) (hw : Nm m w b) (h1 : a < pw 512) (h2 : b < pw 512) (h : a * b < pw 512) : WPCall Tryz.prog 93 [v, w] m fun r m' => Old m m' ∧ Sl m' r (digs (a * b)) := by
  rw [call93 (by simp)]
  simp (disch := first | omega | (simp only [zqp, zqq]; omega)) [ir93_b, ir93_k1, ir93_k2, zqa, zqb, zqc, zqd, zqe, zqf, zqg, zqh, zqi, zqj, zqk, u64b, u32b, zql, zqm, zqn, zqo, -zqu, -isSl, -zqs, -zqt, -zqv, -zqr]
  refine (mul_nm hv hw h1 h2 h).mono fun r m' hp => ?_
  obtain ⟨ho, v, rfl, hs⟩ := hp
  simp (disch := first | omega | (simp only [zqp, zqq]; omega)) [zqa, zqb, zqc, zqd, zqe, zqf, zqg, zqh, zqi, zqj, zqk, u64b, u32b, zql, zqm, zqn, zqo, -zqu, -isSl, -zqs, -zqt, -zqv, -zqr]
  exact ⟨ho, hs⟩
theorem times_cut (hl : ∀ c ∈ l, c < m.next) (hv : Nm (Mem.cut m l) v a) (hw : Nm (Mem.cut m l) w b) (h1 : a < pw 512) (h2 : b < pw 512) (h : a * b < pw 512) : WPCall Tryz.prog 93 [v, w] m fun r m' => Old m m' ∧ Sl (Mem.cut m' l) r (digs (a * b)) :=
  call_cut (fun _ _ _ hs h => h.sub' hs) hl (times_wp hv hw h1 h2 h)
theorem zero_wp (h : Vf m v x) : WPCall Tryz.prog 94 [v] m fun r m' => Old m m' ∧ r = .bool (decide (x.n = 0)) := by
  rw [call94 (by simp)]
  obtain ⟨p, n, c, p', n', c', rfl, ha, hb⟩ := h.form
  have hbx := fun k j x => bits_nm (ha.mono (((Old.refl m).bump k).put (i := m.next + j) (x := x) (by omega)))
  have hbx0 := fun k x => bits_nm (ha.mono (((Old.refl m).bump k).put (i := m.next) (x := x) (by omega)))
  simp (disch := first | omega | (simp only [zqp, zqq]; omega)) [ir94_b, ir94_k1, hbx, hbx0, zqa, zqb, zqc, zqd, zqe, zqf, zqg, zqh, zqi, zqj, zqk, u64b, u32b, zql, zqm, zqn, zqo, -zqu, -isSl, -zqs, -zqt, -zqv, -zqr]
  refine ⟨((Old.refl m).bump _).put (by omega), ?_⟩
  have h1 := nbits_0 (n := x.n)
  have h2 := nbits_ge x.n
  have h3 := h.n0
  omega
theorem valid_wp (h : Vf m v x) : WPCall Tryz.prog 91 [v] m fun r m' => Old m m' ∧ r = .bool x.ok := by
  rw [call91 (by simp)]
  obtain ⟨p, n, c, p', n', c', rfl, ha, hb⟩ := h.form
  have hbx0 := fun k x => bits_nm (ha.mono (((Old.refl m).bump k).put (i := m.next) (x := x) (by omega)))
  have hby0 := fun k x => bits_nm (hb.mono (((Old.refl m).bump k).put (i := m.next) (x := x) (by omega)))
  have e1 := nbits_128 (n := x.d)
  have e2 := nbits_128 (n := x.n)
  have e3 := nbits_0 (n := x.d)
  have ho := fun k x => (((Old.refl m).bump k).put (i := m.next) (x := x) (by omega))
  by_cases k1 : 0 < nbits x.d
  · by_cases k2 : nbits x.d ≤ 4096
    · simp (disch := first | omega | (simp only [zqp, zqq]; omega)) [ir91_b, ir91_k1, ir91_k2, hbx0, hby0, k1, k2, zqa, zqb, zqc, zqd, zqe, zqf, zqg, zqh, zqi, zqj, zqk, u64b, u32b, zql, zqm, zqn, zqo, -zqu, -isSl, -zqs, -zqt, -zqv, -zqr]
      refine ⟨ho _ _, ?_⟩
      simp only [Fr.ok]
      have : decide (nbits x.n ≤ 4096) = decide (x.n < pw 128) := decide_eq_decide.2 e2
      rw [this]
      have h1 : decide (0 < x.d) = true := by simp; omega
      have h2 : decide (x.d < pw 128) = true := by simp; omega
      rw [h1, h2, Bool.true_and, Bool.true_and]
    · simp (disch := first | omega | (simp only [zqp, zqq]; omega)) [ir91_b, ir91_k1, ir91_k2, hbx0, hby0, k1, k2, zqa, zqb, zqc, zqd, zqe, zqf, zqg, zqh, zqi, zqj, zqk, u64b, u32b, zql, zqm, zqn, zqo, -zqu, -isSl, -zqs, -zqt, -zqv, -zqr]
      refine ⟨ho _ _, ?_⟩
      simp [Fr.ok]; omega
  · simp (disch := first | omega | (simp only [zqp, zqq]; omega)) [ir91_b, ir91_k1, ir91_k2, hbx0, hby0, k1, zqa, zqb, zqc, zqd, zqe, zqf, zqg, zqh, zqi, zqj, zqk, u64b, u32b, zql, zqm, zqn, zqo, -zqu, -isSl, -zqs, -zqt, -zqv, -zqr]
    refine ⟨ho _ _, ?_⟩
    simp [Fr.ok]; omega
theorem fr512 (hx : x.ok = true) : 0 < x.d ∧ x.d < pw 512 ∧ x.n < pw 512 := by
  obtain ⟨h1, h2, h3⟩ := Fr.ok_iff.1 hx
  have := pw_128_512
  omega
set_option maxHeartbeats 4000000 in
theorem reduce_wp (h : Vf m v x) : WPCall Tryz.prog 86 [v] m (FRes m (reduceE x)) := by
  rw [call86 (by simp)]
  obtain ⟨p, n, c, p', n', c', rfl, ha, hb⟩ := h.form
  have h0 := h.n0
  simp (disch := first | omega | (simp only [zqp, zqq]; omega)) [ir86_b, ir86_k1, ir86_k2, zqa, zqb, zqc, zqd, zqe, zqf, zqg, zqh, zqi, zqj, zqk, u64b, u32b, zql, zqm, zqn, zqo, -zqu, -isSl, -zqs, -zqt, -zqv, -zqr]
  obtain ⟨mm, hmm⟩ : ∃ mm, mm = ((m.bump 3).put m.next (some ⟨[.bool x.neg, .slice p n c, .slice p' n' c'], true⟩)).put (m.next + 1) (some ⟨frz, true⟩) := ⟨_, rfl⟩
  rw [← hmm]
  have om : Old m mm := by rw [hmm]; exact (((Old.refl m).bump 3).put (by omega)).put (by omega)
  have hlt : m.next + 1 < mm.next := by rw [hmm]; simp
  have hg0 : mm.get m.next = some ⟨[.bool x.neg, .slice p n c, .slice p' n' c'], true⟩ := by rw [hmm, zqm (by omega), zql (by simp)]
  have hg1 : mm.get (m.next + 1) = some ⟨frz, true⟩ := by rw [hmm, zql (by simp)]
  refine (valid_wp (h.mono om)).mono fun r m1 hp => ?_
  obtain ⟨o1, rfl⟩ := hp
  have g0 := o1.some hg0
  have g1 := o1.some hg1
  have hlt1 := get_lt g1
  by_cases k : x.ok = true
  · simp (disch := first | omega | (simp only [zqp, zqq]; omega)) [k, g0, g1, zqa, zqb, zqc, zqd, zqe, zqf, zqg, zqh, zqi, zqj, zqk, u64b, u32b, zql, zqm, zqn, zqo, -zqu, -isSl, -zqs, -zqt, -zqv, -zqr]
    have sm := Sub.cut_old (l := [m.next + 1]) (om.trans o1) (one_le (by omega))
    obtain ⟨d0, d1, d2⟩ := fr512 k
    refine (lowest_cut (one_lt hlt1) (ha.sub sm) (hb.sub sm) d2 d0 d1).mono fun r2 m2 hp2 => ?_
    obtain ⟨o2, q, rfl, hq⟩ := hp2
    have g12 := o2.some g1
    have hlt2 := get_lt g12
    obtain ⟨p1, n1, c1, p2, n2, c2, rfl⟩ := hq.form
    simp (disch := first | omega | (simp only [zqp, zqq]; omega)) [g12, zqa, zqb, zqc, zqd, zqe, zqf, zqg, zqh, zqi, zqj, zqk, u64b, u32b, zql, zqm, zqn, zqo, -zqu, -isSl, -zqs, -zqt, -zqv, -zqr]
    rw [reduceE_ok k h0]
    have e : sizeE (lowF ⟨x.neg, x.n, x.d⟩) = (0, lowF x) := by have := reduceE_ok k h0; rw [reduceE, if_pos k] at this; exact this
    rw [e] at hq ⊢
    exact fres_put ((om.trans o1).trans o2) (by omega) hq
  · simp (disch := first | omega | (simp only [zqp, zqq]; omega)) [k, g0, g1, zqa, zqb, zqc, zqd, zqe, zqf, zqg, zqh, zqi, zqj, zqk, u64b, u32b, zql, zqm, zqn, zqo, -zqu, -isSl, -zqs, -zqt, -zqv, -zqr]
    rw [reduceE_bad k]
    exact fres_put (om.trans o1) (by omega) Cf.zero
set_option maxHeartbeats 4000000 in
theorem fcmp_wp (hx : Vf m v x) (hy : Vf m w y) : WPCall Tryz.prog 27 [v, w] m fun r m' => Old m m' ∧ r = if x.ok && y.ok then .tuple #[I (ordF x y), I 0] else .tuple #[I 0, I 1] := by
  rw [call27 (by simp)]
  obtain ⟨p, n, c, p', n', c', rfl, ha, hb⟩ := hx.form
  obtain ⟨u, k, e, u', k', e', rfl, ha', hb'⟩ := hy.form
  have x0 := hx.n0
  have y0 := hy.n0
  simp (disch := first | omega | (simp only [zqp, zqq]; omega)) [ir27_b, ir27_k1, ir27_k2, ir27_k4, ir27_k5, zqa, zqb, zqc, zqd, zqe, zqf, zqg, zqh, zqi, zqj, zqk, u64b, u32b, zql, zqm, zqn, zqo, -zqu, -isSl, -zqs, -zqt, -zqv, -zqr]
  obtain ⟨mm, hmm⟩ : ∃ mm, mm = ((m.bump 4).put m.next (some ⟨[.bool x.neg, .slice p n c, .slice p' n' c'], true⟩)).put (m.next + 1) (some ⟨[.bool y.neg, .slice u k e, .slice u' k' e'], true⟩) := ⟨_, rfl⟩
  rw [← hmm]
  have om : Old m mm := by rw [hmm]; exact (((Old.refl m).bump 4).put (by omega)).put (by omega)
  have hg0 : mm.get m.next = some ⟨[.bool x.neg, .slice p n c, .slice p' n' c'], true⟩ := by rw [hmm, zqm (by omega), zql (by simp)]
  have hg1 : mm.get (m.next + 1) = some ⟨[.bool y.neg, .slice u k e, .slice u' k' e'], true⟩ := by rw [hmm, zql (by simp)]
  refine (valid_wp (hx.mono om)).mono fun r m1 hp => ?_
  obtain ⟨o1, rfl⟩ := hp
  have g0 := o1.some hg0
  have g1 := o1.some hg1
  by_cases kx : x.ok = true
  · simp (disch := first | omega | (simp only [zqp, zqq]; omega)) [kx, g0, g1, zqa, zqb, zqc, zqd, zqe, zqf, zqg, zqh, zqi, zqj, zqk, u64b, u32b, zql, zqm, zqn, zqo, -zqu, -isSl, -zqs, -zqt, -zqv, -zqr]
    refine (valid_wp ((hy.mono om).mono o1)).mono fun r m2 hp => ?_
    obtain ⟨o2, rfl⟩ := hp
    have g0 := o2.some g0
    have g1 := o2.some g1
    have om2 := (om.trans o1).trans o2
    by_cases ky : y.ok = true
    · simp (disch := first | omega | (simp only [zqp, zqq]; omega)) [ky, g0, g1, zqa, zqb, zqc, zqd, zqe, zqf, zqg, zqh, zqi, zqj, zqk, u64b, u32b, zql, zqm, zqn, zqo, -zqu, -isSl, -zqs, -zqt, -zqv, -zqr]
      obtain ⟨dx0, dx1, nx1⟩ := Fr.ok_iff.1 kx
      obtain ⟨dy0, dy1, ny1⟩ := Fr.ok_iff.1 ky
      have P1 := pw_128_512
      have P2 := pw_256_512
      have P3 := pw_pos 256
      have m1' := mul_pw x0 (by omega) nx1 dy1
      have m2' := mul_pw y0 (by omega) ny1 dx1
      simp only [Nat.reduceAdd] at m1' m2'
      refine (times_wp (ha.mono om2) (hb'.mono om2) (by omega) (by omega) (by omega)).mono fun r3 m3 hp3 => ?_
      obtain ⟨o3, h3⟩ := hp3
      have g0' := o3.some g0
      have g1' := o3.some g1
      have hl0 := get_lt g0
      have hl1 := get_lt g1
      refine callK_mk o3 (fun p hp b hb => by simp at hp; rcases hp with rfl | rfl <;> simp [blkOf] at hb <;> omega) ?_
      simp (disch := first | omega | (simp only [zqp, zqq]; omega)) [g0', g1', zqa, zqb, zqc, zqd, zqe, zqf, zqg, zqh, zqi, zqj, zqk, u64b, u32b, zql, zqm, zqn, zqo, -zqu, -isSl, -zqs, -zqt, -zqv, -zqr]
      have om3 := om2.trans o3
      refine (times_wp (ha'.mono om3) (hb.mono om3) (by omega) (by omega) (by omega)).mono fun r4 m4 hp4 => ?_
      obtain ⟨o4, h4⟩ := hp4
      have g0'' := o4.some g0'
      have g1'' := o4.some g1'
      have om4 := om3.trans o4
      have hl0'' := get_lt g0''
      have hl1'' := get_lt g1''
      have X0 : 0 ≤ x.n * y.d := Int.mul_nonneg x0 (by omega)
      have Y0 : 0 ≤ y.n * x.d := Int.mul_nonneg y0 (by omega)
      have cc := fun Φ => cmp_nm (Nm.digs (h3.mono o4) X0 (by omega)) (Nm.digs h4 Y0 (by omega)) Φ
      obtain ⟨C, hC⟩ : ∃ C, C = cmpI (x.n * y.d) (y.n * x.d) := ⟨_, rfl⟩
      rw [← hC] at cc
      have C1 : IntKind.i64.wrap (-C) = -C := by
        have : -1 ≤ C ∧ C ≤ 1 := by rw [hC]; unfold cmpI; split <;> (try split) <;> omega
        exact i64_id (by omega) (by omega)
      have fin : ∀ (A B : Bool) (σ : Slots) (m' : Mem), Old m m' → σ 6 = I C → σ 7 = .bool A → σ 8 = .bool B → WP Tryz.prog ir27_k4 σ m' (retK [.tmp 4, .tmp 5] fun r m' => Old m m' ∧ r = .tuple #[I (if A then (if B then -C else -1) else if B then 1 else C), I 0]) := by
        intro A B σ m' o s6 s7 s8
        cases A <;> cases B <;> simp (disch := first | omega | (simp only [zqp, zqq]; omega)) [ir27_k4, ir27_k1, ir27_k2, ir27_k3, ir27_k5, s6, s7, s8, C1, zqa, zqb, zqc, zqd, zqe, zqf, zqg, zqh, zqi, zqj, zqk, u64b, u32b, zql, zqm, zqn, zqo, -zqu, -isSl, -zqs, -zqt, -zqv, -zqr] <;> exact o
      have oF : ordF x y = if (x.neg && decide (x.n ≠ 0)) then (if (y.neg && decide (y.n ≠ 0)) then -C else -1) else if (y.neg && decide (y.n ≠ 0)) then 1 else C := by
        unfold ordF
        rw [hC, cmpI_neg (x.n * y.d)]
      rw [oF]
      simp (disch := first | omega | (simp only [zqp, zqq]; omega)) [cc, g0'', g1'', zqa, zqb, zqc, zqd, zqe, zqf, zqg, zqh, zqi, zqj, zqk, u64b, u32b, zql, zqm, zqn, zqo, -zqu, -isSl, -zqs, -zqt, -zqv, -zqr]
      have main : ∀ σ : Slots, σ 6 = I C → σ 2 = ptr m.next → σ 3 = ptr (m.next + 1) → WP Tryz.prog ir27_k3 σ m4 (retK [.tmp 4, .tmp 5] fun r m' => Old m m' ∧ r = .tuple #[I (if (x.neg && decide (x.n ≠ 0)) then (if (y.neg && decide (y.n ≠ 0)) then -C else -1) else if (y.neg && decide (y.n ≠ 0)) then 1 else C), I 0]) := by
        intro σ p6 p2 p3
        cases hnx : x.neg with
        | false =>
          rw [hnx] at g0''
          cases hny : y.neg with
          | false =>
            rw [hny] at g1''
            simp (disch := first | omega | (simp only [zqp, zqq]; omega)) [ir27_k3, ir27_k1, ir27_k2, ir27_k5, p6, p2, p3, g0'', g1'', zqa, zqb, zqc, zqd, zqe, zqf, zqg, zqh, zqi, zqj, zqk, u64b, u32b, zql, zqm, zqn, zqo, -zqu, -isSl, -zqs, -zqt, -zqv, -zqr]
            simpa using fin false false _ m4 om4 (by simp [p6]) (by simp) (by simp)
          | true =>
            rw [hny] at g1''
            simp (disch := first | omega | (simp only [zqp, zqq]; omega)) [ir27_k3, ir27_k1, ir27_k2, ir27_k5, p6, p2, p3, g0'', g1'', zqa, zqb, zqc, zqd, zqe, zqf, zqg, zqh, zqi, zqj, zqk, u64b, u32b, zql, zqm, zqn, zqo, -zqu, -isSl, -zqs, -zqt, -zqv, -zqr]
            have hy4 := hy.mono om4
            rw [hny] at hy4
            refine (zero_wp hy4).mono fun r5 m5 hp5 => ?_
            obtain ⟨o5, rfl⟩ := hp5
            simp (disch := first | omega | (simp only [zqp, zqq]; omega)) [zqa, zqb, zqc, zqd, zqe, zqf, zqg, zqh, zqi, zqj, zqk, u64b, u32b, zql, zqm, zqn, zqo, -zqu, -isSl, -zqs, -zqt, -zqv, -zqr]
            simpa using fin false (!decide (y.n = 0)) _ m5 (om4.trans o5) (by simp [p6]) (by simp) (by simp)
        | true =>
          rw [hnx] at g0''
          have hx4 := hx.mono om4
          rw [hnx] at hx4
          cases hny : y.neg with
          | false =>
            rw [hny] at g1''
            simp (disch := first | omega | (simp only [zqp, zqq]; omega)) [ir27_k3, ir27_k1, ir27_k2, ir27_k5, p6, p2, p3, g0'', g1'', zqa, zqb, zqc, zqd, zqe, zqf, zqg, zqh, zqi, zqj, zqk, u64b, u32b, zql, zqm, zqn, zqo, -zqu, -isSl, -zqs, -zqt, -zqv, -zqr]
            refine (zero_wp hx4).mono fun r5 m5 hp5 => ?_
            obtain ⟨o5, rfl⟩ := hp5
            refine callK_mk o5 (fun p hp b hb => by simp at hp; rcases hp with rfl; simp [blkOf, p3] at hb; omega) ?_
            simp (disch := first | omega | (simp only [zqp, zqq]; omega)) [zqa, zqb, zqc, zqd, zqe, zqf, zqg, zqh, zqi, zqj, zqk, u64b, u32b, zql, zqm, zqn, zqo, -zqu, -isSl, -zqs, -zqt, -zqv, -zqr]
            simpa using fin (!decide (x.n = 0)) false _ m5 (om4.trans o5) (by simp [p6]) (by simp) (by simp)
          | true =>
            rw [hny] at g1''
            simp (disch := first | omega | (simp only [zqp, zqq]; omega)) [ir27_k3, ir27_k1, ir27_k2, ir27_k5, p6, p2, p3, g0'', g1'', zqa, zqb, zqc, zqd, zqe, zqf, zqg, zqh, zqi, zqj, zqk, u64b, u32b, zql, zqm, zqn, zqo, -zqu, -isSl, -zqs, -zqt, -zqv, -zqr]
            refine (zero_wp hx4).mono fun r5 m5 hp5 => ?_
            obtain ⟨o5, rfl⟩ := hp5
            refine callK_mk o5 (fun p hp b hb => by simp at hp; rcases hp with rfl; simp [blkOf, p3] at hb; omega) ?_
            have g5 := o5.some g1''
            simp (disch := first | omega | (simp only [zqp, zqq]; omega)) [p3, g5, zqa, zqb, zqc, zqd, zqe, zqf, zqg, zqh, zqi, zqj, zqk, u64b, u32b, zql, zqm, zqn, zqo, -zqu, -isSl, -zqs, -zqt, -zqv, -zqr]
            have hy4 := (hy.mono om4).mono o5
            rw [hny] at hy4
            refine (zero_wp hy4).mono fun r6 m6 hp6 => ?_
            obtain ⟨o6, rfl⟩ := hp6
            simp (disch := first | omega | (simp only [zqp, zqq]; omega)) [zqa, zqb, zqc, zqd, zqe, zqf, zqg, zqh, zqi, zqj, zqk, u64b, u32b, zql, zqm, zqn, zqo, -zqu, -isSl, -zqs, -zqt, -zqv, -zqr]
            simpa using fin (!decide (x.n = 0)) (!decide (y.n = 0)) _ m6 ((om4.trans o5).trans o6) (by simp [p6]) (by simp) (by simp)
      simp only [Bool.and_eq_true, decide_eq_true_eq, ne_eq] at main
      exact main _ (by simp) (by simp) (by simp)
    · simp (disch := first | omega | (simp only [zqp, zqq]; omega)) [ky, g0, g1, zqa, zqb, zqc, zqd, zqe, zqf, zqg, zqh, zqi, zqj, zqk, u64b, u32b, zql, zqm, zqn, zqo, -zqu, -isSl, -zqs, -zqt, -zqv, -zqr]
      exact om2
  · simp (disch := first | omega | (simp only [zqp, zqq]; omega)) [kx, g0, g1, zqa, zqb, zqc, zqd, zqe, zqf, zqg, zqh, zqi, zqj, zqk, u64b, u32b, zql, zqm, zqn, zqo, -zqu, -isSl, -zqs, -zqt, -zqv, -zqr]
    exact om.trans o1
end
end Go.Proofs.YtkpifdkccdndcaaGreat
namespace Go.Proofs.YtkpifdkccdndcaaGreat
open Go Go.DI Go.Big
set_option linter.unusedSimpArgs false
set_option linter.unusedVariables false

section
variable {m : Mem} {l : List Nat} {v w : Value} {a b : Int} {x y : Fr}
set_option maxHeartbeats 8000000 in
theorem fadd_wp (hx : Vf m v x) (hy : Vf m w y) : WPCall Tryz.prog 88 [v, w] m (FRes m (addE x y)) := by
  rw [call88 (by simp)]
  obtain ⟨p, n, c, p', n', c', rfl, ha, hb⟩ := hx.form
  obtain ⟨u, k, e, u', k', e', rfl, ha', hb'⟩ := hy.form
  have x0 := hx.n0
  have y0 := hy.n0
  simp (disch := first | omega | (simp only [zqp, zqq]; omega)) [ir88_b, ir88_k1, ir88_k3, ir88_k4, ir88_k5, ir88_k6, ir88_k7, ir88_k8, zqa, zqb, zqc, zqd, zqe, zqf, zqg, zqh, zqi, zqj, zqk, u64b, u32b, zql, zqm, zqn, zqo, -zqu, -isSl, -zqs, -zqt, -zqv, -zqr]
  obtain ⟨cb, hcb⟩ : ∃ cb, cb = m.next + 2 := ⟨_, rfl⟩
  obtain ⟨mm, hmm⟩ : ∃ mm, mm = (((m.bump 4).put m.next (some ⟨[.bool x.neg, .slice p n c, .slice p' n' c'], true⟩)).put (m.next + 1) (some ⟨[.bool y.neg, .slice u k e, .slice u' k' e'], true⟩)).put (m.next + 2) (some ⟨frz, true⟩) := ⟨_, rfl⟩
  rw [← hmm, ← hcb]
  have om : Old m mm := by rw [hmm]; exact ((((Old.refl m).bump 4).put (by omega)).put (by omega)).put (by omega)
  have hg0 : mm.get m.next = some ⟨[.bool x.neg, .slice p n c, .slice p' n' c'], true⟩ := by rw [hmm, zqm (by omega), zqm (by omega), zql (by simp)]
  have hg1 : mm.get (m.next + 1) = some ⟨[.bool y.neg, .slice u k e, .slice u' k' e'], true⟩ := by rw [hmm, zqm (by omega), zql (by simp)]
  have hg2 : mm.get cb = some ⟨frz, true⟩ := by rw [hmm, hcb, zql (by simp)]
  refine (valid_wp (hx.mono om)).mono fun r m1 hp => ?_
  obtain ⟨o1, rfl⟩ := hp
  have g0 := o1.some hg0
  have g1 := o1.some hg1
  have g2 := o1.some hg2
  have hlt1 := get_lt g2
  have om1 := om.trans o1
  by_cases kx : x.ok = true
  · simp (disch := first | omega | (simp only [zqp, zqq]; omega)) [kx, g0, g1, zqa, zqb, zqc, zqd, zqe, zqf, zqg, zqh, zqi, zqj, zqk, u64b, u32b, zql, zqm, zqn, zqo, -zqu, -isSl, -zqs, -zqt, -zqv, -zqr]
    refine (valid_wp (hy.mono om1)).mono fun r m2 hp => ?_
    obtain ⟨o2, rfl⟩ := hp
    replace g0 := o2.some g0
    replace g1 := o2.some g1
    replace g2 := o2.some g2
    have hlt2 := get_lt g2
    have om2 := om1.trans o2
    by_cases ky : y.ok = true
    · simp (disch := first | omega | (simp only [zqp, zqq]; omega)) [ky, g0, g1, zqa, zqb, zqc, zqd, zqe, zqf, zqg, zqh, zqi, zqj, zqk, u64b, u32b, zql, zqm, zqn, zqo, -zqu, -isSl, -zqs, -zqt, -zqv, -zqr]
      obtain ⟨dx0, dx1, nx1⟩ := Fr.ok_iff.1 kx
      obtain ⟨dy0, dy1, ny1⟩ := Fr.ok_iff.1 ky
      have P1 := pw_128_512
      have P2 := pw_256_512
      have P3 := pw_pos 256
      have m1' := mul_pw x0 (by omega) nx1 dy1
      have m2' := mul_pw y0 (by omega) ny1 dx1
      have m3' := mul_pw (by omega) (by omega) dx1 dy1
      simp only [Nat.reduceAdd] at m1' m2' m3'
      have X0 : 0 ≤ x.n * y.d := Int.mul_nonneg x0 (by omega)
      have Y0 : 0 ≤ y.n * x.d := Int.mul_nonneg y0 (by omega)
      have D0 : 0 < x.d * y.d := Int.mul_pos dx0 dy0
      obtain ⟨A, hA⟩ : ∃ A, A = x.n * y.d := ⟨_, rfl⟩
      obtain ⟨B, hB⟩ : ∃ B, B = y.n * x.d := ⟨_, rfl⟩
      obtain ⟨D, hD⟩ : ∃ D, D = x.d * y.d := ⟨_, rfl⟩
      have main : ∀ (σ : Slots), σ 2 = ptr m.next → σ 3 = ptr (m.next + 1) → σ 4 = ptr cb → WP Tryz.prog ir88_k2 σ m2 (retK [.cell 4 true 3, .tmp 5] (FRes m (sizeE (lowF (addF x y))))) := by
        intro σ s2 s3 s4
        simp (disch := first | omega | (simp only [zqp, zqq]; omega)) [ir88_k2, ir88_k1, ir88_k4, ir88_k5, ir88_k6, ir88_k7, ir88_k8, s2, s3, s4, g0, g1, zqa, zqb, zqc, zqd, zqe, zqf, zqg, zqh, zqi, zqj, zqk, u64b, u32b, zql, zqm, zqn, zqo, -zqu, -isSl, -zqs, -zqt, -zqv, -zqr]
        have cm := fun {m' : Mem} (o : Old m m') => Sub.cut_old (l := [cb]) o (one_le (by omega))
        refine (times_cut (one_lt hlt2) (ha.sub (cm om2)) (hb'.sub (cm om2)) (by omega) (by omega) (by omega)).mono fun r3 m3 hp3 => ?_
        obtain ⟨o3, h3⟩ := hp3
        have hl0 := get_lt g0
        have hl1 := get_lt g1
        refine callK_mk o3 (fun p hp b hb => by simp at hp; rcases hp with rfl | rfl | rfl | rfl <;> simp [blkOf] at hb <;> omega) ?_
        have om3 := om2.trans o3
        have g03 := o3.some g0
        have g13 := o3.some g1
        have g23 := o3.some g2
        simp (disch := first | omega | (simp only [zqp, zqq]; omega)) [s2, s3, s4, g03, g13, zqa, zqb, zqc, zqd, zqe, zqf, zqg, zqh, zqi, zqj, zqk, u64b, u32b, zql, zqm, zqn, zqo, -zqu, -isSl, -zqs, -zqt, -zqv, -zqr]
        refine (times_cut (one_lt (get_lt g23)) (ha'.sub (cm om3)) (hb.sub (cm om3)) (by omega) (by omega) (by omega)).mono fun r4 m4 hp4 => ?_
        obtain ⟨o4, h4⟩ := hp4
        have hl03 := get_lt g03
        have hl13 := get_lt g13
        refine callK_mk o4 (fun p hp b hb => by simp at hp; rcases hp with rfl | rfl <;> simp [blkOf] at hb <;> omega) ?_
        have om4 := om3.trans o4
        have g04 := o4.some g03
        have g14 := o4.some g13
        have g24 := o4.some g23
        simp (disch := first | omega | (simp only [zqp, zqq]; omega)) [s2, s3, s4, g04, g14, zqa, zqb, zqc, zqd, zqe, zqf, zqg, zqh, zqi, zqj, zqk, u64b, u32b, zql, zqm, zqn, zqo, -zqu, -isSl, -zqs, -zqt, -zqv, -zqr]
        refine (times_cut (one_lt (get_lt g24)) (hb.sub (cm om4)) (hb'.sub (cm om4)) (by omega) (by omega) (by omega)).mono fun r5 m5 hp5 => ?_
        obtain ⟨o5, h5⟩ := hp5
        have om5 := om4.trans o5
        have g05 := o5.some g04
        have g15 := o5.some g14
        have g25 := o5.some g24
        have hlt5 := get_lt g25
        rw [← hA] at h3 m1' X0
        rw [← hB] at h4 m2' Y0
        rw [← hD] at h5 m3' D0
        have NA : Nm (Mem.cut m5 [cb]) r3 A := Nm.digs ((h3.sub' (Sub.cut_mono o4)).sub' (Sub.cut_mono o5)) X0 (by omega)
        have NB : Nm (Mem.cut m5 [cb]) r4 B := Nm.digs (h4.sub' (Sub.cut_mono o5)) Y0 (by omega)
        have ND : Nm (Mem.cut m5 [cb]) r5 D := Nm.digs h5 (by omega) (by omega)
        simp (disch := first | omega | (simp only [zqp, zqq]; omega)) [s2, s3, s4, zqa, zqb, zqc, zqd, zqe, zqf, zqg, zqh, zqi, zqj, zqk, u64b, u32b, zql, zqm, zqn, zqo, -zqu, -isSl, -zqs, -zqt, -zqv, -zqr]
        -- the result
        have fin : ∀ (ng : Bool) (S : Int) (rs : Value) (m6 : Mem) {Q : Value → Mem → Prop}, Old m5 m6 → Sl (Mem.cut m6 [cb]) rs (digs S) → 0 ≤ S → S < pw 512 →
            (∀ m7 b1 p1 n1 c1 p2 n2 c2, Old m6 m7 → FRes m (sizeE (lowF ⟨ng, S, D⟩)) (.tuple #[.agg #[.bool b1, .slice p1 n1 c1, .slice p2 n2 c2], I (sizeE (lowF ⟨ng, S, D⟩)).1]) (m7.put cb (some ⟨[.bool b1, .slice p1 n1 c1, .slice p2 n2 c2], true⟩)) → Q (.tuple #[.agg #[.bool b1, .slice p1 n1 c1, .slice p2 n2 c2], I (sizeE (lowF ⟨ng, S, D⟩)).1]) m7) → WPCall Tryz.prog 89 [.bool ng, rs, r5] m6 Q := by
          intro ng S rs m6 Q o6 hs S0 S1 hQ
          refine (lowest_cut (one_lt (Nat.lt_of_lt_of_le hlt5 o6.next)) (Nm.digs hs S0 S1) (ND.sub (Sub.cut_mono o6)) S1 D0 (by omega)).mono fun r7 m7 hp7 => ?_
          obtain ⟨o7, q, rfl, hq⟩ := hp7
          obtain ⟨p1, n1, c1, p2, n2, c2, rfl⟩ := hq.form
          exact hQ m7 _ p1 n1 c1 p2 n2 c2 o7 (fres_put ((om5.trans o6).trans o7) (by omega) hq)
        by_cases kn : x.neg = y.neg
        · have hE : addF x y = ⟨x.neg, A + B, D⟩ := by simp [addF, kn, hA, hB, hD]
          rw [hE]
          simp (disch := first | omega | (simp only [zqp, zqq]; omega)) [ir88_k3, ir88_k1, ir88_k2, ir88_k4, ir88_k5, ir88_k6, ir88_k7, ir88_k8, s2, s3, s4, g05, g15, kn, zqa, zqb, zqc, zqd, zqe, zqf, zqg, zqh, zqi, zqj, zqk, u64b, u32b, zql, zqm, zqn, zqo, -zqu, -isSl, -zqs, -zqt, -zqv, -zqr]
          refine (add_cut (one_lt hlt5) NA NB (by omega)).mono fun r6 m6 hp6 => ?_
          obtain ⟨o6, rs, rfl, hs⟩ := hp6
          have g06 := o6.some g05
          have g26 := o6.some g25
          simp (disch := first | omega | (simp only [zqp, zqq]; omega)) [s2, s3, s4, g06, kn, zqa, zqb, zqc, zqd, zqe, zqf, zqg, zqh, zqi, zqj, zqk, u64b, u32b, zql, zqm, zqn, zqo, -zqu, -isSl, -zqs, -zqt, -zqv, -zqr]
          refine fin y.neg (A + B) rs m6 o6 hs (by omega) (by omega) fun m7 b1 p1 n1 c1 p2 n2 c2 o7 hr => ?_
          have g27 := o7.some g26
          have hlt7 := get_lt g27
          simp (disch := first | omega | (simp only [zqp, zqq]; omega)) [s2, s3, s4, g27, zqa, zqb, zqc, zqd, zqe, zqf, zqg, zqh, zqi, zqj, zqk, u64b, u32b, zql, zqm, zqn, zqo, -zqu, -isSl, -zqs, -zqt, -zqv, -zqr]
          exact hr
        · have kn' : (x.neg == y.neg) = false := by simpa using kn
          have cc := fun Φ => cmp_cut NA NB Φ
          by_cases kc : B ≤ A
          · have k1 : 0 ≤ cmpI A B := by unfold cmpI; rw [if_neg (by omega)]; split <;> omega
            have hE : addF x y = ⟨x.neg, A - B, D⟩ := by simp only [addF, kn, if_false, ← hA, ← hB, ← hD, kc, if_true]
            rw [hE]
            simp (disch := first | omega | (simp only [zqp, zqq]; omega)) [ir88_k3, ir88_k1, ir88_k2, ir88_k4, ir88_k5, ir88_k6, ir88_k7, ir88_k8, s2, s3, s4, g05, g15, kn, kn', cc, k1, zqa, zqb, zqc, zqd, zqe, zqf, zqg, zqh, zqi, zqj, zqk, u64b, u32b, zql, zqm, zqn, zqo, -zqu, -isSl, -zqs, -zqt, -zqv, -zqr]
            refine (sub_cut (one_lt hlt5) NA NB (by omega) kc).mono fun r6 m6 hp6 => ?_
            obtain ⟨o6, rs, rfl, hs⟩ := hp6
            have g06 := o6.some g05
            have g26 := o6.some g25
            simp (disch := first | omega | (simp only [zqp, zqq]; omega)) [s2, s3, s4, g06, zqa, zqb, zqc, zqd, zqe, zqf, zqg, zqh, zqi, zqj, zqk, u64b, u32b, zql, zqm, zqn, zqo, -zqu, -isSl, -zqs, -zqt, -zqv, -zqr]
            refine fin x.neg (A - B) rs m6 o6 hs (by omega) (by omega) fun m7 b1 p1 n1 c1 p2 n2 c2 o7 hr => ?_
            have g27 := o7.some g26
            have hlt7 := get_lt g27
            simp (disch := first | omega | (simp only [zqp, zqq]; omega)) [s2, s3, s4, g27, zqa, zqb, zqc, zqd, zqe, zqf, zqg, zqh, zqi, zqj, zqk, u64b, u32b, zql, zqm, zqn, zqo, -zqu, -isSl, -zqs, -zqt, -zqv, -zqr]
            exact hr
          · have k1 : ¬ 0 ≤ cmpI A B := by rw [cmpI_lt (by omega)]; omega
            have hE : addF x y = ⟨y.neg, B - A, D⟩ := by simp only [addF, kn, if_false, ← hA, ← hB, ← hD, kc]
            rw [hE]
            simp (disch := first | omega | (simp only [zqp, zqq]; omega)) [ir88_k3, ir88_k1, ir88_k2, ir88_k4, ir88_k5, ir88_k6, ir88_k7, ir88_k8, s2, s3, s4, g05, g15, kn, kn', cc, k1, zqa, zqb, zqc, zqd, zqe, zqf, zqg, zqh, zqi, zqj, zqk, u64b, u32b, zql, zqm, zqn, zqo, -zqu, -isSl, -zqs, -zqt, -zqv, -zqr]
            refine (sub_cut (one_lt hlt5) NB NA (by omega) (by omega)).mono fun r6 m6 hp6 => ?_
            obtain ⟨o6, rs, rfl, hs⟩ := hp6
            have g16 := o6.some g15
            have g26 := o6.some g25
            simp (disch := first | omega | (simp only [zqp, zqq]; omega)) [s2, s3, s4, g16, zqa, zqb, zqc, zqd, zqe, zqf, zqg, zqh, zqi, zqj, zqk, u64b, u32b, zql, zqm, zqn, zqo, -zqu, -isSl, -zqs, -zqt, -zqv, -zqr]
            refine fin y.neg (B - A) rs m6 o6 hs (by omega) (by omega) fun m7 b1 p1 n1 c1 p2 n2 c2 o7 hr => ?_
            have g27 := o7.some g26
            have hlt7 := get_lt g27
            simp (disch := first | omega | (simp only [zqp, zqq]; omega)) [s2, s3, s4, g27, zqa, zqb, zqc, zqd, zqe, zqf, zqg, zqh, zqi, zqj, zqk, u64b, u32b, zql, zqm, zqn, zqo, -zqu, -isSl, -zqs, -zqt, -zqv, -zqr]
            exact hr
      have e : addE x y = sizeE (lowF (addF x y)) := by simp [addE, kx, ky]
      rw [e]
      exact main _ (by simp) (by simp) (by simp)
    · have e : addE x y = (1, .zero) := by simp [addE, ky]
      rw [e]
      simp (disch := first | omega | (simp only [zqp, zqq]; omega)) [ky, g0, g1, g2, zqa, zqb, zqc, zqd, zqe, zqf, zqg, zqh, zqi, zqj, zqk, u64b, u32b, zql, zqm, zqn, zqo, -zqu, -isSl, -zqs, -zqt, -zqv, -zqr]
      exact fres_put om2 (by omega) Cf.zero
  · have e : addE x y = (1, .zero) := by simp [addE, kx]
    rw [e]
    simp (disch := first | omega | (simp only [zqp, zqq]; omega)) [kx, g0, g1, g2, zqa, zqb, zqc, zqd, zqe, zqf, zqg, zqh, zqi, zqj, zqk, u64b, u32b, zql, zqm, zqn, zqo, -zqu, -isSl, -zqs, -zqt, -zqv, -zqr]
    exact fres_put om1 (by omega) Cf.zero
end
end Go.Proofs.YtkpifdkccdndcaaGreat
namespace Go.Big
set_option linter.unusedSimpArgs false
theorem addF_n {x y : Fr} (hx : 0 ≤ x.n) (hy : 0 ≤ y.n) (dx : 0 < x.d) (dy : 0 < y.d) : 0 ≤ (addF x y).n ∧ 0 < (addF x y).d := by
  have a := Int.mul_nonneg hx (show 0 ≤ y.d by omega)
  have b := Int.mul_nonneg hy (show 0 ≤ x.d by omega)
  have c := Int.mul_pos dx dy
  unfold addF
  split
  · exact ⟨by show 0 ≤ x.n * y.d + y.n * x.d; omega, c⟩
  · split
    · exact ⟨by show 0 ≤ x.n * y.d - y.n * x.d; omega, c⟩
    · exact ⟨by show 0 ≤ y.n * x.d - x.n * y.d; omega, c⟩
/-- bounds of a sum -/
theorem addE_bd {x y : Fr} (hx : 0 ≤ x.n) (hy : 0 ≤ y.n) (h : (addE x y).1 = 0) : 0 ≤ (addE x y).2.n ∧ (addE x y).2.n < pw 128 ∧ 0 ≤ (addE x y).2.d ∧ (addE x y).2.d < pw 128 := by
  unfold addE at h ⊢
  split at h
  · rename_i hk
    rw [if_pos hk]
    simp only [Bool.and_eq_true] at hk
    obtain ⟨dx, _, _⟩ := Fr.ok_iff.1 hk.1
    obtain ⟨dy, _, _⟩ := Fr.ok_iff.1 hk.2
    obtain ⟨n0, d0⟩ := addF_n hx hy dx dy
    unfold sizeE at h ⊢
    split at h
    · rename_i hf
      rw [if_pos hf]
      have := Fr.fits_iff.1 hf
      have a := lowF_n n0 d0
      have b := lowF_d (x := addF x y) d0
      exact ⟨a.1, this.1, Int.le_of_lt b.1, this.2⟩
    · cases h
  · cases h
end Go.Big
namespace Go.Proofs.YtkpifdkccdndcaaGreat
open Go Go.DI Go.Big
set_option linter.unusedSimpArgs false
set_option linter.unusedVariables false

theorem Sub.cut_new {m : Mem} {l : List Nat} {b : Nat} {x : Option Blk} (h : m.get b = none) : Sub (Mem.cut m l) (Mem.cut (m.put b x) l) := ⟨Nat.le_refl _, fun c y hc => by
  by_cases hcl : c ∈ l
  · rw [cut_in hcl] at hc; cases hc
  · rw [cut_out hcl] at hc ⊢
    rw [zqm (fun e => by subst e; rw [h] at hc; cases hc), hc]⟩
def frRp : Rp Fr := ⟨3, fun m cs x => ∃ a b, cs = [.bool x.neg, a, b] ∧ Nm m a x.n ∧ Nm m b x.d, fun _ _ _ ⟨_, _, h, _⟩ => by rw [h]; rfl, fun _ _ _ _ hs ⟨a, b, h, h1, h2⟩ => ⟨a, b, h, h1.sub hs, h2.sub hs⟩⟩
/-- a row is loaded -/
theorem Rp.S.load {α : Type} {r : Rp α} {p m : Mem} {v : Value} {l : List α} (h : r.S p v l) (hs : Sub p m) {i : Nat} {x : α} (hx : l[i]? = some x) :
    ∃ row, addrOk m (zqt v r.z (i : Int)) r.z = true ∧ loadV m true r.z (zqt v r.z (i : Int)) = .agg row.toArray ∧ r.R p row x := by
  obtain ⟨b, o, cs, w, h1, h2, h3, h4⟩ := h.at_ hx
  have h5 := hs.get _ _ h2
  refine ⟨_, ?_, ?_, h4⟩
  · rw [h1]; simp [h5]; omega
  · rw [h1]; simp [h5]
theorem frRp.load {p m : Mem} {v : Value} {l : List Fr} (h : frRp.S p v l) (hs : Sub p m) {i : Nat} {x : Fr} (hx : l[i]? = some x) :
    ∃ q n c q' n' c', addrOk m (zqt v 3 (i : Int)) 3 = true ∧ loadV m true 3 (zqt v 3 (i : Int)) = .agg #[.bool x.neg, .slice q n c, .slice q' n' c'] ∧ Vf p (.agg #[.bool x.neg, .slice q n c, .slice q' n' c']) x := by
  obtain ⟨row, h1, h2, a, b, rfl, h3, h4⟩ := Rp.S.load h hs hx
  obtain ⟨q, n, c, rfl⟩ := h3.form
  obtain ⟨q', n', c', rfl⟩ := h4.form
  exact ⟨q, n, c, q', n', c', h1, h2, _, _, rfl, h3, h4⟩
theorem fadd_cut {m : Mem} {l : List Nat} {v w : Value} {x y : Fr} (hl : ∀ c ∈ l, c < m.next) (hx : Vf (Mem.cut m l) v x) (hy : Vf (Mem.cut m l) w y) : WPCall Tryz.prog 88 [v, w] m fun r m' => Old m m' ∧ FResV (addE x y) r (Mem.cut m' l) :=
  call_cut FResV.sub hl (fadd_wp hx hy)
theorem two_lt {m : Mem} {b c : Nat} (h : b < m.next) (h' : c < m.next) : ∀ d ∈ [b, c], d < m.next := fun d hd => by simp at hd; omega
theorem two_le {m : Mem} {b c : Nat} (h : m.next ≤ b) (h' : m.next ≤ c) : ∀ d ∈ [b, c], m.next ≤ d := fun d hd => by simp at hd; omega
theorem cut_put_old {m m' : Mem} {l : List Nat} {b : Nat} {x : Option Blk} (hb : b ∈ l) (ho : Old m m') : Sub (Mem.cut m l) (Mem.cut (m'.put b x) l) := by rw [cut_put hb]; exact Sub.cut_mono ho

set_option maxHeartbeats 8000000 in
theorem fsum_loop {m : Mem} {v : Value} {l : List Fr} (hv : frRp.S m v l) (hlen : l.length < 1000000) {cb c4 : Nat} (hc : m.next ≤ cb) (hc4 : m.next ≤ c4) (hne : cb ≠ c4) : ∀ (l2 : List Fr) (i : Nat) (s : Fr) (mm : Mem) (σ : Slots) (a b : Value), l.drop i = l2 → i + l2.length = l.length → Old m mm →
    mm.get cb = some ⟨frz, true⟩ → mm.get c4 = some ⟨[.bool s.neg, a, b], true⟩ → Cf (Mem.cut mm [cb, c4]) (.agg #[.bool s.neg, a, b]) s → 0 ≤ s.n → s.n < pw 128 → 0 ≤ s.d → s.d < pw 128 →
    σ 2 = ptr cb → σ 4 = ptr c4 → σ 11 = v → σ 12 = I l.length → σ 13 = I i →
    WP Tryz.prog (.loop ir25_l0) σ mm (blockK 0 (thenK Tryz.prog ir25_k7 (retK [.cell 2 true 3, .tmp 3] (FRes m (sumE s l2))))) := by
  intro l2
  induction l2 with
  | nil =>
    intro i s mm σ a b hd hi ho hg hg4 hs n0 n1 d0 d1 s2 s4 s11 s12 s13
    refine wp_round fun J hJ => ?_
    have e : i = l.length := by simpa using hi
    subst e
    obtain ⟨p1, k1, c1, p2, k2, c2, hf⟩ := hs.form
    simp only [Value.agg.injEq, Array.mk.injEq, List.cons.injEq, and_true] at hf
    obtain ⟨_, rfl, rfl⟩ := hf
    have hl1 := get_lt hg
    have hl2 := get_lt hg4
    simp (disch := first | omega | (simp only [zqp, zqq]; omega)) [ir25_l0, ir25_k1, ir25_k2, ir25_k3, ir25_k4, ir25_k5, ir25_k6, ir25_k7, s2, s4, s11, s12, s13, hg, hg4, zqa, zqb, zqc, zqd, zqe, zqf, zqg, zqh, zqi, zqj, zqk, u64b, u32b, zql, zqm, zqn, zqo, -zqu, -isSl, -zqs, -zqt, -zqv, -zqr]
    refine ⟨ho.put hc, _, rfl, hs.sub ?_⟩
    rw [← cut_put (m := mm) (b := cb) (l := [cb, c4]) (x := some ⟨[.bool s.neg, .slice p1 k1 c1, .slice p2 k2 c2], true⟩) (by simp)]
    exact Sub.cut _ _
  | cons x l2 ih =>
    intro i s mm σ a b hd hi ho hg hg4 hs n0 n1 d0 d1 s2 s4 s11 s12 s13
    refine wp_round fun J hJ => ?_
    have hx : l[i]? = some x := by rw [← List.head?_drop, hd]; rfl
    have hd' : l.drop (i + 1) = l2 := by rw [← List.tail_drop, hd]; rfl
    simp only [List.length_cons] at hi
    have P1 := pw_128_512
    obtain ⟨p1, k1, c1, p2, k2, c2, hf⟩ := hs.form
    simp only [Value.agg.injEq, Array.mk.injEq, List.cons.injEq, and_true] at hf
    obtain ⟨_, rfl, rfl⟩ := hf
    have hl1 := get_lt hg
    have hl2 := get_lt hg4
    have hnx := ho.next
    have hv' := hv.mono (Sub.cut_old (l := [cb, c4]) ho (two_le hc hc4))
    obtain ⟨h1, h2, h3, h4⟩ := hv.len
    replace h3 : zqs 3 v = true := h3
    have q0 : (i : Int) < l.length := by omega
    obtain ⟨q, n, c, q', n', c', a1, a2, hxv⟩ := frRp.load hv' (Sub.cut mm [cb, c4]) hx
    have a1' := fun k => show addrOk (mm.bump k) (zqt v 3 (i : Int)) 3 = true by
      obtain ⟨_, _, _, _, _, _, a, _⟩ := frRp.load hv' ((Sub.cut mm [cb, c4]).trans (Sub.bump mm k)) hx; exact a
    have a2' := fun k => show loadV (mm.bump k) true 3 (zqt v 3 (i : Int)) = .agg #[.bool x.neg, .slice q n c, .slice q' n' c'] by
      obtain ⟨b, o, cs, w, e1, e2, e3, e4⟩ := (hv.mono (Sub.of_old ho)).at_ hx
      have e5 := (Sub.bump mm k).get _ _ e2
      rw [← a2, show frRp.z = 3 from rfl] at *
      rw [e1]; simp [e2, e5]
    have w0 : IntKind.i64.wrap ((i : Int) + 1) = (i : Int) + 1 := i64_id (by omega) (by omega)
    simp (disch := first | omega | (simp only [zqp, zqq]; omega)) [ir25_l0, ir25_k1, ir25_k2, ir25_k3, ir25_k4, ir25_k5, ir25_k6, ir25_k7, s2, s4, s11, s12, s13, q0, h1, h2, h3, a1', a2', hg4, w0, zqa, zqb, zqc, zqd, zqe, zqf, zqg, zqh, zqi, zqj, zqk, u64b, u32b, zql, zqm, zqn, zqo, -zqu, -isSl, -zqs, -zqt, -zqv, -zqr]
    obtain ⟨M, hM⟩ : ∃ M, M = ((mm.bump 4).put (mm.next + 2) (some ⟨[.bool x.neg, .slice q n c, .slice q' n' c'], true⟩)).bump 9 := ⟨_, rfl⟩
    rw [← hM]
    have oM : Old mm M := by rw [hM]; exact (((Old.refl mm).bump 4).put (by omega)).bump 9
    have hMn : M.next = mm.next + 13 := by rw [hM]; simp
    have gM := oM.some hg
    have gM4 := oM.some hg4
    refine (fadd_cut (two_lt (get_lt gM) (get_lt gM4)) ((hs.vf n0 (by omega) d0 (by omega)).sub (Sub.cut_mono oM)) (hxv.sub (Sub.cut_mono oM))).mono fun r m5 hp5 => ?_
    obtain ⟨o5, r', rfl, hr⟩ := hp5
    obtain ⟨p3, k3, c3, p5, k5, c5, rfl⟩ := hr.form
    have g5 := o5.some gM
    have g54 := o5.some gM4
    have hlt5 := get_lt g5
    have hlt54 := get_lt g54
    have hfr : m5.get (mm.next + 4 + 6) = none := o5.none (by omega) (by rw [hM, Mem.zqn, get_none (by simp)])
    have hn5 := o5.next
    have hf7 : mm.next + 4 + 6 < m5.next := by omega
    have x0 := hxv.n0
    by_cases k : (addE s x).1 = 0
    · obtain ⟨e0, e1, e2, e3⟩ := addE_bd n0 x0 k
      have hE : sumE s (x :: l2) = sumE (addE s x).2 l2 := by rw [sumE, if_pos k]
      rw [hE] at hJ ⊢
      have ne1 : c4 ≠ mm.next + 4 + 6 := by omega
      have ne2 : cb ≠ mm.next + 4 + 6 := by omega
      simp (disch := first | omega | (simp only [zqp, zqq]; omega)) [s2, s4, s11, s12, s13, k, g5, g54, w0, zqa, zqb, zqc, zqd, zqe, zqf, zqg, zqh, zqi, zqj, zqk, u64b, u32b, zql, zqm, zqn, zqo, -zqu, -isSl, -zqs, -zqt, -zqv, -zqr]
      obtain ⟨blk, hblk⟩ : ∃ blk : Option Blk, blk = some ⟨[.bool (addE s x).2.neg, .slice p3 k3 c3, .slice p5 k5 c5], true⟩ := ⟨_, rfl⟩
      rw [← hblk]
      refine hJ _ _ (ih (i + 1) (addE s x).2 ((m5.put (mm.next + 4 + 6) blk).put c4 blk) _ (.slice p3 k3 c3) (.slice p5 k5 c5) hd' (by omega) ((((ho.trans oM).trans o5).put (i := mm.next + 4 + 6) (by omega)).put hc4) (by rw [zqm hne, zqm ne2, g5]) (by rw [zql (by simpa using hlt54), hblk]) ?_ e0 e1 e2 e3 (by simp [s2]) (by simp [s4]) (by simp [s11]) (by simp [s12]) (by simp))
      rw [cut_put (by simp)]
      exact hr.sub (Sub.cut_new hfr)
    · have hE : sumE s (x :: l2) = ((addE s x).1, .zero) := by rw [sumE, if_neg k]
      rw [hE]
      have ne2 : cb ≠ mm.next + 4 + 6 := by omega
      simp (disch := first | omega | (simp only [zqp, zqq]; omega)) [s2, s4, s11, s12, s13, k, g5, g54, w0, zqa, zqb, zqc, zqd, zqe, zqf, zqg, zqh, zqi, zqj, zqk, u64b, u32b, zql, zqm, zqn, zqo, -zqu, -isSl, -zqs, -zqt, -zqv, -zqr]
      exact ⟨((((ho.trans oM).trans o5).put (i := mm.next + 4 + 6) (by omega)).put hc), _, rfl, Cf.zero⟩
set_option maxHeartbeats 8000000 in
theorem fsum_wp {m : Mem} {v : Value} {l : List Fr} (hv : frRp.S m v l) (hlen : l.length < 1000000) : WPCall Tryz.prog 25 [v] m (FRes m (sumE .nil l)) := by
  rw [call25 (by simp)]
  simp (disch := first | omega | (simp only [zqp, zqq]; omega)) [ir25_b, ir25_k1, ir25_k2, ir25_k3, ir25_k4, ir25_k5, ir25_k6, zqa, zqb, zqc, zqd, zqe, zqf, zqg, zqh, zqi, zqj, zqk, u64b, u32b, zql, zqm, zqn, zqo, -zqu, -isSl, -zqs, -zqt, -zqv, -zqr]
  obtain ⟨mm, hmm⟩ : ∃ mm, mm = ((m.bump 2).put m.next (some ⟨frz, true⟩)).bump 4 := ⟨_, rfl⟩
  rw [← hmm]
  have om : Old m mm := by rw [hmm]; exact (((Old.refl m).bump 2).put (by omega)).bump 4
  have hg : mm.get m.next = some ⟨frz, true⟩ := by rw [hmm, Mem.zqn, zql (by simp)]
  have hn : mm.next = m.next + 6 := by rw [hmm]; simp
  have hfr0 : mm.get (m.next + 2 + 2) = none := by rw [hmm, Mem.zqn, get_none (by simp)]
  have hm1 : WPCall Tryz.prog 34 [L 1] mm fun r m' => Old mm m' ∧ Sl (Mem.cut m' [m.next]) r (digs 1) := call_cut (fun _ _ _ hs h => h.sub' hs) (one_lt (get_lt hg)) (make_wp (by omega) (by omega))
  refine hm1.mono fun r m1 hp => ?_
  obtain ⟨o1, h1⟩ := hp
  have g1 := o1.some hg
  have hlt1 := get_lt g1
  have hn1 := o1.next
  have hfr : m1.get (m.next + 2 + 2) = none := o1.none (by omega) hfr0
  have hf4 : m.next + 2 + 2 < m1.next := by omega
  obtain ⟨l1, l2, l3, l4⟩ := hv.len
  obtain ⟨p, n, c, rfl⟩ := h1.form
  simp (disch := first | omega | (simp only [zqp, zqq]; omega)) [g1, l1, l2, zqa, zqb, zqc, zqd, zqe, zqf, zqg, zqh, zqi, zqj, zqk, u64b, u32b, zql, zqm, zqn, zqo, -zqu, -isSl, -zqs, -zqt, -zqv, -zqr]
  refine fsum_loop hv hlen (cb := m.next) (c4 := m.next + 2 + 2) (by omega) (by omega) (by omega) l 0 Fr.nil (m1.put (m.next + 2 + 2) (some ⟨[.bool false, .slice none 0 0, .slice p n c], true⟩)) _ (.slice none 0 0) (.slice p n c) rfl (by simp) ((om.trans o1).put (i := m.next + 2 + 2) (by omega)) (by rw [zqm (by omega), g1]) (by rw [zql hf4]; rfl) ?_ (by decide) (pw_pos _) (by decide) ?_ (by simp) (by simp) (by simp) (by simp [l1]) (by simp)
  · refine ⟨_, _, rfl, ?_, ?_⟩
    · rw [show Fr.nil.n = 0 from rfl, digs_zero (by omega)]; exact Sl.nil
    · have : Sl (Mem.cut m1 [m.next, m.next + 2 + 2]) (.slice p n c) (digs 1) := by
        refine h1.sub' ⟨Nat.le_refl _, fun b y hb => ?_⟩
        have hb1 : b ∉ [m.next] := fun hbi => by rw [cut_in hbi] at hb; cases hb
        rw [cut_out hb1] at hb
        rw [cut_out, hb]
        intro hbi
        simp at hbi hb1
        rcases hbi with h | h
        · exact hb1 h
        · rw [h, hfr] at hb; cases hb
      rw [cut_put (by simp)]; exact this
  · show (1 : Int) < pw 128
    have := pw_pos 127
    show 1 < 4294967296 * pw 127
    omega
end Go.Proofs.YtkpifdkccdndcaaGreat
