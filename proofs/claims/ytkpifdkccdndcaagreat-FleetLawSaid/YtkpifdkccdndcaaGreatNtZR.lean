/-
  The program's natural numbers, told by their values.
  'Bits', 'Add', 'Sub', 'Mul' of the reference, told by values.
  'divide' of the reference: its loops.
  'divide' of the reference.
  'divide' of the reference: copies of one's own, the loop that writes the rest back.
-/
import Derived.Test.YtkpifdkccdndcaaGreatFrA
import Derived.Test.YtkpifdkccdndcaaGreatNtLN
import Derived.Test.YtkpifdkccdndcaaGreatFwU
namespace Go.Proofs.YtkpifdkccdndcaaGreat
open Go Go.DI Go.Big
set_option linter.unusedSimpArgs false
set_option linter.unusedVariables false

section
variable {m : Mem} {v w : Value} {a b : Int}
theorem lim512 {l : List Int} {n : Int} (h : OkL l) (e : val l = n) (hn : n < pw 512) : nlen l ≤ 512 := (nlen_le_iff h 512).2 (by rw [e]; exact hn)
theorem Nm.of {l : List Int} (h : Sl m v l) (hb : Big l) : Nm m v (val l) := ⟨l, h, hb, rfl⟩
theorem Nm.digs (h : Sl m v (digs a)) (h0 : 0 ≤ a) (h1 : a < pw 512) : Nm m v a := h.nm h0 h1 (by decide)
theorem trim_nm (hv : Nm m v a) : WPCall Tryz.prog 131 [v] m fun r m' => Old m m' ∧ Sl m' r (digs a) := by
  obtain ⟨l, h1, h2, rfl⟩ := hv
  exact trim_wp h1 h2
theorem bits_nm (hv : Nm m v a) (Φ : Value → Mem → Prop) : WPCall Tryz.prog 87 [v] m Φ = Φ (I (nbits a)) m := by
  obtain ⟨l, h1, h2, rfl⟩ := hv
  exact bits_wp h1 h2 Φ
theorem cmp_nm (hv : Nm m v a) (hw : Nm m w b) (Φ : Value → Mem → Prop) : WPCall Tryz.prog 92 [v, w] m Φ = Φ (I (cmpI a b)) m := by
  obtain ⟨l, h1, h2, rfl⟩ := hv
  obtain ⟨k, g1, g2, rfl⟩ := hw
  exact cmp_wp h1 g1 h2 g2 Φ
theorem add_nm (hv : Nm m v a) (hw : Nm m w b) (h : a + b < pw 512) : WPCall Tryz.prog 127 [v, w] m (Res m (a + b)) := by
  have ha := hv.nonneg
  have hb := hw.nonneg
  obtain ⟨l, h1, h2, rfl⟩ := hv
  obtain ⟨k, g1, g2, rfl⟩ := hw
  exact add_wp h1 g1 h2 g2 (lim512 h1.1 rfl (by omega)) (lim512 g1.1 rfl (by omega)) h
theorem sub_nm (hv : Nm m v a) (hw : Nm m w b) (h : a < pw 512) (hle : b ≤ a) : WPCall Tryz.prog 128 [v, w] m (Res m (a - b)) := by
  obtain ⟨l, h1, h2, rfl⟩ := hv
  obtain ⟨k, g1, g2, rfl⟩ := hw
  exact sub_wp h1 g1 h2 g2 (lim512 h1.1 rfl h) hle
theorem mul_nm (hv : Nm m v a) (hw : Nm m w b) (h1 : a < pw 512) (h2 : b < pw 512) (h : a * b < pw 512) : WPCall Tryz.prog 132 [v, w] m (Res m (a * b)) := by
  obtain ⟨l, f1, f2, rfl⟩ := hv
  obtain ⟨k, g1, g2, rfl⟩ := hw
  exact mul_wp f1 g1 f2 g2 (lim512 f1.1 rfl h1) (lim512 g1.1 rfl h2) h
theorem div_nm (hv : Nm m v a) (hw : Nm m w b) (h1 : a < pw 512) (h2 : b < pw 512) (h : b ≠ 0) : WPCall Tryz.prog 130 [v, w] m (DivT m a b) := by
  obtain ⟨l, f1, f2, rfl⟩ := hv
  obtain ⟨k, g1, g2, rfl⟩ := hw
  exact div_wp f1 g1 f2 g2 (lim512 f1.1 rfl h1) (lim512 g1.1 rfl h2) h
theorem gcd_nm (hv : Nm m v a) (hw : Nm m w b) (h1 : a < pw 512) (h2 : b < pw 512) : WPCall Tryz.prog 129 [v, w] m (Res m (gcdI a b)) := by
  obtain ⟨l, f1, f2, rfl⟩ := hv
  obtain ⟨k, g1, g2, rfl⟩ := hw
  exact gcd_wp f1 g1 f2 g2 (lim512 f1.1 rfl h1) (lim512 g1.1 rfl h2)
end
/-- a fraction in memory; one in canonical form -/
def Vf (m : Mem) (v : Value) (x : Fr) : Prop := ∃ a b, v = .agg #[.bool x.neg, a, b] ∧ Nm m a x.n ∧ Nm m b x.d
def Cf (m : Mem) (v : Value) (x : Fr) : Prop := ∃ a b, v = .agg #[.bool x.neg, a, b] ∧ Sl m a (digs x.n) ∧ Sl m b (digs x.d)
/-- an error and a fraction -/
def FRes (m : Mem) (p : Int × Fr) (r : Value) (m' : Mem) : Prop := Old m m' ∧ ∃ c, r = .tuple #[c, I p.1] ∧ Cf m' c p.2
section
variable {m m' : Mem} {v w : Value} {x y : Fr}
theorem Vf.mono (h : Vf m v x) (ho : Old m m') : Vf m' v x := by obtain ⟨a, b, h1, h2, h3⟩ := h; exact ⟨a, b, h1, h2.mono ho, h3.mono ho⟩
theorem Cf.mono (h : Cf m v x) (ho : Old m m') : Cf m' v x := by obtain ⟨a, b, h1, h2, h3⟩ := h; exact ⟨a, b, h1, h2.mono ho, h3.mono ho⟩
theorem Cf.vf (h : Cf m v x) (h0 : 0 ≤ x.n) (h1 : x.n < pw 512) (h2 : 0 ≤ x.d) (h3 : x.d < pw 512) : Vf m v x := by obtain ⟨a, b, e, f, g⟩ := h; exact ⟨a, b, e, Nm.digs f h0 h1, Nm.digs g h2 h3⟩
theorem Cf.zero : Cf m (.agg #[.bool false, .slice none 0 0, .slice none 0 0]) .zero := by
  have e : digs 0 = [] := digs_zero (by omega)
  exact ⟨_, _, rfl, by rw [show Fr.zero.n = 0 from rfl, e]; exact Sl.nil, by rw [show Fr.zero.d = 0 from rfl, e]; exact Sl.nil⟩
theorem Vf.n0 (h : Vf m v x) : 0 ≤ x.n := by obtain ⟨a, b, h1, h2, h3⟩ := h; exact h2.nonneg
theorem Vf.d0 (h : Vf m v x) : 0 ≤ x.d := by obtain ⟨a, b, h1, h2, h3⟩ := h; exact h3.nonneg
end
theorem pw_128_512 : pw 128 < pw 512 := by
  rw [show 512 = 128 + 384 by rfl, pw_add]
  have h1 := pw_pos 128
  have h2 : 2 ≤ pw 384 := by
    have := pw_pos 383
    show 2 ≤ 4294967296 * pw 383
    omega
  have : pw 128 * 2 ≤ pw 128 * pw 384 := Int.mul_le_mul_of_nonneg_left h2 (by omega)
  omega
theorem pw_256_512 : pw 256 + pw 256 ≤ pw 512 := by
  rw [show 512 = 256 + 256 by rfl, pw_add]
  have h1 := pw_pos 256
  have h2 : 2 ≤ pw 256 := by
    have := pw_pos 255
    show 2 ≤ 4294967296 * pw 255
    omega
  have : pw 256 * 2 ≤ pw 256 * pw 256 := Int.mul_le_mul_of_nonneg_left h2 (by omega)
  omega
end Go.Proofs.YtkpifdkccdndcaaGreat
namespace Go.Proofs.YtkpifdkccdndcaaGreat
open Go Go.DI Go.Big
set_option linter.unusedSimpArgs false
set_option linter.unusedVariables false

section
variable {m : Mem} {v w : Value} {a b : Int}
theorem rtrim_nm (hv : Nm m v a) : WPCall Tryz.prog 106 [v] m (RNum m a) := by
  obtain ⟨l, h1, h2, rfl⟩ := hv
  exact rtrim_wp h1 h2
theorem rlarge_nm (hv : Nm m v a) (h : a < pw 512) : WPCall Tryz.prog 161 [v] m fun r m' => Old m m' ∧ r = .bool false := by
  obtain ⟨l, h1, h2, rfl⟩ := hv
  refine (rlarge_wp h1 h2).mono fun r m' hp => ⟨hp.1, ?_⟩
  have := lim512 h1.1 rfl h
  rw [hp.2]; simp; omega
theorem rcmp_nm (hv : Nm m v a) (hw : Nm m w b) : WPCall Tryz.prog 134 [v, w] m fun r m' => Old m m' ∧ r = I (cmpI a b) := by
  obtain ⟨l, h1, h2, rfl⟩ := hv
  obtain ⟨k, g1, g2, rfl⟩ := hw
  exact rcmp_wp h1 g1 h2 g2
theorem RNum.nm {r : Value} {m' : Mem} (h : RNum m a r m') (h0 : 0 ≤ a) (h1 : a < pw 512) : Nm m' r a := Nm.digs h.2 h0 h1
end
theorem dlen {n : Int} (h0 : 0 ≤ n) (h : n < pw 512) : (digs n).length ≤ 512 := digs_le h0 h

set_option maxHeartbeats 2000000 in
theorem rbits_loop {m : Mem} {Q : IExit → Slots → Mem → Prop} : ∀ (r : Nat) (k t : Int) (σ : Slots), t ≤ r → 0 ≤ t → t < 4294967296 → 0 ≤ k → k + r < 10000000000 → σ 3 = I k → σ 4 = U t →
    (∀ σ', σ' 3 = I (k + nbits t) → Q (.exit 0) σ' m) → WP Tryz.prog (.loop ir173_l0) σ m Q := by
  intro r
  induction r with
  | zero =>
    intro k t σ hr h0 h1 k0 k1 s3 s4 hQ
    refine wp_round fun J hJ => ?_
    obtain rfl : t = 0 := by omega
    simp (disch := first | omega | (simp only [zqp, zqq]; omega)) [ir173_l0, ir173_k1, ir173_k2, ir173_k3, ir173_k4, ir173_k5, ir173_k6, s3, s4, zqa, zqb, zqc, zqd, zqe, zqf, zqg, zqh, zqi, zqj, zqk, u64b, u32b, zql, zqm, zqn, zqo, -zqu, -isSl, -zqs, -zqt, -zqv, -zqr]
    exact hQ _ (by simp [s3, nbits_zero])
  | succ r ih =>
    intro k t σ hr h0 h1 k0 k1 s3 s4 hQ
    by_cases ht : t = 0
    · exact ih k t σ (by omega) h0 h1 k0 (by omega) s3 s4 hQ
    · refine wp_round fun J hJ => ?_
      have c1 : 0 < t := by omega
      have w0 : IntKind.i64.wrap (k + 1) = k + 1 := i64_id (by omega) (by omega)
      have w1 : t.tdiv 2 = t / 2 := Int.tdiv_eq_ediv_of_nonneg h0
      have w2 : IntKind.u32.wrap (t / 2) = t / 2 := by rw [u32_wrap]; omega
      simp (disch := first | omega | (simp only [zqp, zqq]; omega)) [ir173_l0, ir173_k1, ir173_k2, ir173_k3, ir173_k4, ir173_k5, ir173_k6, s3, s4, c1, w0, w1, w2, zqa, zqb, zqc, zqd, zqe, zqf, zqg, zqh, zqi, zqj, zqk, u64b, u32b, zql, zqm, zqn, zqo, -zqu, -isSl, -zqs, -zqt, -zqv, -zqr]
      exact hJ _ _ (ih (k + 1) (t / 2) _ (by omega) (by omega) (by omega) (by omega) (by omega) (by simp) (by simp) fun σ' h => hQ σ' (by rw [h, nbits_pos c1]; congr 1; omega))
set_option maxHeartbeats 2000000 in
theorem rbits_wp {m : Mem} {v : Value} {n : Int} (hv : Nm m v n) (hn : n < pw 512) : WPCall Tryz.prog 173 [v] m fun r m' => Old m m' ∧ r = I (nbits n) := by
  rw [call173 (by simp)]
  simp (disch := first | omega | (simp only [zqp, zqq]; omega)) [ir173_b, ir173_k1, ir173_k2, ir173_k3, ir173_k4, ir173_k5, ir173_k6, zqa, zqb, zqc, zqd, zqe, zqf, zqg, zqh, zqi, zqj, zqk, u64b, u32b, zql, zqm, zqn, zqo, -zqu, -isSl, -zqs, -zqt, -zqv, -zqr]
  have h0 := hv.nonneg
  refine (rtrim_nm hv).mono fun r m1 hp => ?_
  obtain ⟨h1, h2, h3, h4⟩ := hp.2.len
  have hl := dlen h0 hn
  by_cases k1 : (digs n).length = 0
  · have hz : n = 0 := by
      have := val_digs h0
      rw [List.length_eq_zero_iff.1 k1] at this; simpa [val] using this.symm
    subst hz
    simp (disch := first | omega | (simp only [zqp, zqq]; omega)) [h1, h2, k1, zqa, zqb, zqc, zqd, zqe, zqf, zqg, zqh, zqi, zqj, zqk, u64b, u32b, zql, zqm, zqn, zqo, -zqu, -isSl, -zqs, -zqt, -zqv, -zqr]
    exact ⟨hp.1, by rw [nbits_zero (by omega)]⟩
  · obtain ⟨k, hk⟩ : ∃ k, (digs n).length = k + 1 := ⟨(digs n).length - 1, by omega⟩
    have a1 := hp.2.addr (i := k) (by omega)
    have a2 := hp.2.load (i := k) (by omega)
    have g := gd_bd hp.2.1 k
    have c0 : ¬ (k : Int) + 1 = 0 := by omega
    have c2 : (k : Int) < (k : Int) + 1 := by omega
    have w0 : IntKind.i64.wrap (k : Int) = k := i64_id (by omega) (by omega)
    have w1 : IntKind.i64.wrap (32 * (k : Int)) = 32 * (k : Int) := i64_id (by omega) (by omega)
    rw [hk] at h1
    simp only [Int.natCast_add, Int.cast_ofNat_Int] at h1
    simp (disch := first | omega | (simp only [zqp, zqq]; omega)) [c0, c2, h1, h2, h3, a1, a2, w0, w1, zqa, zqb, zqc, zqd, zqe, zqf, zqg, zqh, zqi, zqj, zqk, u64b, u32b, zql, zqm, zqn, zqo, -zqu, -isSl, -zqs, -zqt, -zqv, -zqr]
    refine rbits_loop (gd (digs n) k).toNat (32 * (k : Int)) (gd (digs n) k) _ (by omega) g.1 g.2 (by omega) (by omega) (by simp) (by simp) fun σ' h => ?_
    have e := nbits_top (a := digs n) (n := k) hp.2.1 (by rw [(can_digs n).2, hk])
    rw [val_digs h0] at e
    simp (disch := first | omega | (simp only [zqp, zqq]; omega)) [h, zqa, zqb, zqc, zqd, zqe, zqf, zqg, zqh, zqi, zqj, zqk, u64b, u32b, zql, zqm, zqn, zqo, -zqu, -isSl, -zqs, -zqt, -zqv, -zqr]
    exact ⟨hp.1, by rw [e]; omega⟩
set_option maxHeartbeats 2000000 in
theorem radd_wp {m : Mem} {v w : Value} {a b : Int} (hv : Nm m v a) (hw : Nm m w b) (h : a + b < pw 512) : WPCall Tryz.prog 135 [v, w] m (Res m (a + b)) := by
  rw [call135 (by simp)]
  have a0 := hv.nonneg
  have b0 := hw.nonneg
  simp (disch := first | omega | (simp only [zqp, zqq]; omega)) [ir135_b, ir135_k1, ir135_k2, ir135_k3, ir135_k4, zqa, zqb, zqc, zqd, zqe, zqf, zqg, zqh, zqi, zqj, zqk, u64b, u32b, zql, zqm, zqn, zqo, -zqu, -isSl, -zqs, -zqt, -zqv, -zqr]
  refine (rlarge_nm hv (by omega)).mono fun r1 m1 hp1 => ?_
  obtain ⟨o1, rfl⟩ := hp1
  simp (disch := first | omega | (simp only [zqp, zqq]; omega)) [zqa, zqb, zqc, zqd, zqe, zqf, zqg, zqh, zqi, zqj, zqk, u64b, u32b, zql, zqm, zqn, zqo, -zqu, -isSl, -zqs, -zqt, -zqv, -zqr]
  refine (rlarge_nm (hw.mono o1) (by omega)).mono fun r2 m2 hp2 => ?_
  obtain ⟨o2, rfl⟩ := hp2
  have oo := o1.trans o2
  simp (disch := first | omega | (simp only [zqp, zqq]; omega)) [zqa, zqb, zqc, zqd, zqe, zqf, zqg, zqh, zqi, zqj, zqk, u64b, u32b, zql, zqm, zqn, zqo, -zqu, -isSl, -zqs, -zqt, -zqv, -zqr]
  refine (rtrim_nm (hv.mono oo)).mono fun r3 m3 hp3 => ?_
  simp (disch := first | omega | (simp only [zqp, zqq]; omega)) [zqa, zqb, zqc, zqd, zqe, zqf, zqg, zqh, zqi, zqj, zqk, u64b, u32b, zql, zqm, zqn, zqo, -zqu, -isSl, -zqs, -zqt, -zqv, -zqr]
  refine (rtrim_nm (hw.mono (oo.trans hp3.1))).mono fun r4 m4 hp4 => ?_
  simp (disch := first | omega | (simp only [zqp, zqq]; omega)) [zqa, zqb, zqc, zqd, zqe, zqf, zqg, zqh, zqi, zqj, zqk, u64b, u32b, zql, zqm, zqn, zqo, -zqu, -isSl, -zqs, -zqt, -zqv, -zqr]
  have la := dlen a0 (by omega)
  have lb := dlen b0 (by omega)
  refine (plus_wp (hp3.2.mono hp4.1) hp4.2 (by omega) (by omega)).mono fun r5 m5 hp5 => ?_
  rw [val_digs a0, val_digs b0] at hp5
  simp (disch := first | omega | (simp only [zqp, zqq]; omega)) [zqa, zqb, zqc, zqd, zqe, zqf, zqg, zqh, zqi, zqj, zqk, u64b, u32b, zql, zqm, zqn, zqo, -zqu, -isSl, -zqs, -zqt, -zqv, -zqr]
  refine (rlarge_nm (hp5.nm (by omega) h) h).mono fun r6 m6 hp6 => ?_
  obtain ⟨o6, rfl⟩ := hp6
  simp (disch := first | omega | (simp only [zqp, zqq]; omega)) [zqa, zqb, zqc, zqd, zqe, zqf, zqg, zqh, zqi, zqj, zqk, u64b, u32b, zql, zqm, zqn, zqo, -zqu, -isSl, -zqs, -zqt, -zqv, -zqr]
  exact ⟨(((oo.trans hp3.1).trans hp4.1).trans hp5.1).trans o6, _, rfl, hp5.2.mono o6⟩
set_option maxHeartbeats 2000000 in
theorem rmul_wp {m : Mem} {v w : Value} {a b : Int} (hv : Nm m v a) (hw : Nm m w b) (ha : a < pw 512) (hb : b < pw 512) (h : a * b < pw 512) : WPCall Tryz.prog 160 [v, w] m (Res m (a * b)) := by
  rw [call160 (by simp)]
  have a0 := hv.nonneg
  have b0 := hw.nonneg
  simp (disch := first | omega | (simp only [zqp, zqq]; omega)) [ir160_b, ir160_k1, ir160_k2, ir160_k3, ir160_k4, zqa, zqb, zqc, zqd, zqe, zqf, zqg, zqh, zqi, zqj, zqk, u64b, u32b, zql, zqm, zqn, zqo, -zqu, -isSl, -zqs, -zqt, -zqv, -zqr]
  refine (rlarge_nm hv (by omega)).mono fun r1 m1 hp1 => ?_
  obtain ⟨o1, rfl⟩ := hp1
  simp (disch := first | omega | (simp only [zqp, zqq]; omega)) [zqa, zqb, zqc, zqd, zqe, zqf, zqg, zqh, zqi, zqj, zqk, u64b, u32b, zql, zqm, zqn, zqo, -zqu, -isSl, -zqs, -zqt, -zqv, -zqr]
  refine (rlarge_nm (hw.mono o1) (by omega)).mono fun r2 m2 hp2 => ?_
  obtain ⟨o2, rfl⟩ := hp2
  have oo := o1.trans o2
  simp (disch := first | omega | (simp only [zqp, zqq]; omega)) [zqa, zqb, zqc, zqd, zqe, zqf, zqg, zqh, zqi, zqj, zqk, u64b, u32b, zql, zqm, zqn, zqo, -zqu, -isSl, -zqs, -zqt, -zqv, -zqr]
  refine (rtrim_nm (hv.mono oo)).mono fun r3 m3 hp3 => ?_
  simp (disch := first | omega | (simp only [zqp, zqq]; omega)) [zqa, zqb, zqc, zqd, zqe, zqf, zqg, zqh, zqi, zqj, zqk, u64b, u32b, zql, zqm, zqn, zqo, -zqu, -isSl, -zqs, -zqt, -zqv, -zqr]
  refine (rtrim_nm (hw.mono (oo.trans hp3.1))).mono fun r4 m4 hp4 => ?_
  simp (disch := first | omega | (simp only [zqp, zqq]; omega)) [zqa, zqb, zqc, zqd, zqe, zqf, zqg, zqh, zqi, zqj, zqk, u64b, u32b, zql, zqm, zqn, zqo, -zqu, -isSl, -zqs, -zqt, -zqv, -zqr]
  have la := dlen a0 (by omega)
  have lb := dlen b0 (by omega)
  refine (rtimes_wp (hp3.2.mono hp4.1) hp4.2 (by omega) (by omega)).mono fun r5 m5 hp5 => ?_
  rw [val_digs a0, val_digs b0] at hp5
  simp (disch := first | omega | (simp only [zqp, zqq]; omega)) [zqa, zqb, zqc, zqd, zqe, zqf, zqg, zqh, zqi, zqj, zqk, u64b, u32b, zql, zqm, zqn, zqo, -zqu, -isSl, -zqs, -zqt, -zqv, -zqr]
  refine (rlarge_nm (hp5.nm (Int.mul_nonneg a0 b0) h) h).mono fun r6 m6 hp6 => ?_
  obtain ⟨o6, rfl⟩ := hp6
  simp (disch := first | omega | (simp only [zqp, zqq]; omega)) [zqa, zqb, zqc, zqd, zqe, zqf, zqg, zqh, zqi, zqj, zqk, u64b, u32b, zql, zqm, zqn, zqo, -zqu, -isSl, -zqs, -zqt, -zqv, -zqr]
  exact ⟨(((oo.trans hp3.1).trans hp4.1).trans hp5.1).trans o6, _, rfl, hp5.2.mono o6⟩
set_option maxHeartbeats 2000000 in
theorem rsub_wp {m : Mem} {v w : Value} {a b : Int} (hv : Nm m v a) (hw : Nm m w b) (ha : a < pw 512) (hle : b ≤ a) : WPCall Tryz.prog 137 [v, w] m (Res m (a - b)) := by
  rw [call137 (by simp)]
  have a0 := hv.nonneg
  have b0 := hw.nonneg
  simp (disch := first | omega | (simp only [zqp, zqq]; omega)) [ir137_b, ir137_k1, ir137_k2, ir137_k3, zqa, zqb, zqc, zqd, zqe, zqf, zqg, zqh, zqi, zqj, zqk, u64b, u32b, zql, zqm, zqn, zqo, -zqu, -isSl, -zqs, -zqt, -zqv, -zqr]
  refine (rlarge_nm hv (by omega)).mono fun r1 m1 hp1 => ?_
  obtain ⟨o1, rfl⟩ := hp1
  simp (disch := first | omega | (simp only [zqp, zqq]; omega)) [zqa, zqb, zqc, zqd, zqe, zqf, zqg, zqh, zqi, zqj, zqk, u64b, u32b, zql, zqm, zqn, zqo, -zqu, -isSl, -zqs, -zqt, -zqv, -zqr]
  refine (rlarge_nm (hw.mono o1) (by omega)).mono fun r2 m2 hp2 => ?_
  obtain ⟨o2, rfl⟩ := hp2
  have oo := o1.trans o2
  have c1 : ¬ cmpI a b < 0 := by unfold cmpI; rw [if_neg (by omega)]; split <;> omega
  simp (disch := first | omega | (simp only [zqp, zqq]; omega)) [zqa, zqb, zqc, zqd, zqe, zqf, zqg, zqh, zqi, zqj, zqk, u64b, u32b, zql, zqm, zqn, zqo, -zqu, -isSl, -zqs, -zqt, -zqv, -zqr]
  refine (rcmp_nm (hv.mono oo) (hw.mono oo)).mono fun r3 m3 hp3 => ?_
  obtain ⟨o3, rfl⟩ := hp3
  have oo := oo.trans o3
  simp (disch := first | omega | (simp only [zqp, zqq]; omega)) [c1, zqa, zqb, zqc, zqd, zqe, zqf, zqg, zqh, zqi, zqj, zqk, u64b, u32b, zql, zqm, zqn, zqo, -zqu, -isSl, -zqs, -zqt, -zqv, -zqr]
  refine (rtrim_nm (hv.mono oo)).mono fun r3 m3 hp3 => ?_
  simp (disch := first | omega | (simp only [zqp, zqq]; omega)) [zqa, zqb, zqc, zqd, zqe, zqf, zqg, zqh, zqi, zqj, zqk, u64b, u32b, zql, zqm, zqn, zqo, -zqu, -isSl, -zqs, -zqt, -zqv, -zqr]
  refine (rtrim_nm (hw.mono (oo.trans hp3.1))).mono fun r4 m4 hp4 => ?_
  simp (disch := first | omega | (simp only [zqp, zqq]; omega)) [zqa, zqb, zqc, zqd, zqe, zqf, zqg, zqh, zqi, zqj, zqk, u64b, u32b, zql, zqm, zqn, zqo, -zqu, -isSl, -zqs, -zqt, -zqv, -zqr]
  have la := dlen a0 (by omega)
  have lb := dlen b0 (by omega)
  have ll : (digs b).length ≤ (digs a).length := by
    by_cases h : (digs b).length ≤ (digs a).length
    · exact h
    · have := Can.len_lt (can_digs a).1 (can_digs b) (by omega)
      rw [val_digs a0, val_digs b0] at this; omega
  refine (minus_wp (hp3.2.mono hp4.1) hp4.2 (by omega) ll (by rw [val_digs a0, val_digs b0]; exact hle)).mono fun r5 m5 hp5 => ?_
  rw [val_digs a0, val_digs b0] at hp5
  simp (disch := first | omega | (simp only [zqp, zqq]; omega)) [zqa, zqb, zqc, zqd, zqe, zqf, zqg, zqh, zqi, zqj, zqk, u64b, u32b, zql, zqm, zqn, zqo, -zqu, -isSl, -zqs, -zqt, -zqv, -zqr]
  exact ⟨((oo.trans hp3.1).trans hp4.1).trans hp5.1, _, rfl, hp5.2⟩
end Go.Proofs.YtkpifdkccdndcaaGreat
namespace Go.Big
theorem nbits_limb {t : Int} (h0 : 1 ≤ t) (h1 : t < 4294967296) : 1 ≤ nbits t ∧ nbits t ≤ 32 := by
  have a := nbits_32 (n := t)
  have b := nbits_0 (n := t)
  omega
/-- the guess is not below the quotient -/
theorem guess_up {U V g top t P lo vl : Int} (hP : 0 < P) (hU : U = t * P + lo) (hlo : lo < P) (hV : V = top * P + vl) (hvl : 0 ≤ vl) (ht : 0 < top) (hg0 : 0 ≤ g) (h : g * V ≤ U) : g ≤ t / top := by
  have h1 : g * (top * P) ≤ g * V := Int.mul_le_mul_of_nonneg_left (by omega) hg0
  have h2 : g * top * P < (t + 1) * P := by
    have : (t + 1) * P = t * P + P := by grind
    have : g * top * P = g * (top * P) := by grind
    omega
  have h3 : g * top < t + 1 := Int.lt_of_mul_lt_mul_right h2 (by omega)
  exact (Int.le_ediv_iff_mul_le ht).2 (by omega)
theorem LD.first {A V : Int} {n K : Nat} {a : List Int} (hA : val a = A) (ha : OkL a) (hK : a.length + 1 = K + n) (hn : 0 < n) (hV : pw (n - 1) ≤ V) : LD A V n (a ++ [0]) (List.replicate K 0) K := by
  have hz : OkL [0] := fun x hx => by simp at hx; subst hx; omega
  refine ⟨ha.app hz, OkL.zeros _, by simp; omega, fun i x hi hx => ?_, ?_, ?_⟩
  · have := (List.getElem?_eq_some_iff.1 hx).1
    simp at this; omega
  · have e : ((a ++ [0]).drop K).take n = a.drop K ++ [0] := by
      rw [List.take_of_length_le (by simp; omega), List.drop_append_of_le_length (by omega)]
    rw [e, val_append]
    have b := val_bd (ha.drop K)
    rw [List.length_drop, show a.length - K = n - 1 by omega] at b
    simp only [val]; omega
  · rw [List.drop_of_length_le (by simp), val_append, hA]; simp [val]
theorem val_pad (l : List Int) (k : Nat) : val (l ++ List.replicate k 0) = val l := by rw [val_append, val_zeros]; simp
theorem mul_div_scale {X Y S : Int} (hS : 0 < S) : X * S / (Y * S) = X / Y ∧ X * S % (Y * S) / S = X % Y := by
  refine ⟨Int.mul_ediv_mul_of_pos_left _ _ hS, ?_⟩
  rw [Int.mul_comm X, Int.mul_comm Y, Int.mul_emod_mul_of_pos _ _ hS, Int.mul_ediv_cancel_left _ (by omega)]
end Go.Big
namespace Go.Proofs.YtkpifdkccdndcaaGreat
open Go Go.DI Go.Big
set_option linter.unusedSimpArgs false
set_option linter.unusedVariables false

theorem Old.none {m m' : Mem} (h : Old m m') {b : Nat} (hb : b < m.next) (hn : m.get b = none) : m'.get b = none := by rw [h.get b hb, hn]
/-- a contract that holds in a part of the memory -/
theorem frame_old {P : Program} {f : Nat} {args : List Value} {p m : Mem} {Ψ : Value → Mem → Prop} (hp : Part p m) (h : WPCall P f args p fun r p' => Old p p' ∧ Ψ r p') :
    WPCall P f args m fun r m' => Old m m' ∧ ∃ p', Part p' m' ∧ Old p p' ∧ Ψ r p' ∧ ∀ b, b < m.next → p.get b = none → p'.get b = none := by
  refine (WPCall.frame hp h).mono fun r m' hq => ?_
  obtain ⟨p', ⟨ho, hr⟩, R⟩ := hq
  refine ⟨⟨R.next, fun b hb => ?_⟩, p', R.part, ho, hr, fun b hb hn => (R.out b hb hn).2.1⟩
  cases hg : p.get b with
  | none => exact (R.out b hb hg).1
  | some x => rw [R.part.get _ _ (ho.some hg), hp.get _ _ hg]
theorem Sl.sub' {m m' : Mem} {v : Value} {l : List Int} (h : Sl m v l) (hs : Sub m m') : Sl m' v l := by
  obtain ⟨hk, h | ⟨b, o, cs, w, h1, h2, h3, h4⟩⟩ := h
  · exact ⟨hk, .inl h⟩
  · exact ⟨hk, .inr ⟨b, o, cs, w, h1, hs.get _ _ h2, h3, h4⟩⟩
/-- the memory without a block -/
def Mem.less (m : Mem) (b : Nat) : Mem := m.put b none
theorem Part.less (m : Mem) (b : Nat) : Part (Mem.less m b) m := ⟨rfl, rfl, fun c x h => by
  by_cases hc : c = b
  · subst hc; simp [Mem.less, Mem.get, Mem.put] at h
  · rwa [Mem.less, zqm hc] at h⟩
theorem less_get {m : Mem} {b : Nat} : (Mem.less m b).get b = none := by simp [Mem.less, Mem.get, Mem.put]
theorem less_ne {m : Mem} {b c : Nat} (h : c ≠ b) : (Mem.less m b).get c = m.get c := by rw [Mem.less, zqm h]
theorem Sl.blk {m : Mem} {v : Value} {l : List Int} {b : Nat} (h : Sl m v l) (hb : m.get b = none) : blkOf v ≠ some b := by
  obtain ⟨hk, ⟨rfl, _⟩ | ⟨c, o, cs, w, rfl, h2, h3, h4⟩⟩ := h
  · simp [blkOf]
  · simp only [blkOf, ne_eq, Option.some.injEq]
    intro e; subst e; rw [hb] at h2; cases h2
theorem Sl.less {m : Mem} {v : Value} {l : List Int} {b : Nat} (h : Sl m v l) (hb : blkOf v ≠ some b) : Sl (Mem.less m b) v l := by
  obtain ⟨hk, h | ⟨c, o, cs, w, rfl, h2, h3, h4⟩⟩ := h
  · exact ⟨hk, .inl h⟩
  · refine ⟨hk, .inr ⟨c, o, cs, w, rfl, ?_, h3, h4⟩⟩
    rw [less_ne (fun e => hb (by simp [blkOf, e])), h2]

set_option maxHeartbeats 2000000 in
theorem rshort_loop {m0 : Mem} {v w : Value} {a : List Int} {d : Int} (hv : Sl m0 v a) (hw : Sl m0 w [d]) (hd : 0 < d ∧ d < 4294967296) (ha : Big a) {ob : Nat} (hob : m0.next ≤ ob) {Q : IExit → Slots → Mem → Prop} : ∀ (n : Nat) (c : Int) (o : List Int) (m : Mem) (σ : Slots),
    n ≤ a.length → Old m0 m → m.get ob = some ⟨o.map U, true⟩ → OkL o → o.length = a.length → 0 ≤ c → c < d → val (a.drop n) = val (o.drop n) * d + c →
    σ 0 = v → σ 1 = w → σ 6 = .slice (some ⟨ob, 0, none⟩) a.length 1 → σ 7 = L c → σ 8 = I ((n : Int) - 1) →
    (∀ σ' m' o c, Old m0 m' → m'.get ob = some ⟨o.map U, true⟩ → OkL o → o.length = a.length → 0 ≤ c → c < d → val a = val o * d + c →
      σ' 6 = .slice (some ⟨ob, 0, none⟩) a.length 1 → σ' 7 = L c → Q (.exit 0) σ' m') → WP Tryz.prog (.loop ir165_l0) σ m Q
  | 0, c, o, m, σ, hn, ho, hg, hok, hlo, c0, c1, he, s0, s1, s6, s7, s8, hQ => by
    refine wp_round fun J hJ => ?_
    simp (disch := first | omega | (simp only [zqp, zqq]; omega)) [ir165_l0, ir165_k1, ir165_k2, ir165_k3, ir165_k4, ir165_k5, ir165_k6, ir165_k7, ir165_k8, ir165_k9, ir165_k10, ir165_k11, ir165_k12, ir165_k13, ir165_k14, ir165_k15, ir165_k16, ir165_k17, ir165_k18, ir165_k19, ir165_k20, ir165_k21, ir165_k22, s0, s1, s6, s7, s8, zqa, zqb, zqc, zqd, zqe, zqf, zqg, zqh, zqi, zqj, zqk, u64b, u32b, zql, zqm, zqn, zqo, -zqu, -isSl, -zqs, -zqt, -zqv, -zqr]
    exact hQ _ _ o c ho hg hok hlo c0 c1 (by simpa using he) (by simp [s6]) (by simp [s7])
  | n + 1, c, o, m, σ, hn, ho, hg, hok, hlo, c0, c1, he, s0, s1, s6, s7, s8, hQ => by
    refine wp_round fun J hJ => ?_
    have xv := hv.mono ho
    have xw := hw.mono ho
    obtain ⟨h1, h2, h3, h4⟩ := xv.len
    obtain ⟨h1', h2', h3', h4'⟩ := xw.len
    replace h1' : zqu w = 1 := h1'
    have a1 := xv.addr (i := n) (by omega)
    have a2 := xv.load (i := n) (by omega)
    have b1 := xw.addr (i := 0) (by simp)
    have b2 := xw.load (i := 0) (by simp)
    rw [show gd [d] 0 = d from rfl] at b2
    have c1' := fun x => (hw.mono (ho.put (x := x) hob)).addr (i := 0) (by simp)
    have c2' := fun x => (hw.mono (ho.put (x := x) hob)).load (i := 0) (by simp)
    rw [show gd [d] 0 = d from rfl] at c2'
    simp only [Int.ofNat_eq_natCast, Int.natCast_zero, Int.cast_ofNat_Int] at b1 b2 c1' c2'
    have bx := gd_bd hv.1 n
    have q0 : (n : Int) < a.length := by omega
    have q2 : n < a.length := by omega
    have q3 : n + 1 ≤ a.length := by omega
    obtain ⟨t, ht⟩ : ∃ t, t = c * 4294967296 + gd a n := ⟨_, rfl⟩
    have t0 : 0 ≤ t := by omega
    have tl : t < d * 4294967296 := by omega
    have d0 : 0 ≤ t / d := Int.ediv_nonneg t0 (by omega)
    have d1 : t / d < 4294967296 := Int.ediv_lt_of_lt_mul (by omega) (by rw [Int.mul_comm]; exact tl)
    have e0 := Int.emod_nonneg t (show d ≠ 0 by omega)
    have e1 := Int.emod_lt_of_pos t hd.1
    have w0 : IntKind.i64.wrap ((n : Int) - 1) = (n : Int) - 1 := i64_id (by omega) (by omega)
    have w1 : IntKind.u64.wrap (gd a n) = gd a n := u64_id (by omega) (by omega)
    have w2 : IntKind.u64.wrap (c * 4294967296) = c * 4294967296 := u64_id (by omega) (by omega)
    have w3 : IntKind.u64.wrap ↑((c * 4294967296 % 2 ^ IntKind.u64.bits).toNat ||| (gd a n % 2 ^ IntKind.u64.bits).toNat) = t := by rw [or_shl (s := 32) (by decide) c0 bx.1 bx.2 (by omega), ht]
    have w4 : IntKind.u64.wrap d = d := u64_id (by omega) (by omega)
    have w5 : IntKind.u64.wrap (t.tdiv d) = t / d := by rw [Int.tdiv_eq_ediv_of_nonneg t0]; exact u64_id d0 (by omega)
    have w6 : t.tmod d = t % d := Int.tmod_eq_emod_of_nonneg t0
    have w7 : IntKind.u32.wrap (t / d) = t / d := by rw [u32_wrap]; omega
    have z0 : ¬ d = 0 := by omega
    have hlt := get_lt hg
    simp (disch := first | omega | (simp only [zqp, zqq]; omega)) [ir165_l0, ir165_k1, ir165_k2, ir165_k3, ir165_k4, ir165_k5, ir165_k6, ir165_k7, ir165_k8, ir165_k9, ir165_k10, ir165_k11, ir165_k12, ir165_k13, ir165_k14, ir165_k15, ir165_k16, ir165_k17, ir165_k18, ir165_k19, ir165_k20, ir165_k21, ir165_k22, s0, s1, s6, s7, s8, h1, h2, h3, h1', h2', h3', q0, q2, q3, a1, a2, b1, b2, c1', c2', w0, w1, w2, w3, w4, w5, w6, w7, z0, hg, hlo, zqa, zqb, zqc, zqd, zqe, zqf, zqg, zqh, zqi, zqj, zqk, u64b, u32b, zql, zqm, zqn, zqo, -zqu, -isSl, -zqs, -zqt, -zqv, -zqr]
    refine hJ _ _ (rshort_loop hv hw hd ha hob n (t % d) (o.set n (t / d)) _ _ (by omega) (ho.put hob) (by rw [zql hlt, set_map]) (hok.set n (by omega)) (by simp [hlo]) e0 e1 (short_round hd.1 he ht (by omega)) (by simp [s0]) (by simp [s1]) (by simp [s6]) (by simp) (by simp) hQ)
end Go.Proofs.YtkpifdkccdndcaaGreat
namespace Go.Proofs.YtkpifdkccdndcaaGreat
open Go Go.DI Go.Big
set_option linter.unusedSimpArgs false
set_option linter.unusedVariables false

theorem Sl.put' {m : Mem} {v : Value} {l : List Int} (h : Sl m v l) {b : Nat} {x : Option Blk} (hb : m.get b = none) : Sl (m.put b x) v l := h.sub' (Sub.put hb)
theorem cmpI_le {a b : Int} (h : ¬ b < a) : ¬ 0 < cmpI a b := by
  by_cases h' : a < b
  · rw [cmpI_lt h']; omega
  · rw [cmpI_eq (by omega)]; omega

set_option maxHeartbeats 4000000 in
theorem rguess_loop {m0 : Mem} {x y : Value} {F vl : List Int} {V W : Int} {n N j : Nat} (hx : Sl m0 x F) (hy : Sl m0 y vl) (hV : val vl = V) (hn : vl.length = n) (hN : F.length = N) (hj : j + n + 1 ≤ N) (hNb : N < 300000) (hV0 : 0 < V) (hW : W = val ((F.drop j).take (n + 1))) {v10 v13 v14 : Value} {Q : IExit → Slots → Mem → Prop} :
    ∀ (r : Nat) (g : Int) (m : Mem) (σ : Slots), g ≤ r → 0 ≤ g → g < 4294967296 → W < (g + 1) * V → Old m0 m → σ 10 = v10 → σ 11 = x → σ 12 = y → σ 13 = v13 → σ 14 = v14 → σ 15 = I j → σ 17 = L g →
    (∀ σ' m' g, 0 ≤ g → g < 4294967296 → W < (g + 1) * V → g * V ≤ W → Old m0 m' → σ' 10 = v10 → σ' 11 = x → σ' 12 = y → σ' 13 = v13 → σ' 14 = v14 → σ' 15 = I j → σ' 17 = L g → Q (.exit 4) σ' m') →
    WP Tryz.prog (.loop ir165_l1) σ m Q := by
  intro r
  induction r with
  | zero =>
    intro g m σ hr g0 g1 hg ho s10 s11 s12 s13 s14 s15 s17 hQ
    exact go g m σ g0 g1 hg ho s10 s11 s12 s13 s14 s15 s17 hQ fun h => by
      have : g = 0 := by omega
      subst this
      have hw := (val_bd ((hx.1.drop j).take (n + 1))).1
      omega
  | succ r ih =>
    intro g m σ hr g0 g1 hg ho s10 s11 s12 s13 s14 s15 s17 hQ
    exact go g m σ g0 g1 hg ho s10 s11 s12 s13 s14 s15 s17 hQ fun h σ' m' h1 h2 h3 h4 h5 h6 h7 h8 h9 => by
      have hg1 : 1 ≤ g := by
        by_cases hz : 1 ≤ g
        · exact hz
        · have hz : g = 0 := by omega
          subst hz
          have hw := (val_bd ((hx.1.drop j).take (n + 1))).1
          omega
      exact ih (g - 1) m' σ' (by omega) (by omega) (by omega) (by rw [show g - 1 + 1 = g by omega]; exact h) h2 h3 h4 h5 h6 h7 h8 h9 hQ
where
  go (g : Int) (m : Mem) (σ : Slots) (g0 : 0 ≤ g) (g1 : g < 4294967296) (hg : W < (g + 1) * V) (ho : Old m0 m) (s10 : σ 10 = v10) (s11 : σ 11 = x) (s12 : σ 12 = y) (s13 : σ 13 = v13) (s14 : σ 14 = v14) (s15 : σ 15 = I j) (s17 : σ 17 = L g)
    (hQ : ∀ σ' m' g, 0 ≤ g → g < 4294967296 → W < (g + 1) * V → g * V ≤ W → Old m0 m' → σ' 10 = v10 → σ' 11 = x → σ' 12 = y → σ' 13 = v13 → σ' 14 = v14 → σ' 15 = I j → σ' 17 = L g → Q (.exit 4) σ' m')
    (hC : W < g * V → ∀ σ' m', True → Old m0 m' → σ' 10 = v10 → σ' 11 = x → σ' 12 = y → σ' 13 = v13 → σ' 14 = v14 → σ' 15 = I j → σ' 17 = L (g - 1) → WP Tryz.prog (.loop ir165_l1) σ' m' Q) :
    WP Tryz.prog (.loop ir165_l1) σ m Q := by
    refine wp_round fun J hJ => ?_
    obtain ⟨h1, h2, h3, h4⟩ := (hx.mono ho).len
    obtain ⟨h1', h2', h3', h4'⟩ := (hy.mono ho).len
    rw [hn] at h1' h4'
    rw [hN] at h1 h4
    obtain ⟨e, he⟩ : ∃ e, e = j + n + 1 := ⟨_, rfl⟩
    have w0 : IntKind.i64.wrap ((j : Int) + (n : Int)) = (j : Int) + n := i64_id (by omega) (by omega)
    have w1 : IntKind.i64.wrap ((j : Int) + (n : Int) + 1) = (e : Int) := by rw [i64_id (by omega) (by omega)]; omega
    have q1 : (j : Int) ≤ e := by omega
    have q2 : (e : Int) ≤ N := by omega
    simp (disch := first | omega | (simp only [zqp, zqq]; omega)) [ir165_l1, ir165_k1, ir165_k2, ir165_k3, ir165_k4, ir165_k5, ir165_k6, ir165_k7, ir165_k8, ir165_k9, ir165_k10, ir165_k11, ir165_k12, ir165_k13, ir165_k14, ir165_k15, ir165_k16, ir165_k17, ir165_k18, ir165_k19, ir165_k20, ir165_k21, ir165_k22, s10, s11, s12, s13, s14, s15, s17, h1, h2, h3, h1', h2', h3', w0, w1, q1, q2, zqa, zqb, zqc, zqd, zqe, zqf, zqg, zqh, zqi, zqj, zqk, u64b, u32b, zql, zqm, zqn, zqo, -zqu, -isSl, -zqs, -zqt, -zqv, -zqr]
    have hob := ho.bump 15
    have hnx := ho.next
    refine (rmake_wp g0 (by omega)).mono fun r1 m1 hp1 => ?_
    simp (disch := first | omega | (simp only [zqp, zqq]; omega)) [zqa, zqb, zqc, zqd, zqe, zqf, zqg, zqh, zqi, zqj, zqk, u64b, u32b, zql, zqm, zqn, zqo, -zqu, -isSl, -zqs, -zqt, -zqv, -zqr]
    have o1 := hob.trans hp1.1
    have lg : (digs g).length ≤ 1 := digs_le g0 (by simp only [pw]; omega)
    refine (rtimes_wp (hy.mono o1) hp1.2 (by omega) (by omega)).mono fun r2 m2 hp2 => ?_
    rw [hV, val_digs g0] at hp2
    have o2 := o1.trans hp2.1
    have hs := (hx.mono o2).sub (k := j) (n := e) (by omega) (by omega)
    obtain ⟨c1, c2⟩ := hs.cells
    have c3 := hs.len.2.2.2
    have hl : ((F.take e).drop j).length = n + 1 := by simp; omega
    rw [hl] at c3
    have lim : ((n : Int) + 1) * 4 ≤ 140737488355328 := by omega
    have lim2 : (n + 1) * 4 ≤ 140737488355328 := by omega
    have lim3 : n + 1 ≤ 9223372036854775807 := by omega
    simp (disch := first | omega | (simp only [zqp, zqq]; omega)) [c1, c2, c3, lim, lim2, lim3, zqa, zqb, zqc, zqd, zqe, zqf, zqg, zqh, zqi, zqj, zqk, u64b, u32b, zql, zqm, zqn, zqo, -zqu, -isSl, -zqs, -zqt, -zqv, -zqr]
    have hfr : m2.get (m.next + 12) = none := by
      refine hp2.1.none ?_ (hp1.1.none ?_ ?_)
      · have := hp1.1.next; simp at this; omega
      · simp
      · rw [Mem.zqn, get_none (by omega)]
    have hid : m.next + 12 < m2.next := by have := hp1.1.next; have := hp2.1.next; simp at *; omega
    have eW : (F.take e).drop j = (F.drop j).take (n + 1) := by rw [List.drop_take]; congr 1; omega
    have eW2 : List.drop j (List.take e (List.map U F)) = ((F.drop j).take (n + 1)).map U := by rw [← eW, List.map_drop, List.map_take]
    rw [eW2]
    have hkW : OkL ((F.drop j).take (n + 1)) := (hx.1.drop j).take _
    have hnw : Sl (m2.put (m.next + 12) (some ⟨((F.drop j).take (n + 1)).map U, true⟩)) (.slice (some ⟨m.next + 12, 0, none⟩) (n + 1) 1) ((F.drop j).take (n + 1)) := Sl.mk' hkW (zql hid) (by rw [← eW, hl])
    have lvg : (digs (V * g)).length ≤ n + 1 := by
      refine digs_le (Int.mul_nonneg (by omega) g0) ?_
      have b := val_bd hy.1
      rw [hV, hn] at b
      have := mul_pw (a := V) (b := g) (i := n) (j := 1) (by omega) g0 b.2 (by simp only [pw]; omega)
      exact this
    refine (rcmp_wp (hp2.2.put' hfr) hnw (by omega) (by simp; omega)).mono fun r3 m3 hp3 => ?_
    obtain ⟨o3, rfl⟩ := hp3
    rw [val_digs (Int.mul_nonneg (by omega) g0), ← hW]
    have oo : Old m0 m3 := (o2.put (by omega)).trans o3
    by_cases k : W < g * V
    · have c : 0 < cmpI (V * g) W := by rw [cmpI_gt (by rw [Int.mul_comm]; exact k)]; omega
      have w2 : IntKind.u64.wrap (g - 1) = g - 1 := by
        refine u64_id ?_ (by omega)
        by_cases hz : 1 ≤ g
        · omega
        · have hz : g = 0 := by omega
          subst hz
          have hw := (val_bd hkW).1
          omega
      simp (disch := first | omega | (simp only [zqp, zqq]; omega)) [c, s17, w2, zqa, zqb, zqc, zqd, zqe, zqf, zqg, zqh, zqi, zqj, zqk, u64b, u32b, zql, zqm, zqn, zqo, -zqu, -isSl, -zqs, -zqt, -zqv, -zqr]
      exact hJ _ _ (hC k _ _ trivial oo (by simp [s10]) (by simp [s11]) (by simp [s12]) (by simp [s13]) (by simp [s14]) (by simp [s15]) (by simp))
    · have c : ¬ 0 < cmpI (V * g) W := cmpI_le (by rw [Int.mul_comm]; exact k)
      simp (disch := first | omega | (simp only [zqp, zqq]; omega)) [c, zqa, zqb, zqc, zqd, zqe, zqf, zqg, zqh, zqi, zqj, zqk, u64b, u32b, zql, zqm, zqn, zqo, -zqu, -isSl, -zqs, -zqt, -zqv, -zqr]
      exact hQ _ _ g g0 g1 hg (by omega) oo (by simp [s10]) (by simp [s11]) (by simp [s12]) (by simp [s13]) (by simp [s14]) (by simp [s15]) (by simp [s17])
end Go.Proofs.YtkpifdkccdndcaaGreat
namespace Go.Proofs.YtkpifdkccdndcaaGreat
open Go Go.DI Go.Big
set_option linter.unusedSimpArgs false
set_option linter.unusedVariables false

theorem OutL.copy {m0 m : Mem} {v : Value} {l : List Int} {id : Nat} (hlo : m0.next ≤ id) (hid : id < m.next) {vv : Value} {mm : Mem}
    (hv : vv = if l.length = 0 then .slice none 0 0 else .slice (some ⟨id, 0, none⟩) l.length 1) (hm : mm = if l.length = 0 then m else m.put id (some ⟨l.map U, true⟩)) : OutL m0 mm vv l := by
  subst hv hm
  by_cases h0 : l.length = 0
  · rw [if_pos h0, if_pos h0]
    exact .inl ⟨rfl, List.length_eq_zero_iff.1 h0⟩
  · rw [if_neg h0, if_neg h0]
    exact .inr ⟨id, hlo, rfl, zql hid⟩
theorem OutL.base {m0 m1 m : Mem} {v : Value} {l : List Int} (h : OutL m1 m v l) (hn : m0.next ≤ m1.next) : OutL m0 m v l := by
  rcases h with h | ⟨b, hb, h1, h2⟩
  · exact .inl h
  · exact .inr ⟨b, by omega, h1, h2⟩
set_option maxHeartbeats 1000000 in
theorem rtrim_own {m : Mem} {v : Value} {l : List Int} (hv : Sl m v l) (hl : Big l) : WPCall Tryz.prog 106 [v] m fun r m' => Old m m' ∧ OutL m m' r (digs (val l)) := by
  rw [call106 (by simp)]
  have hb := fun k => hv.mono ((Old.refl m).bump k)
  obtain ⟨h1, h2, h3, h4⟩ := hv.len
  have hn := nlen_le l
  have hs := fun k => (hb k).digs
  have hc := fun k => (hs k).cells
  have hsl := fun k => (hs k).len
  have e := nlen_digs hv.1
  simp (disch := first | omega | (simp only [zqp, zqq]; omega)) [ir106_b, ir106_k1, ir106_k2, ir106_k3, h1, h2, h3, zqa, zqb, zqc, zqd, zqe, zqf, zqg, zqh, zqi, zqj, zqk, u64b, u32b, zql, zqm, zqn, zqo, -zqu, -isSl, -zqs, -zqt, -zqv, -zqr]
  refine rtrim_loop hv hl l.length _ (Nat.le_refl _) (nlen_le l) (by simp) (by simp [h1]) fun σ' q0 q3 => ?_
  simp (disch := first | omega | (simp only [zqp, zqq]; omega)) [q0, q3, h1, h2, h3, hn, (hsl 5).2.2.2, (hc 5).1, (hc 5).2, e, zqa, zqb, zqc, zqd, zqe, zqf, zqg, zqh, zqi, zqj, zqk, u64b, u32b, zql, zqm, zqn, zqo, -zqu, -isSl, -zqs, -zqt, -zqv, -zqr]
  exact ⟨by omega, Old.copy, OutL.copy (m := m.bump 5) (v := v) (id := m.next + 3) (by omega) (by simp) (by rw [e]) (by rw [e])⟩
set_option maxHeartbeats 2000000 in
theorem rup_own {m : Mem} {v : Value} {a : List Int} {s : Nat} {S : Int} (hS : S = (2 : Int) ^ s) (hs : s < 32) (hS1 : 1 ≤ S ∧ S ≤ 2147483648) (hv : Sl m v a) (ha : a.length < 900000) :
    WPCall Tryz.prog 174 [v, I s] m fun r m' => Old m m' ∧ OutL m m' r (digs (val a * S)) := by
  rw [call174 (by simp)]
  obtain ⟨h1, h2, h3, h4⟩ := hv.len
  by_cases k0 : a.length = 0
  · obtain rfl : a = [] := List.length_eq_zero_iff.1 k0
    simp (disch := first | omega | (simp only [zqp, zqq]; omega)) [ir174_b, ir174_k1, ir174_k2, ir174_k3, ir174_k4, ir174_k5, ir174_k6, ir174_k7, h1, h2, zqa, zqb, zqc, zqd, zqe, zqf, zqg, zqh, zqi, zqj, zqk, u64b, u32b, zql, zqm, zqn, zqo, -zqu, -isSl, -zqs, -zqt, -zqv, -zqr]
    refine ⟨Old.refl m, ?_⟩
    rw [show val [] * S = 0 by simp [val], digs_zero (by omega)]; exact .inl ⟨rfl, rfl⟩
  · have w4 : (s : Int).tdiv 32 = 0 := by rw [Int.tdiv_eq_ediv_of_nonneg (by omega)]; omega
    have k1 : ¬ (a.length : Int) = 0 := by omega
    have k2 : ¬ a = [] := fun h => k0 (by simp [h])
    have w5 : IntKind.i64.wrap 0 = 0 := by decide
    simp (disch := first | omega | (simp only [zqp, zqq]; omega)) [ir174_b, ir174_k1, ir174_k2, ir174_k3, ir174_k4, ir174_k5, ir174_k6, ir174_k7, h1, h2, w4, w5, k1, k0, k2, zqa, zqb, zqc, zqd, zqe, zqf, zqg, zqh, zqi, zqj, zqk, u64b, u32b, zql, zqm, zqn, zqo, -zqu, -isSl, -zqs, -zqt, -zqv, -zqr]
    refine rup_loop hS hs hS1 hv (by omega) a.length 0 (m.next + 2) 0 [] _ _ (by omega) (((Old.refl m).bump _).put (by omega)) (by omega) (by rw [zql (by simp)]; rfl) (by simp [OkL]) rfl (by omega) (by omega) (by simp [val]) (by simp) (by simp) (by simp) (by simp) (by simp) fun σ' m' o c ob f1 f2 f3 f4 f5 f6 f7 f8 q5 q6 => ?_
    have hlt := get_lt f3
    have hnx := f1.next
    have lim : ((o.length : Int) + 1) * 4 ≤ 140737488355328 := by omega
    have lim2 : (o.length + 1) * 4 ≤ 140737488355328 := by omega
    have lim3 : o.length + 1 ≤ 9223372036854775807 := by omega
    have hlto : o.length = (o.map U).length := by simp
    simp (disch := first | omega | (simp only [zqp, zqq]; omega)) [q5, q6, f3, u32_wrap, lim, lim2, lim3, zqa, zqb, zqc, zqd, zqe, zqf, zqg, zqh, zqi, zqj, zqk, u64b, u32b, zql, zqm, zqn, zqo, -zqu, -isSl, -zqs, -zqt, -zqv, -zqr]
    have hs' : ∀ {mm : Mem} {b : Nat}, mm.get b = some ⟨List.take o.length (o.map U) ++ [U (c % 4294967296)], true⟩ → Sl mm (.slice (some ⟨b, 0, none⟩) (o.length + 1) 1) (o ++ [c % 4294967296]) := fun {mm b} h => Sl.mk' (okL_snoc f4 (by omega)) (by rw [h, List.take_of_length_le (by simp), map_snoc]) (by simp)
    refine (rtrim_own (hs' (zql (by simp))) (by simp; omega)).mono fun r m2 hp => ?_
    simp (disch := first | omega | (simp only [zqp, zqq]; omega)) [zqa, zqb, zqc, zqd, zqe, zqf, zqg, zqh, zqi, zqj, zqk, u64b, u32b, zql, zqm, zqn, zqo, -zqu, -isSl, -zqs, -zqt, -zqv, -zqr]
    have e : val (o ++ [c % 4294967296]) = val a * S := by rw [val_append, show c % 4294967296 = c by omega, f5]; simp only [val]; rw [← f8]; grind
    rw [e] at hp
    exact ⟨((((f1.bump _).put (by omega)).put (by omega)).put (by omega)).trans hp.1, hp.2.base (by simp; omega)⟩

theorem put_mid {A W C : List Int} {i : Nat} {z y : Int} {T : List Int} (h : A.length + W.length = i) : ((A ++ W ++ z :: C) ++ T).set i y = (A ++ (W ++ [y]) ++ C) ++ T := by
  have e : A ++ W ++ z :: C ++ T = (A ++ W) ++ z :: (C ++ T) := by simp
  rw [e, List.set_append_right _ _ (by simp; omega)]
  simp [show i - (A.length + W.length) = 0 by omega]
set_option maxHeartbeats 4000000 in
theorem rcopy_loop {m1 : Mem} {y rv : Value} {R vl F T : List Int} {xb n N j : Nat} (hy : Sl m1 y vl) (hby : blkOf y ≠ some xb) (hr : Sl m1 rv R) (hbr : blkOf rv ≠ some xb) (hn : vl.length = n) (hF : F.length = N) (hj : j + n + 1 ≤ N) (hN : N < 300000) {W : List Int} (hW : W = R ++ List.replicate (n + 1 - R.length) 0) (hR : R.length ≤ n + 1)
    {v10 v13 v14 v17 : Value} {Q : IExit → Slots → Mem → Prop} : ∀ (r k : Nat) (m : Mem) (σ : Slots), k + r = n + 1 → OldX xb m1 m → m.get xb = some ⟨((F.take j ++ W.take k ++ F.drop (j + k)) ++ T).map U, true⟩ →
    σ 10 = v10 → σ 11 = .slice (some ⟨xb, 0, none⟩) N 1 → σ 12 = y → σ 13 = v13 → σ 14 = v14 → σ 15 = I j → σ 17 = v17 → σ 18 = rv → σ 19 = I k →
    (∀ σ' m', OldX xb m1 m' → m'.get xb = some ⟨((F.take j ++ W ++ F.drop (j + n + 1)) ++ T).map U, true⟩ → σ' 10 = v10 → σ' 11 = .slice (some ⟨xb, 0, none⟩) N 1 → σ' 12 = y → σ' 13 = v13 → σ' 14 = v14 → σ' 15 = I j → σ' 17 = v17 → Q (.exit 6) σ' m') →
    WP Tryz.prog (.loop ir165_l2) σ m Q
  | 0, k, m, σ, hk, ho, hg, s10, s11, s12, s13, s14, s15, s17, s18, s19, hQ => by
    refine wp_round fun J hJ => ?_
    have e : k = n + 1 := by omega
    subst e
    obtain ⟨h1, h2, h3, h4⟩ := (hy.monoX hby ho).len
    rw [hn] at h1
    have c : ¬ ((n : Int) + 1 ≤ n) := by omega
    have lW : W.length = n + 1 := by rw [hW]; simp; omega
    simp (disch := first | omega | (simp only [zqp, zqq]; omega)) [ir165_l2, ir165_k1, ir165_k2, ir165_k3, ir165_k4, ir165_k5, ir165_k6, ir165_k7, ir165_k8, ir165_k9, ir165_k10, ir165_k11, ir165_k12, ir165_k13, ir165_k14, ir165_k15, ir165_k16, ir165_k17, ir165_k18, ir165_k19, ir165_k20, ir165_k21, ir165_k22, s10, s11, s12, s13, s14, s15, s17, s18, s19, h1, h2, c, zqa, zqb, zqc, zqd, zqe, zqf, zqg, zqh, zqi, zqj, zqk, u64b, u32b, zql, zqm, zqn, zqo, -zqu, -isSl, -zqs, -zqt, -zqv, -zqr]
    rw [List.take_of_length_le (l := W) (by omega)] at hg
    exact hQ _ _ ho hg (by simp [s10]) (by simp [s11]) (by simp [s12]) (by simp [s13]) (by simp [s14]) (by simp [s15]) (by simp [s17])
  | r + 1, k, m, σ, hk, ho, hg, s10, s11, s12, s13, s14, s15, s17, s18, s19, hQ => by
    refine wp_round fun J hJ => ?_
    obtain ⟨h1, h2, h3, h4⟩ := (hy.monoX hby ho).len
    obtain ⟨g1, g2, g3, g4⟩ := (hr.monoX hbr ho).len
    rw [hn] at h1
    have lW : W.length = n + 1 := by rw [hW]; simp; omega
    have hlt := get_lt hg
    obtain ⟨e, he⟩ : ∃ e, e = j + k := ⟨_, rfl⟩
    obtain ⟨G, hG⟩ : ∃ G, G = (F.take j ++ W.take k ++ F.drop (j + k)) ++ T := ⟨_, rfl⟩
    rw [← hG] at hg
    have hGl : N ≤ G.length := by rw [hG]; simp; omega
    have c : (k : Int) ≤ n := by omega
    have w0 : IntKind.i64.wrap ((j : Int) + (k : Int)) = (e : Int) := by rw [i64_id (by omega) (by omega)]; omega
    have w1 : IntKind.i64.wrap ((k : Int) + 1) = (k : Int) + 1 := i64_id (by omega) (by omega)
    have q1 : (e : Int) < N := by omega
    have q2 : e + 1 ≤ G.length := by omega
    have q3 : e < G.length := by omega
    have hset : ∀ v, G.set e v = (F.take j ++ (W.take k ++ [v]) ++ F.drop (j + (k + 1))) ++ T := fun v => by
      rw [hG, show F.drop (j + k) = gd F (j + k) :: F.drop (j + (k + 1)) from ?_]
      · exact put_mid (by simp; omega)
      · rw [List.drop_eq_getElem_cons (by omega), gd_some (List.getElem?_eq_getElem (by omega))]; rfl
    have htk : W.take (k + 1) = W.take k ++ [gd W k] := by
      rw [List.take_add_one, List.getElem?_eq_getElem (by omega), gd_some (List.getElem?_eq_getElem (by omega))]; rfl
    have ih := fun m2 σ2 => rcopy_loop hy hby hr hbr hn hF hj hN hW hR (v10 := v10) (v13 := v13) (v14 := v14) (v17 := v17) (Q := Q) (T := T) r (k + 1) m2 σ2 (by omega)
    have hm : ∀ v, (G.map U).set e (U v) = (G.set e v).map U := fun v => set_map
    by_cases kR : (k : Int) < R.length
    · have hr2 := fun x => (hr.monoX hbr (ho.put (x := x))).addr (i := k) (by omega)
      have hr3 := fun x => (hr.monoX hbr (ho.put (x := x))).load (i := k) (by omega)
      have hgw : gd W k = gd R k := by
        rw [hW]; unfold gd
        simp only [List.getD_eq_getElem?_getD]
        rw [List.getElem?_append_left (by omega)]
      simp (disch := first | omega | (simp only [zqp, zqq]; omega)) [ir165_l2, ir165_k1, ir165_k2, ir165_k3, ir165_k4, ir165_k5, ir165_k6, ir165_k7, ir165_k8, ir165_k9, ir165_k10, ir165_k11, ir165_k12, ir165_k13, ir165_k14, ir165_k15, ir165_k16, ir165_k17, ir165_k18, ir165_k19, ir165_k20, ir165_k21, ir165_k22, s10, s11, s12, s13, s14, s15, s17, s18, s19, h1, h2, c, w0, w1, q1, q2, q3, hg, g1, g2, g3, kR, hr2, hr3, zqa, zqb, zqc, zqd, zqe, zqf, zqg, zqh, zqi, zqj, zqk, u64b, u32b, zql, zqm, zqn, zqo, -zqu, -isSl, -zqs, -zqt, -zqv, -zqr]
      exact hJ _ _ (ih _ _ (ho.put) (by rw [zql (by simpa using hlt), hm, hset, htk, hgw]) (by simp [s10]) (by simp [s11]) (by simp [s12]) (by simp [s13]) (by simp [s14]) (by simp [s15]) (by simp [s17]) (by simp [s18]) (by simp) hQ)
    · have hgw : gd W k = 0 := by
        rw [hW]; unfold gd
        simp only [List.getD_eq_getElem?_getD]
        rw [List.getElem?_append_right (by omega), List.getElem?_replicate]
        split <;> rfl
      simp (disch := first | omega | (simp only [zqp, zqq]; omega)) [ir165_l2, ir165_k1, ir165_k2, ir165_k3, ir165_k4, ir165_k5, ir165_k6, ir165_k7, ir165_k8, ir165_k9, ir165_k10, ir165_k11, ir165_k12, ir165_k13, ir165_k14, ir165_k15, ir165_k16, ir165_k17, ir165_k18, ir165_k19, ir165_k20, ir165_k21, ir165_k22, s10, s11, s12, s13, s14, s15, s17, s18, s19, h1, h2, c, w0, w1, q1, q2, q3, hg, g1, g2, g3, kR, zqa, zqb, zqc, zqd, zqe, zqf, zqg, zqh, zqi, zqj, zqk, u64b, u32b, zql, zqm, zqn, zqo, -zqu, -isSl, -zqs, -zqt, -zqv, -zqr]
      exact hJ _ _ (ih _ _ (ho.put) (by rw [zql (by simpa using hlt), hm, hset, htk, hgw]) (by simp [s10]) (by simp [s11]) (by simp [s12]) (by simp [s13]) (by simp [s14]) (by simp [s15]) (by simp [s17]) (by simp [s18]) (by simp) hQ)
end Go.Proofs.YtkpifdkccdndcaaGreat
