/-
  The program's 'Make' of one; the reference's 'lowest', 'Valid', 'Reduce'.
  The reference's fractions: 'Valid', 'Reduce', 'times', 'Order', 'Add', 'Sum', 'Int', 'Sign', 'Same', 'Less'.
  The reference's fractions: 'Order', 'Add', 'Sum', 'Int', 'Sign', 'Same', 'Less'.
  The reference's fractions: 'Int', 'Sign', 'Same', 'Less', 'Sum'.
  The reference's fractions: 'Sum'.
-/
import Derived.Test.YtkpifdkccdndcaaGreatFrBE
import Derived.Test.YtkpifdkccdndcaaGreatNtSV
namespace Go.Big
theorem gcdI_zero_left {d : Int} (h : 0 ≤ d) : gcdI 0 d = d := by simp [gcdI]; omega
theorem lowF_zero {neg : Bool} {d : Int} (h : 0 < d) : lowF ⟨neg, 0, d⟩ = .nil := by
  simp only [lowF, gcdI_zero_left (Int.le_of_lt h), Fr.nil]
  rw [Int.ediv_self (by omega)]
  simp
theorem pw_one : (1 : Int) < pw 128 := by
  have := pw_pos 127
  show 1 < 4294967296 * pw 127
  omega
theorem lowF_one : sizeE (lowF ⟨false, 1, 1⟩) = (0, .one) := by
  have e : lowF ⟨false, 1, 1⟩ = .one := by decide
  have hf : Fr.one.fits = true := Fr.fits_iff.2 ⟨pw_one, pw_one⟩
  rw [e, sizeE, if_pos hf]
theorem digs_one : digs 1 = [1] := by rw [digs_pos (by omega), digs_zero (by omega)]; rfl
theorem digs_lim {n : Int} {k : Nat} (h0 : 0 ≤ n) : (digs n).length ≤ k ↔ n < pw k := by
  have := nlen_le_iff (can_digs n).1 k
  rw [(can_digs n).2, val_digs h0] at this; exact this
end Go.Big
namespace Go.Proofs.YtkpifdkccdndcaaGreat
open Go Go.DI Go.Big
set_option linter.unusedSimpArgs false
set_option linter.unusedVariables false

theorem make_cut {m : Mem} {l : List Nat} {n : Int} (hl : ∀ c ∈ l, c < m.next) (h0 : 0 ≤ n) (h1 : n < 18446744073709551616) : WPCall Tryz.prog 34 [L n] m fun r m' => Old m m' ∧ Sl (Mem.cut m' l) r (digs n) :=
  call_cut (fun _ _ _ hs h => h.sub' hs) hl (make_wp h0 h1)
theorem abs_wp {m : Mem} {n : Int} (h0 : 0 ≤ n) (h1 : n ≤ 9223372036854775807) : WPCall Tryz.prog 90 [I n] m fun r m' => Old m m' ∧ Sl m' r (digs n) := by
  rw [call90 (by simp)]
  have k : ¬ n < 0 := by omega
  have w : IntKind.u64.wrap n = n := u64_id (by omega) (by omega)
  simp (disch := first | omega | (simp only [zqp, zqq]; omega)) [ir90_b, ir90_k1, ir90_k2, k, w, zqa, zqb, zqc, zqd, zqe, zqf, zqg, zqh, zqi, zqj, zqk, u64b, u32b, zql, zqm, zqn, zqo, -zqu, -isSl, -zqs, -zqt, -zqv, -zqr]
  refine (make_wp h0 (by omega)).mono fun r m' hp => ?_
  simp (disch := first | omega | (simp only [zqp, zqq]; omega)) [zqa, zqb, zqc, zqd, zqe, zqf, zqg, zqh, zqi, zqj, zqk, u64b, u32b, zql, zqm, zqn, zqo, -zqu, -isSl, -zqs, -zqt, -zqv, -zqr]
  exact hp
theorem one512 : (1 : Int) < pw 512 := by have := pw_one; have := pw_128_512; omega
set_option maxHeartbeats 4000000 in
theorem one_wp {m : Mem} : WPCall Tryz.prog 26 [I 1, I 1] m (FRes m (0, .one)) := by
  rw [call26 (by simp)]
  simp (disch := first | omega | (simp only [zqp, zqq]; omega)) [ir26_b, ir26_k1, ir26_k2, zqa, zqb, zqc, zqd, zqe, zqf, zqg, zqh, zqi, zqj, zqk, u64b, u32b, zql, zqm, zqn, zqo, -zqu, -isSl, -zqs, -zqt, -zqv, -zqr]
  obtain ⟨mm, hmm⟩ : ∃ mm, mm = (m.bump 2).put m.next (some ⟨frz, true⟩) := ⟨_, rfl⟩
  rw [← hmm]
  have om : Old m mm := by rw [hmm]; exact ((Old.refl m).bump 2).put (by omega)
  have hg : mm.get m.next = some ⟨frz, true⟩ := by rw [hmm, zql (by simp)]
  have ac := fun {m' : Mem} (hlt : m.next < m'.next) => call_cut (l := [m.next]) (Ψ := fun r p => Sl p r (digs 1)) (fun _ _ _ hs h => h.sub' hs) (one_lt hlt) (abs_wp (m := Mem.cut m' [m.next]) (n := 1) (by omega) (by omega))
  refine (ac (get_lt hg)).mono fun r1 m1 hp1 => ?_
  obtain ⟨o1, h1⟩ := hp1
  have g1 := o1.some hg
  simp (disch := first | omega | (simp only [zqp, zqq]; omega)) [zqa, zqb, zqc, zqd, zqe, zqf, zqg, zqh, zqi, zqj, zqk, u64b, u32b, zql, zqm, zqn, zqo, -zqu, -isSl, -zqs, -zqt, -zqv, -zqr]
  refine (ac (get_lt g1)).mono fun r2 m2 hp2 => ?_
  obtain ⟨o2, h2⟩ := hp2
  have g2 := o2.some g1
  simp (disch := first | omega | (simp only [zqp, zqq]; omega)) [zqa, zqb, zqc, zqd, zqe, zqf, zqg, zqh, zqi, zqj, zqk, u64b, u32b, zql, zqm, zqn, zqo, -zqu, -isSl, -zqs, -zqt, -zqv, -zqr]
  refine (lowest_cut (neg := false) (one_lt (get_lt g2)) (Nm.digs (h1.sub' (Sub.cut_mono o2)) (by omega) one512) (Nm.digs h2 (by omega) one512) one512 (by omega) one512).mono fun r3 m3 hp3 => ?_
  rw [lowF_one] at hp3
  obtain ⟨o3, q, rfl, hq⟩ := hp3
  have g3 := o3.some g2
  have hlt3 := get_lt g3
  obtain ⟨p1, n1, c1, p2, n2, c2, rfl⟩ := hq.form
  simp (disch := first | omega | (simp only [zqp, zqq]; omega)) [g3, zqa, zqb, zqc, zqd, zqe, zqf, zqg, zqh, zqi, zqj, zqk, u64b, u32b, zql, zqm, zqn, zqo, -zqu, -isSl, -zqs, -zqt, -zqv, -zqr]
  exact fres_put (((om.trans o1).trans o2).trans o3) (by omega) hq

section
variable {m : Mem} {l : List Nat} {v w : Value} {a b : Int} {x y : Fr}
theorem rtrim_cut (hl : ∀ c ∈ l, c < m.next) (hv : Nm (Mem.cut m l) v a) : WPCall Tryz.prog 106 [v] m fun r m' => Old m m' ∧ Sl (Mem.cut m' l) r (digs a) :=
  call_cut (fun _ _ _ hs h => h.sub' hs) hl (rtrim_nm hv)
theorem rgcd_cut (hl : ∀ c ∈ l, c < m.next) (hv : Nm (Mem.cut m l) v a) (hw : Nm (Mem.cut m l) w b) (h1 : a < pw 512) (h2 : b < pw 512) : WPCall Tryz.prog 145 [v, w] m fun r m' => Old m m' ∧ ResV (gcdI a b) r (Mem.cut m' l) :=
  call_cut ResV.sub hl (rgcd_wp hv hw h1 h2)
theorem rdiv_cut (hl : ∀ c ∈ l, c < m.next) (hv : Nm (Mem.cut m l) v a) (hw : Nm (Mem.cut m l) w b) (h1 : a < pw 512) (h2 : b < pw 512) (h : 0 < b) : WPCall Tryz.prog 146 [v, w] m fun r m' => Old m m' ∧ DivV a b r (Mem.cut m' l) :=
  call_cut DivV.sub hl (rdiv_wp hv hw h1 h2 h)
theorem rmul_cut (hl : ∀ c ∈ l, c < m.next) (hv : Nm (Mem.cut m l) v a) (hw : Nm (Mem.cut m l) w b) (h1 : a < pw 512) (h2 : b < pw 512) (h : a * b < pw 512) : WPCall Tryz.prog 160 [v, w] m fun r m' => Old m m' ∧ ResV (a * b) r (Mem.cut m' l) :=
  call_cut ResV.sub hl (rmul_wp hv hw h1 h2 h)
theorem radd_cut (hl : ∀ c ∈ l, c < m.next) (hv : Nm (Mem.cut m l) v a) (hw : Nm (Mem.cut m l) w b) (h : a + b < pw 512) : WPCall Tryz.prog 135 [v, w] m fun r m' => Old m m' ∧ ResV (a + b) r (Mem.cut m' l) :=
  call_cut ResV.sub hl (radd_wp hv hw h)
theorem rsub_cut (hl : ∀ c ∈ l, c < m.next) (hv : Nm (Mem.cut m l) v a) (hw : Nm (Mem.cut m l) w b) (h : a < pw 512) (hle : b ≤ a) : WPCall Tryz.prog 137 [v, w] m fun r m' => Old m m' ∧ ResV (a - b) r (Mem.cut m' l) :=
  call_cut ResV.sub hl (rsub_wp hv hw h hle)

/-- a canonical fraction as a result -/
def CRes (m : Mem) (x : Fr) (r : Value) (m' : Mem) : Prop := Old m m' ∧ Cf m' r x
theorem cres_put {m m2 : Mem} {cb : Nat} {x : Fr} {x0 x1 x2 : Value} (ho : Old m m2) (hcb : m.next ≤ cb) (hc : Cf (Mem.cut m2 [cb]) (.agg #[x0, x1, x2]) x) : CRes m x (.agg #[x0, x1, x2]) (m2.put cb (some ⟨[x0, x1, x2], true⟩)) := by
  refine ⟨ho.put hcb, hc.sub ?_⟩
  rw [← cut_put (m := m2) (b := cb) (l := [cb]) (x := some ⟨[x0, x1, x2], true⟩) (by simp)]
  exact Sub.cut _ _
set_option maxHeartbeats 8000000 in
theorem rlowest_wp {neg : Bool} {n d : Int} (hv : Nm m v n) (hw : Nm m w d) (hn : n < pw 512) (hd : 0 < d) (hd2 : d < pw 512) :
    WPCall Tryz.prog 107 [.bool neg, v, w] m (CRes m (lowF ⟨neg, n, d⟩)) := by
  rw [call107 (by simp)]
  have n0 := hv.nonneg
  obtain ⟨cb, hcb⟩ : ∃ cb, cb = m.next := ⟨_, rfl⟩
  simp (disch := first | omega | (simp only [zqp, zqq]; omega)) [ir107_b, ir107_k1, ir107_k3, ir107_k4, ir107_k5, zqa, zqb, zqc, zqd, zqe, zqf, zqg, zqh, zqi, zqj, zqk, u64b, u32b, zql, zqm, zqn, zqo, -zqu, -isSl, -zqs, -zqt, -zqv, -zqr]
  obtain ⟨mm, hmm⟩ : ∃ mm, mm = (m.bump 1).put m.next (some ⟨frz, true⟩) := ⟨_, rfl⟩
  rw [← hmm, ← hcb]
  have om : Old m mm := by rw [hmm]; exact ((Old.refl m).bump 1).put (by omega)
  have hg : mm.get cb = some ⟨frz, true⟩ := by rw [hmm, hcb, zql (by simp)]
  have sm := fun {m' : Mem} (o : Old m m') => Sub.cut_old (l := [cb]) o (one_le (by omega))
  refine (rtrim_cut (one_lt (get_lt hg)) (hv.sub (sm om))).mono fun r1 m1 hp1 => ?_
  obtain ⟨o1, h1⟩ := hp1
  have g1 := o1.some hg
  simp (disch := first | omega | (simp only [zqp, zqq]; omega)) [zqa, zqb, zqc, zqd, zqe, zqf, zqg, zqh, zqi, zqj, zqk, u64b, u32b, zql, zqm, zqn, zqo, -zqu, -isSl, -zqs, -zqt, -zqv, -zqr]
  refine (rtrim_cut (one_lt (get_lt g1)) (hw.sub (sm (om.trans o1)))).mono fun r2 m2 hp2 => ?_
  obtain ⟨o2, h2⟩ := hp2
  have g2 := o2.some g1
  have hlt2 := get_lt g2
  have om2 := (om.trans o1).trans o2
  have h1' := h1.sub' (Sub.cut_mono (l := [cb]) o2)
  obtain ⟨e1, e2, e3, e4⟩ := (h1'.sub' (Sub.cut _ _)).len
  have hl1 := digs_lim (n := n) (k := 0) n0
  by_cases k0 : n = 0
  · have z : (digs n).length = 0 := by subst k0; rw [digs_zero (by omega)]; rfl
    rw [z] at e1
    have hx : lowF ⟨neg, n, d⟩ = .nil := by subst k0; exact lowF_zero hd
    rw [hx]
    have ne : cb ≠ m2.next := by omega
    simp (disch := first | omega | (simp only [zqp, zqq]; omega)) [ir107_k2, ir107_k1, ir107_k3, ir107_k4, ir107_k5, e1, e2, g2, zqa, zqb, zqc, zqd, zqe, zqf, zqg, zqh, zqi, zqj, zqk, u64b, u32b, zql, zqm, zqn, zqo, -zqu, -isSl, -zqs, -zqt, -zqv, -zqr]
    have hs : Sl ((((m2.bump 3).put m2.next (some ⟨[U 1], true⟩))).put cb (some ⟨[.bool false, .slice none 0 0, .slice (some ⟨m2.next, 0, none⟩) 1 1], true⟩)) (.slice (some ⟨m2.next, 0, none⟩) 1 1) [1] := by
      refine Sl.mk' (fun x hx => by simp at hx; omega) (w := true) ?_ rfl
      rw [zqm (by omega), zql (by simp)]; rfl
    refine ⟨(((om2.bump 3).put (by have := om2.next; omega)).put (by omega)), _, _, rfl, ?_, ?_⟩
    · rw [show Fr.nil.n = 0 from rfl, digs_zero (by omega)]; exact Sl.nil
    · rw [show Fr.nil.d = 1 from rfl, digs_one]; exact hs
  · have z : 1 ≤ (digs n).length := by
      have : ¬ n < pw 0 := by simp [pw]; omega
      omega
    have z1 : ¬ ((digs n).length : Int) = 0 := by omega
    have z2 : ¬ digs n = [] := fun h => by rw [h] at z; simp at z
    obtain ⟨G, hG⟩ : ∃ G, G = gcdI n d := ⟨_, rfl⟩
    have G0 : 0 < G := by rw [hG]; exact gcdI_pos hd
    have G1 : G ≤ d := by rw [hG]; exact gcdI_le hd
    have q0 : 0 ≤ n / G := Int.ediv_nonneg n0 (by omega)
    have q1 : n / G ≤ n := Int.ediv_le_self _ n0
    have e0 : 0 < d / G := by rw [hG]; exact div_pos_of_dvd (gcdI_pos hd) hd (gcdI_dvd_right (by omega))
    have e1' : d / G ≤ d := Int.ediv_le_self _ (by omega)
    have hlow : lowF ⟨neg, n, d⟩ = ⟨neg, n / G, d / G⟩ := by
      simp only [lowF, ← hG]
      have : decide (0 < n) = true := by simp; omega
      rw [this, Bool.and_true]
    rw [hlow]
    have N1 := Nm.digs h1' n0 hn
    have N2 := Nm.digs h2 (by omega) hd2
    simp (disch := first | omega | (simp only [zqp, zqq]; omega)) [ir107_k2, ir107_k1, ir107_k3, e1, e2, z1, z2, zqa, zqb, zqc, zqd, zqe, zqf, zqg, zqh, zqi, zqj, zqk, u64b, u32b, zql, zqm, zqn, zqo, -zqu, -isSl, -zqs, -zqt, -zqv, -zqr]
    refine (rgcd_cut (one_lt hlt2) N1 N2 hn hd2).mono fun r3 m3 hp3 => ?_
    obtain ⟨o3, g, rfl, hgv⟩ := hp3
    rw [← hG] at hgv
    have g3 := o3.some g2
    have hlt3 := get_lt g3
    have om3 := om2.trans o3
    obtain ⟨f1, f2, f3, f4⟩ := (hgv.sub' (Sub.cut _ _)).len
    have NG := Nm.digs hgv (by omega) (by omega)
    have lG1 := digs_lim (n := G) (k := 1) (by omega)
    have lG0 := digs_lim (n := G) (k := 0) (by omega)
    have p1 : pw 1 = 4294967296 := by simp [pw]
    have p0 : pw 0 = 1 := by simp [pw]
    -- the end
    have tail : ∀ (mf : Mem) (x y : Value) (σ : Slots), Old m3 mf → Sl (Mem.cut mf [cb]) x (digs (n / G)) → Sl (Mem.cut mf [cb]) y (digs (d / G)) → σ 0 = .bool neg → σ 1 = x → σ 2 = y → σ 6 = ptr cb →
        WP Tryz.prog ir107_k5 σ mf (retK [.cell 6 true 3] (CRes m ⟨neg, n / G, d / G⟩)) := by
      intro mf x y σ o hx hy s0 s1 s2 s6
      have gf := o.some g3
      have hltf := get_lt gf
      obtain ⟨p, a, c, rfl⟩ := hx.form
      obtain ⟨p', a', c', rfl⟩ := hy.form
      simp (disch := first | omega | (simp only [zqp, zqq]; omega)) [ir107_k5, ir107_k1, ir107_k2, ir107_k3, ir107_k4, s0, s1, s2, s6, gf, zqa, zqb, zqc, zqd, zqe, zqf, zqg, zqh, zqi, zqj, zqk, u64b, u32b, zql, zqm, zqn, zqo, -zqu, -isSl, -zqs, -zqt, -zqv, -zqr]
      exact cres_put (om3.trans o) (by omega) ⟨_, _, rfl, hx, hy⟩
    by_cases kg : 1 < G
    · have div2 : ∀ (σ : Slots), σ 0 = .bool neg → σ 1 = r1 → σ 2 = r2 → σ 6 = ptr cb → σ 7 = g → WP Tryz.prog ir107_k4 σ m3 (thenK Tryz.prog ir107_k5 (retK [.cell 6 true 3] (CRes m ⟨neg, n / G, d / G⟩))) := by
        intro σ s0 s1 s2 s6 s7
        have walk : WPCall Tryz.prog 146 [r1, g] m3 fun r m' => Old m3 m' ∧ DivV n G r (Mem.cut m' [cb]) := rdiv_cut (one_lt hlt3) (N1.sub (Sub.cut_mono o3)) NG hn (by omega) (by omega)
        by_cases kl : 1 < (digs G).length
        · have kl' : (1 : Int) < (digs G).length := by omega
          simp (disch := first | omega | (simp only [zqp, zqq]; omega)) [ir107_k4, ir107_k1, ir107_k2, ir107_k3, s0, s1, s2, s6, s7, f1, f2, kl, kl', zqa, zqb, zqc, zqd, zqe, zqf, zqg, zqh, zqi, zqj, zqk, u64b, u32b, zql, zqm, zqn, zqo, -zqu, -isSl, -zqs, -zqt, -zqv, -zqr]
          refine walk.mono fun r4 m4 hp4 => ?_
          obtain ⟨o4, q, t, rfl, hq, _⟩ := hp4
          simp (disch := first | omega | (simp only [zqp, zqq]; omega)) [s0, s1, s2, s6, s7, zqa, zqb, zqc, zqd, zqe, zqf, zqg, zqh, zqi, zqj, zqk, u64b, u32b, zql, zqm, zqn, zqo, -zqu, -isSl, -zqs, -zqt, -zqv, -zqr]
          refine (rdiv_cut (one_lt (Nat.lt_of_lt_of_le hlt3 o4.next)) ((N2.sub (Sub.cut_mono o3)).sub (Sub.cut_mono o4)) (NG.sub (Sub.cut_mono o4)) hd2 (by omega) (by omega)).mono fun r5 m5 hp5 => ?_
          obtain ⟨o5, q', t', rfl, hq', _⟩ := hp5
          simp (disch := first | omega | (simp only [zqp, zqq]; omega)) [s0, s1, s2, s6, s7, zqa, zqb, zqc, zqd, zqe, zqf, zqg, zqh, zqi, zqj, zqk, u64b, u32b, zql, zqm, zqn, zqo, -zqu, -isSl, -zqs, -zqt, -zqv, -zqr]
          exact tail m5 q q' _ (o4.trans o5) (hq.sub' (Sub.cut_mono o5)) hq' (by simp [s0]) (by simp) (by simp) (by simp [s6])
        · have kl' : ¬ (1 : Int) < (digs G).length := by omega
          have l1 : (digs G).length = 1 := by omega
          have a1 := (hgv.sub' (Sub.cut m3 [cb])).addr (i := 0) (by omega)
          have a2 := (hgv.sub' (Sub.cut m3 [cb])).load (i := 0) (by omega)
          have hv0 : gd (digs G) 0 = G := by
            obtain ⟨z, hz⟩ := List.length_eq_one_iff.1 l1
            have := val_digs (show 0 ≤ G by omega)
            rw [hz] at this ⊢
            have h9 : z = G := by simpa [val] using this
            exact h9
          rw [hv0] at a2
          rw [l1] at f1
          simp only [Int.ofNat_eq_natCast, Int.natCast_zero, Int.cast_ofNat_Int] at a1 a2 f1
          simp (disch := first | omega | (simp only [zqp, zqq]; omega)) [ir107_k4, ir107_k1, ir107_k2, ir107_k3, s0, s1, s2, s6, s7, f1, f2, f3, a1, a2, kl, kl', kg, zqa, zqb, zqc, zqd, zqe, zqf, zqg, zqh, zqi, zqj, zqk, u64b, u32b, zql, zqm, zqn, zqo, -zqu, -isSl, -zqs, -zqt, -zqv, -zqr]
          refine walk.mono fun r4 m4 hp4 => ?_
          obtain ⟨o4, q, t, rfl, hq, _⟩ := hp4
          simp (disch := first | omega | (simp only [zqp, zqq]; omega)) [s0, s1, s2, s6, s7, zqa, zqb, zqc, zqd, zqe, zqf, zqg, zqh, zqi, zqj, zqk, u64b, u32b, zql, zqm, zqn, zqo, -zqu, -isSl, -zqs, -zqt, -zqv, -zqr]
          refine (rdiv_cut (one_lt (Nat.lt_of_lt_of_le hlt3 o4.next)) ((N2.sub (Sub.cut_mono o3)).sub (Sub.cut_mono o4)) (NG.sub (Sub.cut_mono o4)) hd2 (by omega) (by omega)).mono fun r5 m5 hp5 => ?_
          obtain ⟨o5, q', t', rfl, hq', _⟩ := hp5
          simp (disch := first | omega | (simp only [zqp, zqq]; omega)) [s0, s1, s2, s6, s7, zqa, zqb, zqc, zqd, zqe, zqf, zqg, zqh, zqi, zqj, zqk, u64b, u32b, zql, zqm, zqn, zqo, -zqu, -isSl, -zqs, -zqt, -zqv, -zqr]
          exact tail m5 q q' _ (o4.trans o5) (hq.sub' (Sub.cut_mono o5)) hq' (by simp [s0]) (by simp) (by simp) (by simp [s6])
      simp (disch := first | omega | (simp only [zqp, zqq]; omega)) [zqa, zqb, zqc, zqd, zqe, zqf, zqg, zqh, zqi, zqj, zqk, u64b, u32b, zql, zqm, zqn, zqo, -zqu, -isSl, -zqs, -zqt, -zqv, -zqr]
      exact div2 _ (by simp) (by simp) (by simp) (by simp [hcb]) (by simp)
    · obtain rfl : G = 1 := by omega
      rw [digs_one] at hgv f1
      have a1 := (hgv.sub' (Sub.cut m3 [cb])).addr (i := 0) (by simp)
      have a2 := (hgv.sub' (Sub.cut m3 [cb])).load (i := 0) (by simp)
      rw [show gd [1] 0 = 1 from rfl] at a2
      replace f1 : zqu g = 1 := f1
      simp only [Int.ofNat_eq_natCast, Int.natCast_zero, Int.cast_ofNat_Int] at a1 a2
      rw [Int.ediv_one, Int.ediv_one] at *
      simp (disch := first | omega | (simp only [zqp, zqq]; omega)) [ir107_k4, ir107_k1, ir107_k2, ir107_k3, f1, f2, f3, a1, a2, zqa, zqb, zqc, zqd, zqe, zqf, zqg, zqh, zqi, zqj, zqk, u64b, u32b, zql, zqm, zqn, zqo, -zqu, -isSl, -zqs, -zqt, -zqv, -zqr]
      exact tail m3 r1 r2 _ (Old.refl m3) (h1'.sub' (Sub.cut_mono o3)) (h2.sub' (Sub.cut_mono o3)) (by simp) (by simp) (by simp) (by simp [hcb])
end
end Go.Proofs.YtkpifdkccdndcaaGreat
namespace Go.Proofs.YtkpifdkccdndcaaGreat
open Go Go.DI Go.Big
set_option linter.unusedSimpArgs false
set_option linter.unusedVariables false

theorem CRes.sub {x : Fr} : ∀ (r : Value) (a c : Mem), Sub a c → Cf a r x → Cf c r x := fun _ _ _ hs h => h.sub hs
theorem three_lt {m : Mem} {b c d : Nat} (h : b < m.next) (h' : c < m.next) (h'' : d < m.next) : ∀ e ∈ [b, c, d], e < m.next := fun e he => by simp at he; omega
theorem rlowest_cut {m : Mem} {l : List Nat} {neg : Bool} {v w : Value} {n d : Int} (hl : ∀ c ∈ l, c < m.next) (hv : Nm (Mem.cut m l) v n) (hw : Nm (Mem.cut m l) w d) (hn : n < pw 512) (hd : 0 < d) (hd2 : d < pw 512) :
    WPCall Tryz.prog 107 [.bool neg, v, w] m fun r m' => Old m m' ∧ Cf (Mem.cut m' l) r (lowF ⟨neg, n, d⟩) :=
  call_cut CRes.sub hl (rlowest_wp hv hw hn hd hd2)
section
variable {m : Mem} {l : List Nat} {v w : Value} {a b : Int} {x y : Fr}
theorem rft_wp (hv : Nm m v a) (hw : Nm m w b) (h1 : a < pw 512) (h2 : b < pw 512) (h : a * b < pw 512) : WPCall Tryz.prog 133 [v, w] m fun r m' => Old m m' ∧ Sl m' r (digs (a * b)) := by
  rw [call133 (by simp)]
  simp (disch := first | omega | (simp only [zqp, zqq]; omega)) [ir133_b, ir133_k1, ir133_k2, zqa, zqb, zqc, zqd, zqe, zqf, zqg, zqh, zqi, zqj, zqk, u64b, u32b, zql, zqm, zqn, zqo, -zqu, -isSl, -zqs, -zqt, -zqv, -zqr]
  refine (rmul_wp hv hw h1 h2 h).mono fun r m' hp => ?_
  obtain ⟨ho, v, rfl, hs⟩ := hp
  simp (disch := first | omega | (simp only [zqp, zqq]; omega)) [zqa, zqb, zqc, zqd, zqe, zqf, zqg, zqh, zqi, zqj, zqk, u64b, u32b, zql, zqm, zqn, zqo, -zqu, -isSl, -zqs, -zqt, -zqv, -zqr]
  exact ⟨ho, hs⟩
theorem rft_cut (hl : ∀ c ∈ l, c < m.next) (hv : Nm (Mem.cut m l) v a) (hw : Nm (Mem.cut m l) w b) (h1 : a < pw 512) (h2 : b < pw 512) (h : a * b < pw 512) : WPCall Tryz.prog 133 [v, w] m fun r m' => Old m m' ∧ Sl (Mem.cut m' l) r (digs (a * b)) :=
  call_cut (fun _ _ _ hs h => h.sub' hs) hl (rft_wp hv hw h1 h2 h)
theorem rvalid_wp (h : Vf m v x) : WPCall Tryz.prog 54 [v] m fun r m' => Old m m' ∧ r = .bool x.ok := by
  rw [call54 (by simp)]
  obtain ⟨p, n, c, p', n', c', rfl, ha, hb⟩ := h.form
  have n0 := h.n0
  have d0 := h.d0
  simp (disch := first | omega | (simp only [zqp, zqq]; omega)) [ir54_b, ir54_k1, zqa, zqb, zqc, zqd, zqe, zqf, zqg, zqh, zqi, zqj, zqk, u64b, u32b, zql, zqm, zqn, zqo, -zqu, -isSl, -zqs, -zqt, -zqv, -zqr]
  obtain ⟨mm, hmm⟩ : ∃ mm, mm = (m.bump 2).put m.next (some ⟨[.bool x.neg, .slice p n c, .slice p' n' c'], true⟩) := ⟨_, rfl⟩
  rw [← hmm]
  have om : Old m mm := by rw [hmm]; exact ((Old.refl m).bump 2).put (by omega)
  have hg : mm.get m.next = some ⟨[.bool x.neg, .slice p n c, .slice p' n' c'], true⟩ := by rw [hmm, zql (by simp)]
  have l1 := digs_lim (n := x.d) (k := 128) d0
  have l2 := digs_lim (n := x.n) (k := 128) n0
  have l0 := digs_lim (n := x.d) (k := 0) d0
  have p0 : pw 0 = 1 := by simp [pw]
  refine (rtrim_nm (hb.mono om)).mono fun r1 m1 hp1 => ?_
  obtain ⟨o1, h1⟩ := hp1
  obtain ⟨e1, e2, _, _⟩ := h1.len
  have g1 := o1.some hg
  by_cases k1 : 0 < (digs x.d).length
  · have k1' : (0 : Int) < (digs x.d).length := by omega
    have k1'' : 0 < (digs x.d).length ∧ True := ⟨k1, trivial⟩
    simp (disch := first | omega | (simp only [zqp, zqq]; omega)) [e1, e2, k1, k1', g1, zqa, zqb, zqc, zqd, zqe, zqf, zqg, zqh, zqi, zqj, zqk, u64b, u32b, zql, zqm, zqn, zqo, -zqu, -isSl, -zqs, -zqt, -zqv, -zqr]
    refine (rtrim_nm (hb.mono (om.trans o1))).mono fun r2 m2 hp2 => ?_
    obtain ⟨o2, h2⟩ := hp2
    obtain ⟨f1, f2, _, _⟩ := h2.len
    have g2 := o2.some g1
    have om2 := (om.trans o1).trans o2
    by_cases k2 : (digs x.d).length ≤ 128
    · have k2' : ((digs x.d).length : Int) ≤ 128 := by omega
      simp (disch := first | omega | (simp only [zqp, zqq]; omega)) [f1, f2, k2, k2', g2, zqa, zqb, zqc, zqd, zqe, zqf, zqg, zqh, zqi, zqj, zqk, u64b, u32b, zql, zqm, zqn, zqo, -zqu, -isSl, -zqs, -zqt, -zqv, -zqr]
      refine (rtrim_nm (ha.mono om2)).mono fun r3 m3 hp3 => ?_
      obtain ⟨o3, h3⟩ := hp3
      obtain ⟨q1, q2, _, _⟩ := h3.len
      simp (disch := first | omega | (simp only [zqp, zqq]; omega)) [q1, q2, zqa, zqb, zqc, zqd, zqe, zqf, zqg, zqh, zqi, zqj, zqk, u64b, u32b, zql, zqm, zqn, zqo, -zqu, -isSl, -zqs, -zqt, -zqv, -zqr]
      refine ⟨om2.trans o3, ?_⟩
      have a1 : decide (0 < x.d) = true := by simp; omega
      have a2 : decide (x.d < pw 128) = true := by simp; omega
      simp only [Fr.ok, a1, a2, Bool.true_and]
      by_cases k3 : x.n < pw 128
      · have : ((digs x.n).length : Int) ≤ 128 := by omega
        simp [k3]; omega
      · have : ¬ ((digs x.n).length : Int) ≤ 128 := by omega
        simp [k3]; omega
    · have k2' : ¬ ((digs x.d).length : Int) ≤ 128 := by omega
      simp (disch := first | omega | (simp only [zqp, zqq]; omega)) [f1, f2, k2, k2', g2, zqa, zqb, zqc, zqd, zqe, zqf, zqg, zqh, zqi, zqj, zqk, u64b, u32b, zql, zqm, zqn, zqo, -zqu, -isSl, -zqs, -zqt, -zqv, -zqr]
      refine ⟨om2, ?_⟩
      simp [Fr.ok]; omega
  · have k1' : ¬ (0 : Int) < (digs x.d).length := by omega
    have z : (digs x.d).length = 0 := by omega
    rw [z] at e1
    simp (disch := first | omega | (simp only [zqp, zqq]; omega)) [e1, e2, g1, zqa, zqb, zqc, zqd, zqe, zqf, zqg, zqh, zqi, zqj, zqk, u64b, u32b, zql, zqm, zqn, zqo, -zqu, -isSl, -zqs, -zqt, -zqv, -zqr]
    refine ⟨om.trans o1, ?_⟩
    simp [Fr.ok]; omega
set_option maxHeartbeats 4000000 in
theorem rreduce_wp (h : Vf m v x) : WPCall Tryz.prog 55 [v] m (FRes m (reduceE x)) := by
  rw [call55 (by simp)]
  obtain ⟨p, n, c, p', n', c', rfl, ha, hb⟩ := h.form
  have h0 := h.n0
  simp (disch := first | omega | (simp only [zqp, zqq]; omega)) [ir55_b, ir55_k1, ir55_k2, zqa, zqb, zqc, zqd, zqe, zqf, zqg, zqh, zqi, zqj, zqk, u64b, u32b, zql, zqm, zqn, zqo, -zqu, -isSl, -zqs, -zqt, -zqv, -zqr]
  obtain ⟨mm, hmm⟩ : ∃ mm, mm = ((m.bump 3).put m.next (some ⟨[.bool x.neg, .slice p n c, .slice p' n' c'], true⟩)).put (m.next + 1) (some ⟨frz, true⟩) := ⟨_, rfl⟩
  rw [← hmm]
  have om : Old m mm := by rw [hmm]; exact (((Old.refl m).bump 3).put (by omega)).put (by omega)
  have hlt : m.next + 1 < mm.next := by rw [hmm]; simp
  have hg0 : mm.get m.next = some ⟨[.bool x.neg, .slice p n c, .slice p' n' c'], true⟩ := by rw [hmm, zqm (by omega), zql (by simp)]
  have hg1 : mm.get (m.next + 1) = some ⟨frz, true⟩ := by rw [hmm, zql (by simp)]
  refine (rvalid_wp (h.mono om)).mono fun r m1 hp => ?_
  obtain ⟨o1, rfl⟩ := hp
  have g0 := o1.some hg0
  have g1 := o1.some hg1
  have hlt1 := get_lt g1
  by_cases k : x.ok = true
  · simp (disch := first | omega | (simp only [zqp, zqq]; omega)) [k, g0, g1, zqa, zqb, zqc, zqd, zqe, zqf, zqg, zqh, zqi, zqj, zqk, u64b, u32b, zql, zqm, zqn, zqo, -zqu, -isSl, -zqs, -zqt, -zqv, -zqr]
    have sm := Sub.cut_old (l := [m.next + 1]) (om.trans o1) (one_le (by omega))
    obtain ⟨d0, d1, d2⟩ := fr512 k
    refine (rlowest_cut (one_lt hlt1) (ha.sub sm) (hb.sub sm) d2 d0 d1).mono fun r2 m2 hp2 => ?_
    obtain ⟨o2, hq⟩ := hp2
    have g12 := o2.some g1
    have hlt2 := get_lt g12
    obtain ⟨p1, n1, c1, p2, n2, c2, rfl⟩ := hq.form
    simp (disch := first | omega | (simp only [zqp, zqq]; omega)) [g12, zqa, zqb, zqc, zqd, zqe, zqf, zqg, zqh, zqi, zqj, zqk, u64b, u32b, zql, zqm, zqn, zqo, -zqu, -isSl, -zqs, -zqt, -zqv, -zqr]
    rw [reduceE_ok k h0]
    exact fres_put (p := (0, lowF x)) ((om.trans o1).trans o2) (by omega) hq
  · simp (disch := first | omega | (simp only [zqp, zqq]; omega)) [k, g0, g1, zqa, zqb, zqc, zqd, zqe, zqf, zqg, zqh, zqi, zqj, zqk, u64b, u32b, zql, zqm, zqn, zqo, -zqu, -isSl, -zqs, -zqt, -zqv, -zqr]
    rw [reduceE_bad k]
    exact fres_put (om.trans o1) (by omega) Cf.zero
end
end Go.Proofs.YtkpifdkccdndcaaGreat
namespace Go.Proofs.YtkpifdkccdndcaaGreat
open Go Go.DI Go.Big
set_option linter.unusedSimpArgs false
set_option linter.unusedVariables false

section
variable {m : Mem} {l : List Nat} {v w : Value} {a b : Int} {x y : Fr}
set_option maxHeartbeats 8000000 in
theorem rorder_wp (hx : Vf m v x) (hy : Vf m w y) (kx : x.ok = true) (ky : y.ok = true) : WPCall Tryz.prog 97 [v, w] m fun r m' => Old m m' ∧ r = I (ordF x y) := by
  rw [call97 (by simp)]
  obtain ⟨p, n, c, p', n', c', rfl, ha, hb⟩ := hx.form
  obtain ⟨u, k, e, u', k', e', rfl, ha', hb'⟩ := hy.form
  have x0 := hx.n0
  have y0 := hy.n0
  obtain ⟨dx0, dx1, nx1⟩ := Fr.ok_iff.1 kx
  obtain ⟨dy0, dy1, ny1⟩ := Fr.ok_iff.1 ky
  have P1 := pw_128_512
  have P2 := pw_256_512
  have P3 := pw_pos 256
  have m1' := mul_pw x0 (by omega) nx1 dy1
  have m2' := mul_pw y0 (by omega) ny1 dx1
  simp only [Nat.reduceAdd] at m1' m2'
  have X0 : 0 ≤ x.n * y.d := Int.mul_nonneg x0 (by omega)
  have Y0 : 0 ≤ y.n * x.d := Int.mul_nonneg y0 (by omega)
  simp (disch := first | omega | (simp only [zqp, zqq]; omega)) [ir97_b, ir97_k1, ir97_k3, ir97_k4, zqa, zqb, zqc, zqd, zqe, zqf, zqg, zqh, zqi, zqj, zqk, u64b, u32b, zql, zqm, zqn, zqo, -zqu, -isSl, -zqs, -zqt, -zqv, -zqr]
  obtain ⟨mm, hmm⟩ : ∃ mm, mm = ((m.bump 3).put m.next (some ⟨[.bool x.neg, .slice p n c, .slice p' n' c'], true⟩)).put (m.next + 1) (some ⟨[.bool y.neg, .slice u k e, .slice u' k' e'], true⟩) := ⟨_, rfl⟩
  rw [← hmm]
  have om : Old m mm := by rw [hmm]; exact (((Old.refl m).bump 3).put (by omega)).put (by omega)
  have g0 : mm.get m.next = some ⟨[.bool x.neg, .slice p n c, .slice p' n' c'], true⟩ := by rw [hmm, zqm (by omega), zql (by simp)]
  have g1 : mm.get (m.next + 1) = some ⟨[.bool y.neg, .slice u k e, .slice u' k' e'], true⟩ := by rw [hmm, zql (by simp)]
  refine (rft_wp (ha.mono om) (hb'.mono om) (by omega) (by omega) (by omega)).mono fun r3 m3 hp3 => ?_
  obtain ⟨o3, h3⟩ := hp3
  have g03 := o3.some g0
  have g13 := o3.some g1
  have hl0 := get_lt g0
  have hl1 := get_lt g1
  refine callK_mk o3 (fun p hp b hb => by simp at hp; rcases hp with rfl | rfl <;> simp [blkOf] at hb <;> omega) ?_
  simp (disch := first | omega | (simp only [zqp, zqq]; omega)) [g03, g13, zqa, zqb, zqc, zqd, zqe, zqf, zqg, zqh, zqi, zqj, zqk, u64b, u32b, zql, zqm, zqn, zqo, -zqu, -isSl, -zqs, -zqt, -zqv, -zqr]
  have om3 := om.trans o3
  refine (rft_wp (ha'.mono om3) (hb.mono om3) (by omega) (by omega) (by omega)).mono fun r4 m4 hp4 => ?_
  obtain ⟨o4, h4⟩ := hp4
  have g04 := o4.some g03
  have g14 := o4.some g13
  have om4 := om3.trans o4
  have h3' := h3.mono o4
  obtain ⟨f1, f2, _, _⟩ := h3'.len
  obtain ⟨f1', f2', _, _⟩ := h4.len
  simp (disch := first | omega | (simp only [zqp, zqq]; omega)) [zqa, zqb, zqc, zqd, zqe, zqf, zqg, zqh, zqi, zqj, zqk, u64b, u32b, zql, zqm, zqn, zqo, -zqu, -isSl, -zqs, -zqt, -zqv, -zqr]
  have NA := Nm.digs h3' X0 (by omega)
  have NB := Nm.digs h4 Y0 (by omega)
  have lA := digs_lim (n := x.n * y.d) (k := 0) X0
  have lB := digs_lim (n := y.n * x.d) (k := 0) Y0
  have p0 : pw 0 = 1 := by simp [pw]
  have zA : 0 < x.n * y.d ↔ x.n ≠ 0 := by
    refine ⟨fun h h0 => by rw [h0] at h; simp at h, fun h => Int.mul_pos (by omega) dy0⟩
  have zB : 0 < y.n * x.d ↔ y.n ≠ 0 := by
    refine ⟨fun h h0 => by rw [h0] at h; simp at h, fun h => Int.mul_pos (by omega) dx0⟩
  have dA : decide ((0 : Int) < (digs (x.n * y.d)).length) = decide (x.n ≠ 0) := by rw [decide_eq_decide, ← zA]; omega
  have dB : decide ((0 : Int) < (digs (y.n * x.d)).length) = decide (y.n ≠ 0) := by rw [decide_eq_decide, ← zB]; omega
  have pA : (0 < (digs (x.n * y.d)).length) = ¬ x.n = 0 := by apply propext; rw [← ne_eq, ← zA]; omega
  have pB : (0 < (digs (y.n * x.d)).length) = ¬ y.n = 0 := by apply propext; rw [← ne_eq, ← zB]; omega
  have fin : ∀ (A B : Bool) (σ : Slots), σ 5 = r3 → σ 6 = r4 → σ 7 = .bool A → σ 8 = .bool B → WP Tryz.prog ir97_k3 σ m4 (retK [.tmp 4] fun r m' => Old m m' ∧ r = I (if A then (if B then cmpI (y.n * x.d) (x.n * y.d) else -1) else if B then 1 else cmpI (x.n * y.d) (y.n * x.d))) := by
    intro A B σ s5 s6 s7 s8
    cases A <;> cases B
    · simp (disch := first | omega | (simp only [zqp, zqq]; omega)) [ir97_k3, ir97_k1, ir97_k2, ir97_k4, s5, s6, s7, s8, zqa, zqb, zqc, zqd, zqe, zqf, zqg, zqh, zqi, zqj, zqk, u64b, u32b, zql, zqm, zqn, zqo, -zqu, -isSl, -zqs, -zqt, -zqv, -zqr]
      refine (rcmp_nm NA NB).mono fun r5 m5 hp5 => ?_
      simp (disch := first | omega | (simp only [zqp, zqq]; omega)) [zqa, zqb, zqc, zqd, zqe, zqf, zqg, zqh, zqi, zqj, zqk, u64b, u32b, zql, zqm, zqn, zqo, -zqu, -isSl, -zqs, -zqt, -zqv, -zqr]
      exact ⟨om4.trans hp5.1, hp5.2⟩
    · simp (disch := first | omega | (simp only [zqp, zqq]; omega)) [ir97_k3, ir97_k1, ir97_k2, ir97_k4, s5, s6, s7, s8, zqa, zqb, zqc, zqd, zqe, zqf, zqg, zqh, zqi, zqj, zqk, u64b, u32b, zql, zqm, zqn, zqo, -zqu, -isSl, -zqs, -zqt, -zqv, -zqr]
      exact om4
    · simp (disch := first | omega | (simp only [zqp, zqq]; omega)) [ir97_k3, ir97_k1, ir97_k2, ir97_k4, s5, s6, s7, s8, zqa, zqb, zqc, zqd, zqe, zqf, zqg, zqh, zqi, zqj, zqk, u64b, u32b, zql, zqm, zqn, zqo, -zqu, -isSl, -zqs, -zqt, -zqv, -zqr]
      exact om4
    · simp (disch := first | omega | (simp only [zqp, zqq]; omega)) [ir97_k3, ir97_k1, ir97_k2, ir97_k4, s5, s6, s7, s8, zqa, zqb, zqc, zqd, zqe, zqf, zqg, zqh, zqi, zqj, zqk, u64b, u32b, zql, zqm, zqn, zqo, -zqu, -isSl, -zqs, -zqt, -zqv, -zqr]
      refine (rcmp_nm NB NA).mono fun r5 m5 hp5 => ?_
      simp (disch := first | omega | (simp only [zqp, zqq]; omega)) [zqa, zqb, zqc, zqd, zqe, zqf, zqg, zqh, zqi, zqj, zqk, u64b, u32b, zql, zqm, zqn, zqo, -zqu, -isSl, -zqs, -zqt, -zqv, -zqr]
      exact ⟨om4.trans hp5.1, hp5.2⟩
  have main : ∀ σ : Slots, σ 5 = r3 → σ 6 = r4 → σ 2 = ptr m.next → σ 3 = ptr (m.next + 1) → WP Tryz.prog ir97_k2 σ m4 (retK [.tmp 4] fun r m' => Old m m' ∧ r = I (ordF x y)) := by
    intro σ s5 s6 s2 s3
    unfold ordF
    cases hnx : x.neg <;> cases hny : y.neg <;> rw [hnx] at g04 <;> rw [hny] at g14
    · simp (disch := first | omega | (simp only [zqp, zqq]; omega)) [ir97_k2, ir97_k1, ir97_k4, s2, s3, s5, s6, g04, g14, f1, f2, f1', f2', pA, pB, zqa, zqb, zqc, zqd, zqe, zqf, zqg, zqh, zqi, zqj, zqk, u64b, u32b, zql, zqm, zqn, zqo, -zqu, -isSl, -zqs, -zqt, -zqv, -zqr]
      simpa using fin false false _ (by simp [s5]) (by simp [s6]) (by simp) (by simp)
    · simp (disch := first | omega | (simp only [zqp, zqq]; omega)) [ir97_k2, ir97_k1, ir97_k4, s2, s3, s5, s6, g04, g14, f1, f2, f1', f2', pA, pB, zqa, zqb, zqc, zqd, zqe, zqf, zqg, zqh, zqi, zqj, zqk, u64b, u32b, zql, zqm, zqn, zqo, -zqu, -isSl, -zqs, -zqt, -zqv, -zqr]
      simpa using fin false (!decide (y.n = 0)) _ (by simp [s5]) (by simp [s6]) (by simp) (by simp)
    · simp (disch := first | omega | (simp only [zqp, zqq]; omega)) [ir97_k2, ir97_k1, ir97_k4, s2, s3, s5, s6, g04, g14, f1, f2, f1', f2', pA, pB, zqa, zqb, zqc, zqd, zqe, zqf, zqg, zqh, zqi, zqj, zqk, u64b, u32b, zql, zqm, zqn, zqo, -zqu, -isSl, -zqs, -zqt, -zqv, -zqr]
      simpa using fin (!decide (x.n = 0)) false _ (by simp [s5]) (by simp [s6]) (by simp) (by simp)
    · simp (disch := first | omega | (simp only [zqp, zqq]; omega)) [ir97_k2, ir97_k1, ir97_k4, s2, s3, s5, s6, g04, g14, f1, f2, f1', f2', pA, pB, zqa, zqb, zqc, zqd, zqe, zqf, zqg, zqh, zqi, zqj, zqk, u64b, u32b, zql, zqm, zqn, zqo, -zqu, -isSl, -zqs, -zqt, -zqv, -zqr]
      simpa using fin (!decide (x.n = 0)) (!decide (y.n = 0)) _ (by simp [s5]) (by simp [s6]) (by simp) (by simp)
  exact main _ (by simp) (by simp) (by simp) (by simp)
set_option maxHeartbeats 4000000 in
theorem rfits_wp (h : Cf m v x) (n0 : 0 ≤ x.n) (d0 : 0 ≤ x.d) : WPCall Tryz.prog 136 [v] m (FRes m (sizeE x)) := by
  rw [call136 (by simp)]
  obtain ⟨p, n, c, p', n', c', rfl⟩ := h.form
  obtain ⟨a', b', hv, ha, hb⟩ := h
  simp only [Value.agg.injEq, Array.mk.injEq, List.cons.injEq, and_true, true_and] at hv
  obtain ⟨rfl, rfl⟩ := hv
  obtain ⟨f1, f2, _, _⟩ := ha.len
  obtain ⟨g1, g2, _, _⟩ := hb.len
  have l1 := digs_lim (n := x.n) (k := 128) n0
  have l2 := digs_lim (n := x.d) (k := 128) d0
  simp (disch := first | omega | (simp only [zqp, zqq]; omega)) [ir136_b, ir136_k1, ir136_k2, zqa, zqb, zqc, zqd, zqe, zqf, zqg, zqh, zqi, zqj, zqk, u64b, u32b, zql, zqm, zqn, zqo, -zqu, -isSl, -zqs, -zqt, -zqv, -zqr]
  obtain ⟨mm, hmm⟩ : ∃ mm, mm = ((m.bump 3).put m.next (some ⟨[.bool x.neg, .slice p n c, .slice p' n' c'], true⟩)).put (m.next + 1) (some ⟨frz, true⟩) := ⟨_, rfl⟩
  rw [← hmm]
  have om : Old m mm := by rw [hmm]; exact (((Old.refl m).bump 3).put (by omega)).put (by omega)
  have hg0 : mm.get m.next = some ⟨[.bool x.neg, .slice p n c, .slice p' n' c'], true⟩ := by rw [hmm, zqm (by omega), zql (by simp)]
  have hg1 : mm.get (m.next + 1) = some ⟨frz, true⟩ := by rw [hmm, zql (by simp)]
  have hlt := get_lt hg1
  have hlarge : WPCall Tryz.prog 163 [.agg #[.bool x.neg, .slice p n c, .slice p' n' c']] mm fun r m' => Old mm m' ∧ r = .bool (!x.fits) := by
    rw [call163 (by simp)]
    have ho := fun k z => (((Old.refl mm).bump k).put (i := mm.next) (x := z) (by omega))
    simp only [zqu] at f1 g1
    by_cases k1 : (128 : Int) < (n : Int)
    · simp (disch := first | omega | (simp only [zqp, zqq]; omega)) [ir163_b, ir163_k1, k1, zqa, zqb, zqc, zqd, zqe, zqf, zqg, zqh, zqi, zqj, zqk, u64b, u32b, zql, zqm, zqn, zqo, -zqu, -isSl, -zqs, -zqt, -zqv, -zqr]
      refine ⟨ho _ _, ?_⟩
      simp [Fr.fits]; omega
    · simp (disch := first | omega | (simp only [zqp, zqq]; omega)) [ir163_b, ir163_k1, k1, zqa, zqb, zqc, zqd, zqe, zqf, zqg, zqh, zqi, zqj, zqk, u64b, u32b, zql, zqm, zqn, zqo, -zqu, -isSl, -zqs, -zqt, -zqv, -zqr]
      refine ⟨ho _ _, ?_⟩
      have : decide (x.n < pw 128) = true := by simp; omega
      simp only [Fr.fits, this, Bool.true_and]
      by_cases k2 : x.d < pw 128
      · simp [k2]; omega
      · simp [k2]; omega
  refine hlarge.mono fun r m1 hp => ?_
  obtain ⟨o1, rfl⟩ := hp
  have g0 := o1.some hg0
  have g1' := o1.some hg1
  have hlt1 := get_lt g1'
  by_cases k : x.fits = true
  · have e : sizeE x = (0, x) := by simp [sizeE, k]
    rw [e]
    simp (disch := first | omega | (simp only [zqp, zqq]; omega)) [k, g0, g1', zqa, zqb, zqc, zqd, zqe, zqf, zqg, zqh, zqi, zqj, zqk, u64b, u32b, zql, zqm, zqn, zqo, -zqu, -isSl, -zqs, -zqt, -zqv, -zqr]
    exact fres_put (p := (0, x)) (om.trans o1) (by omega) ⟨_, _, rfl, ha.sub' (Sub.cut_old (om.trans o1) (one_le (by omega))), hb.sub' (Sub.cut_old (om.trans o1) (one_le (by omega)))⟩
  · have e : sizeE x = (2, .zero) := by simp [sizeE, k]
    rw [e]
    simp (disch := first | omega | (simp only [zqp, zqq]; omega)) [k, g0, g1', zqa, zqb, zqc, zqd, zqe, zqf, zqg, zqh, zqi, zqj, zqk, u64b, u32b, zql, zqm, zqn, zqo, -zqu, -isSl, -zqs, -zqt, -zqv, -zqr]
    exact fres_put (p := (2, .zero)) (om.trans o1) (by omega) Cf.zero
theorem rfits_cut (hl : ∀ c ∈ l, c < m.next) (h : Cf (Mem.cut m l) v x) (n0 : 0 ≤ x.n) (d0 : 0 ≤ x.d) : WPCall Tryz.prog 136 [v] m fun r m' => Old m m' ∧ FResV (sizeE x) r (Mem.cut m' l) :=
  call_cut FResV.sub hl (rfits_wp h n0 d0)
set_option maxHeartbeats 8000000 in
theorem radd_wp' (hx : Vf m v x) (hy : Vf m w y) : WPCall Tryz.prog 98 [v, w] m (FRes m (addE x y)) := by
  rw [call98 (by simp)]
  obtain ⟨p, n, c, p', n', c', rfl, ha, hb⟩ := hx.form
  obtain ⟨u, k, e, u', k', e', rfl, ha', hb'⟩ := hy.form
  have x0 := hx.n0
  have y0 := hy.n0
  simp (disch := first | omega | (simp only [zqp, zqq]; omega)) [ir98_b, ir98_k1, ir98_k3, ir98_k4, ir98_k5, ir98_k6, ir98_k7, ir98_k8, zqa, zqb, zqc, zqd, zqe, zqf, zqg, zqh, zqi, zqj, zqk, u64b, u32b, zql, zqm, zqn, zqo, -zqu, -isSl, -zqs, -zqt, -zqv, -zqr]
  obtain ⟨cb, hcb⟩ : ∃ cb, cb = m.next + 2 := ⟨_, rfl⟩
  obtain ⟨mm, hmm⟩ : ∃ mm, mm = (((m.bump 4).put m.next (some ⟨[.bool x.neg, .slice p n c, .slice p' n' c'], true⟩)).put (m.next + 1) (some ⟨[.bool y.neg, .slice u k e, .slice u' k' e'], true⟩)).put (m.next + 2) (some ⟨frz, true⟩) := ⟨_, rfl⟩
  rw [← hmm, ← hcb]
  have om : Old m mm := by rw [hmm]; exact ((((Old.refl m).bump 4).put (by omega)).put (by omega)).put (by omega)
  have hg0 : mm.get m.next = some ⟨[.bool x.neg, .slice p n c, .slice p' n' c'], true⟩ := by rw [hmm, zqm (by omega), zqm (by omega), zql (by simp)]
  have hg1 : mm.get (m.next + 1) = some ⟨[.bool y.neg, .slice u k e, .slice u' k' e'], true⟩ := by rw [hmm, zqm (by omega), zql (by simp)]
  have hg2 : mm.get cb = some ⟨frz, true⟩ := by rw [hmm, hcb, zql (by simp)]
  refine (rvalid_wp (hx.mono om)).mono fun r m1 hp => ?_
  obtain ⟨o1, rfl⟩ := hp
  have g0 := o1.some hg0
  have g1 := o1.some hg1
  have g2 := o1.some hg2
  have hlt1 := get_lt g2
  have om1 := om.trans o1
  by_cases kx : x.ok = true
  · simp (disch := first | omega | (simp only [zqp, zqq]; omega)) [kx, g0, g1, zqa, zqb, zqc, zqd, zqe, zqf, zqg, zqh, zqi, zqj, zqk, u64b, u32b, zql, zqm, zqn, zqo, -zqu, -isSl, -zqs, -zqt, -zqv, -zqr]
    refine (rvalid_wp (hy.mono om1)).mono fun r m2 hp => ?_
    obtain ⟨o2, rfl⟩ := hp
    replace g0 := o2.some g0
    replace g1 := o2.some g1
    replace g2 := o2.some g2
    have hlt2 := get_lt g2
    have om2 := om1.trans o2
    by_cases ky : y.ok = true
    · simp (disch := first | omega | (simp only [zqp, zqq]; omega)) [ky, g0, g1, zqa, zqb, zqc, zqd, zqe, zqf, zqg, zqh, zqi, zqj, zqk, u64b, u32b, zql, zqm, zqn, zqo, -zqu, -isSl, -zqs, -zqt, -zqv, -zqr]
      obtain ⟨dx0, dx1, nx1⟩ := Fr.ok_iff.1 kx
      obtain ⟨dy0, dy1, ny1⟩ := Fr.ok_iff.1 ky
      have P1 := pw_128_512
      have P2 := pw_256_512
      have P3 := pw_pos 256
      have m1' := mul_pw x0 (by omega) nx1 dy1
      have m2' := mul_pw y0 (by omega) ny1 dx1
      have m3' := mul_pw (by omega) (by omega) dx1 dy1
      simp only [Nat.reduceAdd] at m1' m2' m3'
      have X0 : 0 ≤ x.n * y.d := Int.mul_nonneg x0 (by omega)
      have Y0 : 0 ≤ y.n * x.d := Int.mul_nonneg y0 (by omega)
      have D0 : 0 < x.d * y.d := Int.mul_pos dx0 dy0
      obtain ⟨A, hA⟩ : ∃ A, A = x.n * y.d := ⟨_, rfl⟩
      obtain ⟨B, hB⟩ : ∃ B, B = y.n * x.d := ⟨_, rfl⟩
      obtain ⟨D, hD⟩ : ∃ D, D = x.d * y.d := ⟨_, rfl⟩
      have main : ∀ (σ : Slots), σ 2 = ptr m.next → σ 3 = ptr (m.next + 1) → σ 4 = ptr cb → WP Tryz.prog ir98_k2 σ m2 (retK [.cell 4 true 3, .tmp 5] (FRes m (sizeE (lowF (addF x y))))) := by
        intro σ s2 s3 s4
        simp (disch := first | omega | (simp only [zqp, zqq]; omega)) [ir98_k2, ir98_k1, ir98_k4, ir98_k5, ir98_k6, ir98_k7, ir98_k8, s2, s3, s4, g0, g1, zqa, zqb, zqc, zqd, zqe, zqf, zqg, zqh, zqi, zqj, zqk, u64b, u32b, zql, zqm, zqn, zqo, -zqu, -isSl, -zqs, -zqt, -zqv, -zqr]
        have cm := fun {m' : Mem} (o : Old m m') => Sub.cut_old (l := [cb]) o (one_le (by omega))
        refine (rft_cut (one_lt hlt2) (ha.sub (cm om2)) (hb'.sub (cm om2)) (by omega) (by omega) (by omega)).mono fun r3 m3 hp3 => ?_
        obtain ⟨o3, h3⟩ := hp3
        have hl0 := get_lt g0
        have hl1 := get_lt g1
        refine callK_mk o3 (fun p hp b hb => by simp at hp; rcases hp with rfl | rfl | rfl | rfl <;> simp [blkOf] at hb <;> omega) ?_
        have om3 := om2.trans o3
        have g03 := o3.some g0
        have g13 := o3.some g1
        have g23 := o3.some g2
        simp (disch := first | omega | (simp only [zqp, zqq]; omega)) [s2, s3, s4, g03, g13, zqa, zqb, zqc, zqd, zqe, zqf, zqg, zqh, zqi, zqj, zqk, u64b, u32b, zql, zqm, zqn, zqo, -zqu, -isSl, -zqs, -zqt, -zqv, -zqr]
        refine (rft_cut (one_lt (get_lt g23)) (ha'.sub (cm om3)) (hb.sub (cm om3)) (by omega) (by omega) (by omega)).mono fun r4 m4 hp4 => ?_
        obtain ⟨o4, h4⟩ := hp4
        have hl03 := get_lt g03
        have hl13 := get_lt g13
        refine callK_mk o4 (fun p hp b hb => by simp at hp; rcases hp with rfl | rfl <;> simp [blkOf] at hb <;> omega) ?_
        have om4 := om3.trans o4
        have g04 := o4.some g03
        have g14 := o4.some g13
        have g24 := o4.some g23
        simp (disch := first | omega | (simp only [zqp, zqq]; omega)) [s2, s3, s4, g04, g14, zqa, zqb, zqc, zqd, zqe, zqf, zqg, zqh, zqi, zqj, zqk, u64b, u32b, zql, zqm, zqn, zqo, -zqu, -isSl, -zqs, -zqt, -zqv, -zqr]
        refine (rft_cut (one_lt (get_lt g24)) (hb.sub (cm om4)) (hb'.sub (cm om4)) (by omega) (by omega) (by omega)).mono fun r5 m5 hp5 => ?_
        obtain ⟨o5, h5⟩ := hp5
        have om5 := om4.trans o5
        have g05 := o5.some g04
        have g15 := o5.some g14
        have g25 := o5.some g24
        have hlt5 := get_lt g25
        rw [← hA] at h3 m1' X0
        rw [← hB] at h4 m2' Y0
        rw [← hD] at h5 m3' D0
        have NA : Nm (Mem.cut m5 [cb]) r3 A := Nm.digs ((h3.sub' (Sub.cut_mono o4)).sub' (Sub.cut_mono o5)) X0 (by omega)
        have NB : Nm (Mem.cut m5 [cb]) r4 B := Nm.digs (h4.sub' (Sub.cut_mono o5)) Y0 (by omega)
        have ND : Nm (Mem.cut m5 [cb]) r5 D := Nm.digs h5 (by omega) (by omega)
        simp (disch := first | omega | (simp only [zqp, zqq]; omega)) [s2, s3, s4, zqa, zqb, zqc, zqd, zqe, zqf, zqg, zqh, zqi, zqj, zqk, u64b, u32b, zql, zqm, zqn, zqo, -zqu, -isSl, -zqs, -zqt, -zqv, -zqr]
        -- the result
        have low : ∀ (ng : Bool) (S : Int) (rs : Value) (m6 : Mem), Old m5 m6 → Sl (Mem.cut m6 [cb]) rs (digs S) → 0 ≤ S → S < pw 512 →
            (WPCall Tryz.prog 107 [.bool ng, rs, r5] m6 fun r m' => Old m6 m' ∧ Cf (Mem.cut m' [cb]) r (lowF ⟨ng, S, D⟩)) ∧ 0 ≤ (lowF ⟨ng, S, D⟩).n ∧ 0 ≤ (lowF ⟨ng, S, D⟩).d := by
          intro ng S rs m6 o6 hs S0 S1
          exact ⟨rlowest_cut (one_lt (Nat.lt_of_lt_of_le hlt5 o6.next)) (Nm.digs hs S0 S1) (ND.sub (Sub.cut_mono o6)) S1 D0 (by omega), (lowF_n (x := ⟨ng, S, D⟩) S0 D0).1, Int.le_of_lt (lowF_d (x := ⟨ng, S, D⟩) D0).1⟩
        by_cases kn : x.neg = y.neg
        · have hE : addF x y = ⟨x.neg, A + B, D⟩ := by simp [addF, kn, hA, hB, hD]
          rw [hE]
          simp (disch := first | omega | (simp only [zqp, zqq]; omega)) [ir98_k3, ir98_k1, ir98_k2, ir98_k4, ir98_k5, ir98_k6, ir98_k7, ir98_k8, s2, s3, s4, g05, g15, kn, zqa, zqb, zqc, zqd, zqe, zqf, zqg, zqh, zqi, zqj, zqk, u64b, u32b, zql, zqm, zqn, zqo, -zqu, -isSl, -zqs, -zqt, -zqv, -zqr]
          refine (radd_cut (one_lt hlt5) NA NB (by omega)).mono fun r6 m6 hp6 => ?_
          obtain ⟨o6, rs, rfl, hs⟩ := hp6
          have g06 := o6.some g05
          have g26 := o6.some g25
          simp (disch := first | omega | (simp only [zqp, zqq]; omega)) [s2, s3, s4, g06, kn, zqa, zqb, zqc, zqd, zqe, zqf, zqg, zqh, zqi, zqj, zqk, u64b, u32b, zql, zqm, zqn, zqo, -zqu, -isSl, -zqs, -zqt, -zqv, -zqr]
          obtain ⟨lw, n0, d0⟩ := low y.neg (A + B) rs m6 o6 hs (by omega) (by omega)
          refine lw.mono fun r7 m7 hp7 => ?_
          obtain ⟨o7, hq⟩ := hp7
          have g27 := o7.some g26
          simp (disch := first | omega | (simp only [zqp, zqq]; omega)) [s2, s3, s4, zqa, zqb, zqc, zqd, zqe, zqf, zqg, zqh, zqi, zqj, zqk, u64b, u32b, zql, zqm, zqn, zqo, -zqu, -isSl, -zqs, -zqt, -zqv, -zqr]
          refine (rfits_cut (one_lt (get_lt g27)) hq n0 d0).mono fun r8 m8 hp8 => ?_
          obtain ⟨o8, q8, rfl, hq8⟩ := hp8
          obtain ⟨p1, n1, c1, p2, n2, c2, rfl⟩ := hq8.form
          have g28 := o8.some g27
          have hlt8 := get_lt g28
          simp (disch := first | omega | (simp only [zqp, zqq]; omega)) [s2, s3, s4, g28, zqa, zqb, zqc, zqd, zqe, zqf, zqg, zqh, zqi, zqj, zqk, u64b, u32b, zql, zqm, zqn, zqo, -zqu, -isSl, -zqs, -zqt, -zqv, -zqr]
          exact fres_put (((om5.trans o6).trans o7).trans o8) (by omega) hq8
        · have kn' : (x.neg == y.neg) = false := by simpa using kn
          by_cases kc : B ≤ A
          · have k1 : 0 ≤ cmpI A B := by unfold cmpI; rw [if_neg (by omega)]; split <;> omega
            have hE : addF x y = ⟨x.neg, A - B, D⟩ := by simp only [addF, kn, if_false, ← hA, ← hB, ← hD, kc, if_true]
            rw [hE]
            simp (disch := first | omega | (simp only [zqp, zqq]; omega)) [ir98_k3, ir98_k1, ir98_k2, ir98_k4, ir98_k5, ir98_k6, ir98_k7, ir98_k8, s2, s3, s4, g05, g15, kn, kn', zqa, zqb, zqc, zqd, zqe, zqf, zqg, zqh, zqi, zqj, zqk, u64b, u32b, zql, zqm, zqn, zqo, -zqu, -isSl, -zqs, -zqt, -zqv, -zqr]
            refine (rcmp_nm (NA.sub (Sub.cut _ _)) (NB.sub (Sub.cut _ _))).mono fun rc mc hpc => ?_
            obtain ⟨oc, rfl⟩ := hpc
            have g2c := oc.some g25
            have g0c := oc.some g05
            have g1c := oc.some g15
            have NA := NA.sub (Sub.cut_mono (l := [cb]) oc)
            have NB := NB.sub (Sub.cut_mono (l := [cb]) oc)
            have hltc := get_lt g2c
            simp (disch := first | omega | (simp only [zqp, zqq]; omega)) [k1, s2, s3, s4, zqa, zqb, zqc, zqd, zqe, zqf, zqg, zqh, zqi, zqj, zqk, u64b, u32b, zql, zqm, zqn, zqo, -zqu, -isSl, -zqs, -zqt, -zqv, -zqr]
            refine (rsub_cut (one_lt hltc) NA NB (by omega) kc).mono fun r6 m6 hp6 => ?_
            obtain ⟨o6, rs, rfl, hs⟩ := hp6
            have g06 := o6.some g0c
            have g26 := o6.some g2c
            simp (disch := first | omega | (simp only [zqp, zqq]; omega)) [s2, s3, s4, g06, zqa, zqb, zqc, zqd, zqe, zqf, zqg, zqh, zqi, zqj, zqk, u64b, u32b, zql, zqm, zqn, zqo, -zqu, -isSl, -zqs, -zqt, -zqv, -zqr]
            obtain ⟨lw, n0, d0⟩ := low x.neg (A - B) rs m6 (oc.trans o6) hs (by omega) (by omega)
            refine lw.mono fun r7 m7 hp7 => ?_
            obtain ⟨o7, hq⟩ := hp7
            have g27 := o7.some g26
            simp (disch := first | omega | (simp only [zqp, zqq]; omega)) [s2, s3, s4, zqa, zqb, zqc, zqd, zqe, zqf, zqg, zqh, zqi, zqj, zqk, u64b, u32b, zql, zqm, zqn, zqo, -zqu, -isSl, -zqs, -zqt, -zqv, -zqr]
            refine (rfits_cut (one_lt (get_lt g27)) hq n0 d0).mono fun r8 m8 hp8 => ?_
            obtain ⟨o8, q8, rfl, hq8⟩ := hp8
            obtain ⟨p1, n1, c1, p2, n2, c2, rfl⟩ := hq8.form
            have g28 := o8.some g27
            have hlt8 := get_lt g28
            simp (disch := first | omega | (simp only [zqp, zqq]; omega)) [s2, s3, s4, g28, zqa, zqb, zqc, zqd, zqe, zqf, zqg, zqh, zqi, zqj, zqk, u64b, u32b, zql, zqm, zqn, zqo, -zqu, -isSl, -zqs, -zqt, -zqv, -zqr]
            exact fres_put ((((om5.trans oc).trans o6).trans o7).trans o8) (by omega) hq8
          · have k1 : ¬ 0 ≤ cmpI A B := by rw [cmpI_lt (by omega)]; omega
            have hE : addF x y = ⟨y.neg, B - A, D⟩ := by simp only [addF, kn, if_false, ← hA, ← hB, ← hD, kc]
            rw [hE]
            simp (disch := first | omega | (simp only [zqp, zqq]; omega)) [ir98_k3, ir98_k1, ir98_k2, ir98_k4, ir98_k5, ir98_k6, ir98_k7, ir98_k8, s2, s3, s4, g05, g15, kn, kn', zqa, zqb, zqc, zqd, zqe, zqf, zqg, zqh, zqi, zqj, zqk, u64b, u32b, zql, zqm, zqn, zqo, -zqu, -isSl, -zqs, -zqt, -zqv, -zqr]
            refine (rcmp_nm (NA.sub (Sub.cut _ _)) (NB.sub (Sub.cut _ _))).mono fun rc mc hpc => ?_
            obtain ⟨oc, rfl⟩ := hpc
            have g2c := oc.some g25
            have g0c := oc.some g05
            have g1c := oc.some g15
            have NA := NA.sub (Sub.cut_mono (l := [cb]) oc)
            have NB := NB.sub (Sub.cut_mono (l := [cb]) oc)
            have hltc := get_lt g2c
            simp (disch := first | omega | (simp only [zqp, zqq]; omega)) [k1, s2, s3, s4, zqa, zqb, zqc, zqd, zqe, zqf, zqg, zqh, zqi, zqj, zqk, u64b, u32b, zql, zqm, zqn, zqo, -zqu, -isSl, -zqs, -zqt, -zqv, -zqr]
            refine (rsub_cut (one_lt hltc) NB NA (by omega) (by omega)).mono fun r6 m6 hp6 => ?_
            obtain ⟨o6, rs, rfl, hs⟩ := hp6
            have g16 := o6.some g1c
            have g26 := o6.some g2c
            simp (disch := first | omega | (simp only [zqp, zqq]; omega)) [s2, s3, s4, g16, zqa, zqb, zqc, zqd, zqe, zqf, zqg, zqh, zqi, zqj, zqk, u64b, u32b, zql, zqm, zqn, zqo, -zqu, -isSl, -zqs, -zqt, -zqv, -zqr]
            obtain ⟨lw, n0, d0⟩ := low y.neg (B - A) rs m6 (oc.trans o6) hs (by omega) (by omega)
            refine lw.mono fun r7 m7 hp7 => ?_
            obtain ⟨o7, hq⟩ := hp7
            have g27 := o7.some g26
            simp (disch := first | omega | (simp only [zqp, zqq]; omega)) [s2, s3, s4, zqa, zqb, zqc, zqd, zqe, zqf, zqg, zqh, zqi, zqj, zqk, u64b, u32b, zql, zqm, zqn, zqo, -zqu, -isSl, -zqs, -zqt, -zqv, -zqr]
            refine (rfits_cut (one_lt (get_lt g27)) hq n0 d0).mono fun r8 m8 hp8 => ?_
            obtain ⟨o8, q8, rfl, hq8⟩ := hp8
            obtain ⟨p1, n1, c1, p2, n2, c2, rfl⟩ := hq8.form
            have g28 := o8.some g27
            have hlt8 := get_lt g28
            simp (disch := first | omega | (simp only [zqp, zqq]; omega)) [s2, s3, s4, g28, zqa, zqb, zqc, zqd, zqe, zqf, zqg, zqh, zqi, zqj, zqk, u64b, u32b, zql, zqm, zqn, zqo, -zqu, -isSl, -zqs, -zqt, -zqv, -zqr]
            exact fres_put ((((om5.trans oc).trans o6).trans o7).trans o8) (by omega) hq8
      have e : addE x y = sizeE (lowF (addF x y)) := by simp [addE, kx, ky]
      rw [e]
      exact main _ (by simp) (by simp) (by simp)
    · have e : addE x y = (1, .zero) := by simp [addE, ky]
      rw [e]
      simp (disch := first | omega | (simp only [zqp, zqq]; omega)) [ky, g0, g1, g2, zqa, zqb, zqc, zqd, zqe, zqf, zqg, zqh, zqi, zqj, zqk, u64b, u32b, zql, zqm, zqn, zqo, -zqu, -isSl, -zqs, -zqt, -zqv, -zqr]
      exact fres_put om2 (by omega) Cf.zero
  · have e : addE x y = (1, .zero) := by simp [addE, kx]
    rw [e]
    simp (disch := first | omega | (simp only [zqp, zqq]; omega)) [kx, g0, g1, g2, zqa, zqb, zqc, zqd, zqe, zqf, zqg, zqh, zqi, zqj, zqk, u64b, u32b, zql, zqm, zqn, zqo, -zqu, -isSl, -zqs, -zqt, -zqv, -zqr]
    exact fres_put om1 (by omega) Cf.zero
end
end Go.Proofs.YtkpifdkccdndcaaGreat
namespace Go.Big
def intF (n : Int) : Fr := ⟨decide (n < 0), n.natAbs, 1⟩
theorem gcdI_one (n : Int) : gcdI n 1 = 1 := by simp [gcdI]
theorem lowF_int (n : Int) : lowF ⟨decide (n < 0), n.natAbs, 1⟩ = intF n := by
  simp only [lowF, gcdI_one, Int.ediv_one, intF]
  congr 1
  by_cases h : n < 0
  · simp [h]; omega
  · simp [h]
theorem nil_ok : Fr.nil.ok = true := by
  have := pw_one
  have := pw_pos 128
  exact Fr.ok_iff.2 ⟨by decide, pw_one, by show (0 : Int) < pw 128; omega⟩
theorem one_ok : Fr.one.ok = true := Fr.ok_iff.2 ⟨by decide, pw_one, pw_one⟩
end Go.Big
namespace Go.Proofs.YtkpifdkccdndcaaGreat
open Go Go.DI Go.Big
set_option linter.unusedSimpArgs false
set_option linter.unusedVariables false

section
variable {m : Mem} {l : List Nat} {v w : Value} {a b : Int} {x y : Fr}
theorem rsize_wp {n : Int} (h0 : -9223372036854775808 ≤ n) (h1 : n ≤ 9223372036854775807) (Φ : Value → Mem → Prop) : WPCall Tryz.prog 139 [I n] m Φ = Φ (L n.natAbs) m := by
  refine (Ret.of_wp ?_).wp
  rw [call139 (by simp)]
  by_cases k : n < 0
  · have w0 : IntKind.i64.wrap (n + 1) = n + 1 := i64_id (by omega) (by omega)
    have w1 : IntKind.i64.wrap (-(n + 1)) = -(n + 1) := i64_id (by omega) (by omega)
    have w1' : IntKind.i64.wrap (0 - (n + 1)) = -(n + 1) := by rw [i64_id (by omega) (by omega)]; omega
    have w2 : IntKind.u64.wrap (-(n + 1)) = -(n + 1) := u64_id (by omega) (by omega)
    have w3 : IntKind.u64.wrap (-(n + 1) + 1) = n.natAbs := by rw [u64_id (by omega) (by omega)]; omega
    simp (disch := first | omega | (simp only [zqp, zqq]; omega)) [ir139_b, ir139_k1, ir139_k2, k, w0, w1, w1', w2, w3, zqa, zqb, zqc, zqd, zqe, zqf, zqg, zqh, zqi, zqj, zqk, u64b, u32b, zql, zqm, zqn, zqo, -zqu, -isSl, -zqs, -zqt, -zqv, -zqr]
  · have w : IntKind.u64.wrap n = n.natAbs := by rw [u64_id (by omega) (by omega)]; omega
    simp (disch := first | omega | (simp only [zqp, zqq]; omega)) [ir139_b, ir139_k1, ir139_k2, k, w, zqa, zqb, zqc, zqd, zqe, zqf, zqg, zqh, zqi, zqj, zqk, u64b, u32b, zql, zqm, zqn, zqo, -zqu, -isSl, -zqs, -zqt, -zqv, -zqr]
theorem rmake_cut {n : Int} (hl : ∀ c ∈ l, c < m.next) (h0 : 0 ≤ n) (h1 : n < 18446744073709551616) : WPCall Tryz.prog 138 [L n] m fun r m' => Old m m' ∧ Sl (Mem.cut m' l) r (digs n) :=
  call_cut (fun _ _ _ hs h => h.sub' hs) hl (rmake_wp h0 h1)
theorem u64_512 {n : Int} (h : n < 18446744073709551616) : n < pw 512 := by
  have h1 : pw 2 = 18446744073709551616 := by simp [pw]
  have h2 := pw_mono (show 2 ≤ 512 by omega)
  omega
set_option maxHeartbeats 4000000 in
theorem rfmake_wp {n : Int} (h0 : -9223372036854775808 ≤ n) (h1 : n ≤ 9223372036854775807) : WPCall Tryz.prog 99 [I n, I 1] m (FRes m (0, intF n)) := by
  rw [call99 (by simp)]
  have hs := fun m' Φ => rsize_wp (m := m') (n := n) h0 h1 Φ
  have hs1 := fun m' Φ => rsize_wp (m := m') (n := 1) (by omega) (by omega) Φ
  simp only [Int.natAbs_one, Int.natCast_one, Int.cast_ofNat_Int] at hs1
  simp (disch := first | omega | (simp only [zqp, zqq]; omega)) [ir99_b, ir99_k1, ir99_k2, hs, hs1, zqa, zqb, zqc, zqd, zqe, zqf, zqg, zqh, zqi, zqj, zqk, u64b, u32b, zql, zqm, zqn, zqo, -zqu, -isSl, -zqs, -zqt, -zqv, -zqr]
  obtain ⟨mm, hmm⟩ : ∃ mm, mm = (m.bump 2).put m.next (some ⟨frz, true⟩) := ⟨_, rfl⟩
  rw [← hmm]
  have om : Old m mm := by rw [hmm]; exact ((Old.refl m).bump 2).put (by omega)
  have hg : mm.get m.next = some ⟨frz, true⟩ := by rw [hmm, zql (by simp)]
  refine (rmake_cut (l := [m.next]) (one_lt (get_lt hg)) (by omega) (by omega)).mono fun r1 m1 hp1 => ?_
  obtain ⟨o1, h1⟩ := hp1
  have g1 := o1.some hg
  simp (disch := first | omega | (simp only [zqp, zqq]; omega)) [hs1, zqa, zqb, zqc, zqd, zqe, zqf, zqg, zqh, zqi, zqj, zqk, u64b, u32b, zql, zqm, zqn, zqo, -zqu, -isSl, -zqs, -zqt, -zqv, -zqr]
  refine (rmake_cut (l := [m.next]) (n := 1) (one_lt (get_lt g1)) (by omega) (by omega)).mono fun r2 m2 hp2 => ?_
  obtain ⟨o2, h2⟩ := hp2
  have g2 := o2.some g1
  simp (disch := first | omega | (simp only [zqp, zqq]; omega)) [zqa, zqb, zqc, zqd, zqe, zqf, zqg, zqh, zqi, zqj, zqk, u64b, u32b, zql, zqm, zqn, zqo, -zqu, -isSl, -zqs, -zqt, -zqv, -zqr]
  have fin : ∀ ng : Bool, ng = decide (n < 0) → WPCall Tryz.prog 107 [.bool ng, r1, r2] m2 fun r m' => Old m2 m' ∧ Cf (Mem.cut m' [m.next]) r (intF n) := by
    intro ng hng
    subst hng
    have := rlowest_cut (neg := decide (n < 0)) (one_lt (get_lt g2)) (Nm.digs (h1.sub' (Sub.cut_mono o2)) (by omega) (u64_512 (by omega))) (Nm.digs h2 (by omega) one512) (u64_512 (by omega)) (by omega) one512
    rw [lowF_int] at this; exact this
  refine (fin _ (by by_cases k : n < 0 <;> simp [k])).mono fun r3 m3 hp3 => ?_
  obtain ⟨o3, hq⟩ := hp3
  have g3 := o3.some g2
  have hlt3 := get_lt g3
  obtain ⟨p1, n1, c1, p2, n2, c2, rfl⟩ := hq.form
  simp (disch := first | omega | (simp only [zqp, zqq]; omega)) [g3, zqa, zqb, zqc, zqd, zqe, zqf, zqg, zqh, zqi, zqj, zqk, u64b, u32b, zql, zqm, zqn, zqo, -zqu, -isSl, -zqs, -zqt, -zqv, -zqr]
  exact fres_put (p := (0, intF n)) (((om.trans o1).trans o2).trans o3) (by omega) hq
set_option maxHeartbeats 4000000 in
theorem rint_wp {n : Int} (h0 : -9223372036854775808 ≤ n) (h1 : n ≤ 9223372036854775807) : WPCall Tryz.prog 33 [I n] m (CRes m (intF n)) := by
  rw [call33 (by simp)]
  simp (disch := first | omega | (simp only [zqp, zqq]; omega)) [ir33_b, ir33_k1, ir33_k2, zqa, zqb, zqc, zqd, zqe, zqf, zqg, zqh, zqi, zqj, zqk, u64b, u32b, zql, zqm, zqn, zqo, -zqu, -isSl, -zqs, -zqt, -zqv, -zqr]
  obtain ⟨mm, hmm⟩ : ∃ mm, mm = ((m.bump 1).put m.next (some ⟨frz, true⟩)).bump 8 := ⟨_, rfl⟩
  rw [← hmm]
  have om : Old m mm := by rw [hmm]; exact (((Old.refl m).bump 1).put (by omega)).bump 8
  have hg : mm.get m.next = some ⟨frz, true⟩ := by rw [hmm, Mem.zqn, zql (by simp)]
  have hcall : WPCall Tryz.prog 99 [I n, I 1] mm fun r m' => Old mm m' ∧ FResV (0, intF n) r (Mem.cut m' [m.next]) := call_cut FResV.sub (one_lt (get_lt hg)) (rfmake_wp h0 h1)
  refine hcall.mono fun r1 m1 hp1 => ?_
  obtain ⟨o1, q, rfl, hq⟩ := hp1
  have g1 := o1.some hg
  have hlt1 := get_lt g1
  obtain ⟨p1, n1, c1, p2, n2, c2, rfl⟩ := hq.form
  have hn1 := o1.next
  have hnm : mm.next = m.next + 9 := by rw [hmm]; simp
  have k5 : m.next + 1 + 5 < m1.next := by omega
  have ne : m.next ≠ m.next + 1 + 5 := by omega
  simp (disch := first | omega | (simp only [zqp, zqq]; omega)) [g1, zqa, zqb, zqc, zqd, zqe, zqf, zqg, zqh, zqi, zqj, zqk, u64b, u32b, zql, zqm, zqn, zqo, -zqu, -isSl, -zqs, -zqt, -zqv, -zqr]
  have hfr : m1.get (m.next + 1 + 5) = none := o1.none (by omega) (by rw [hmm, Mem.zqn, get_none (by simp)])
  exact cres_put ((om.trans o1).put (by omega)) (Nat.le_refl _) (hq.sub (Sub.cut_new hfr))
theorem intF_zero : intF 0 = .nil := rfl
theorem intF_one : intF 1 = .one := rfl
theorem Cf.vf' {m : Mem} {v : Value} {x : Fr} (h : Cf m v x) (hk : x.ok = true) (h0 : 0 ≤ x.n) : Vf m v x := by
  obtain ⟨h1, h2, h3⟩ := fr512 hk
  exact h.vf h0 h3 (by omega) h2
set_option maxHeartbeats 4000000 in
theorem rsign_wp (hx : Vf m v x) (kx : x.ok = true) : WPCall Tryz.prog 30 [v] m fun r m' => Old m m' ∧ r = I (ordF x .nil) := by
  rw [call30 (by simp)]
  obtain ⟨p, n, c, p', n', c', rfl, _, _⟩ := hx.form
  simp (disch := first | omega | (simp only [zqp, zqq]; omega)) [ir30_b, ir30_k1, zqa, zqb, zqc, zqd, zqe, zqf, zqg, zqh, zqi, zqj, zqk, u64b, u32b, zql, zqm, zqn, zqo, -zqu, -isSl, -zqs, -zqt, -zqv, -zqr]
  obtain ⟨mm, hmm⟩ : ∃ mm, mm = (m.bump 2).put m.next (some ⟨[.bool x.neg, .slice p n c, .slice p' n' c'], true⟩) := ⟨_, rfl⟩
  rw [← hmm]
  have om : Old m mm := by rw [hmm]; exact ((Old.refl m).bump 2).put (by omega)
  have hg : mm.get m.next = some ⟨[.bool x.neg, .slice p n c, .slice p' n' c'], true⟩ := by rw [hmm, zql (by simp)]
  have hlt := get_lt hg
  refine (rint_wp (n := 0) (by omega) (by omega)).mono fun r1 m1 hp1 => ?_
  obtain ⟨o1, hq⟩ := hp1
  rw [intF_zero] at hq
  refine callK_mk o1 (fun p hp b hb => by simp at hp; rcases hp with rfl; simp [blkOf] at hb; omega) ?_
  simp (disch := first | omega | (simp only [zqp, zqq]; omega)) [zqa, zqb, zqc, zqd, zqe, zqf, zqg, zqh, zqi, zqj, zqk, u64b, u32b, zql, zqm, zqn, zqo, -zqu, -isSl, -zqs, -zqt, -zqv, -zqr]
  refine (rorder_wp ((hx.mono om).mono o1) (hq.vf' nil_ok (by decide)) kx nil_ok).mono fun r2 m2 hp2 => ?_
  obtain ⟨o2, rfl⟩ := hp2
  simp (disch := first | omega | (simp only [zqp, zqq]; omega)) [zqa, zqb, zqc, zqd, zqe, zqf, zqg, zqh, zqi, zqj, zqk, u64b, u32b, zql, zqm, zqn, zqo, -zqu, -isSl, -zqs, -zqt, -zqv, -zqr]
  exact (om.trans o1).trans o2
theorem rsame_wp (hx : Vf m v x) (hy : Vf m w y) (kx : x.ok = true) (ky : y.ok = true) : WPCall Tryz.prog 32 [v, w] m fun r m' => Old m m' ∧ r = .bool (decide (ordF x y = 0)) := by
  rw [call32 (by simp)]
  obtain ⟨p, n, c, p', n', c', rfl, _, _⟩ := hx.form
  obtain ⟨q, k, d, q', k', d', rfl, _, _⟩ := hy.form
  simp (disch := first | omega | (simp only [zqp, zqq]; omega)) [ir32_b, ir32_k1, zqa, zqb, zqc, zqd, zqe, zqf, zqg, zqh, zqi, zqj, zqk, u64b, u32b, zql, zqm, zqn, zqo, -zqu, -isSl, -zqs, -zqt, -zqv, -zqr]
  obtain ⟨mm, hmm⟩ : ∃ mm, mm = ((m.bump 3).put m.next (some ⟨[.bool x.neg, .slice p n c, .slice p' n' c'], true⟩)).put (m.next + 1) (some ⟨[.bool y.neg, .slice q k d, .slice q' k' d'], true⟩) := ⟨_, rfl⟩
  rw [← hmm]
  have om : Old m mm := by rw [hmm]; exact (((Old.refl m).bump 3).put (by omega)).put (by omega)
  refine (rorder_wp (hx.mono om) (hy.mono om) kx ky).mono fun r2 m2 hp2 => ?_
  obtain ⟨o2, rfl⟩ := hp2
  simp (disch := first | omega | (simp only [zqp, zqq]; omega)) [zqa, zqb, zqc, zqd, zqe, zqf, zqg, zqh, zqi, zqj, zqk, u64b, u32b, zql, zqm, zqn, zqo, -zqu, -isSl, -zqs, -zqt, -zqv, -zqr]
  exact om.trans o2
theorem rless_wp (hx : Vf m v x) (hy : Vf m w y) (kx : x.ok = true) (ky : y.ok = true) : WPCall Tryz.prog 110 [v, w] m fun r m' => Old m m' ∧ r = .bool (decide (ordF x y < 0)) := by
  rw [call110 (by simp)]
  obtain ⟨p, n, c, p', n', c', rfl, _, _⟩ := hx.form
  obtain ⟨q, k, d, q', k', d', rfl, _, _⟩ := hy.form
  simp (disch := first | omega | (simp only [zqp, zqq]; omega)) [ir110_b, ir110_k1, zqa, zqb, zqc, zqd, zqe, zqf, zqg, zqh, zqi, zqj, zqk, u64b, u32b, zql, zqm, zqn, zqo, -zqu, -isSl, -zqs, -zqt, -zqv, -zqr]
  obtain ⟨mm, hmm⟩ : ∃ mm, mm = ((m.bump 3).put m.next (some ⟨[.bool x.neg, .slice p n c, .slice p' n' c'], true⟩)).put (m.next + 1) (some ⟨[.bool y.neg, .slice q k d, .slice q' k' d'], true⟩) := ⟨_, rfl⟩
  rw [← hmm]
  have om : Old m mm := by rw [hmm]; exact (((Old.refl m).bump 3).put (by omega)).put (by omega)
  refine (rorder_wp (hx.mono om) (hy.mono om) kx ky).mono fun r2 m2 hp2 => ?_
  obtain ⟨o2, rfl⟩ := hp2
  simp (disch := first | omega | (simp only [zqp, zqq]; omega)) [zqa, zqb, zqc, zqd, zqe, zqf, zqg, zqh, zqi, zqj, zqk, u64b, u32b, zql, zqm, zqn, zqo, -zqu, -isSl, -zqs, -zqt, -zqv, -zqr]
  exact om.trans o2
theorem rfadd_cut {m : Mem} {l : List Nat} {v w : Value} {x y : Fr} (hl : ∀ c ∈ l, c < m.next) (hx : Vf (Mem.cut m l) v x) (hy : Vf (Mem.cut m l) w y) : WPCall Tryz.prog 98 [v, w] m fun r m' => Old m m' ∧ FResV (addE x y) r (Mem.cut m' l) :=
  call_cut FResV.sub hl (radd_wp' hx hy)
end
end Go.Proofs.YtkpifdkccdndcaaGreat
namespace Go.Proofs.YtkpifdkccdndcaaGreat
open Go Go.DI Go.Big
set_option linter.unusedSimpArgs false
set_option linter.unusedVariables false

set_option maxHeartbeats 8000000 in
theorem rfsum_loop {m : Mem} {v : Value} {l : List Fr} (hv : frRp.S m v l) (hlen : l.length < 1000000) {cb c4 : Nat} (hc : m.next ≤ cb) (hc4 : m.next ≤ c4) (hne : cb ≠ c4) : ∀ (l2 : List Fr) (i : Nat) (s : Fr) (mm : Mem) (σ : Slots) (a b : Value), l.drop i = l2 → i + l2.length = l.length → Old m mm →
    mm.get cb = some ⟨frz, true⟩ → mm.get c4 = some ⟨[.bool s.neg, a, b], true⟩ → Cf (Mem.cut mm [cb, c4]) (.agg #[.bool s.neg, a, b]) s → 0 ≤ s.n → s.n < pw 128 → 0 ≤ s.d → s.d < pw 128 →
    σ 2 = ptr cb → σ 4 = ptr c4 → σ 0 = v → σ 5 = I i →
    WP Tryz.prog (.loop ir31_l0) σ mm (blockK 0 (thenK Tryz.prog ir31_k5 (retK [.cell 2 true 3, .tmp 3] (FRes m (sumE s l2))))) := by
  intro l2
  induction l2 with
  | nil =>
    intro i s mm σ a b hd hi ho hg hg4 hs n0 n1 d0 d1 s2 s4 s0 s5
    refine wp_round fun J hJ => ?_
    have e : i = l.length := by simpa using hi
    subst e
    obtain ⟨p1, k1, c1, p2, k2, c2, hf⟩ := hs.form
    simp only [Value.agg.injEq, Array.mk.injEq, List.cons.injEq, and_true] at hf
    obtain ⟨_, rfl, rfl⟩ := hf
    have hl1 := get_lt hg
    have hl2 := get_lt hg4
    obtain ⟨h1, h2, _, _⟩ := (hv.mono (Sub.of_old ho)).len
    simp (disch := first | omega | (simp only [zqp, zqq]; omega)) [ir31_l0, ir31_k1, ir31_k2, ir31_k3, ir31_k4, ir31_k5, s2, s4, s0, s5, h1, h2, hg, hg4, zqa, zqb, zqc, zqd, zqe, zqf, zqg, zqh, zqi, zqj, zqk, u64b, u32b, zql, zqm, zqn, zqo, -zqu, -isSl, -zqs, -zqt, -zqv, -zqr]
    refine ⟨ho.put hc, _, rfl, hs.sub ?_⟩
    rw [← cut_put (m := mm) (b := cb) (l := [cb, c4]) (x := some ⟨[.bool s.neg, .slice p1 k1 c1, .slice p2 k2 c2], true⟩) (by simp)]
    exact Sub.cut _ _
  | cons x l2 ih =>
    intro i s mm σ a b hd hi ho hg hg4 hs n0 n1 d0 d1 s2 s4 s0 s5
    refine wp_round fun J hJ => ?_
    have hx : l[i]? = some x := by rw [← List.head?_drop, hd]; rfl
    have hd' : l.drop (i + 1) = l2 := by rw [← List.tail_drop, hd]; rfl
    simp only [List.length_cons] at hi
    have P1 := pw_128_512
    obtain ⟨p1, k1, c1, p2, k2, c2, hf⟩ := hs.form
    simp only [Value.agg.injEq, Array.mk.injEq, List.cons.injEq, and_true] at hf
    obtain ⟨_, rfl, rfl⟩ := hf
    have hl1 := get_lt hg
    have hl2 := get_lt hg4
    have hnx := ho.next
    have hv' := hv.mono (Sub.cut_old (l := [cb, c4]) ho (two_le hc hc4))
    obtain ⟨h1, h2, h3, h4⟩ := hv.len
    replace h3 : zqs 3 v = true := h3
    have q0 : (i : Int) < l.length := by omega
    obtain ⟨q, n, c, q', n', c', a1, a2, hxv⟩ := frRp.load hv' (Sub.cut mm [cb, c4]) hx
    have a1' := fun k => show addrOk (mm.bump k) (zqt v 3 (i : Int)) 3 = true by
      obtain ⟨_, _, _, _, _, _, a, _⟩ := frRp.load hv' ((Sub.cut mm [cb, c4]).trans (Sub.bump mm k)) hx; exact a
    have a2' := fun k => show loadV (mm.bump k) true 3 (zqt v 3 (i : Int)) = .agg #[.bool x.neg, .slice q n c, .slice q' n' c'] by
      obtain ⟨b, o, cs, w, e1, e2, e3, e4⟩ := (hv.mono (Sub.of_old ho)).at_ hx
      have e5 := (Sub.bump mm k).get _ _ e2
      rw [← a2, show frRp.z = 3 from rfl] at *
      rw [e1]; simp [e2, e5]
    have w0 : IntKind.i64.wrap ((i : Int) + 1) = (i : Int) + 1 := i64_id (by omega) (by omega)
    simp (disch := first | omega | (simp only [zqp, zqq]; omega)) [ir31_l0, ir31_k1, ir31_k2, ir31_k3, ir31_k4, ir31_k5, s2, s4, s0, s5, q0, h1, h2, h3, a1', a2', hg4, w0, zqa, zqb, zqc, zqd, zqe, zqf, zqg, zqh, zqi, zqj, zqk, u64b, u32b, zql, zqm, zqn, zqo, -zqu, -isSl, -zqs, -zqt, -zqv, -zqr]
    obtain ⟨M, hM⟩ : ∃ M, M = mm.bump 12 := ⟨_, rfl⟩
    rw [← hM]
    have oM : Old mm M := by rw [hM]; exact (Old.refl mm).bump 12
    have hMn : M.next = mm.next + 12 := by rw [hM]; simp
    have gM := oM.some hg
    have gM4 := oM.some hg4
    refine (rfadd_cut (two_lt (get_lt gM) (get_lt gM4)) ((hs.vf n0 (by omega) d0 (by omega)).sub (Sub.cut_mono oM)) (hxv.sub (Sub.cut_mono oM))).mono fun r m5 hp5 => ?_
    obtain ⟨o5, r', rfl, hr⟩ := hp5
    obtain ⟨p3, k3, c3, p5, k5, c5, rfl⟩ := hr.form
    have g5 := o5.some gM
    have g54 := o5.some gM4
    have hlt5 := get_lt g5
    have hlt54 := get_lt g54
    have hfr : m5.get (mm.next + 9) = none := o5.none (by omega) (by rw [hM, Mem.zqn, get_none (by simp)])
    have hn5 := o5.next
    have hf7 : mm.next + 9 < m5.next := by omega
    have x0 := hxv.n0
    by_cases k : (addE s x).1 = 0
    · obtain ⟨e0, e1, e2, e3⟩ := addE_bd n0 x0 k
      have hE : sumE s (x :: l2) = sumE (addE s x).2 l2 := by rw [sumE, if_pos k]
      rw [hE] at hJ ⊢
      have ne1 : c4 ≠ mm.next + 9 := by omega
      have ne2 : cb ≠ mm.next + 9 := by omega
      simp (disch := first | omega | (simp only [zqp, zqq]; omega)) [s2, s4, s0, s5, k, g5, g54, w0, zqa, zqb, zqc, zqd, zqe, zqf, zqg, zqh, zqi, zqj, zqk, u64b, u32b, zql, zqm, zqn, zqo, -zqu, -isSl, -zqs, -zqt, -zqv, -zqr]
      obtain ⟨blk, hblk⟩ : ∃ blk : Option Blk, blk = some ⟨[.bool (addE s x).2.neg, .slice p3 k3 c3, .slice p5 k5 c5], true⟩ := ⟨_, rfl⟩
      rw [← hblk]
      refine hJ _ _ (ih (i + 1) (addE s x).2 ((m5.put (mm.next + 9) blk).put c4 blk) _ (.slice p3 k3 c3) (.slice p5 k5 c5) hd' (by omega) ((((ho.trans oM).trans o5).put (i := mm.next + 9) (by omega)).put hc4) (by rw [zqm hne, zqm ne2, g5]) (by rw [zql (by simpa using hlt54), hblk]) ?_ e0 e1 e2 e3 (by simp [s2]) (by simp [s4]) (by simp [s0]) (by simp))
      rw [cut_put (by simp)]
      exact hr.sub (Sub.cut_new hfr)
    · have hE : sumE s (x :: l2) = ((addE s x).1, .zero) := by rw [sumE, if_neg k]
      rw [hE]
      have ne2 : cb ≠ mm.next + 9 := by omega
      simp (disch := first | omega | (simp only [zqp, zqq]; omega)) [s2, s4, s0, s5, k, g5, g54, w0, zqa, zqb, zqc, zqd, zqe, zqf, zqg, zqh, zqi, zqj, zqk, u64b, u32b, zql, zqm, zqn, zqo, -zqu, -isSl, -zqs, -zqt, -zqv, -zqr]
      exact ⟨((((ho.trans oM).trans o5).put (i := mm.next + 9) (by omega)).put hc), _, rfl, Cf.zero⟩
set_option maxHeartbeats 8000000 in
theorem rfsum_wp {m : Mem} {v : Value} {l : List Fr} (hv : frRp.S m v l) (hlen : l.length < 1000000) : WPCall Tryz.prog 31 [v] m (FRes m (sumE .nil l)) := by
  rw [call31 (by simp)]
  simp (disch := first | omega | (simp only [zqp, zqq]; omega)) [ir31_b, ir31_k1, ir31_k2, ir31_k3, ir31_k4, zqa, zqb, zqc, zqd, zqe, zqf, zqg, zqh, zqi, zqj, zqk, u64b, u32b, zql, zqm, zqn, zqo, -zqu, -isSl, -zqs, -zqt, -zqv, -zqr]
  obtain ⟨mm, hmm⟩ : ∃ mm, mm = ((m.bump 2).put m.next (some ⟨frz, true⟩)).bump 3 := ⟨_, rfl⟩
  rw [← hmm]
  have om : Old m mm := by rw [hmm]; exact (((Old.refl m).bump 2).put (by omega)).bump 3
  have hg : mm.get m.next = some ⟨frz, true⟩ := by rw [hmm, Mem.zqn, zql (by simp)]
  have hn : mm.next = m.next + 5 := by rw [hmm]; simp
  have hfr0 : mm.get (m.next + 2 + 1) = none := by rw [hmm, Mem.zqn, get_none (by simp)]
  have hm1 : WPCall Tryz.prog 33 [I 0] mm fun r m' => Old mm m' ∧ Cf (Mem.cut m' [m.next]) r .nil := call_cut CRes.sub (one_lt (get_lt hg)) (by have := rint_wp (m := Mem.cut mm [m.next]) (n := 0) (by omega) (by omega); rw [intF_zero] at this; exact this)
  refine hm1.mono fun r m1 hp => ?_
  obtain ⟨o1, h1⟩ := hp
  have g1 := o1.some hg
  have hlt1 := get_lt g1
  have hn1 := o1.next
  have hfr : m1.get (m.next + 2 + 1) = none := o1.none (by omega) hfr0
  have hf4 : m.next + 2 + 1 < m1.next := by omega
  obtain ⟨l1, l2, l3, l4⟩ := hv.len
  obtain ⟨p, n, c, p', n', c', rfl⟩ := h1.form
  simp (disch := first | omega | (simp only [zqp, zqq]; omega)) [g1, l1, l2, zqa, zqb, zqc, zqd, zqe, zqf, zqg, zqh, zqi, zqj, zqk, u64b, u32b, zql, zqm, zqn, zqo, -zqu, -isSl, -zqs, -zqt, -zqv, -zqr]
  refine rfsum_loop hv hlen (cb := m.next) (c4 := m.next + 2 + 1) (by omega) (by omega) (by omega) l 0 Fr.nil (m1.put (m.next + 2 + 1) (some ⟨[.bool Fr.nil.neg, .slice p n c, .slice p' n' c'], true⟩)) _ (.slice p n c) (.slice p' n' c') rfl (by simp) ((om.trans o1).put (i := m.next + 2 + 1) (by omega)) (by rw [zqm (by omega), g1]) (by rw [zql hf4]) ?_ (by decide) (pw_pos _) (by decide) pw_one (by simp) (by simp) (by simp) (by simp)
  rw [cut_put (by simp)]
  refine h1.sub ⟨Nat.le_refl _, fun b y hb => ?_⟩
  have hb1 : b ∉ [m.next] := fun hbi => by rw [cut_in hbi] at hb; cases hb
  rw [cut_out hb1] at hb
  rw [cut_out, hb]
  intro hbi
  simp at hbi hb1
  rcases hbi with h | h
  · exact hb1 h
  · rw [h, hfr] at hb; cases hb
end Go.Proofs.YtkpifdkccdndcaaGreat
