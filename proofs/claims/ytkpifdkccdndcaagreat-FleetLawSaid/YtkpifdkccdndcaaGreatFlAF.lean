/-
  The fleet's fractions: 'inLimits', 'above', 'atMostOne', 'all', of the program; 'small', 'smalls' of the reference.
  'ends' of the program: which phases end.
  'ends' of the program.
  'ValidLaw' of the program.
  'ValidLaw' of the program.
-/
import Derived.Test.YtkpifdkccdndcaaGreatIrC
import Derived.Test.YtkpifdkccdndcaaGreatIrR
import Derived.Test.YtkpifdkccdndcaaGreatFrFJ
import Derived.Test.YtkpifdkccdndcaaGreatFlB
namespace Go.Proofs.YtkpifdkccdndcaaGreat
open Go Go.DI Go.Big
set_option linter.unusedSimpArgs false
set_option linter.unusedVariables false

theorem in_wp {m : Mem} {a b c : Int} (Φ : Value → Mem → Prop) : WPCall Tryz.prog 21 [I a, I b, I c] m Φ = Φ (.bool (decide (b ≤ a) && decide (a ≤ c))) m := by
  refine (Ret.of_wp ?_).wp
  rw [call21 (by simp)]
  by_cases k : b ≤ a <;> simp (disch := first | omega | (simp only [zqp, zqq]; omega)) [ir21_b, ir21_k1, k, zqa, zqb, zqc, zqd, zqe, zqf, zqg, zqh, zqi, zqj, zqk, u64b, u32b, zql, zqm, zqn, zqo, -zqu, -isSl, -zqs, -zqt, -zqv, -zqr]
theorem within_wp {m : Mem} {a b c : Int} (Φ : Value → Mem → Prop) : WPCall Tryz.prog 47 [I a, I b, I c] m Φ = Φ (.bool (decide (b ≤ a) && decide (a ≤ c))) m := by
  refine (Ret.of_wp ?_).wp
  rw [call47 (by simp)]
  by_cases k : b ≤ a <;> simp (disch := first | omega | (simp only [zqp, zqq]; omega)) [ir47_b, ir47_k1, k, zqa, zqb, zqc, zqd, zqe, zqf, zqg, zqh, zqi, zqj, zqk, u64b, u32b, zql, zqm, zqn, zqo, -zqu, -isSl, -zqs, -zqt, -zqv, -zqr]
theorem get_none_bump' {mm : Mem} (k j : Nat) : (mm.bump k).get (mm.next + j) = none := by rw [Mem.zqn, get_none (by omega)]
section
variable {m : Mem} {l : List Nat} {v w : Value} {a b : Int} {x y : Fr}
theorem above_wp (h : Vf m v x) : WPCall Tryz.prog 24 [v] m fun r m' => Old m m' ∧ r = .bool (decide (0 < x.n)) := by
  rw [call24 (by simp)]
  obtain ⟨p, n, c, p', n', c', rfl, ha, hb⟩ := h.form
  have hbx0 := fun k x => bits_nm (ha.mono (((Old.refl m).bump k).put (i := m.next) (x := x) (by omega)))
  have e : decide (0 < nbits x.n) = decide (0 < x.n) := by rw [decide_eq_decide]; have := nbits_0 (n := x.n); omega
  simp (disch := first | omega | (simp only [zqp, zqq]; omega)) [ir24_b, ir24_k1, hbx0, zqa, zqb, zqc, zqd, zqe, zqf, zqg, zqh, zqi, zqj, zqk, u64b, u32b, zql, zqm, zqn, zqo, -zqu, -isSl, -zqs, -zqt, -zqv, -zqr]
  refine ⟨((Old.refl m).bump _).put (by omega), ?_⟩
  simpa using e
set_option maxHeartbeats 4000000 in
theorem inlim_wp (h : Vf m v x) : WPCall Tryz.prog 23 [v] m fun r m' => Old m m' ∧ r = .bool x.small := by
  rw [call23 (by simp)]
  have h0 := h.n0
  obtain ⟨p, n, c, p', n', c', rfl, ha, hb⟩ := h.form
  simp (disch := first | omega | (simp only [zqp, zqq]; omega)) [ir23_b, ir23_k1, zqa, zqb, zqc, zqd, zqe, zqf, zqg, zqh, zqi, zqj, zqk, u64b, u32b, zql, zqm, zqn, zqo, -zqu, -isSl, -zqs, -zqt, -zqv, -zqr]
  obtain ⟨mm, hmm⟩ : ∃ mm, mm = ((m.bump 2).put m.next (some ⟨[.bool x.neg, .slice p n c, .slice p' n' c'], true⟩)).bump 8 := ⟨_, rfl⟩
  rw [← hmm]
  have om : Old m mm := by rw [hmm]; exact (((Old.refl m).bump 2).put (by omega)).bump 8
  have hn : mm.next = m.next + 10 := by rw [hmm]; simp
  refine (reduce_wp (h.mono om)).mono fun r m1 hp => ?_
  obtain ⟨o1, q, rfl, hq⟩ := hp
  have hn1 := o1.next
  have hlt : m.next + 2 + 5 < m1.next := by omega
  obtain ⟨p1, n1, c1, p2, n2, c2, rfl⟩ := hq.form
  have om1 := om.trans o1
  have hfr : m1.get (m.next + 2 + 5) = none := o1.none (by omega) (by rw [hmm, Mem.zqn, get_none (by simp)])
  by_cases k : x.ok = true
  · rw [reduceE_ok k h0] at hq ⊢
    obtain ⟨d0, d1, d2⟩ := fr512 k
    have b1 := lowF_n h0 d0
    have b2 := lowF_d (x := x) d0
    have hv := hq.vf b1.1 (show (lowF x).n < pw 512 by omega) (Int.le_of_lt b2.1) (show (lowF x).d < pw 512 by omega)
    obtain ⟨a', b', he, hA, hB⟩ := hv
    simp only [Value.agg.injEq, Array.mk.injEq, List.cons.injEq, and_true, true_and] at he
    obtain ⟨rfl, rfl⟩ := he
    have cA := fun y Φ => bits_nm (hA.sub (Sub.put (x := y) hfr)) Φ
    have cB := fun y Φ => bits_nm (hB.sub (Sub.put (x := y) hfr)) Φ
    have e1 := nbits_32 (n := (lowF x).n)
    have e2 := nbits_32 (n := (lowF x).d)
    have ho := fun y => om1.put (i := m.next + 2 + 5) (x := y) (by omega)
    cases hng : (lowF x).neg with
    | true =>
      simp (disch := first | omega | (simp only [zqp, zqq]; omega)) [hng, ir23_k2, ir23_k1, zqa, zqb, zqc, zqd, zqe, zqf, zqg, zqh, zqi, zqj, zqk, u64b, u32b, zql, zqm, zqn, zqo, -zqu, -isSl, -zqs, -zqt, -zqv, -zqr]
      exact ⟨ho _, by simp [Fr.small, k, hng]⟩
    | false =>
      by_cases k1 : nbits (lowF x).n ≤ 32
      · simp (disch := first | omega | (simp only [zqp, zqq]; omega)) [hng, ir23_k2, ir23_k1, cA, cB, k1, zqa, zqb, zqc, zqd, zqe, zqf, zqg, zqh, zqi, zqj, zqk, u64b, u32b, zql, zqm, zqn, zqo, -zqu, -isSl, -zqs, -zqt, -zqv, -zqr]
        refine ⟨ho _, ?_⟩
        have q1 : decide ((lowF x).n < 4294967296) = true := by simp; omega
        have q2 : decide (nbits (lowF x).d ≤ 32) = decide ((lowF x).d < 4294967296) := decide_eq_decide.2 e2
        simp only [Fr.small, k, hng, q1, q2, Bool.not_false, Bool.true_and]
      · simp (disch := first | omega | (simp only [zqp, zqq]; omega)) [hng, ir23_k2, ir23_k1, cA, cB, k1, zqa, zqb, zqc, zqd, zqe, zqf, zqg, zqh, zqi, zqj, zqk, u64b, u32b, zql, zqm, zqn, zqo, -zqu, -isSl, -zqs, -zqt, -zqv, -zqr]
        refine ⟨ho _, ?_⟩
        have q1 : decide ((lowF x).n < 4294967296) = false := by simp; omega
        simp only [Fr.small, k, hng, q1, Bool.not_false, Bool.true_and, Bool.false_and]
  · rw [reduceE_bad k] at hq ⊢
    simp (disch := first | omega | (simp only [zqp, zqq]; omega)) [ir23_k2, ir23_k1, zqa, zqb, zqc, zqd, zqe, zqf, zqg, zqh, zqi, zqj, zqk, u64b, u32b, zql, zqm, zqn, zqo, -zqu, -isSl, -zqs, -zqt, -zqv, -zqr]
    refine ⟨om1.put (by omega), ?_⟩
    simp [Fr.small, k]
set_option maxHeartbeats 4000000 in
theorem all_loop {F : Nat} {p : Fr → Bool} {ls : List Fr} (hv : frRp.S m v ls) (hlen : ls.length < 1000000) (hF : ∀ m' e x, x ∈ ls → Vf m' e x → WPCall Tryz.prog F [e] m' fun r m'' => Old m' m'' ∧ r = .bool (p x)) : ∀ (l2 : List Fr) (i : Nat) (mm : Mem) (σ : Slots), ls.drop i = l2 → i + l2.length = ls.length → Old m mm →
    σ 1 = .func (.func F) #[] #[] → σ 7 = v → σ 8 = I ls.length → σ 9 = I i →
    WP Tryz.prog (.loop ir22_l0) σ mm (blockK 0 (thenK Tryz.prog ir22_k5 (retK [.tmp 4] fun r m' => Old m m' ∧ r = .bool (l2.all p)))) := by
  intro l2
  induction l2 with
  | nil =>
    intro i mm σ hd hi ho s1 s7 s8 s9
    refine wp_round fun J hJ => ?_
    have e : i = ls.length := by simpa using hi
    subst e
    simp (disch := first | omega | (simp only [zqp, zqq]; omega)) [ir22_l0, ir22_k1, ir22_k2, ir22_k3, ir22_k4, ir22_k5, s1, s7, s8, s9, zqa, zqb, zqc, zqd, zqe, zqf, zqg, zqh, zqi, zqj, zqk, u64b, u32b, zql, zqm, zqn, zqo, -zqu, -isSl, -zqs, -zqt, -zqv, -zqr]
    exact ho
  | cons x l2 ih =>
    intro i mm σ hd hi ho s1 s7 s8 s9
    refine wp_round fun J hJ => ?_
    have hx : ls[i]? = some x := by rw [← List.head?_drop, hd]; rfl
    have hd' : ls.drop (i + 1) = l2 := by rw [← List.tail_drop, hd]; rfl
    simp only [List.length_cons] at hi
    obtain ⟨h1, h2, h3, h4⟩ := hv.len
    replace h3 : zqs 3 v = true := h3
    have q0 : (i : Int) < ls.length := by omega
    have hb := fun k => hv.mono ((Sub.of_old ho).trans (Sub.bump mm k))
    obtain ⟨q, n, c, q', n', c', a1, a2, hxv⟩ := frRp.load (hb 4) (Sub.refl _) hx
    have w0 : IntKind.i64.wrap ((i : Int) + 1) = (i : Int) + 1 := i64_id (by omega) (by omega)
    have o2 : Old m ((mm.bump 4).put (mm.next + 2) (some ⟨[.bool x.neg, .slice q n c, .slice q' n' c'], true⟩)) := (ho.bump 4).put (by have := ho.next; omega)
    have hcall := hF ((mm.bump 4).put (mm.next + 2) (some ⟨[.bool x.neg, .slice q n c, .slice q' n' c'], true⟩)) _ x (List.mem_of_getElem? hx) ((hxv.sub (Sub.put (get_none_bump' 4 2))))
    cases k : p x with
    | true =>
      have hE : (x :: l2).all p = l2.all p := by simp [k]
      rw [hE] at hJ ⊢
      simp (disch := first | omega | (simp only [zqp, zqq]; omega)) [ir22_l0, ir22_k1, ir22_k2, ir22_k3, ir22_k4, ir22_k5, s1, s7, s8, s9, q0, h1, h2, h3, a1, a2, zqa, zqb, zqc, zqd, zqe, zqf, zqg, zqh, zqi, zqj, zqk, u64b, u32b, zql, zqm, zqn, zqo, -zqu, -isSl, -zqs, -zqt, -zqv, -zqr]
      refine hcall.mono fun r m1 hp => ?_
      obtain ⟨o1, rfl⟩ := hp
      simp (disch := first | omega | (simp only [zqp, zqq]; omega)) [k, s9, w0, zqa, zqb, zqc, zqd, zqe, zqf, zqg, zqh, zqi, zqj, zqk, u64b, u32b, zql, zqm, zqn, zqo, -zqu, -isSl, -zqs, -zqt, -zqv, -zqr]
      exact hJ _ _ (ih (i + 1) _ _ hd' (by omega) (o2.trans o1) (by simp [s1]) (by simp [s7]) (by simp [s8]) (by simp))
    | false =>
      have hE : (x :: l2).all p = false := by simp [k]
      rw [hE]
      simp (disch := first | omega | (simp only [zqp, zqq]; omega)) [ir22_l0, ir22_k1, ir22_k2, ir22_k3, ir22_k4, ir22_k5, s1, s7, s8, s9, q0, h1, h2, h3, a1, a2, zqa, zqb, zqc, zqd, zqe, zqf, zqg, zqh, zqi, zqj, zqk, u64b, u32b, zql, zqm, zqn, zqo, -zqu, -isSl, -zqs, -zqt, -zqv, -zqr]
      refine hcall.mono fun r m1 hp => ?_
      obtain ⟨o1, rfl⟩ := hp
      simp (disch := first | omega | (simp only [zqp, zqq]; omega)) [k, zqa, zqb, zqc, zqd, zqe, zqf, zqg, zqh, zqi, zqj, zqk, u64b, u32b, zql, zqm, zqn, zqo, -zqu, -isSl, -zqs, -zqt, -zqv, -zqr]
      exact o2.trans o1
theorem all_wp {F : Nat} {p : Fr → Bool} {ls : List Fr} (hv : frRp.S m v ls) (hlen : ls.length < 1000000) (hF : ∀ m' e x, x ∈ ls → Vf m' e x → WPCall Tryz.prog F [e] m' fun r m'' => Old m' m'' ∧ r = .bool (p x)) :
    WPCall Tryz.prog 22 [v, .func (.func F) #[] #[]] m fun r m' => Old m m' ∧ r = .bool (ls.all p) := by
  rw [call22 (by simp)]
  obtain ⟨h1, h2, h3, h4⟩ := hv.len
  simp (disch := first | omega | (simp only [zqp, zqq]; omega)) [ir22_b, ir22_k1, ir22_k2, ir22_k3, ir22_k4, h1, h2, zqa, zqb, zqc, zqd, zqe, zqf, zqg, zqh, zqi, zqj, zqk, u64b, u32b, zql, zqm, zqn, zqo, -zqu, -isSl, -zqs, -zqt, -zqv, -zqr]
  exact all_loop hv hlen hF ls 0 m _ rfl (by simp) (Old.refl m) (by simp) (by simp) (by simp [h1]) (by simp)
theorem rsmall_wp (h : Vf m v x) : WPCall Tryz.prog 53 [v] m fun r m' => Old m m' ∧ r = .bool x.small := by
  rw [call53 (by simp)]
  have h0 := h.n0
  obtain ⟨p, n, c, p', n', c', rfl, ha, hb⟩ := h.form
  simp (disch := first | omega | (simp only [zqp, zqq]; omega)) [ir53_b, ir53_k1, zqa, zqb, zqc, zqd, zqe, zqf, zqg, zqh, zqi, zqj, zqk, u64b, u32b, zql, zqm, zqn, zqo, -zqu, -isSl, -zqs, -zqt, -zqv, -zqr]
  obtain ⟨mm, hmm⟩ : ∃ mm, mm = ((m.bump 2).put m.next (some ⟨[.bool x.neg, .slice p n c, .slice p' n' c'], true⟩)).bump 8 := ⟨_, rfl⟩
  rw [← hmm]
  have om : Old m mm := by rw [hmm]; exact (((Old.refl m).bump 2).put (by omega)).bump 8
  have hn : mm.next = m.next + 10 := by rw [hmm]; simp
  refine (rreduce_wp (h.mono om)).mono fun r m1 hp => ?_
  obtain ⟨o1, q, rfl, hq⟩ := hp
  have hn1 := o1.next
  have hlt : m.next + 2 + 5 < m1.next := by omega
  obtain ⟨p1, n1, c1, p2, n2, c2, rfl⟩ := hq.form
  have om1 := om.trans o1
  have hfr : m1.get (m.next + 2 + 5) = none := o1.none (by omega) (by rw [hmm, Mem.zqn, get_none (by simp)])
  by_cases k : x.ok = true
  · rw [reduceE_ok k h0] at hq ⊢
    obtain ⟨d0, d1, d2⟩ := fr512 k
    have b1 := lowF_n h0 d0
    have b2 := lowF_d (x := x) d0
    obtain ⟨a', b', he, hA, hB⟩ := hq
    simp only [Value.agg.injEq, Array.mk.injEq, List.cons.injEq, and_true, true_and] at he
    obtain ⟨rfl, rfl⟩ := he
    have e1 := digs_lim (n := (lowF x).n) (k := 1) b1.1
    have e2 := digs_lim (n := (lowF x).d) (k := 1) (Int.le_of_lt b2.1)
    have p1 : pw 1 = 4294967296 := by simp [pw]
    rw [p1] at e1 e2
    obtain ⟨f1, _⟩ := hA.len
    obtain ⟨f2, _⟩ := hB.len
    simp only [zqu] at f1 f2
    have ho := fun y => om1.put (i := m.next + 2 + 5) (x := y) (by omega)
    cases hng : (lowF x).neg with
    | true =>
      simp (disch := first | omega | (simp only [zqp, zqq]; omega)) [hng, ir53_k2, ir53_k1, zqa, zqb, zqc, zqd, zqe, zqf, zqg, zqh, zqi, zqj, zqk, u64b, u32b, zql, zqm, zqn, zqo, -zqu, -isSl, -zqs, -zqt, -zqv, -zqr]
      exact ⟨ho _, by simp [Fr.small, k, hng]⟩
    | false =>
      by_cases k1 : (n1 : Int) ≤ 1
      · simp (disch := first | omega | (simp only [zqp, zqq]; omega)) [hng, ir53_k2, ir53_k1, k1, zqa, zqb, zqc, zqd, zqe, zqf, zqg, zqh, zqi, zqj, zqk, u64b, u32b, zql, zqm, zqn, zqo, -zqu, -isSl, -zqs, -zqt, -zqv, -zqr]
        refine ⟨ho _, ?_⟩
        have q1 : decide ((lowF x).n < 4294967296) = true := by simp; omega
        have q2 : decide ((lowF x).d < 4294967296) = decide ((n2 : Int) ≤ 1) := decide_eq_decide.2 (by rw [← e2]; show (digs (lowF x).d).length ≤ 1 ↔ (n2 : Int) ≤ 1; rw [f2]; omega)
        simp only [Fr.small, k, hng, q1, q2, Bool.not_false, Bool.true_and]
      · simp (disch := first | omega | (simp only [zqp, zqq]; omega)) [hng, ir53_k2, ir53_k1, k1, zqa, zqb, zqc, zqd, zqe, zqf, zqg, zqh, zqi, zqj, zqk, u64b, u32b, zql, zqm, zqn, zqo, -zqu, -isSl, -zqs, -zqt, -zqv, -zqr]
        refine ⟨ho _, ?_⟩
        have q1 : decide ((lowF x).n < 4294967296) = false := by
          simp only [decide_eq_false_iff_not]
          rw [← e1]
          intro h9
          have h8 : (n1 : Int) = (digs (lowF x).n).length := f1
          omega
        simp only [Fr.small, k, hng, q1, Bool.not_false, Bool.true_and, Bool.false_and]
  · rw [reduceE_bad k] at hq ⊢
    simp (disch := first | omega | (simp only [zqp, zqq]; omega)) [ir53_k2, ir53_k1, zqa, zqb, zqc, zqd, zqe, zqf, zqg, zqh, zqi, zqj, zqk, u64b, u32b, zql, zqm, zqn, zqo, -zqu, -isSl, -zqs, -zqt, -zqv, -zqr]
    refine ⟨om1.put (by omega), ?_⟩
    simp [Fr.small, k]
end
end Go.Proofs.YtkpifdkccdndcaaGreat
namespace Go.Proofs.YtkpifdkccdndcaaGreat
open Go Go.DI Go.Big
set_option linter.unusedSimpArgs false
set_option linter.unusedVariables false

abbrev Bo (b : Bool) : Value := .bool b
theorem Rp.S.form {α : Type} {r : Rp α} {m : Mem} {v : Value} {l : List α} (h : r.S m v l) : ∃ p n c, v = .slice p n c := by
  rcases h with ⟨rfl, _⟩ | ⟨b, o, cs, w, rfl, _⟩ <;> exact ⟨_, _, _, rfl⟩
/-- a row of one cell is loaded -/
theorem Rp.S.load1 {α : Type} {r : Rp (List α)} {q : Rp α} (hr : r = q.list) {p m : Mem} {v : Value} {l : List (List α)} (h : r.S p v l) (hs : Sub p m) {i : Nat} {x : List α} (hx : l[i]? = some x) :
    ∃ w, addrOk m (zqt v 1 (i : Int)) 1 = true ∧ loadV m false 1 (zqt v 1 (i : Int)) = w ∧ q.S p w x := by
  subst hr
  obtain ⟨b, o, cs, w, h1, h2, h3, h4⟩ := h.at_ hx
  have h5 := hs.get _ _ h2
  obtain ⟨u, hu, hu2⟩ := h4
  replace h1 : zqt v 1 (i : Int) = .pointer (some ⟨b, o, none⟩) := h1
  replace h3 : o + 1 ≤ cs.length := h3
  replace hu : (cs.drop o).take 1 = [u] := hu
  refine ⟨u, ?_, ?_, hu2⟩
  · rw [h1]; simp [h5]; omega
  · rw [h1]; simp [h5, hu]
theorem map_setB {R : List Bool} {i : Nat} {b : Bool} : (R.map Bo).set i (Bo b) = (R.set i b).map Bo := by rw [List.map_set]
theorem gb_above {row : List Fr} {k : Nat} {x : Fr} (h : row[k]? = some x) : gb (aboves row) k = decide (0 < x.n) := gb_some (by simp [aboves, h])

set_option maxHeartbeats 8000000 in
theorem ends_inner {m : Mem} {vr : Value} {row : List Fr} {n i rb cb : Nat} {C : Blk} (hne : cb ≠ rb) (hr : frRp.S m vr row) (hn : row.length = n) (hnb : n < 1000000) (hi : i < n) (hrb : m.next ≤ rb) {p1 p4 p19 p20 : Value} {Q : IExit → Slots → Mem → Prop} : ∀ (r k : Nat) (R : List Bool) (mm : Mem) (σ : Slots), k + r = n → R.length = n → Old m mm → mm.get rb = some ⟨R.map Bo, true⟩ → mm.get cb = some C →
    σ 1 = p1 → σ 3 = .slice (some ⟨rb, 0, none⟩) n 1 → σ 4 = p4 → σ 5 = I i → σ 19 = p19 → σ 20 = p20 → σ 42 = vr → σ 43 = I n → σ 44 = I k →
    (∀ σ' m', Old m m' → m'.get rb = some ⟨(innerB (aboves row) i (List.range' k r) R).map Bo, true⟩ → m'.get cb = some C → σ' 1 = p1 → σ' 3 = .slice (some ⟨rb, 0, none⟩) n 1 → σ' 4 = p4 → σ' 5 = I i → σ' 19 = p19 → σ' 20 = p20 → Q (.exit 4) σ' m') →
    WP Tryz.prog (.loop ir28_l0) σ mm Q := by
  intro r
  induction r with
  | zero =>
    intro k R mm σ hk hR ho hg hgc s1 s3 s4 s5 s19 s20 s42 s43 s44 hQ
    refine wp_round fun J hJ => ?_
    have e : k = n := by omega
    subst e
    simp (disch := first | omega | (simp only [zqp, zqq]; omega)) [ir28_l0, ir28_k1, ir28_k2, ir28_k3, ir28_k4, ir28_k5, ir28_k6, ir28_k7, ir28_k8, ir28_k9, ir28_k10, s1, s3, s4, s5, s42, s43, s44, zqa, zqb, zqc, zqd, zqe, zqf, zqg, zqh, zqi, zqj, zqk, u64b, u32b, zql, zqm, zqn, zqo, -zqu, -isSl, -zqs, -zqt, -zqv, -zqr]
    exact hQ _ _ ho (by simpa [innerB] using hg) hgc (by simp [s1]) (by simp [s3]) (by simp [s4]) (by simp [s5]) (by simp [s19]) (by simp [s20])
  | succ r ih =>
    intro k R mm σ hk hR ho hg hgc s1 s3 s4 s5 s19 s20 s42 s43 s44 hQ
    refine wp_round fun J hJ => ?_
    have hx : row[k]? = some (row[k]'(by omega)) := List.getElem?_eq_getElem (by omega)
    obtain ⟨x, hxe⟩ : ∃ x, row[k]? = some x := ⟨_, hx⟩
    obtain ⟨h1, h2, h3, h4⟩ := hr.len
    replace h3 : zqs 3 vr = true := h3
    rw [hn] at h1
    have hlt := get_lt hg
    have hltc := get_lt hgc
    have q0 : (k : Int) < n := by omega
    have q1 : (i : Int) < n := by omega
    have hb := fun j => hr.mono ((Sub.of_old ho).trans (Sub.bump mm j))
    obtain ⟨q, a, c, q', a', c', a1, a2, hxv⟩ := frRp.load (hb 6) (Sub.refl _) hxe
    have w0 : IntKind.i64.wrap ((k : Int) + 1) = (k : Int) + 1 := i64_id (by omega) (by omega)
    have zi := gb_get (l := R) (i := i) (by omega)
    have zk := gb_get (l := R) (i := k) (by omega)
    obtain ⟨li, ei⟩ := List.getElem?_eq_some_iff.1 zi
    obtain ⟨lk, ek⟩ := List.getElem?_eq_some_iff.1 zk
    have y1 : i + 1 ≤ n := by omega
    have y2 : k + 1 ≤ n := by omega
    have hr' : List.range' k (r + 1) = k :: List.range' (k + 1) r := rfl
    have hnx := ho.next
    cases hRi : gb R i with
    | true =>
      have hE : innerB (aboves row) i (List.range' k (r + 1)) R = innerB (aboves row) i (List.range' (k + 1) r) (R.set i true) := by rw [hr', innerB, hRi]; rfl
      rw [hE] at hQ
      rw [hRi] at zi ei
      simp (disch := first | omega | (simp only [zqp, zqq]; omega)) [ir28_l0, ir28_k1, ir28_k2, ir28_k3, ir28_k4, ir28_k5, ir28_k6, ir28_k7, ir28_k8, ir28_k9, ir28_k10, s1, s3, s4, s5, s42, s43, s44, q0, q1, h1, h2, h3, a1, a2, hg, hR, zi, ei, y1, w0, head_td, zqa, zqb, zqc, zqd, zqe, zqf, zqg, zqh, zqi, zqj, zqk, u64b, u32b, zql, zqm, zqn, zqo, -zqu, -isSl, -zqs, -zqt, -zqv, -zqr]
      refine hJ _ _ (ih (k + 1) (R.set i true) _ _ (by omega) (by simp [hR]) (((ho.bump _).put (by omega)).put hrb) (by rw [zql (by simp; omega)]; exact congrArg (fun c => some (Blk.mk c true)) map_setB) (by rw [zqm hne, zqm (by omega), zqn hltc, hgc]) (by simp [s1]) (by simp [s3]) (by simp [s4]) (by simp [s5]) (by simp [s19]) (by simp [s20]) (by simp [s42]) (by simp [s43]) (by simp) hQ)
    | false =>
      have hE : innerB (aboves row) i (List.range' k (r + 1)) R = innerB (aboves row) i (List.range' (k + 1) r) (R.set i (decide (0 < x.n) && gb R k)) := by rw [hr', innerB, hRi, gb_above hxe]; rfl
      rw [hE] at hQ
      rw [hRi] at zi ei
      simp (disch := first | omega | (simp only [zqp, zqq]; omega)) [ir28_l0, ir28_k1, ir28_k2, ir28_k3, ir28_k4, ir28_k5, ir28_k6, ir28_k7, ir28_k8, ir28_k9, ir28_k10, s1, s3, s4, s5, s42, s43, s44, q0, q1, h1, h2, h3, a1, a2, hg, hR, zi, ei, y1, head_td, zqa, zqb, zqc, zqd, zqe, zqf, zqg, zqh, zqi, zqj, zqk, u64b, u32b, zql, zqm, zqn, zqo, -zqu, -isSl, -zqs, -zqt, -zqv, -zqr]
      obtain ⟨M, hM⟩ : ∃ M, M = (mm.bump 6).put (mm.next + 3) (some ⟨[.bool x.neg, .slice q a c, .slice q' a' c'], true⟩) := ⟨_, rfl⟩
      rw [← hM]
      have oM : Old mm M := by rw [hM]; exact ((Old.refl mm).bump 6).put (by omega)
      refine (above_wp (hxv.sub (by rw [hM]; exact Sub.put (get_none_bump' 6 3)))).mono fun r1 m1 hp1 => ?_
      obtain ⟨o1, rfl⟩ := hp1
      have g1 := o1.some (oM.some hg)
      have hlt1 := get_lt g1
      have om1 := (ho.trans oM).trans o1
      cases hxn : decide (0 < x.n) with
      | true =>
        rw [hxn] at hQ
        simp (disch := first | omega | (simp only [zqp, zqq]; omega)) [s1, s3, s4, s5, s42, s43, s44, q0, q1, g1, hR, zi, ei, zk, ek, y1, y2, w0, head_td, zqa, zqb, zqc, zqd, zqe, zqf, zqg, zqh, zqi, zqj, zqk, u64b, u32b, zql, zqm, zqn, zqo, -zqu, -isSl, -zqs, -zqt, -zqv, -zqr]
        refine hJ _ _ (ih (k + 1) (R.set i (gb R k)) _ _ (by omega) (by simp [hR]) (om1.put hrb) (by rw [zql hlt1]; exact congrArg (fun c => some (Blk.mk c true)) map_setB) (by rw [zqm hne]; exact o1.some (oM.some hgc)) (by simp [s1]) (by simp [s3]) (by simp [s4]) (by simp [s5]) (by simp [s19]) (by simp [s20]) (by simp [s42]) (by simp [s43]) (by simp) (by simpa using hQ))
      | false =>
        rw [hxn] at hQ
        simp (disch := first | omega | (simp only [zqp, zqq]; omega)) [s1, s3, s4, s5, s42, s43, s44, q0, q1, g1, hR, zi, ei, y1, w0, head_td, zqa, zqb, zqc, zqd, zqe, zqf, zqg, zqh, zqi, zqj, zqk, u64b, u32b, zql, zqm, zqn, zqo, -zqu, -isSl, -zqs, -zqt, -zqv, -zqr]
        refine hJ _ _ (ih (k + 1) (R.set i false) _ _ (by omega) (by simp [hR]) (om1.put hrb) (by rw [zql hlt1]; exact congrArg (fun c => some (Blk.mk c true)) map_setB) (by rw [zqm hne]; exact o1.some (oM.some hgc)) (by simp [s1]) (by simp [s3]) (by simp [s4]) (by simp [s5]) (by simp [s19]) (by simp [s20]) (by simp [s42]) (by simp [s43]) (by simp) (by simpa using hQ))

/-- a law in memory -/
def LawV (m : Mem) (v : Value) (s : List Fr) (rs : List (List Fr)) (e : List Fr) : Prop := ∃ nm vs vr ve, v = .agg #[.string nm, vs, vr, ve] ∧ frRp.S m vs s ∧ frRp.list.S m vr rs ∧ frRp.S m ve e
set_option maxHeartbeats 8000000 in
theorem ends_rows {m : Mem} {nm : ByteArray} {vs vr ve : Value} {rs : List (List Fr)} {e : List Fr} {n rb cb : Nat} (hr : frRp.list.S m vr rs) (he : frRp.S m ve e) (hrn : rs.length = n) (hen : e.length = n) (hrow : ∀ (i : Nat) (row : List Fr), rs[i]? = some row → row.length = n) (hnb : n < 1000000) (hrb : m.next ≤ rb) (hcb : m.next ≤ cb) (hne : cb ≠ rb) {p4 : Value} {Q : IExit → Slots → Mem → Prop} : ∀ (r i : Nat) (R : List Bool) (mm : Mem) (σ : Slots), i + r = n → R.length = n → Old m mm → mm.get rb = some ⟨R.map Bo, true⟩ → mm.get cb = some ⟨[.string nm, vs, vr, ve], true⟩ →
    σ 1 = ptr cb → σ 3 = .slice (some ⟨rb, 0, none⟩) n 1 → σ 4 = p4 → σ 19 = I n → σ 20 = I i →
    (∀ σ' m', Old m m' → m'.get rb = some ⟨(roundB (aboves e) (rs.map aboves) n (List.range' i r) R).map Bo, true⟩ → m'.get cb = some ⟨[.string nm, vs, vr, ve], true⟩ → σ' 1 = ptr cb → σ' 3 = .slice (some ⟨rb, 0, none⟩) n 1 → σ' 4 = p4 → Q (.exit 2) σ' m') →
    WP Tryz.prog (.loop ir28_l1) σ mm Q := by
  intro r
  induction r with
  | zero =>
    intro i R mm σ hk hR ho hg hgc s1 s3 s4 s19 s20 hQ
    refine wp_round fun J hJ => ?_
    have e : i = n := by omega
    subst e
    simp (disch := first | omega | (simp only [zqp, zqq]; omega)) [ir28_l1, ir28_k1, ir28_k2, ir28_k3, ir28_k4, ir28_k5, ir28_k6, ir28_k7, ir28_k8, ir28_k9, ir28_k10, s1, s3, s4, s19, s20, zqa, zqb, zqc, zqd, zqe, zqf, zqg, zqh, zqi, zqj, zqk, u64b, u32b, zql, zqm, zqn, zqo, -zqu, -isSl, -zqs, -zqt, -zqv, -zqr]
    exact hQ _ _ ho (by simpa [roundB] using hg) hgc (by simp [s1]) (by simp [s3]) (by simp [s4])
  | succ r ih =>
    intro i R mm σ hk hR ho hg hgc s1 s3 s4 s19 s20 hQ
    refine wp_round fun J hJ => ?_
    obtain ⟨row, hxe⟩ : ∃ row, rs[i]? = some row := ⟨_, List.getElem?_eq_getElem (by omega)⟩
    obtain ⟨y, hye⟩ : ∃ y, e[i]? = some y := ⟨_, List.getElem?_eq_getElem (by omega)⟩
    have hrl := hrow i row hxe
    obtain ⟨h1, h2, h3, h4⟩ := hr.len
    replace h3 : zqs 1 vr = true := h3
    rw [hrn] at h1
    obtain ⟨g1, g2, g3, g4⟩ := he.len
    replace g3 : zqs 3 ve = true := g3
    rw [hen] at g1
    have hlt := get_lt hg
    have q0 : (i : Int) < n := by omega
    obtain ⟨q, a, c, q', a', c', a1, a2, hyv⟩ := frRp.load (he.mono (Sub.of_old ho)) (Sub.refl _) hye
    have w0 : IntKind.i64.wrap ((i : Int) + 1) = (i : Int) + 1 := i64_id (by omega) (by omega)
    have zi := gb_get (l := R) (i := i) (by omega)
    obtain ⟨li, ei⟩ := List.getElem?_eq_some_iff.1 zi
    have y1 : i + 1 ≤ n := by omega
    have hr' : List.range' i (r + 1) = i :: List.range' (i + 1) r := rfl
    have hgE : gb (aboves e) i = decide (0 < y.n) := gb_above hye
    have hgR : (rs.map aboves).getD i [] = aboves row := by rw [List.getD_eq_getElem?_getD, List.getElem?_map, hxe]; rfl
    have hE : roundB (aboves e) (rs.map aboves) n (List.range' i (r + 1)) R = roundB (aboves e) (rs.map aboves) n (List.range' (i + 1) r) (innerB (aboves row) i (List.range' 0 n) (R.set i (gb R i || decide (0 < y.n)))) := by
      rw [hr', roundB, hgE, hgR, List.range_eq_range']
    rw [hE] at hQ
    -- the rest of the round, behind the first store
    have rest : ∀ (b : Bool) (m2 : Mem) (σ2 : Slots), b = (gb R i || decide (0 < y.n)) → Old m m2 → m2.get rb = some ⟨(R.set i b).map Bo, true⟩ → m2.get cb = some ⟨[.string nm, vs, vr, ve], true⟩ → σ2 1 = ptr cb → σ2 3 = .slice (some ⟨rb, 0, none⟩) n 1 → σ2 4 = p4 → σ2 5 = I i → σ2 19 = I n → σ2 20 = I i →
        WP Tryz.prog ir28_k7 σ2 m2 (blockK 3 (thenK Tryz.prog (.region [⟨0, some 67, none, .bin .add .other (.tmp 20) (.const (.int .i64 1)), []⟩, ⟨1, some 20, none, .mov (.tmp 67), []⟩]) (loopJ J Q))) := by
      intro b m2 σ2 hb o2 g2' gc2 t1 t3 t4 t5 t19 t20
      obtain ⟨w, b1, b2, hrw⟩ := Rp.S.load1 rfl hr (Sub.of_old o2) hxe
      obtain ⟨f1, f2, f3, f4⟩ := hrw.len
      rw [hrl] at f1
      simp (disch := first | omega | (simp only [zqp, zqq]; omega)) [ir28_k7, ir28_k1, ir28_k2, ir28_k3, ir28_k4, ir28_k5, ir28_k6, ir28_k8, ir28_k9, ir28_k10, t1, t3, t4, t5, t19, t20, gc2, h1, h2, h3, q0, b1, b2, f1, f2, zqa, zqb, zqc, zqd, zqe, zqf, zqg, zqh, zqi, zqj, zqk, u64b, u32b, zql, zqm, zqn, zqo, -zqu, -isSl, -zqs, -zqt, -zqv, -zqr]
      refine ends_inner (n := n) (i := i) hne hrw hrl hnb (by omega) hrb (p1 := ptr cb) (p4 := p4) (p19 := I n) (p20 := I i) n 0 (R.set i b) m2 _ (by omega) (by simp [hR]) o2 g2' gc2 (by simp [t1]) (by simp [t3]) (by simp [t4]) (by simp [t5]) (by simp [t19]) (by simp [t20]) (by simp) (by simp) (by simp) fun σ3 m3 o3 g3' gc3 u1 u3 u4 u5 u19 u20 => ?_
      rw [hb] at g3'
      simp (disch := first | omega | (simp only [zqp, zqq]; omega)) [u1, u3, u4, u5, u19, u20, w0, zqa, zqb, zqc, zqd, zqe, zqf, zqg, zqh, zqi, zqj, zqk, u64b, u32b, zql, zqm, zqn, zqo, -zqu, -isSl, -zqs, -zqt, -zqv, -zqr]
      exact hJ _ _ (ih (i + 1) _ m3 _ (by omega) (by rw [inner_len]; simp [hR]) o3 g3' gc3 (by simp [u1]) (by simp [u3]) (by simp [u4]) (by simp [u19]) (by simp) hQ)
    cases hRi : gb R i with
    | true =>
      rw [hRi] at zi ei rest
      simp (disch := first | omega | (simp only [zqp, zqq]; omega)) [ir28_l1, ir28_k1, ir28_k2, ir28_k3, ir28_k4, ir28_k5, ir28_k6, ir28_k8, ir28_k9, ir28_k10, s1, s3, s4, s19, s20, q0, hg, hR, zi, ei, y1, head_td, zqa, zqb, zqc, zqd, zqe, zqf, zqg, zqh, zqi, zqj, zqk, u64b, u32b, zql, zqm, zqn, zqo, -zqu, -isSl, -zqs, -zqt, -zqv, -zqr]
      exact rest true _ _ (by simp) (ho.put hrb) (by rw [zql hlt]; exact congrArg (fun c => some (Blk.mk c true)) map_setB) (by rw [zqm hne, hgc]) (by simp [s1]) (by simp [s3]) (by simp [s4]) (by simp) (by simp [s19]) (by simp [s20])
    | false =>
      rw [hRi] at zi ei rest
      simp (disch := first | omega | (simp only [zqp, zqq]; omega)) [ir28_l1, ir28_k1, ir28_k2, ir28_k3, ir28_k4, ir28_k5, ir28_k6, ir28_k8, ir28_k9, ir28_k10, s1, s3, s4, s19, s20, q0, hg, hgc, hR, zi, ei, y1, g1, g2, g3, a1, a2, head_td, zqa, zqb, zqc, zqd, zqe, zqf, zqg, zqh, zqi, zqj, zqk, u64b, u32b, zql, zqm, zqn, zqo, -zqu, -isSl, -zqs, -zqt, -zqv, -zqr]
      refine (above_wp hyv).mono fun r1 m1 hp1 => ?_
      obtain ⟨o1, rfl⟩ := hp1
      have hg1' := o1.some hg
      have hlt1 := get_lt hg1'
      simp (disch := first | omega | (simp only [zqp, zqq]; omega)) [s3, hg1', hR, y1, q0, zqa, zqb, zqc, zqd, zqe, zqf, zqg, zqh, zqi, zqj, zqk, u64b, u32b, zql, zqm, zqn, zqo, -zqu, -isSl, -zqs, -zqt, -zqv, -zqr]
      exact rest (decide (0 < y.n)) _ _ (by simp) ((ho.trans o1).put hrb) (by rw [zql hlt1]; exact congrArg (fun c => some (Blk.mk c true)) map_setB) (by rw [zqm hne]; exact o1.some hgc) (by simp [s1]) (by simp [s3]) (by simp [s4]) (by simp) (by simp [s19]) (by simp [s20])
end Go.Proofs.YtkpifdkccdndcaaGreat
namespace Go.Proofs.YtkpifdkccdndcaaGreat
open Go Go.DI Go.Big
set_option linter.unusedSimpArgs false
set_option linter.unusedVariables false

set_option maxHeartbeats 8000000 in
theorem ends_rounds {m : Mem} {nm : ByteArray} {vs vr ve : Value} {rs : List (List Fr)} {e : List Fr} {n rb cb : Nat} (hr : frRp.list.S m vr rs) (he : frRp.S m ve e) (hrn : rs.length = n) (hen : e.length = n) (hrow : ∀ (i : Nat) (row : List Fr), rs[i]? = some row → row.length = n) (hnb : n < 1000000) (hrb : m.next ≤ rb) (hcb : m.next ≤ cb) (hne : cb ≠ rb) {Q : IExit → Slots → Mem → Prop} : ∀ (r k : Nat) (mm : Mem) (σ : Slots), k + r = n + 1 → Old m mm → mm.get rb = some ⟨(iterB (aboves e) (rs.map aboves) n k).map Bo, true⟩ → mm.get cb = some ⟨[.string nm, vs, vr, ve], true⟩ →
    σ 1 = ptr cb → σ 3 = .slice (some ⟨rb, 0, none⟩) n 1 → σ 4 = I k →
    (∀ σ' m', Old m m' → m'.get rb = some ⟨(iterB (aboves e) (rs.map aboves) n (n + 1)).map Bo, true⟩ → σ' 3 = .slice (some ⟨rb, 0, none⟩) n 1 → Q (.exit 0) σ' m') →
    WP Tryz.prog (.loop ir28_l2) σ mm Q := by
  intro r
  induction r with
  | zero =>
    intro k mm σ hk ho hg hgc s1 s3 s4 hQ
    refine wp_round fun J hJ => ?_
    have e : k = n + 1 := by omega
    subst e
    have c : ¬ ((n : Int) + 1 ≤ n) := by omega
    simp (disch := first | omega | (simp only [zqp, zqq]; omega)) [ir28_l2, ir28_k1, ir28_k2, ir28_k3, ir28_k4, ir28_k5, ir28_k6, ir28_k7, ir28_k8, ir28_k9, ir28_k10, s1, s3, s4, c, zqa, zqb, zqc, zqd, zqe, zqf, zqg, zqh, zqi, zqj, zqk, u64b, u32b, zql, zqm, zqn, zqo, -zqu, -isSl, -zqs, -zqt, -zqv, -zqr]
    exact hQ _ _ ho hg (by simp [s3])
  | succ r ih =>
    intro k mm σ hk ho hg hgc s1 s3 s4 hQ
    refine wp_round fun J hJ => ?_
    have c : (k : Int) ≤ n := by omega
    have w0 : IntKind.i64.wrap ((k : Int) + 1) = (k : Int) + 1 := i64_id (by omega) (by omega)
    simp (disch := first | omega | (simp only [zqp, zqq]; omega)) [ir28_l2, ir28_k1, ir28_k2, ir28_k3, ir28_k4, ir28_k5, ir28_k6, ir28_k7, ir28_k8, ir28_k9, ir28_k10, s1, s3, s4, c, zqa, zqb, zqc, zqd, zqe, zqf, zqg, zqh, zqi, zqj, zqk, u64b, u32b, zql, zqm, zqn, zqo, -zqu, -isSl, -zqs, -zqt, -zqv, -zqr]
    refine ends_rows (n := n) (p4 := I k) hr he hrn hen hrow hnb hrb hcb hne n 0 _ mm _ (by omega) (iter_len k) ho hg hgc (by simp [s1]) (by simp [s3]) (by simp [s4]) (by simp) (by simp) fun σ3 m3 o3 g3 gc3 u1 u3 u4 => ?_
    simp (disch := first | omega | (simp only [zqp, zqq]; omega)) [u1, u3, u4, w0, zqa, zqb, zqc, zqd, zqe, zqf, zqg, zqh, zqi, zqj, zqk, u64b, u32b, zql, zqm, zqn, zqo, -zqu, -isSl, -zqs, -zqt, -zqv, -zqr]
    exact hJ _ _ (ih (k + 1) m3 _ (by omega) o3 (by rw [g3, iterB, List.range_eq_range']) gc3 (by simp [u1]) (by simp [u3]) (by simp) hQ)

theorem idb_wp {m : Mem} {b : Bool} (Φ : Value → Mem → Prop) : WPCall Tryz.prog 96 [.bool b] m Φ = Φ (.bool b) m := by
  refine (Ret.of_wp ?_).wp
  rw [call96 (by simp)]
  simp (disch := first | omega | (simp only [zqp, zqq]; omega)) [ir96_b, ir96_k1, zqa, zqb, zqc, zqd, zqe, zqf, zqg, zqh, zqi, zqj, zqk, u64b, u32b, zql, zqm, zqn, zqo, -zqu, -isSl, -zqs, -zqt, -zqv, -zqr]
set_option maxHeartbeats 4000000 in
theorem allb_loop {m : Mem} {R : List Bool} {n rb : Nat} (hR : R.length = n) (hn : n < 1000000) (hg : m.get rb = some ⟨R.map Bo, true⟩) : ∀ (R2 : List Bool) (i : Nat) (σ : Slots), R.drop i = R2 → i + R2.length = n →
    σ 1 = .func (.func 96) #[] #[] → σ 7 = .slice (some ⟨rb, 0, none⟩) n 1 → σ 8 = I n → σ 9 = I i →
    WP Tryz.prog (.loop ir95_l0) σ m (blockK 0 (thenK Tryz.prog ir95_k5 (retK [.tmp 4] fun r m' => m' = m ∧ r = .bool (R2.all fun b => b)))) := by
  intro R2
  induction R2 with
  | nil =>
    intro i σ hd hi s1 s7 s8 s9
    refine wp_round fun J hJ => ?_
    have e : i = n := by simpa using hi
    subst e
    simp (disch := first | omega | (simp only [zqp, zqq]; omega)) [ir95_l0, ir95_k1, ir95_k2, ir95_k3, ir95_k4, ir95_k5, s1, s7, s8, s9, zqa, zqb, zqc, zqd, zqe, zqf, zqg, zqh, zqi, zqj, zqk, u64b, u32b, zql, zqm, zqn, zqo, -zqu, -isSl, -zqs, -zqt, -zqv, -zqr]
  | cons b R2 ih =>
    intro i σ hd hi s1 s7 s8 s9
    refine wp_round fun J hJ => ?_
    have hx : R[i]? = some b := by rw [← List.head?_drop, hd]; rfl
    have hd' : R.drop (i + 1) = R2 := by rw [← List.tail_drop, hd]; rfl
    simp only [List.length_cons] at hi
    obtain ⟨li, ei⟩ := List.getElem?_eq_some_iff.1 hx
    have q0 : (i : Int) < n := by omega
    have y1 : i + 1 ≤ n := by omega
    have w0 : IntKind.i64.wrap ((i : Int) + 1) = (i : Int) + 1 := i64_id (by omega) (by omega)
    cases b with
    | true =>
      have hE : ((true :: R2).all fun b => b) = R2.all fun b => b := rfl
      rw [hE] at hJ ⊢
      simp (disch := first | omega | (simp only [zqp, zqq]; omega)) [ir95_l0, ir95_k1, ir95_k2, ir95_k3, ir95_k4, ir95_k5, s1, s7, s8, s9, q0, hg, hR, hx, ei, y1, head_td, idb_wp, w0, zqa, zqb, zqc, zqd, zqe, zqf, zqg, zqh, zqi, zqj, zqk, u64b, u32b, zql, zqm, zqn, zqo, -zqu, -isSl, -zqs, -zqt, -zqv, -zqr]
      exact hJ _ _ (ih (i + 1) _ hd' (by omega) (by simp [s1]) (by simp [s7]) (by simp [s8]) (by simp))
    | false =>
      simp (disch := first | omega | (simp only [zqp, zqq]; omega)) [ir95_l0, ir95_k1, ir95_k2, ir95_k3, ir95_k4, ir95_k5, s1, s7, s8, s9, q0, hg, hR, hx, ei, y1, head_td, idb_wp, w0, zqa, zqb, zqc, zqd, zqe, zqf, zqg, zqh, zqi, zqj, zqk, u64b, u32b, zql, zqm, zqn, zqo, -zqu, -isSl, -zqs, -zqt, -zqv, -zqr]
theorem allb_wp {m : Mem} {R : List Bool} {n rb : Nat} (hR : R.length = n) (hn : n < 1000000) (hg : m.get rb = some ⟨R.map Bo, true⟩) (Φ : Value → Mem → Prop) :
    WPCall Tryz.prog 95 [.slice (some ⟨rb, 0, none⟩) n 1, .func (.func 96) #[] #[]] m Φ = Φ (.bool (R.all fun b => b)) m := by
  have : WPCall Tryz.prog 95 [.slice (some ⟨rb, 0, none⟩) n 1, .func (.func 96) #[] #[]] m fun r m' => m' = m ∧ r = .bool (R.all fun b => b) := by
    rw [call95 (by simp)]
    simp (disch := first | omega | (simp only [zqp, zqq]; omega)) [ir95_b, ir95_k1, ir95_k2, ir95_k3, ir95_k4, zqa, zqb, zqc, zqd, zqe, zqf, zqg, zqh, zqi, zqj, zqk, u64b, u32b, zql, zqm, zqn, zqo, -zqu, -isSl, -zqs, -zqt, -zqv, -zqr]
    exact allb_loop hR hn hg R 0 _ rfl (by simp [hR]) (by simp) (by simp) (by simp) (by simp)
  refine (Ret.of_wp (this.mono fun r m' h => ⟨h.2, h.1⟩)).wp
set_option maxHeartbeats 8000000 in
theorem ends_wp {m : Mem} {v : Value} {s e : List Fr} {rs : List (List Fr)} {n : Nat} (h : LawV m v s rs e) (hrn : rs.length = n) (hen : e.length = n) (hrow : ∀ (i : Nat) (row : List Fr), rs[i]? = some row → row.length = n) (hnb : n < 1000000) :
    WPCall Tryz.prog 28 [v] m fun r m' => Old m m' ∧ r = .bool (endsB (aboves e) (rs.map aboves) n) := by
  rw [call28 (by simp)]
  obtain ⟨nm, vs, vr, ve, rfl, hs, hr, he⟩ := h
  obtain ⟨g1, g2, g3, g4⟩ := he.len
  rw [hen] at g1
  obtain ⟨p1, n1, c1, rfl⟩ := Rp.S.form hs
  obtain ⟨p2, n2, c2, rfl⟩ := Rp.S.form hr
  obtain ⟨p3, n3, c3, rfl⟩ := Rp.S.form he
  simp only [zqu] at g1
  have g1' : n3 = n := by omega
  subst g1'
  have l1 : ((n3 : Int)) * 1 ≤ 140737488355328 := by omega
  simp (disch := first | omega | (simp only [zqp, zqq]; omega)) [ir28_b, ir28_k1, ir28_k2, ir28_k3, ir28_k4, ir28_k5, ir28_k6, ir28_k7, ir28_k8, ir28_k9, zqa, zqb, zqc, zqd, zqe, zqf, zqg, zqh, zqi, zqj, zqk, u64b, u32b, zql, zqm, zqn, zqo, -zqu, -isSl, -zqs, -zqt, -zqv, -zqr]
  refine ⟨by omega, ends_rounds (m := m) (nm := nm) (rb := m.next + 2 + 3) (cb := m.next) hr he hrn hen hrow hnb (by omega) (by omega) (by omega) (n3 + 1) 0 _ _ (by omega) ((((Old.refl m).bump 2).put (by omega)).bump 5 |>.put (by omega)) (by rw [zql (by simp)]; simp [iterB]) (by rw [zqm (by omega), zqn (by simp), zql (by simp)]) (by simp) (by simp) (by simp) fun σ' m' o g s3 => ?_⟩
  simp (disch := first | omega | (simp only [zqp, zqq]; omega)) [ir28_k10, ir28_k1, ir28_k2, ir28_k3, ir28_k4, ir28_k5, ir28_k6, ir28_k7, ir28_k8, ir28_k9, s3, allb_wp (iter_len _) hnb g, zqa, zqb, zqc, zqd, zqe, zqf, zqg, zqh, zqi, zqj, zqk, u64b, u32b, zql, zqm, zqn, zqo, -zqu, -isSl, -zqs, -zqt, -zqv, -zqr]
  exact ⟨o, by rw [iter_last]; rfl⟩
end Go.Proofs.YtkpifdkccdndcaaGreat
namespace Go.Proofs.YtkpifdkccdndcaaGreat
open Go Go.DI Go.Big
set_option linter.unusedSimpArgs false
set_option linter.unusedVariables false

set_option maxHeartbeats 8000000 in
theorem vlaw_loop {m : Mem} {nm : ByteArray} {vs vr ve : Value} {rs : List (List Fr)} {n cb : Nat} (hr : frRp.list.S m vr rs) (hrn : rs.length = n) (hnb : n < 1000000) (hrb : ∀ row ∈ rs, row.length < 1000000) (hcb : m.next ≤ cb) {Φ : Value → Mem → Prop} (hF : ∀ m', Old m m' → rowsOk n 0 rs = false → Φ (.bool false) m') : ∀ (l2 : List (List Fr)) (i : Nat) (mm : Mem) (σ : Slots), rs.drop i = l2 → i + l2.length = n → (rowsOk n i l2 = rowsOk n 0 rs) → Old m mm → mm.get cb = some ⟨[.string nm, vs, vr, ve], true⟩ →
    σ 1 = ptr cb → σ 3 = I n → σ 45 = vr → σ 46 = I n → σ 47 = I i →
    (∀ σ' m', rowsOk n 0 rs = true → Old m m' → m'.get cb = some ⟨[.string nm, vs, vr, ve], true⟩ → σ' 1 = ptr cb → σ' 3 = I n → WP Tryz.prog ir9_k7 σ' m' (retK [.tmp 2] Φ)) →
    WP Tryz.prog (.loop ir9_l0) σ mm (blockK 0 (thenK Tryz.prog ir9_k7 (retK [.tmp 2] Φ))) := by
  intro l2
  induction l2 with
  | nil =>
    intro i mm σ hd hi hE ho hgc s1 s3 s45 s46 s47 hQ
    refine wp_round fun J hJ => ?_
    have e : i = n := by simpa using hi
    subst e
    simp (disch := first | omega | (simp only [zqp, zqq]; omega)) [ir9_l0, ir9_k1, ir9_k2, ir9_k3, ir9_k4, ir9_k5, ir9_k6, ir9_k8, ir9_k9, ir9_k10, s1, s3, s45, s46, s47, zqa, zqb, zqc, zqd, zqe, zqf, zqg, zqh, zqi, zqj, zqk, u64b, u32b, zql, zqm, zqn, zqo, -zqu, -isSl, -zqs, -zqt, -zqv, -zqr]
    exact hQ _ _ hE.symm ho hgc (by simp [s1]) (by simp [s3])
  | cons row l2 ih =>
    intro i mm σ hd hi hE ho hgc s1 s3 s45 s46 s47 hQ
    refine wp_round fun J hJ => ?_
    have hx : rs[i]? = some row := by rw [← List.head?_drop, hd]; rfl
    have hd' : rs.drop (i + 1) = l2 := by rw [← List.tail_drop, hd]; rfl
    simp only [List.length_cons] at hi
    obtain ⟨h1, h2, h3, h4⟩ := hr.len
    replace h3 : zqs 1 vr = true := h3
    rw [hrn] at h1
    have q0 : (i : Int) < n := by omega
    have w0 : IntKind.i64.wrap ((i : Int) + 1) = (i : Int) + 1 := i64_id (by omega) (by omega)
    obtain ⟨w, b1, b2, hrw⟩ := Rp.S.load1 rfl hr (Sub.of_old ho) hx
    obtain ⟨f1, f2, f3, f4⟩ := hrw.len
    replace f3 : zqs 3 w = true := f3
    have hrl := hrb row (List.mem_of_getElem? hx)
    simp only [rowsOk] at hE
    by_cases k1 : row.length = n
    · have k1' : (row.length : Int) = n := by omega
      rw [k1'] at f1
      simp (disch := first | omega | (simp only [zqp, zqq]; omega)) [ir9_l0, ir9_k1, ir9_k2, ir9_k3, ir9_k4, ir9_k5, ir9_k6, ir9_k8, ir9_k9, ir9_k10, s1, s3, s45, s46, s47, q0, h1, h2, h3, b1, b2, f1, f2, k1', zqa, zqb, zqc, zqd, zqe, zqf, zqg, zqh, zqi, zqj, zqk, u64b, u32b, zql, zqm, zqn, zqo, -zqu, -isSl, -zqs, -zqt, -zqv, -zqr]
      refine (all_wp (p := Fr.small) (hrw.mono (Sub.of_old ho)) hrl (fun m' e x _ hv => inlim_wp hv)).mono fun r1 m1 hp1 => ?_
      obtain ⟨o1, rfl⟩ := hp1
      have om1 := ho.trans o1
      cases k2 : row.all Fr.small with
      | false =>
        simp (disch := first | omega | (simp only [zqp, zqq]; omega)) [k2, zqa, zqb, zqc, zqd, zqe, zqf, zqg, zqh, zqi, zqj, zqk, u64b, u32b, zql, zqm, zqn, zqo, -zqu, -isSl, -zqs, -zqt, -zqv, -zqr]
        exact hF _ om1 (by rw [← hE]; simp [rowOk, k2])
      | true =>
        obtain ⟨x, hxi⟩ : ∃ x, row[i]? = some x := ⟨_, List.getElem?_eq_getElem (by omega)⟩
        obtain ⟨q, a, c, q', a', c', a1, a2, hxv⟩ := frRp.load (hrw.mono (Sub.of_old om1)) (Sub.refl _) hxi
        simp (disch := first | omega | (simp only [zqp, zqq]; omega)) [k2, f1, f2, f3, q0, a1, a2, zqa, zqb, zqc, zqd, zqe, zqf, zqg, zqh, zqi, zqj, zqk, u64b, u32b, zql, zqm, zqn, zqo, -zqu, -isSl, -zqs, -zqt, -zqv, -zqr]
        refine (above_wp hxv).mono fun r2 m2 hp2 => ?_
        obtain ⟨o2, rfl⟩ := hp2
        have om2 := om1.trans o2
        have hg := gb_above hxi
        cases k3 : decide (0 < x.n) with
        | true =>
          simp (disch := first | omega | (simp only [zqp, zqq]; omega)) [k3, zqa, zqb, zqc, zqd, zqe, zqf, zqg, zqh, zqi, zqj, zqk, u64b, u32b, zql, zqm, zqn, zqo, -zqu, -isSl, -zqs, -zqt, -zqv, -zqr]
          exact hF _ om2 (by rw [← hE]; simp [rowOk, hg, k3])
        | false =>
          have hok : rowOk n i row = true := by simp [rowOk, k1, k2, hg, k3]
          rw [hok, Bool.true_and] at hE
          simp (disch := first | omega | (simp only [zqp, zqq]; omega)) [k3, s47, w0, zqa, zqb, zqc, zqd, zqe, zqf, zqg, zqh, zqi, zqj, zqk, u64b, u32b, zql, zqm, zqn, zqo, -zqu, -isSl, -zqs, -zqt, -zqv, -zqr]
          exact hJ _ _ (ih (i + 1) m2 _ hd' (by omega) hE om2 ((o1.trans o2).some hgc) (by simp [s1]) (by simp [s3]) (by simp [s45]) (by simp [s46]) (by simp) hQ)
    · have k1' : ¬ (row.length : Int) = n := by omega
      simp (disch := first | omega | (simp only [zqp, zqq]; omega)) [ir9_l0, ir9_k1, ir9_k2, ir9_k3, ir9_k4, ir9_k5, ir9_k6, ir9_k8, ir9_k9, ir9_k10, s1, s3, s45, s46, s47, q0, h1, h2, h3, b1, b2, f1, f2, k1', zqa, zqb, zqc, zqd, zqe, zqf, zqg, zqh, zqi, zqj, zqk, u64b, u32b, zql, zqm, zqn, zqo, -zqu, -isSl, -zqs, -zqt, -zqv, -zqr]
      exact hF _ ho (by rw [← hE]; simp [rowOk, k1])
end Go.Proofs.YtkpifdkccdndcaaGreat
namespace Go.Big
theorem addE_ok {x y : Fr} (hx : 0 ≤ x.n) (hy : 0 ≤ y.n) (h : (addE x y).1 = 0) : (addE x y).2.ok = true := by
  have hb := addE_bd hx hy h
  unfold addE at h hb ⊢
  split at h
  · rename_i hk
    rw [if_pos hk] at hb ⊢
    simp only [Bool.and_eq_true] at hk
    obtain ⟨dx, _, _⟩ := Fr.ok_iff.1 hk.1
    obtain ⟨dy, _, _⟩ := Fr.ok_iff.1 hk.2
    obtain ⟨n0, d0⟩ := addF_n hx hy dx dy
    unfold sizeE at h hb ⊢
    split at h
    · rename_i hf
      rw [if_pos hf] at hb ⊢
      exact Fr.ok_iff.2 ⟨(lowF_d (x := addF x y) d0).1, hb.2.2.2, hb.2.1⟩
    · cases h
  · cases h
theorem sumE_ok : ∀ (l : List Fr) {s : Fr}, s.ok = true → 0 ≤ s.n → (∀ x ∈ l, 0 ≤ x.n) → (sumE s l).1 = 0 → (sumE s l).2.ok = true ∧ 0 ≤ (sumE s l).2.n
  | [], s, h, h0, _, _ => ⟨h, h0⟩
  | x :: l, s, h, h0, hl, he => by
    simp only [sumE] at he ⊢
    split at he
    · rename_i k
      rw [if_pos k]
      have hb := addE_bd h0 (hl x (by simp)) k
      exact sumE_ok l (addE_ok h0 (hl x (by simp)) k) hb.1 (fun y hy => hl y (by simp [hy])) he
    · rename_i k; exact absurd he k
theorem sumE_bad : ∀ (l : List Fr) {s : Fr}, (sumE s l).1 ≠ 0 → (sumE s l).2 = .zero
  | [], s, h => by simp [sumE] at h
  | x :: l, s, h => by
    simp only [sumE] at h ⊢
    split at h
    · rename_i k; rw [if_pos k]; exact sumE_bad l h
    · rename_i k; rw [if_neg k]
end Go.Big
namespace Go.Proofs.YtkpifdkccdndcaaGreat
open Go Go.DI Go.Big
set_option linter.unusedSimpArgs false
set_option linter.unusedVariables false

theorem frRp.nonneg {m : Mem} {v : Value} {l : List Fr} (h : frRp.S m v l) : ∀ x ∈ l, 0 ≤ x.n := fun x hx => by
  obtain ⟨i, hi, rfl⟩ := List.getElem_of_mem hx
  obtain ⟨_, _, _, _, _, _, _, _, hv⟩ := frRp.load h (Sub.refl _) (List.getElem?_eq_getElem hi)
  exact hv.n0
theorem LawV.mono_old {m m' : Mem} {v : Value} {s e : List Fr} {rs : List (List Fr)} (h : LawV m v s rs e) (ho : Old m m') : LawV m' v s rs e := by
  obtain ⟨nm, vs, vr, ve, h0, h1, h2, h3⟩ := h
  exact ⟨nm, vs, vr, ve, h0, h1.mono (Sub.of_old ho), h2.mono (Sub.of_old ho), h3.mono (Sub.of_old ho)⟩
theorem zero_ok : Fr.zero.ok = false := by simp [Fr.ok, Fr.zero]
set_option maxHeartbeats 8000000 in
theorem vlaw_wp {m : Mem} {v : Value} {s e : List Fr} {rs : List (List Fr)} (h : LawV m v s rs e) (hs1 : s.length < 1000000) (he1 : e.length < 1000000) (hr1 : rs.length < 1000000) (hrb : ∀ row ∈ rs, row.length < 1000000) :
    WPCall Tryz.prog 9 [v] m fun r m' => Old m m' ∧ r = .bool (okLaw s rs e) := by
  rw [call9 (by simp)]
  have hL := h
  obtain ⟨nm, vs, vr, ve, rfl, hs, hr, he⟩ := h
  obtain ⟨a1, a2, _, _⟩ := hs.len
  obtain ⟨b1, b2, _, _⟩ := hr.len
  obtain ⟨c1, c2, _, _⟩ := he.len
  obtain ⟨p1, n1, z1, rfl⟩ := Rp.S.form hs
  obtain ⟨p2, n2, z2, rfl⟩ := Rp.S.form hr
  obtain ⟨p3, n3, z3, rfl⟩ := Rp.S.form he
  simp only [zqu] at a1 b1 c1
  obtain rfl : n1 = s.length := by omega
  obtain rfl : n2 = rs.length := by omega
  obtain rfl : n3 = e.length := by omega
  obtain ⟨mm, hmm⟩ : ∃ mm, mm = (m.bump 2).put m.next (some ⟨[.string nm, .slice p1 s.length z1, .slice p2 rs.length z2, .slice p3 e.length z3], true⟩) := ⟨_, rfl⟩
  have om : Old m mm := by rw [hmm]; exact ((Old.refl m).bump 2).put (by omega)
  have hg : mm.get m.next = some ⟨[.string nm, .slice p1 s.length z1, .slice p2 rs.length z2, .slice p3 e.length z3], true⟩ := by rw [hmm, zql (by simp)]
  by_cases k1 : (1 : Int) ≤ s.length
  · by_cases k2 : (s.length : Int) ≤ 4
    · by_cases k3 : (e.length : Int) = s.length
      · by_cases k4 : (rs.length : Int) = s.length
        · simp (disch := first | omega | (simp only [zqp, zqq]; omega)) [ir9_b, ir9_k1, ir9_k2, ir9_k4, ir9_k5, ir9_k6, ir9_k7, ir9_k8, ir9_k9, ir9_k10, in_wp, k1, k2, k3, k4, zqa, zqb, zqc, zqd, zqe, zqf, zqg, zqh, zqi, zqj, zqk, u64b, u32b, zql, zqm, zqn, zqo, -zqu, -isSl, -zqs, -zqt, -zqv, -zqr]
          have q1 : 1 ≤ s.length := by omega
          have q2 : s.length ≤ 4 := by omega
          have q3 : e.length = s.length := by omega
          have q4 : rs.length = s.length := by omega
          rw [← hmm]
          have sml := fun (m' : Mem) (v : Value) (x : Fr) (h : Vf m' v x) => inlim_wp h
          have nn := frRp.nonneg hs
          refine (all_wp (p := Fr.small) (hs.mono (Sub.of_old om)) hs1 (fun m' e x _ hv => sml m' e x hv)).mono fun r1 m1 hp1 => ?_
          obtain ⟨o1, rfl⟩ := hp1
          have g1 := o1.some hg
          have om1 := om.trans o1
          cases k5 : s.all Fr.small with
          | false =>
            simp (disch := first | omega | (simp only [zqp, zqq]; omega)) [k5, zqa, zqb, zqc, zqd, zqe, zqf, zqg, zqh, zqi, zqj, zqk, u64b, u32b, zql, zqm, zqn, zqo, -zqu, -isSl, -zqs, -zqt, -zqv, -zqr]
            exact ⟨om1, by simp [okLaw, k5]⟩
          | true =>
            simp (disch := first | omega | (simp only [zqp, zqq]; omega)) [k5, g1, zqa, zqb, zqc, zqd, zqe, zqf, zqg, zqh, zqi, zqj, zqk, u64b, u32b, zql, zqm, zqn, zqo, -zqu, -isSl, -zqs, -zqt, -zqv, -zqr]
            refine (all_wp (p := Fr.small) (he.mono (Sub.of_old om1)) he1 (fun m' e x _ hv => sml m' e x hv)).mono fun r2 m2 hp2 => ?_
            obtain ⟨o2, rfl⟩ := hp2
            have g2 := o2.some g1
            have om2 := om1.trans o2
            cases k6 : e.all Fr.small with
            | false =>
              simp (disch := first | omega | (simp only [zqp, zqq]; omega)) [k6, zqa, zqb, zqc, zqd, zqe, zqf, zqg, zqh, zqi, zqj, zqk, u64b, u32b, zql, zqm, zqn, zqo, -zqu, -isSl, -zqs, -zqt, -zqv, -zqr]
              exact ⟨om2, by simp [okLaw, k5, k6]⟩
            | true =>
              simp (disch := first | omega | (simp only [zqp, zqq]; omega)) [k6, ir9_k3, ir9_k1, ir9_k2, ir9_k4, ir9_k5, ir9_k6, ir9_k8, ir9_k9, ir9_k10, g2, zqa, zqb, zqc, zqd, zqe, zqf, zqg, zqh, zqi, zqj, zqk, u64b, u32b, zql, zqm, zqn, zqo, -zqu, -isSl, -zqs, -zqt, -zqv, -zqr]
              refine vlaw_loop (m := m) (n := s.length) (nm := nm) (cb := m.next) hr q4 hs1 hrb (Nat.le_refl _) (Φ := fun r m' => Old m m' ∧ r = .bool (okLaw s rs e)) (fun m' o hf => ⟨o, by simp [okLaw, hf]⟩) rs 0 m2 _ rfl (by omega) rfl om2 g2 (by simp) (by simp) (by simp) (by simp [k4]) (by simp) fun σ' m3 hrows o3 g3 s1 s3 => ?_
              have hrl : ∀ (i : Nat) (row : List Fr), rs[i]? = some row → row.length = s.length := fun i row hx => by
                have := rowsOk_get hrows hx
                simp only [rowOk, Bool.and_eq_true, decide_eq_true_eq] at this
                exact this.1
              have hok : okLaw s rs e = (decide ((sumE .nil s).1 = 0) && decide (ordF (sumE .nil s).2 .one = 0) && endsB (aboves e) (rs.map aboves) s.length) := by
                simp [okLaw, q1, q2, q3, q4, k5, k6, hrows]
              rw [hok]
              have hl3 := get_lt g3
              simp (disch := first | omega | (simp only [zqp, zqq]; omega)) [ir9_k7, ir9_k1, ir9_k2, ir9_k3, ir9_k4, ir9_k5, ir9_k6, ir9_k9, ir9_k10, s1, s3, g3, zqa, zqb, zqc, zqd, zqe, zqf, zqg, zqh, zqi, zqj, zqk, u64b, u32b, zql, zqm, zqn, zqo, -zqu, -isSl, -zqs, -zqt, -zqv, -zqr]
              have ob := fun k => (Old.refl m3).bump k
              refine (fsum_wp ((hs.mono (Sub.of_old o3)).mono (Sub.of_old (ob _))) hs1).mono fun r4 m4 hp4 => ?_
              obtain ⟨o4, q, rfl, hq⟩ := hp4
              obtain ⟨E, hE⟩ : ∃ E, E = (sumE .nil s).1 := ⟨_, rfl⟩
              obtain ⟨Q, hQ⟩ : ∃ Q, Q = (sumE .nil s).2 := ⟨_, rfl⟩
              rw [← hE, ← hQ]
              rw [← hQ] at hq
              obtain ⟨u1, u2, u3, u4, u5, u6, rfl⟩ := hq.form
              have hn4 := o4.next
              simp only [zqq] at hn4
              have hfr : m4.get (m3.next + 6) = none := o4.none (by simp) (get_none_bump' 9 6)
              have om4 := (o3.bump 9).trans o4
              have g4 := ((o3).trans ((ob 9).trans o4))
              have gc4 := ((ob 9).trans o4).some g3
              have hlt6 : m3.next + 6 < m4.next := by omega
              have hn3 := o3.next
              simp (disch := first | omega | (simp only [zqp, zqq]; omega)) [s1, s3, zqa, zqb, zqc, zqd, zqe, zqf, zqg, zqh, zqi, zqj, zqk, u64b, u32b, zql, zqm, zqn, zqo, -zqu, -isSl, -zqs, -zqt, -zqv, -zqr]
              obtain ⟨M4, hM4⟩ : ∃ M4, M4 = m4.put (m3.next + 6) (some ⟨[.bool Q.neg, .slice u1 u2 u3, .slice u4 u5 u6], true⟩) := ⟨_, rfl⟩
              rw [← hM4]
              have oM4 : Old m M4 := by rw [hM4]; exact om4.put (by omega)
              have gq : M4.get (m3.next + 6) = some ⟨[.bool Q.neg, .slice u1 u2 u3, .slice u4 u5 u6], true⟩ := by rw [hM4, zql hlt6]
              have gc : M4.get m.next = some ⟨[.string nm, .slice p1 s.length z1, .slice p2 rs.length z2, .slice p3 e.length z3], true⟩ := by rw [hM4, zqm (by have := get_lt g3; omega)]; exact gc4
              have hq4 : Cf M4 (.agg #[.bool Q.neg, .slice u1 u2 u3, .slice u4 u5 u6]) Q := by rw [hM4]; exact hq.sub (Sub.put hfr)
              simp (disch := first | omega | (simp only [zqp, zqq]; omega)) [ir9_k8, ir9_k1, ir9_k2, ir9_k3, ir9_k4, ir9_k5, ir9_k6, ir9_k7, ir9_k10, zqa, zqb, zqc, zqd, zqe, zqf, zqg, zqh, zqi, zqj, zqk, u64b, u32b, zql, zqm, zqn, zqo, -zqu, -isSl, -zqs, -zqt, -zqv, -zqr]
              have ob4 := (Old.refl M4).bump 7
              refine (one_wp (m := M4.bump 7)).mono fun r5 m5 hp5 => ?_
              obtain ⟨o5, q5, rfl, hq5⟩ := hp5
              obtain ⟨v1, v2, v3, v4, v5, v6, rfl⟩ := hq5.form
              have hn5 := o5.next
              simp only [zqq] at hn5
              have hfr5 : m5.get (M4.next + 4) = none := o5.none (by simp) (get_none_bump' 7 4)
              have o45 := ob4.trans o5
              have hlt5 : M4.next + 4 < m5.next := by omega
              simp (disch := first | omega | (simp only [zqp, zqq]; omega)) [zqa, zqb, zqc, zqd, zqe, zqf, zqg, zqh, zqi, zqj, zqk, u64b, u32b, zql, zqm, zqn, zqo, -zqu, -isSl, -zqs, -zqt, -zqv, -zqr]
              obtain ⟨M5, hM5⟩ : ∃ M5, M5 = m5.put (M4.next + 4) (some ⟨[.bool Fr.one.neg, .slice v1 v2 v3, .slice v4 v5 v6], true⟩) := ⟨_, rfl⟩
              rw [← hM5]
              have o4M5 : Old M4 M5 := by rw [hM5]; exact o45.put (by omega)
              have gq5 := o4M5.some gq
              have gc5 := o4M5.some gc
              have go5 : M5.get (M4.next + 4) = some ⟨[.bool Fr.one.neg, .slice v1 v2 v3, .slice v4 v5 v6], true⟩ := by rw [hM5, zql hlt5]
              have hone : Vf M5 (.agg #[.bool Fr.one.neg, .slice v1 v2 v3, .slice v4 v5 v6]) .one := by rw [hM5]; exact (hq5.sub (Sub.put hfr5)).vf' one_ok (by decide)
              have oM5 := oM4.trans o4M5
              have hqv : Vf M5 (.agg #[.bool Q.neg, .slice u1 u2 u3, .slice u4 u5 u6]) Q := by
                refine (hq4.mono o4M5).vf ?_ ?_ ?_ ?_ <;> by_cases hE0 : E = 0
                · rw [hQ]; exact (sumE_ok s nil_ok (by decide) nn (by rw [← hE]; exact hE0)).2
                · rw [hQ, sumE_bad s (by rw [← hE]; exact hE0)]; decide
                · have := (sumE_ok s nil_ok (by decide) nn (by rw [← hE]; exact hE0)).1
                  rw [← hQ] at this; exact (fr512 this).2.2
                · rw [hQ, sumE_bad s (by rw [← hE]; exact hE0)]; exact pw_pos 512
                · have := (sumE_ok s nil_ok (by decide) nn (by rw [← hE]; exact hE0)).1
                  rw [← hQ] at this; exact Int.le_of_lt (fr512 this).1
                · rw [hQ, sumE_bad s (by rw [← hE]; exact hE0)]; decide
                · have := (sumE_ok s nil_ok (by decide) nn (by rw [← hE]; exact hE0)).1
                  rw [← hQ] at this; exact (fr512 this).2.1
                · rw [hQ, sumE_bad s (by rw [← hE]; exact hE0)]; exact pw_pos 512
              simp (disch := first | omega | (simp only [zqp, zqq]; omega)) [ir9_k9, ir9_k1, ir9_k2, ir9_k3, ir9_k4, ir9_k5, ir9_k6, ir9_k7, ir9_k8, gq5, go5, zqa, zqb, zqc, zqd, zqe, zqf, zqg, zqh, zqi, zqj, zqk, u64b, u32b, zql, zqm, zqn, zqo, -zqu, -isSl, -zqs, -zqt, -zqv, -zqr]
              refine (fcmp_wp hqv hone).mono fun r6 m6 hp6 => ?_
              obtain ⟨o6, rfl⟩ := hp6
              have gc6 := o6.some gc5
              have oM6 := oM5.trans o6
              by_cases hE0 : E = 0
              · have hQok : Q.ok = true := by rw [hQ]; exact (sumE_ok s nil_ok (by decide) nn (by rw [← hE]; exact hE0)).1
                by_cases k7 : ordF Q .one = 0
                · simp (disch := first | omega | (simp only [zqp, zqq]; omega)) [hQok, one_ok, k7, hE0, s1, gc6, ir9_k10, ir9_k1, ir9_k2, ir9_k3, ir9_k4, ir9_k5, ir9_k6, ir9_k7, ir9_k8, ir9_k9, zqa, zqb, zqc, zqd, zqe, zqf, zqg, zqh, zqi, zqj, zqk, u64b, u32b, zql, zqm, zqn, zqo, -zqu, -isSl, -zqs, -zqt, -zqv, -zqr]
                  refine (ends_wp (hL.mono_old oM6) q4 q3 hrl (by omega)).mono fun r7 m7 hp7 => ?_
                  obtain ⟨o7, rfl⟩ := hp7
                  simp (disch := first | omega | (simp only [zqp, zqq]; omega)) [zqa, zqb, zqc, zqd, zqe, zqf, zqg, zqh, zqi, zqj, zqk, u64b, u32b, zql, zqm, zqn, zqo, -zqu, -isSl, -zqs, -zqt, -zqv, -zqr]
                  exact oM6.trans o7
                · simp (disch := first | omega | (simp only [zqp, zqq]; omega)) [hQok, one_ok, k7, hE0, s1, gc6, ir9_k10, ir9_k1, ir9_k2, ir9_k3, ir9_k4, ir9_k5, ir9_k6, ir9_k7, ir9_k8, ir9_k9, zqa, zqb, zqc, zqd, zqe, zqf, zqg, zqh, zqi, zqj, zqk, u64b, u32b, zql, zqm, zqn, zqo, -zqu, -isSl, -zqs, -zqt, -zqv, -zqr]
                  exact oM6
              · have hQ0 : Q = .zero := by rw [hQ]; exact sumE_bad s (by rw [← hE]; exact hE0)
                have hQok : Q.ok = false := by rw [hQ0]; exact zero_ok
                simp (disch := first | omega | (simp only [zqp, zqq]; omega)) [hQok, hE0, s1, gc6, ir9_k10, ir9_k1, ir9_k2, ir9_k3, ir9_k4, ir9_k5, ir9_k6, ir9_k7, ir9_k8, ir9_k9, zqa, zqb, zqc, zqd, zqe, zqf, zqg, zqh, zqi, zqj, zqk, u64b, u32b, zql, zqm, zqn, zqo, -zqu, -isSl, -zqs, -zqt, -zqv, -zqr]
                exact oM6
        · simp (disch := first | omega | (simp only [zqp, zqq]; omega)) [ir9_b, ir9_k1, ir9_k2, ir9_k3, ir9_k4, ir9_k5, ir9_k6, ir9_k7, ir9_k8, ir9_k9, ir9_k10, in_wp, k1, k2, k3, k4, zqa, zqb, zqc, zqd, zqe, zqf, zqg, zqh, zqi, zqj, zqk, u64b, u32b, zql, zqm, zqn, zqo, -zqu, -isSl, -zqs, -zqt, -zqv, -zqr]
          rw [← hmm]
          exact ⟨om, by simp [okLaw]; omega⟩
      · simp (disch := first | omega | (simp only [zqp, zqq]; omega)) [ir9_b, ir9_k1, ir9_k2, ir9_k3, ir9_k4, ir9_k5, ir9_k6, ir9_k7, ir9_k8, ir9_k9, ir9_k10, in_wp, k1, k2, k3, zqa, zqb, zqc, zqd, zqe, zqf, zqg, zqh, zqi, zqj, zqk, u64b, u32b, zql, zqm, zqn, zqo, -zqu, -isSl, -zqs, -zqt, -zqv, -zqr]
        rw [← hmm]
        exact ⟨om, by simp [okLaw]; omega⟩
    · simp (disch := first | omega | (simp only [zqp, zqq]; omega)) [ir9_b, ir9_k1, ir9_k2, ir9_k3, ir9_k4, ir9_k5, ir9_k6, ir9_k7, ir9_k8, ir9_k9, ir9_k10, in_wp, k1, k2, zqa, zqb, zqc, zqd, zqe, zqf, zqg, zqh, zqi, zqj, zqk, u64b, u32b, zql, zqm, zqn, zqo, -zqu, -isSl, -zqs, -zqt, -zqv, -zqr]
      rw [← hmm]
      exact ⟨om, by simp [okLaw]; omega⟩
  · simp (disch := first | omega | (simp only [zqp, zqq]; omega)) [ir9_b, ir9_k1, ir9_k2, ir9_k3, ir9_k4, ir9_k5, ir9_k6, ir9_k7, ir9_k8, ir9_k9, ir9_k10, in_wp, k1, zqa, zqb, zqc, zqd, zqe, zqf, zqg, zqh, zqi, zqj, zqk, u64b, u32b, zql, zqm, zqn, zqo, -zqu, -isSl, -zqs, -zqt, -zqv, -zqr]
    rw [← hmm]
    exact ⟨om, by simp [okLaw]; omega⟩
end Go.Proofs.YtkpifdkccdndcaaGreat
