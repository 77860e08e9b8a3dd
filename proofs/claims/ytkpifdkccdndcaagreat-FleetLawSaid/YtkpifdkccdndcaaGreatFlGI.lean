/-
  'smalls' of the reference; its loops over the phases.
  The reference's loops over the phases; 'ValidLaw' of the reference.
  'ValidLaw' of the reference.
-/
import Derived.Test.YtkpifdkccdndcaaGreatFlAF
namespace Go.Big
theorem small_sign {x : Fr} (h : x.small = true) (h0 : 0 ≤ x.n) : ordF x .nil = if 0 < x.n then 1 else 0 := by
  have hn : (lowF x).neg = false := by simp [Fr.small] at h; exact h.2.1
  have e : x.n * Fr.nil.d = x.n := by show x.n * 1 = x.n; omega
  have e2 : Fr.nil.n * x.d = 0 := by show 0 * x.d = 0; omega
  have e3 : Fr.nil.neg = false := rfl
  unfold ordF
  rw [e, e2, e3]
  have hng : (x.neg && decide (x.n ≠ 0)) = false := by
    by_cases hz : x.n = 0
    · simp [hz]
    · have hp : decide (0 < x.n) = true := by simp; omega
      have : (lowF x).neg = (x.neg && decide (0 < x.n)) := rfl
      rw [this, hp, Bool.and_true] at hn
      simp [hn]
  simp only [hng, Bool.false_and, Bool.false_eq_true, if_false]
  unfold cmpI
  by_cases hp : 0 < x.n
  · rw [if_neg (by omega), if_pos hp]
  · rw [if_neg (by omega), if_neg hp]
theorem sign_pos {x : Fr} (h : x.small = true) (h0 : 0 ≤ x.n) : (0 < ordF x .nil) = (0 < x.n) := by
  rw [small_sign h h0]; apply propext; split <;> simp_all
theorem sign_zero {x : Fr} (h : x.small = true) (h0 : 0 ≤ x.n) : (ordF x .nil = 0) = ¬ (0 < x.n) := by
  rw [small_sign h h0]; apply propext; split <;> simp_all
end Go.Big
namespace Go.Proofs.YtkpifdkccdndcaaGreat
open Go Go.DI Go.Big
set_option linter.unusedSimpArgs false
set_option linter.unusedVariables false

set_option maxHeartbeats 4000000 in
theorem rsmalls_loop {m : Mem} {v : Value} {ls : List Fr} {n : Nat} (hv : frRp.S m v ls) (hn : ls.length = n) (hlen : n < 1000000) : ∀ (l2 : List Fr) (i : Nat) (mm : Mem) (σ : Slots), ls.drop i = l2 → i + l2.length = n → Old m mm →
    σ 0 = v → σ 1 = I n → σ 5 = I i →
    WP Tryz.prog (.loop ir29_l0) σ mm (blockK 0 (thenK Tryz.prog ir29_k4 (retK [.tmp 4] fun r m' => Old m m' ∧ r = .bool (l2.all Fr.small)))) := by
  intro l2
  induction l2 with
  | nil =>
    intro i mm σ hd hi ho s0 s1 s5
    refine wp_round fun J hJ => ?_
    have e : i = n := by simpa using hi
    subst e
    simp (disch := first | omega | (simp only [zqp, zqq]; omega)) [ir29_l0, ir29_k1, ir29_k2, ir29_k3, ir29_k4, s0, s1, s5, zqa, zqb, zqc, zqd, zqe, zqf, zqg, zqh, zqi, zqj, zqk, u64b, u32b, zql, zqm, zqn, zqo, -zqu, -isSl, -zqs, -zqt, -zqv, -zqr]
    exact ho
  | cons x l2 ih =>
    intro i mm σ hd hi ho s0 s1 s5
    refine wp_round fun J hJ => ?_
    have hx : ls[i]? = some x := by rw [← List.head?_drop, hd]; rfl
    have hd' : ls.drop (i + 1) = l2 := by rw [← List.tail_drop, hd]; rfl
    simp only [List.length_cons] at hi
    obtain ⟨h1, h2, h3, h4⟩ := hv.len
    replace h3 : zqs 3 v = true := h3
    rw [hn] at h1
    have q0 : (i : Int) < n := by omega
    obtain ⟨q, a, c, q', a', c', a1, a2, hxv⟩ := frRp.load (hv.mono (Sub.of_old ho)) (Sub.refl _) hx
    have w0 : IntKind.i64.wrap ((i : Int) + 1) = (i : Int) + 1 := i64_id (by omega) (by omega)
    cases k : x.small with
    | true =>
      have hE : (x :: l2).all Fr.small = l2.all Fr.small := by simp [k]
      rw [hE] at hJ ⊢
      simp (disch := first | omega | (simp only [zqp, zqq]; omega)) [ir29_l0, ir29_k1, ir29_k2, ir29_k3, ir29_k4, s0, s1, s5, q0, h1, h2, h3, a1, a2, zqa, zqb, zqc, zqd, zqe, zqf, zqg, zqh, zqi, zqj, zqk, u64b, u32b, zql, zqm, zqn, zqo, -zqu, -isSl, -zqs, -zqt, -zqv, -zqr]
      refine (rsmall_wp hxv).mono fun r m1 hp => ?_
      obtain ⟨o1, rfl⟩ := hp
      simp (disch := first | omega | (simp only [zqp, zqq]; omega)) [k, s5, w0, zqa, zqb, zqc, zqd, zqe, zqf, zqg, zqh, zqi, zqj, zqk, u64b, u32b, zql, zqm, zqn, zqo, -zqu, -isSl, -zqs, -zqt, -zqv, -zqr]
      exact hJ _ _ (ih (i + 1) _ _ hd' (by omega) (ho.trans o1) (by simp [s0]) (by simp [s1]) (by simp))
    | false =>
      have hE : (x :: l2).all Fr.small = false := by simp [k]
      rw [hE]
      simp (disch := first | omega | (simp only [zqp, zqq]; omega)) [ir29_l0, ir29_k1, ir29_k2, ir29_k3, ir29_k4, s0, s1, s5, q0, h1, h2, h3, a1, a2, zqa, zqb, zqc, zqd, zqe, zqf, zqg, zqh, zqi, zqj, zqk, u64b, u32b, zql, zqm, zqn, zqo, -zqu, -isSl, -zqs, -zqt, -zqv, -zqr]
      refine (rsmall_wp hxv).mono fun r m1 hp => ?_
      obtain ⟨o1, rfl⟩ := hp
      simp (disch := first | omega | (simp only [zqp, zqq]; omega)) [k, zqa, zqb, zqc, zqd, zqe, zqf, zqg, zqh, zqi, zqj, zqk, u64b, u32b, zql, zqm, zqn, zqo, -zqu, -isSl, -zqs, -zqt, -zqv, -zqr]
      exact ho.trans o1
theorem rsmalls_wp {m : Mem} {v : Value} {ls : List Fr} {n : Nat} (hv : frRp.S m v ls) (hlen : n < 1000000) : WPCall Tryz.prog 29 [v, I n] m fun r m' => Old m m' ∧ r = .bool (decide (ls.length = n) && ls.all Fr.small) := by
  rw [call29 (by simp)]
  obtain ⟨h1, h2, h3, h4⟩ := hv.len
  by_cases k : (ls.length : Int) = n
  · have k' : ls.length = n := by omega
    rw [k] at h1
    simp (disch := first | omega | (simp only [zqp, zqq]; omega)) [ir29_b, ir29_k1, ir29_k2, ir29_k3, h1, h2, zqa, zqb, zqc, zqd, zqe, zqf, zqg, zqh, zqi, zqj, zqk, u64b, u32b, zql, zqm, zqn, zqo, -zqu, -isSl, -zqs, -zqt, -zqv, -zqr]
    have := rsmalls_loop hv k' hlen ls 0 m (upd (upd (upd (upd (upd (upd (initσ [v, I n]) 4 (Bo false)) 6 v) 7 (I n)) 8 (I n)) 9 (Bo false)) 5 (I 0)) rfl (by simp [k']) (Old.refl m) (by simp) (by simp) (by simp)
    simpa [k'] using this
  · have k' : ¬ ls.length = n := by omega
    simp (disch := first | omega | (simp only [zqp, zqq]; omega)) [ir29_b, ir29_k1, ir29_k2, ir29_k3, ir29_k4, h1, h2, k, zqa, zqb, zqc, zqd, zqe, zqf, zqg, zqh, zqi, zqj, zqk, u64b, u32b, zql, zqm, zqn, zqo, -zqu, -isSl, -zqs, -zqt, -zqv, -zqr]
    exact ⟨Old.refl m, by simp [k']⟩

set_option maxHeartbeats 8000000 in
theorem rends_inner {m : Mem} {nm : ByteArray} {vs vr ve : Value} {rs : List (List Fr)} {row : List Fr} {n i rb cb : Nat} (hne : cb ≠ rb) (hr : frRp.list.S m vr rs) (hrn : rs.length = n) (hxe0 : rs[i]? = some row) (hn : row.length = n) (hsm : row.all Fr.small = true) (hnb : n < 1000000) (hi : i < n) (hrb : m.next ≤ rb) {p8 : Value} {Q : IExit → Slots → Mem → Prop} : ∀ (r k : Nat) (R : List Bool) (mm : Mem) (σ : Slots), k + r = n → R.length = n → Old m mm → mm.get rb = some ⟨R.map Bo, true⟩ → mm.get cb = some ⟨[.string nm, vs, vr, ve], true⟩ →
    σ 1 = ptr cb → σ 3 = I n → σ 7 = .slice (some ⟨rb, 0, none⟩) n 1 → σ 8 = p8 → σ 9 = I i → σ 10 = I k →
    (∀ σ' m', Old m m' → m'.get rb = some ⟨(innerB (aboves row) i (List.range' k r) R).map Bo, true⟩ → m'.get cb = some ⟨[.string nm, vs, vr, ve], true⟩ → σ' 1 = ptr cb → σ' 3 = I n → σ' 7 = .slice (some ⟨rb, 0, none⟩) n 1 → σ' 8 = p8 → σ' 9 = I i → Q (.exit 6) σ' m') →
    WP Tryz.prog (.loop ir10_l1) σ mm Q := by
  intro r
  induction r with
  | zero =>
    intro k R mm σ hk hR ho hg hgc s1 s3 s7 s8 s9 s10 hQ
    refine wp_round fun J hJ => ?_
    have e : k = n := by omega
    subst e
    simp (disch := first | omega | (simp only [zqp, zqq]; omega)) [ir10_l1, ir10_k1, ir10_k2, ir10_k3, ir10_k4, ir10_k5, ir10_k6, ir10_k7, ir10_k8, ir10_k9, ir10_k10, ir10_k11, ir10_k12, ir10_k13, ir10_k14, ir10_k15, s1, s3, s7, s8, s9, s10, zqa, zqb, zqc, zqd, zqe, zqf, zqg, zqh, zqi, zqj, zqk, u64b, u32b, zql, zqm, zqn, zqo, -zqu, -isSl, -zqs, -zqt, -zqv, -zqr]
    exact hQ _ _ ho (by simpa [innerB] using hg) hgc (by simp [s1]) (by simp [s3]) (by simp [s7]) (by simp [s8]) (by simp [s9])
  | succ r ih =>
    intro k R mm σ hk hR ho hg hgc s1 s3 s7 s8 s9 s10 hQ
    refine wp_round fun J hJ => ?_
    obtain ⟨x, hxe⟩ : ∃ x, row[k]? = some x := ⟨_, List.getElem?_eq_getElem (by omega)⟩
    have hxs : x.small = true := List.all_eq_true.1 hsm x (List.mem_of_getElem? hxe)
    obtain ⟨h1, h2, h3, h4⟩ := hr.len
    replace h3 : zqs 1 vr = true := h3
    rw [hrn] at h1
    have hlt := get_lt hg
    have hltc := get_lt hgc
    have q0 : (k : Int) < n := by omega
    have q1 : (i : Int) < n := by omega
    obtain ⟨w, b1, b2, hrw⟩ := Rp.S.load1 rfl hr (Sub.of_old ho) hxe0
    obtain ⟨f1, f2, f3, f4⟩ := hrw.len
    replace f3 : zqs 3 w = true := f3
    rw [hn] at f1
    obtain ⟨q, a, c, q', a', c', a1, a2, hxv⟩ := frRp.load (hrw.mono (Sub.of_old ho)) (Sub.refl _) hxe
    have x0 := hxv.n0
    have w0 : IntKind.i64.wrap ((k : Int) + 1) = (k : Int) + 1 := i64_id (by omega) (by omega)
    have zi := gb_get (l := R) (i := i) (by omega)
    have zk := gb_get (l := R) (i := k) (by omega)
    obtain ⟨li, ei⟩ := List.getElem?_eq_some_iff.1 zi
    obtain ⟨lk, ek⟩ := List.getElem?_eq_some_iff.1 zk
    have y1 : i + 1 ≤ n := by omega
    have y2 : k + 1 ≤ n := by omega
    have hr' : List.range' k (r + 1) = k :: List.range' (k + 1) r := rfl
    have hnx := ho.next
    cases hRi : gb R i with
    | true =>
      have hE : innerB (aboves row) i (List.range' k (r + 1)) R = innerB (aboves row) i (List.range' (k + 1) r) (R.set i true) := by rw [hr', innerB, hRi]; rfl
      rw [hE] at hQ
      rw [hRi] at zi ei
      simp (disch := first | omega | (simp only [zqp, zqq]; omega)) [ir10_l1, ir10_k1, ir10_k2, ir10_k3, ir10_k4, ir10_k5, ir10_k6, ir10_k7, ir10_k8, ir10_k9, ir10_k10, ir10_k11, ir10_k12, ir10_k13, ir10_k14, ir10_k15, s1, s3, s7, s8, s9, s10, q0, q1, hg, hR, zi, ei, y1, w0, head_td, zqa, zqb, zqc, zqd, zqe, zqf, zqg, zqh, zqi, zqj, zqk, u64b, u32b, zql, zqm, zqn, zqo, -zqu, -isSl, -zqs, -zqt, -zqv, -zqr]
      refine hJ _ _ (ih (k + 1) (R.set i true) _ _ (by omega) (by simp [hR]) (ho.put hrb) (by rw [zql hlt]; exact congrArg (fun c => some (Blk.mk c true)) map_setB) (by rw [zqm hne, hgc]) (by simp [s1]) (by simp [s3]) (by simp [s7]) (by simp [s8]) (by simp [s9]) (by simp) hQ)
    | false =>
      have hE : innerB (aboves row) i (List.range' k (r + 1)) R = innerB (aboves row) i (List.range' (k + 1) r) (R.set i (decide (0 < x.n) && gb R k)) := by rw [hr', innerB, hRi, gb_above hxe]; rfl
      rw [hE] at hQ
      rw [hRi] at zi ei
      simp (disch := first | omega | (simp only [zqp, zqq]; omega)) [ir10_l1, ir10_k1, ir10_k2, ir10_k3, ir10_k4, ir10_k5, ir10_k6, ir10_k7, ir10_k8, ir10_k9, ir10_k10, ir10_k11, ir10_k12, ir10_k13, ir10_k14, ir10_k15, s1, s3, s7, s8, s9, s10, q0, q1, h1, h2, h3, b1, b2, f1, f2, f3, a1, a2, hg, hgc, hR, zi, ei, y1, head_td, zqa, zqb, zqc, zqd, zqe, zqf, zqg, zqh, zqi, zqj, zqk, u64b, u32b, zql, zqm, zqn, zqo, -zqu, -isSl, -zqs, -zqt, -zqv, -zqr]
      refine (rsign_wp hxv (small_ok hxs)).mono fun r1 m1 hp1 => ?_
      obtain ⟨o1, rfl⟩ := hp1
      have g1 := o1.some hg
      have gc1 := o1.some hgc
      have hlt1 := get_lt g1
      have om1 := ho.trans o1
      have sp := sign_pos hxs x0
      by_cases hxn : 0 < x.n
      · have hd : decide (0 < x.n) = true := by simp [hxn]
        rw [hd] at hQ
        simp (disch := first | omega | (simp only [zqp, zqq]; omega)) [s1, s3, s7, s8, s9, s10, q0, q1, g1, hR, zi, ei, zk, ek, y1, y2, w0, sp, hxn, head_td, zqa, zqb, zqc, zqd, zqe, zqf, zqg, zqh, zqi, zqj, zqk, u64b, u32b, zql, zqm, zqn, zqo, -zqu, -isSl, -zqs, -zqt, -zqv, -zqr]
        refine hJ _ _ (ih (k + 1) (R.set i (gb R k)) _ _ (by omega) (by simp [hR]) (om1.put hrb) (by rw [zql hlt1]; exact congrArg (fun c => some (Blk.mk c true)) map_setB) (by rw [zqm hne]; exact gc1) (by simp [s1]) (by simp [s3]) (by simp [s7]) (by simp [s8]) (by simp [s9]) (by simp) (by simpa using hQ))
      · have hd : decide (0 < x.n) = false := by simp [hxn]
        rw [hd] at hQ
        simp (disch := first | omega | (simp only [zqp, zqq]; omega)) [s1, s3, s7, s8, s9, s10, q0, q1, g1, hR, zi, ei, y1, w0, sp, hxn, head_td, zqa, zqb, zqc, zqd, zqe, zqf, zqg, zqh, zqi, zqj, zqk, u64b, u32b, zql, zqm, zqn, zqo, -zqu, -isSl, -zqs, -zqt, -zqv, -zqr]
        refine hJ _ _ (ih (k + 1) (R.set i false) _ _ (by omega) (by simp [hR]) (om1.put hrb) (by rw [zql hlt1]; exact congrArg (fun c => some (Blk.mk c true)) map_setB) (by rw [zqm hne]; exact gc1) (by simp [s1]) (by simp [s3]) (by simp [s7]) (by simp [s8]) (by simp [s9]) (by simp) (by simpa using hQ))
end Go.Proofs.YtkpifdkccdndcaaGreat
namespace Go.Proofs.YtkpifdkccdndcaaGreat
open Go Go.DI Go.Big
set_option linter.unusedSimpArgs false
set_option linter.unusedVariables false

set_option maxHeartbeats 8000000 in
theorem rends_rows {m : Mem} {nm : ByteArray} {vs vr ve : Value} {rs : List (List Fr)} {e : List Fr} {n rb cb : Nat} (hr : frRp.list.S m vr rs) (he : frRp.S m ve e) (hrn : rs.length = n) (hen : e.length = n) (hrow : ∀ (i : Nat) (row : List Fr), rs[i]? = some row → row.length = n ∧ row.all Fr.small = true) (hes : e.all Fr.small = true) (hnb : n < 1000000) (hrb : m.next ≤ rb) (hcb : m.next ≤ cb) (hne : cb ≠ rb) {p8 : Value} {Q : IExit → Slots → Mem → Prop} : ∀ (r i : Nat) (R : List Bool) (mm : Mem) (σ : Slots), i + r = n → R.length = n → Old m mm → mm.get rb = some ⟨R.map Bo, true⟩ → mm.get cb = some ⟨[.string nm, vs, vr, ve], true⟩ →
    σ 1 = ptr cb → σ 3 = I n → σ 7 = .slice (some ⟨rb, 0, none⟩) n 1 → σ 8 = p8 → σ 9 = I i →
    (∀ σ' m', Old m m' → m'.get rb = some ⟨(roundB (aboves e) (rs.map aboves) n (List.range' i r) R).map Bo, true⟩ → m'.get cb = some ⟨[.string nm, vs, vr, ve], true⟩ → σ' 1 = ptr cb → σ' 3 = I n → σ' 7 = .slice (some ⟨rb, 0, none⟩) n 1 → σ' 8 = p8 → Q (.exit 4) σ' m') →
    WP Tryz.prog (.loop ir10_l2) σ mm Q := by
  intro r
  induction r with
  | zero =>
    intro i R mm σ hk hR ho hg hgc s1 s3 s7 s8 s9 hQ
    refine wp_round fun J hJ => ?_
    have e : i = n := by omega
    subst e
    simp (disch := first | omega | (simp only [zqp, zqq]; omega)) [ir10_l2, ir10_k1, ir10_k2, ir10_k3, ir10_k4, ir10_k5, ir10_k6, ir10_k7, ir10_k8, ir10_k9, ir10_k10, ir10_k11, ir10_k12, ir10_k13, ir10_k14, ir10_k15, s1, s3, s7, s8, s9, zqa, zqb, zqc, zqd, zqe, zqf, zqg, zqh, zqi, zqj, zqk, u64b, u32b, zql, zqm, zqn, zqo, -zqu, -isSl, -zqs, -zqt, -zqv, -zqr]
    exact hQ _ _ ho (by simpa [roundB] using hg) hgc (by simp [s1]) (by simp [s3]) (by simp [s7]) (by simp [s8])
  | succ r ih =>
    intro i R mm σ hk hR ho hg hgc s1 s3 s7 s8 s9 hQ
    refine wp_round fun J hJ => ?_
    obtain ⟨row, hxe⟩ : ∃ row, rs[i]? = some row := ⟨_, List.getElem?_eq_getElem (by omega)⟩
    obtain ⟨y, hye⟩ : ∃ y, e[i]? = some y := ⟨_, List.getElem?_eq_getElem (by omega)⟩
    have hys : y.small = true := List.all_eq_true.1 hes y (List.mem_of_getElem? hye)
    obtain ⟨hrl, hrs⟩ := hrow i row hxe
    obtain ⟨g1, g2, g3, g4⟩ := he.len
    replace g3 : zqs 3 ve = true := g3
    rw [hen] at g1
    have hlt := get_lt hg
    have hltc := get_lt hgc
    have q0 : (i : Int) < n := by omega
    obtain ⟨q, a, c, q', a', c', a1, a2, hyv⟩ := frRp.load (he.mono (Sub.of_old ho)) (Sub.refl _) hye
    have y0 := hyv.n0
    have w0 : IntKind.i64.wrap ((i : Int) + 1) = (i : Int) + 1 := i64_id (by omega) (by omega)
    have zi := gb_get (l := R) (i := i) (by omega)
    obtain ⟨li, ei⟩ := List.getElem?_eq_some_iff.1 zi
    have y1 : i + 1 ≤ n := by omega
    have hr' : List.range' i (r + 1) = i :: List.range' (i + 1) r := rfl
    have hgE : gb (aboves e) i = decide (0 < y.n) := gb_above hye
    have hgR : (rs.map aboves).getD i [] = aboves row := by rw [List.getD_eq_getElem?_getD, List.getElem?_map, hxe]; rfl
    have hE : roundB (aboves e) (rs.map aboves) n (List.range' i (r + 1)) R = roundB (aboves e) (rs.map aboves) n (List.range' (i + 1) r) (innerB (aboves row) i (List.range' 0 n) (R.set i (gb R i || decide (0 < y.n)))) := by
      rw [hr', roundB, hgE, hgR, List.range_eq_range']
    rw [hE] at hQ
    have rest : ∀ (b : Bool) (m2 : Mem) (σ2 : Slots), b = (gb R i || decide (0 < y.n)) → Old m m2 → m2.get rb = some ⟨(R.set i b).map Bo, true⟩ → m2.get cb = some ⟨[.string nm, vs, vr, ve], true⟩ → σ2 1 = ptr cb → σ2 3 = I n → σ2 7 = .slice (some ⟨rb, 0, none⟩) n 1 → σ2 8 = p8 → σ2 9 = I i →
        WP Tryz.prog ir10_k11 σ2 m2 (blockK 5 (thenK Tryz.prog (.region [⟨0, some 91, none, .mov (.tmp 9), []⟩, ⟨1, some 92, none, .bin .add .other (.tmp 91) (.const (.int .i64 1)), []⟩, ⟨2, some 9, none, .mov (.tmp 92), []⟩]) (loopJ J Q))) := by
      intro b m2 σ2 hb o2 g2' gc2 t1 t3 t7 t8 t9
      simp (disch := first | omega | (simp only [zqp, zqq]; omega)) [ir10_k11, ir10_k1, ir10_k2, ir10_k3, ir10_k4, ir10_k5, ir10_k6, ir10_k7, ir10_k8, ir10_k9, ir10_k10, ir10_k12, ir10_k13, ir10_k14, ir10_k15, t1, t3, t7, t8, t9, zqa, zqb, zqc, zqd, zqe, zqf, zqg, zqh, zqi, zqj, zqk, u64b, u32b, zql, zqm, zqn, zqo, -zqu, -isSl, -zqs, -zqt, -zqv, -zqr]
      refine rends_inner (n := n) (i := i) (rs := rs) hne hr hrn hxe hrl hrs hnb (by omega) hrb (p8 := p8) n 0 (R.set i b) m2 _ (by omega) (by simp [hR]) o2 g2' gc2 (by simp [t1]) (by simp [t3]) (by simp [t7]) (by simp [t8]) (by simp [t9]) (by simp) fun σ3 m3 o3 g3' gc3 u1 u3 u7 u8 u9 => ?_
      rw [hb] at g3'
      simp (disch := first | omega | (simp only [zqp, zqq]; omega)) [u1, u3, u7, u8, u9, w0, zqa, zqb, zqc, zqd, zqe, zqf, zqg, zqh, zqi, zqj, zqk, u64b, u32b, zql, zqm, zqn, zqo, -zqu, -isSl, -zqs, -zqt, -zqv, -zqr]
      exact hJ _ _ (ih (i + 1) _ m3 _ (by omega) (by rw [inner_len]; simp [hR]) o3 g3' gc3 (by simp [u1]) (by simp [u3]) (by simp [u7]) (by simp [u8]) (by simp) hQ)
    cases hRi : gb R i with
    | true =>
      rw [hRi] at zi ei rest
      simp (disch := first | omega | (simp only [zqp, zqq]; omega)) [ir10_l2, ir10_k1, ir10_k2, ir10_k3, ir10_k4, ir10_k5, ir10_k6, ir10_k7, ir10_k8, ir10_k9, ir10_k10, ir10_k12, ir10_k13, ir10_k14, ir10_k15, s1, s3, s7, s8, s9, q0, hg, hR, zi, ei, y1, head_td, zqa, zqb, zqc, zqd, zqe, zqf, zqg, zqh, zqi, zqj, zqk, u64b, u32b, zql, zqm, zqn, zqo, -zqu, -isSl, -zqs, -zqt, -zqv, -zqr]
      exact rest true _ _ (by simp) (ho.put hrb) (by rw [zql hlt]; exact congrArg (fun c => some (Blk.mk c true)) map_setB) (by rw [zqm hne, hgc]) (by simp [s1]) (by simp [s3]) (by simp [s7]) (by simp [s8]) (by simp [s9])
    | false =>
      rw [hRi] at zi ei rest
      simp (disch := first | omega | (simp only [zqp, zqq]; omega)) [ir10_l2, ir10_k1, ir10_k2, ir10_k3, ir10_k4, ir10_k5, ir10_k6, ir10_k7, ir10_k8, ir10_k9, ir10_k10, ir10_k12, ir10_k13, ir10_k14, ir10_k15, s1, s3, s7, s8, s9, q0, hg, hgc, hR, zi, ei, y1, g1, g2, g3, a1, a2, head_td, zqa, zqb, zqc, zqd, zqe, zqf, zqg, zqh, zqi, zqj, zqk, u64b, u32b, zql, zqm, zqn, zqo, -zqu, -isSl, -zqs, -zqt, -zqv, -zqr]
      refine (rsign_wp hyv (small_ok hys)).mono fun r1 m1 hp1 => ?_
      obtain ⟨o1, rfl⟩ := hp1
      have hg1' := o1.some hg
      have hlt1 := get_lt hg1'
      have sp := sign_pos hys y0
      simp (disch := first | omega | (simp only [zqp, zqq]; omega)) [s7, s9, hg1', hR, y1, q0, sp, zqa, zqb, zqc, zqd, zqe, zqf, zqg, zqh, zqi, zqj, zqk, u64b, u32b, zql, zqm, zqn, zqo, -zqu, -isSl, -zqs, -zqt, -zqv, -zqr]
      exact rest (decide (0 < y.n)) _ _ (by simp) ((ho.trans o1).put hrb) (by rw [zql hlt1]; exact congrArg (fun c => some (Blk.mk c true)) map_setB) (by rw [zqm hne]; exact o1.some hgc) (by simp [s1]) (by simp [s3]) (by simp [s7]) (by simp [s8]) (by simp [s9])
set_option maxHeartbeats 8000000 in
theorem rends_rounds {m : Mem} {nm : ByteArray} {vs vr ve : Value} {rs : List (List Fr)} {e : List Fr} {n rb cb : Nat} (hr : frRp.list.S m vr rs) (he : frRp.S m ve e) (hrn : rs.length = n) (hen : e.length = n) (hrow : ∀ (i : Nat) (row : List Fr), rs[i]? = some row → row.length = n ∧ row.all Fr.small = true) (hes : e.all Fr.small = true) (hnb : n < 1000000) (hrb : m.next ≤ rb) (hcb : m.next ≤ cb) (hne : cb ≠ rb) {Q : IExit → Slots → Mem → Prop} : ∀ (r k : Nat) (mm : Mem) (σ : Slots), k + r = n → Old m mm → mm.get rb = some ⟨(iterB (aboves e) (rs.map aboves) n k).map Bo, true⟩ → mm.get cb = some ⟨[.string nm, vs, vr, ve], true⟩ →
    σ 1 = ptr cb → σ 3 = I n → σ 7 = .slice (some ⟨rb, 0, none⟩) n 1 → σ 8 = I k →
    (∀ σ' m', Old m m' → m'.get rb = some ⟨(iterB (aboves e) (rs.map aboves) n n).map Bo, true⟩ → σ' 3 = I n → σ' 7 = .slice (some ⟨rb, 0, none⟩) n 1 → Q (.exit 2) σ' m') →
    WP Tryz.prog (.loop ir10_l3) σ mm Q := by
  intro r
  induction r with
  | zero =>
    intro k mm σ hk ho hg hgc s1 s3 s7 s8 hQ
    refine wp_round fun J hJ => ?_
    have e : k = n := by omega
    subst e
    simp (disch := first | omega | (simp only [zqp, zqq]; omega)) [ir10_l3, ir10_k1, ir10_k2, ir10_k3, ir10_k4, ir10_k5, ir10_k6, ir10_k7, ir10_k8, ir10_k9, ir10_k10, ir10_k11, ir10_k12, ir10_k13, ir10_k14, ir10_k15, s1, s3, s7, s8, zqa, zqb, zqc, zqd, zqe, zqf, zqg, zqh, zqi, zqj, zqk, u64b, u32b, zql, zqm, zqn, zqo, -zqu, -isSl, -zqs, -zqt, -zqv, -zqr]
    exact hQ _ _ ho hg (by simp [s3]) (by simp [s7])
  | succ r ih =>
    intro k mm σ hk ho hg hgc s1 s3 s7 s8 hQ
    refine wp_round fun J hJ => ?_
    have c : (k : Int) < n := by omega
    have w0 : IntKind.i64.wrap ((k : Int) + 1) = (k : Int) + 1 := i64_id (by omega) (by omega)
    simp (disch := first | omega | (simp only [zqp, zqq]; omega)) [ir10_l3, ir10_k1, ir10_k2, ir10_k3, ir10_k4, ir10_k5, ir10_k6, ir10_k7, ir10_k8, ir10_k9, ir10_k10, ir10_k11, ir10_k12, ir10_k13, ir10_k14, ir10_k15, s1, s3, s7, s8, c, zqa, zqb, zqc, zqd, zqe, zqf, zqg, zqh, zqi, zqj, zqk, u64b, u32b, zql, zqm, zqn, zqo, -zqu, -isSl, -zqs, -zqt, -zqv, -zqr]
    refine rends_rows (n := n) (p8 := I k) hr he hrn hen hrow hes hnb hrb hcb hne n 0 _ mm _ (by omega) (iter_len k) ho hg hgc (by simp [s1]) (by simp [s3]) (by simp [s7]) (by simp [s8]) (by simp) fun σ3 m3 o3 g3 gc3 u1 u3 u7 u8 => ?_
    simp (disch := first | omega | (simp only [zqp, zqq]; omega)) [u1, u3, u7, u8, w0, zqa, zqb, zqc, zqd, zqe, zqf, zqg, zqh, zqi, zqj, zqk, u64b, u32b, zql, zqm, zqn, zqo, -zqu, -isSl, -zqs, -zqt, -zqv, -zqr]
    exact hJ _ _ (ih (k + 1) m3 _ (by omega) o3 (by rw [g3, iterB, List.range_eq_range']) gc3 (by simp [u1]) (by simp [u3]) (by simp [u7]) (by simp) hQ)
set_option maxHeartbeats 4000000 in
theorem rallb_loop {m : Mem} {R : List Bool} {n rb : Nat} (hR : R.length = n) (hn : n < 1000000) (hg : m.get rb = some ⟨R.map Bo, true⟩) {Φ : Value → Mem → Prop} : ∀ (R2 : List Bool) (i : Nat) (σ : Slots), R.drop i = R2 → i + R2.length = n →
    σ 3 = I n → σ 7 = .slice (some ⟨rb, 0, none⟩) n 1 → σ 11 = I i → Φ (.bool (R2.all fun b => b)) m →
    WP Tryz.prog (.loop ir10_l4) σ m (blockK 8 (thenK Tryz.prog ir10_k15 (retK [.tmp 2] Φ))) := by
  intro R2
  induction R2 with
  | nil =>
    intro i σ hd hi s3 s7 s11 hΦ
    refine wp_round fun J hJ => ?_
    have e : i = n := by simpa using hi
    subst e
    simp (disch := first | omega | (simp only [zqp, zqq]; omega)) [ir10_l4, ir10_k1, ir10_k2, ir10_k3, ir10_k4, ir10_k5, ir10_k6, ir10_k7, ir10_k8, ir10_k9, ir10_k10, ir10_k11, ir10_k12, ir10_k13, ir10_k14, ir10_k15, s3, s7, s11, zqa, zqb, zqc, zqd, zqe, zqf, zqg, zqh, zqi, zqj, zqk, u64b, u32b, zql, zqm, zqn, zqo, -zqu, -isSl, -zqs, -zqt, -zqv, -zqr]
    exact hΦ
  | cons b R2 ih =>
    intro i σ hd hi s3 s7 s11 hΦ
    refine wp_round fun J hJ => ?_
    have hx : R[i]? = some b := by rw [← List.head?_drop, hd]; rfl
    have hd' : R.drop (i + 1) = R2 := by rw [← List.tail_drop, hd]; rfl
    simp only [List.length_cons] at hi
    obtain ⟨li, ei⟩ := List.getElem?_eq_some_iff.1 hx
    have q0 : (i : Int) < n := by omega
    have y1 : i + 1 ≤ n := by omega
    have w0 : IntKind.i64.wrap ((i : Int) + 1) = (i : Int) + 1 := i64_id (by omega) (by omega)
    cases b with
    | true =>
      simp (disch := first | omega | (simp only [zqp, zqq]; omega)) [ir10_l4, ir10_k1, ir10_k2, ir10_k3, ir10_k4, ir10_k5, ir10_k6, ir10_k7, ir10_k8, ir10_k9, ir10_k10, ir10_k11, ir10_k12, ir10_k13, ir10_k14, ir10_k15, s3, s7, s11, q0, hg, hR, hx, ei, y1, head_td, w0, zqa, zqb, zqc, zqd, zqe, zqf, zqg, zqh, zqi, zqj, zqk, u64b, u32b, zql, zqm, zqn, zqo, -zqu, -isSl, -zqs, -zqt, -zqv, -zqr]
      exact hJ _ _ (ih (i + 1) _ hd' (by omega) (by simp [s3]) (by simp [s7]) (by simp) (by simpa using hΦ))
    | false =>
      simp (disch := first | omega | (simp only [zqp, zqq]; omega)) [ir10_l4, ir10_k1, ir10_k2, ir10_k3, ir10_k4, ir10_k5, ir10_k6, ir10_k7, ir10_k8, ir10_k9, ir10_k10, ir10_k11, ir10_k12, ir10_k13, ir10_k14, ir10_k15, s3, s7, s11, q0, hg, hR, hx, ei, y1, head_td, w0, zqa, zqb, zqc, zqd, zqe, zqf, zqg, zqh, zqi, zqj, zqk, u64b, u32b, zql, zqm, zqn, zqo, -zqu, -isSl, -zqs, -zqt, -zqv, -zqr]
      simpa using hΦ
end Go.Proofs.YtkpifdkccdndcaaGreat
namespace Go.Proofs.YtkpifdkccdndcaaGreat
open Go Go.DI Go.Big
set_option linter.unusedSimpArgs false
set_option linter.unusedVariables false

set_option maxHeartbeats 8000000 in
theorem rvlaw_loop {m : Mem} {nm : ByteArray} {vs vr ve : Value} {rs : List (List Fr)} {n cb : Nat} (hr : frRp.list.S m vr rs) (hrn : rs.length = n) (hnb : n < 1000000) (hcb : m.next ≤ cb) {Φ : Value → Mem → Prop} (hF : ∀ m', Old m m' → rowsOk n 0 rs = false → Φ (.bool false) m') {K : ICode} : ∀ (l2 : List (List Fr)) (i : Nat) (mm : Mem) (σ : Slots), rs.drop i = l2 → i + l2.length = n → (rowsOk n i l2 = rowsOk n 0 rs) → Old m mm → mm.get cb = some ⟨[.string nm, vs, vr, ve], true⟩ →
    σ 1 = ptr cb → σ 3 = I n → σ 4 = I i →
    (∀ σ' m', rowsOk n 0 rs = true → Old m m' → m'.get cb = some ⟨[.string nm, vs, vr, ve], true⟩ → σ' 1 = ptr cb → σ' 3 = I n → WP Tryz.prog K σ' m' (retK [.tmp 2] Φ)) →
    WP Tryz.prog (.loop ir10_l0) σ mm (blockK 0 (thenK Tryz.prog K (retK [.tmp 2] Φ))) := by
  intro l2
  induction l2 with
  | nil =>
    intro i mm σ hd hi hE ho hgc s1 s3 s4 hQ
    refine wp_round fun J hJ => ?_
    have e : i = n := by simpa using hi
    subst e
    simp (disch := first | omega | (simp only [zqp, zqq]; omega)) [ir10_l0, ir10_k1, ir10_k2, ir10_k3, ir10_k4, ir10_k5, ir10_k6, ir10_k7, ir10_k8, ir10_k9, ir10_k10, ir10_k11, ir10_k12, ir10_k13, ir10_k14, ir10_k15, s1, s3, s4, zqa, zqb, zqc, zqd, zqe, zqf, zqg, zqh, zqi, zqj, zqk, u64b, u32b, zql, zqm, zqn, zqo, -zqu, -isSl, -zqs, -zqt, -zqv, -zqr]
    exact hQ _ _ hE.symm ho hgc (by simp [s1]) (by simp [s3])
  | cons row l2 ih =>
    intro i mm σ hd hi hE ho hgc s1 s3 s4 hQ
    refine wp_round fun J hJ => ?_
    have hx : rs[i]? = some row := by rw [← List.head?_drop, hd]; rfl
    have hd' : rs.drop (i + 1) = l2 := by rw [← List.tail_drop, hd]; rfl
    simp only [List.length_cons] at hi
    obtain ⟨h1, h2, h3, h4⟩ := hr.len
    replace h3 : zqs 1 vr = true := h3
    rw [hrn] at h1
    have q0 : (i : Int) < n := by omega
    have hltc := get_lt hgc
    have w0 : IntKind.i64.wrap ((i : Int) + 1) = (i : Int) + 1 := i64_id (by omega) (by omega)
    obtain ⟨w, b1, b2, hrw⟩ := Rp.S.load1 rfl hr (Sub.of_old ho) hx
    obtain ⟨f1, f2, f3, f4⟩ := hrw.len
    replace f3 : zqs 3 w = true := f3
    simp only [rowsOk] at hE
    simp (disch := first | omega | (simp only [zqp, zqq]; omega)) [ir10_l0, ir10_k1, ir10_k2, ir10_k3, ir10_k4, ir10_k5, ir10_k6, ir10_k7, ir10_k8, ir10_k9, ir10_k10, ir10_k11, ir10_k12, ir10_k13, ir10_k14, ir10_k15, s1, s3, s4, q0, h1, h2, h3, b1, b2, hgc, zqa, zqb, zqc, zqd, zqe, zqf, zqg, zqh, zqi, zqj, zqk, u64b, u32b, zql, zqm, zqn, zqo, -zqu, -isSl, -zqs, -zqt, -zqv, -zqr]
    refine (rsmalls_wp (hrw.mono (Sub.of_old ho)) hnb).mono fun r1 m1 hp1 => ?_
    obtain ⟨o1, rfl⟩ := hp1
    have om1 := ho.trans o1
    have gc1 := o1.some hgc
    by_cases k1 : row.length = n
    · cases k2 : row.all Fr.small with
      | false =>
        simp (disch := first | omega | (simp only [zqp, zqq]; omega)) [k1, k2, zqa, zqb, zqc, zqd, zqe, zqf, zqg, zqh, zqi, zqj, zqk, u64b, u32b, zql, zqm, zqn, zqo, -zqu, -isSl, -zqs, -zqt, -zqv, -zqr]
        exact hF _ om1 (by rw [← hE]; simp [rowOk, k2])
      | true =>
        obtain ⟨x, hxi⟩ : ∃ x, row[i]? = some x := ⟨_, List.getElem?_eq_getElem (by omega)⟩
        have hxs : x.small = true := List.all_eq_true.1 k2 x (List.mem_of_getElem? hxi)
        obtain ⟨w', b1', b2', hrw'⟩ := Rp.S.load1 rfl hr (Sub.of_old om1) hx
        obtain ⟨f1', f2', f3', f4'⟩ := hrw'.len
        replace f3' : zqs 3 w' = true := f3'
        rw [k1] at f1'
        obtain ⟨q, a, c, q', a', c', a1, a2, hxv⟩ := frRp.load (hrw'.mono (Sub.of_old om1)) (Sub.refl _) hxi
        have x0 := hxv.n0
        simp (disch := first | omega | (simp only [zqp, zqq]; omega)) [k1, k2, s1, s3, s4, gc1, q0, h1, h2, h3, b1', b2', f1', f2', f3', a1, a2, zqa, zqb, zqc, zqd, zqe, zqf, zqg, zqh, zqi, zqj, zqk, u64b, u32b, zql, zqm, zqn, zqo, -zqu, -isSl, -zqs, -zqt, -zqv, -zqr]
        refine (rsign_wp hxv (small_ok hxs)).mono fun r2 m2 hp2 => ?_
        obtain ⟨o2, rfl⟩ := hp2
        have om2 := om1.trans o2
        have hg := gb_above hxi
        have sz := sign_zero hxs x0
        by_cases k3 : 0 < x.n
        · simp (disch := first | omega | (simp only [zqp, zqq]; omega)) [sz, k3, zqa, zqb, zqc, zqd, zqe, zqf, zqg, zqh, zqi, zqj, zqk, u64b, u32b, zql, zqm, zqn, zqo, -zqu, -isSl, -zqs, -zqt, -zqv, -zqr]
          exact hF _ om2 (by rw [← hE]; simp [rowOk, hg, k3])
        · have hok : rowOk n i row = true := by simp [rowOk, k1, k2, hg, k3]
          rw [hok, Bool.true_and] at hE
          simp (disch := first | omega | (simp only [zqp, zqq]; omega)) [sz, k3, s4, w0, zqa, zqb, zqc, zqd, zqe, zqf, zqg, zqh, zqi, zqj, zqk, u64b, u32b, zql, zqm, zqn, zqo, -zqu, -isSl, -zqs, -zqt, -zqv, -zqr]
          exact hJ _ _ (ih (i + 1) m2 _ hd' (by omega) hE om2 (o2.some gc1) (by simp [s1]) (by simp [s3]) (by simp) hQ)
    · simp (disch := first | omega | (simp only [zqp, zqq]; omega)) [k1, zqa, zqb, zqc, zqd, zqe, zqf, zqg, zqh, zqi, zqj, zqk, u64b, u32b, zql, zqm, zqn, zqo, -zqu, -isSl, -zqs, -zqt, -zqv, -zqr]
      exact hF _ om1 (by rw [← hE]; simp [rowOk, k1])

set_option maxHeartbeats 8000000 in
theorem rvlaw_wp {m : Mem} {v : Value} {s e : List Fr} {rs : List (List Fr)} (h : LawV m v s rs e) (hs1 : s.length < 1000000) :
    WPCall Tryz.prog 10 [v] m fun r m' => Old m m' ∧ r = .bool (okLaw s rs e) := by
  rw [call10 (by simp)]
  have hL := h
  obtain ⟨nm, vs, vr, ve, rfl, hs, hr, he⟩ := h
  obtain ⟨a1, a2, _, _⟩ := hs.len
  obtain ⟨b1, b2, _, _⟩ := hr.len
  obtain ⟨p1, n1, z1, rfl⟩ := Rp.S.form hs
  obtain ⟨p2, n2, z2, rfl⟩ := Rp.S.form hr
  obtain ⟨p3, n3, z3, rfl⟩ := Rp.S.form he
  simp only [zqu] at a1 b1
  obtain rfl : n1 = s.length := by omega
  obtain rfl : n2 = rs.length := by omega
  obtain ⟨mm, hmm⟩ : ∃ mm, mm = (m.bump 2).put m.next (some ⟨[.string nm, .slice p1 s.length z1, .slice p2 rs.length z2, .slice p3 n3 z3], true⟩) := ⟨_, rfl⟩
  have om : Old m mm := by rw [hmm]; exact ((Old.refl m).bump 2).put (by omega)
  have hg : mm.get m.next = some ⟨[.string nm, .slice p1 s.length z1, .slice p2 rs.length z2, .slice p3 n3 z3], true⟩ := by rw [hmm, zql (by simp)]
  have nn := frRp.nonneg hs
  by_cases k1 : (s.length : Int) < 1
  · simp (disch := first | omega | (simp only [zqp, zqq]; omega)) [ir10_b, ir10_k1, ir10_k2, ir10_k3, ir10_k4, ir10_k5, ir10_k6, ir10_k7, ir10_k8, ir10_k9, ir10_k10, ir10_k11, ir10_k12, ir10_k13, ir10_k14, ir10_k15, k1, zqa, zqb, zqc, zqd, zqe, zqf, zqg, zqh, zqi, zqj, zqk, u64b, u32b, zql, zqm, zqn, zqo, -zqu, -isSl, -zqs, -zqt, -zqv, -zqr]
    rw [← hmm]
    exact ⟨om, by simp [okLaw]; omega⟩
  by_cases k2 : (s.length : Int) > 4
  · simp (disch := first | omega | (simp only [zqp, zqq]; omega)) [ir10_b, ir10_k1, ir10_k2, ir10_k3, ir10_k4, ir10_k5, ir10_k6, ir10_k7, ir10_k8, ir10_k9, ir10_k10, ir10_k11, ir10_k12, ir10_k13, ir10_k14, ir10_k15, k1, k2, zqa, zqb, zqc, zqd, zqe, zqf, zqg, zqh, zqi, zqj, zqk, u64b, u32b, zql, zqm, zqn, zqo, -zqu, -isSl, -zqs, -zqt, -zqv, -zqr]
    rw [← hmm]
    exact ⟨om, by simp [okLaw]; omega⟩
  have q1 : 1 ≤ s.length := by omega
  have q2 : s.length ≤ 4 := by omega
  simp (disch := first | omega | (simp only [zqp, zqq]; omega)) [ir10_b, ir10_k1, ir10_k2, ir10_k4, ir10_k6, ir10_k7, ir10_k8, ir10_k9, ir10_k10, ir10_k11, ir10_k12, ir10_k13, ir10_k14, ir10_k15, k1, k2, zqa, zqb, zqc, zqd, zqe, zqf, zqg, zqh, zqi, zqj, zqk, u64b, u32b, zql, zqm, zqn, zqo, -zqu, -isSl, -zqs, -zqt, -zqv, -zqr]
  rw [← hmm]
  refine (rsmalls_wp (hs.mono (Sub.of_old om)) hs1).mono fun r1 m1 hp1 => ?_
  obtain ⟨o1, rfl⟩ := hp1
  have g1 := o1.some hg
  have om1 := om.trans o1
  cases k5 : s.all Fr.small with
  | false =>
    simp (disch := first | omega | (simp only [zqp, zqq]; omega)) [k5, zqa, zqb, zqc, zqd, zqe, zqf, zqg, zqh, zqi, zqj, zqk, u64b, u32b, zql, zqm, zqn, zqo, -zqu, -isSl, -zqs, -zqt, -zqv, -zqr]
    exact ⟨om1, by simp [okLaw, k5]⟩
  | true =>
    simp (disch := first | omega | (simp only [zqp, zqq]; omega)) [k5, g1, zqa, zqb, zqc, zqd, zqe, zqf, zqg, zqh, zqi, zqj, zqk, u64b, u32b, zql, zqm, zqn, zqo, -zqu, -isSl, -zqs, -zqt, -zqv, -zqr]
    refine (rsmalls_wp (he.mono (Sub.of_old om1)) hs1).mono fun r2 m2 hp2 => ?_
    obtain ⟨o2, rfl⟩ := hp2
    have g2 := o2.some g1
    have om2 := om1.trans o2
    by_cases k3 : e.length = s.length
    · cases k6 : e.all Fr.small with
      | false =>
        simp (disch := first | omega | (simp only [zqp, zqq]; omega)) [k3, k6, zqa, zqb, zqc, zqd, zqe, zqf, zqg, zqh, zqi, zqj, zqk, u64b, u32b, zql, zqm, zqn, zqo, -zqu, -isSl, -zqs, -zqt, -zqv, -zqr]
        exact ⟨om2, by simp [okLaw, k5, k6]⟩
      | true =>
        by_cases k4 : (rs.length : Int) = s.length
        · have q4 : rs.length = s.length := by omega
          simp (disch := first | omega | (simp only [zqp, zqq]; omega)) [k3, k6, k4, g2, ir10_k3, ir10_k1, ir10_k2, ir10_k4, ir10_k6, ir10_k7, ir10_k8, ir10_k9, ir10_k10, ir10_k11, ir10_k12, ir10_k13, ir10_k14, ir10_k15, zqa, zqb, zqc, zqd, zqe, zqf, zqg, zqh, zqi, zqj, zqk, u64b, u32b, zql, zqm, zqn, zqo, -zqu, -isSl, -zqs, -zqt, -zqv, -zqr]
          refine rvlaw_loop (m := m) (n := s.length) (nm := nm) (cb := m.next) hr q4 hs1 (Nat.le_refl _) (Φ := fun r m' => Old m m' ∧ r = .bool (okLaw s rs e)) (fun m' o hf => ⟨o, by simp [okLaw, hf]⟩) rs 0 m2 _ rfl (by omega) rfl om2 g2 (by simp) (by simp) (by simp) fun σ' m3 hrows o3 g3 s1 s3 => ?_
          have hrl : ∀ (i : Nat) (row : List Fr), rs[i]? = some row → row.length = s.length ∧ row.all Fr.small = true := fun i row hx => by
            have := rowsOk_get hrows hx
            simp only [rowOk, Bool.and_eq_true, decide_eq_true_eq] at this
            exact ⟨this.1, this.2.1⟩
          have hok : okLaw s rs e = (decide ((sumE .nil s).1 = 0) && decide (ordF (sumE .nil s).2 .one = 0) && endsB (aboves e) (rs.map aboves) s.length) := by
            simp [okLaw, q1, q2, k3, q4, k5, k6, hrows]
          rw [hok]
          have hl3 := get_lt g3
          simp (disch := first | omega | (simp only [zqp, zqq]; omega)) [ir10_k5, ir10_k1, ir10_k2, ir10_k3, ir10_k4, ir10_k7, ir10_k8, ir10_k9, ir10_k10, ir10_k11, ir10_k12, ir10_k13, ir10_k14, ir10_k15, s1, s3, g3, zqa, zqb, zqc, zqd, zqe, zqf, zqg, zqh, zqi, zqj, zqk, u64b, u32b, zql, zqm, zqn, zqo, -zqu, -isSl, -zqs, -zqt, -zqv, -zqr]
          have ob := fun k => (Old.refl m3).bump k
          refine (rfsum_wp ((hs.mono (Sub.of_old o3)).mono (Sub.of_old (ob _))) hs1).mono fun r4 m4 hp4 => ?_
          obtain ⟨o4, q, rfl, hq⟩ := hp4
          obtain ⟨E, hE⟩ : ∃ E, E = (sumE .nil s).1 := ⟨_, rfl⟩
          obtain ⟨Q, hQ⟩ : ∃ Q, Q = (sumE .nil s).2 := ⟨_, rfl⟩
          rw [← hE, ← hQ]
          rw [← hQ] at hq
          obtain ⟨u1, u2, u3, u4, u5, u6, rfl⟩ := hq.form
          have hn4 := o4.next
          simp only [zqq] at hn4
          have hfr : m4.get (m3.next + 6) = none := o4.none (by simp) (get_none_bump' 9 6)
          have om4 := (o3.bump 9).trans o4
          have gc4 := ((ob 9).trans o4).some g3
          have hlt6 : m3.next + 6 < m4.next := by omega
          have hn3 := o3.next
          simp (disch := first | omega | (simp only [zqp, zqq]; omega)) [s1, s3, zqa, zqb, zqc, zqd, zqe, zqf, zqg, zqh, zqi, zqj, zqk, u64b, u32b, zql, zqm, zqn, zqo, -zqu, -isSl, -zqs, -zqt, -zqv, -zqr]
          obtain ⟨M4, hM4⟩ : ∃ M4, M4 = m4.put (m3.next + 6) (some ⟨[.bool Q.neg, .slice u1 u2 u3, .slice u4 u5 u6], true⟩) := ⟨_, rfl⟩
          rw [← hM4]
          have oM4 : Old m M4 := by rw [hM4]; exact om4.put (by omega)
          have gq : M4.get (m3.next + 6) = some ⟨[.bool Q.neg, .slice u1 u2 u3, .slice u4 u5 u6], true⟩ := by rw [hM4, zql hlt6]
          have gc : M4.get m.next = some ⟨[.string nm, .slice p1 s.length z1, .slice p2 rs.length z2, .slice p3 n3 z3], true⟩ := by rw [hM4, zqm (by have := get_lt g3; omega)]; exact gc4
          have hq4 : Cf M4 (.agg #[.bool Q.neg, .slice u1 u2 u3, .slice u4 u5 u6]) Q := by rw [hM4]; exact hq.sub (Sub.put hfr)
          have hltq := get_lt gq
          by_cases hE0 : E = 0
          · have hQk := sumE_ok s nil_ok (by decide) nn (by rw [← hE]; exact hE0)
            rw [← hQ] at hQk
            simp (disch := first | omega | (simp only [zqp, zqq]; omega)) [ir10_k6, ir10_k1, ir10_k2, ir10_k3, ir10_k4, ir10_k5, ir10_k8, ir10_k9, ir10_k10, ir10_k11, ir10_k12, ir10_k13, ir10_k14, ir10_k15, hE0, gq, zqa, zqb, zqc, zqd, zqe, zqf, zqg, zqh, zqi, zqj, zqk, u64b, u32b, zql, zqm, zqn, zqo, -zqu, -isSl, -zqs, -zqt, -zqv, -zqr]
            refine (rint_wp (n := 1) (by omega) (by omega)).mono fun r5 m5 hp5 => ?_
            obtain ⟨o5, hq5⟩ := hp5
            rw [intF_one] at hq5
            refine callK_mk o5 (fun p hp b hb => by simp at hp; rcases hp with rfl; simp [blkOf] at hb; omega) ?_
            simp (disch := first | omega | (simp only [zqp, zqq]; omega)) [zqa, zqb, zqc, zqd, zqe, zqf, zqg, zqh, zqi, zqj, zqk, u64b, u32b, zql, zqm, zqn, zqo, -zqu, -isSl, -zqs, -zqt, -zqv, -zqr]
            refine (rsame_wp ((hq4.vf' hQk.1 hQk.2).mono o5) (hq5.vf' one_ok (by decide)) hQk.1 one_ok).mono fun r6 m6 hp6 => ?_
            obtain ⟨o6, rfl⟩ := hp6
            have oM6 := (oM4.trans o5).trans o6
            have gc6 := (o5.trans o6).some gc
            by_cases k7 : ordF Q .one = 0
            · have l1 : ((s.length : Nat) : Int) * 1 ≤ 140737488355328 := by omega
              have l2 : (s.length : Int) ≤ 140737488355328 := by omega
              have l3 : (s.length : Int) ≤ 9223372036854775807 := by omega
              have hlt6' := get_lt gc6
              simp (disch := first | omega | (simp only [zqp, zqq]; omega)) [k7, s1, s3, ir10_k7, ir10_k1, ir10_k2, ir10_k3, ir10_k4, ir10_k5, ir10_k6, ir10_k8, ir10_k9, ir10_k10, ir10_k11, ir10_k12, ir10_k14, ir10_k15, l1, l2, l3, zqa, zqb, zqc, zqd, zqe, zqf, zqg, zqh, zqi, zqj, zqk, u64b, u32b, zql, zqm, zqn, zqo, -zqu, -isSl, -zqs, -zqt, -zqv, -zqr]
              refine rends_rounds (m := m) (nm := nm) (n := s.length) (rb := m6.next + 1) (cb := m.next) hr he q4 k3 hrl k6 hs1 (by have := oM6.next; omega) (Nat.le_refl _) (by have := oM6.next; omega) s.length 0 _ _ (by omega) ((oM6.bump 3).put (by have := oM6.next; omega)) (by rw [zql (by simp)]; simp [iterB]) (by rw [zqm (by omega), zqn hlt6']; exact gc6) (by simp [s1]) (by simp [s3]) (by simp) (by simp) fun σ8 m8 o8 g8 t3 t7 => ?_
              simp (disch := first | omega | (simp only [zqp, zqq]; omega)) [t3, t7, ir10_k13, ir10_k1, ir10_k2, ir10_k3, ir10_k4, ir10_k5, ir10_k6, ir10_k7, ir10_k8, ir10_k9, ir10_k10, ir10_k11, ir10_k12, ir10_k14, zqa, zqb, zqc, zqd, zqe, zqf, zqg, zqh, zqi, zqj, zqk, u64b, u32b, zql, zqm, zqn, zqo, -zqu, -isSl, -zqs, -zqt, -zqv, -zqr]
              exact rallb_loop (iter_len _) hs1 g8 _ 0 _ rfl (by simp [iter_len]) (by simp [t3]) (by simp [t7]) (by simp) ⟨o8, by simp [hE0, k7, endsB]⟩
            · simp (disch := first | omega | (simp only [zqp, zqq]; omega)) [k7, zqa, zqb, zqc, zqd, zqe, zqf, zqg, zqh, zqi, zqj, zqk, u64b, u32b, zql, zqm, zqn, zqo, -zqu, -isSl, -zqs, -zqt, -zqv, -zqr]
              exact oM6
          · simp (disch := first | omega | (simp only [zqp, zqq]; omega)) [ir10_k6, ir10_k1, ir10_k2, ir10_k3, ir10_k4, ir10_k5, ir10_k8, ir10_k9, ir10_k10, ir10_k11, ir10_k12, ir10_k13, ir10_k14, ir10_k15, hE0, zqa, zqb, zqc, zqd, zqe, zqf, zqg, zqh, zqi, zqj, zqk, u64b, u32b, zql, zqm, zqn, zqo, -zqu, -isSl, -zqs, -zqt, -zqv, -zqr]
            exact oM4
        · have q4 : ¬ rs.length = s.length := by omega
          simp (disch := first | omega | (simp only [zqp, zqq]; omega)) [k3, k6, k4, g2, zqa, zqb, zqc, zqd, zqe, zqf, zqg, zqh, zqi, zqj, zqk, u64b, u32b, zql, zqm, zqn, zqo, -zqu, -isSl, -zqs, -zqt, -zqv, -zqr]
          exact ⟨om2, by simp [okLaw, q4]⟩
    · simp (disch := first | omega | (simp only [zqp, zqq]; omega)) [k3, zqa, zqb, zqc, zqd, zqe, zqf, zqg, zqh, zqi, zqj, zqk, u64b, u32b, zql, zqm, zqn, zqo, -zqu, -isSl, -zqs, -zqt, -zqv, -zqr]
      exact ⟨om2, by simp [okLaw, k3]⟩
end Go.Proofs.YtkpifdkccdndcaaGreat
