/-
  'divide' of the reference: its outer loop.
  'divide', 'Div', 'Gcd' of the reference.
  'Div', 'Gcd' of the reference.
-/
import Derived.Test.YtkpifdkccdndcaaGreatNtZR
namespace Go.Proofs.YtkpifdkccdndcaaGreat
open Go Go.DI Go.Big
set_option linter.unusedSimpArgs false
set_option linter.unusedVariables false

theorem Old.ofX' {xb : Nat} {m00 m m' : Mem} (h : Old m00 m) (hx : OldX xb m m') (hu : m00.next ≤ xb) : Old m00 m' := Old.ofX h hx hu
set_option maxHeartbeats 8000000 in
theorem rdiv_loop {m00 : Mem} {y : Value} {vl T : List Int} {xb qb n N K : Nat} {A V top : Int} (hn : vl.length = n) (hn2 : 2 ≤ n) (hV : val vl = V) (hcv : Go.Big.Can vl) (hN : N < 200000) (htop : top = gd vl (n - 1)) (hxq : xb ≠ qb) (hx0 : m00.next ≤ xb) (hq0 : m00.next ≤ qb) (hbx : blkOf y ≠ some xb) (hbq : blkOf y ≠ some qb)
    {v10 : Value} {Q : IExit → Slots → Mem → Prop} : ∀ (j : Nat) (u ql : List Int) (m : Mem) (σ : Slots), j ≤ K → Old m00 m → m.get xb = some ⟨(u ++ T).map U, true⟩ → m.get qb = some ⟨ql.map U, true⟩ → Sl m y vl → LD A V n u ql j → ql.length = K → u.length = N →
    σ 10 = v10 → σ 11 = .slice (some ⟨xb, 0, none⟩) N 1 → σ 12 = y → σ 13 = L top → σ 14 = .slice (some ⟨qb, 0, none⟩) K 1 → σ 15 = I ((j : Int) - 1) →
    (∀ σ' m' u ql, Old m00 m' → m'.get xb = some ⟨(u ++ T).map U, true⟩ → m'.get qb = some ⟨ql.map U, true⟩ → LD A V n u ql 0 → ql.length = K → u.length = N → σ' 10 = v10 → σ' 11 = .slice (some ⟨xb, 0, none⟩) N 1 → σ' 14 = .slice (some ⟨qb, 0, none⟩) K 1 → Q (.exit 2) σ' m') →
    WP Tryz.prog (.loop ir165_l3) σ m Q
  | 0, u, ql, m, σ, hjK, ho, hgx, hgq, hy, hL, hqK, huN, s10, s11, s12, s13, s14, s15, hQ => by
    refine wp_round fun J hJ => ?_
    simp (disch := first | omega | (simp only [zqp, zqq]; omega)) [ir165_l3, ir165_k1, ir165_k2, ir165_k3, ir165_k4, ir165_k5, ir165_k6, ir165_k7, ir165_k8, ir165_k9, ir165_k10, ir165_k11, ir165_k12, ir165_k13, ir165_k14, ir165_k15, ir165_k16, ir165_k17, ir165_k18, ir165_k19, ir165_k20, ir165_k21, ir165_k22, s10, s11, s12, s13, s14, s15, zqa, zqb, zqc, zqd, zqe, zqf, zqg, zqh, zqi, zqj, zqk, u64b, u32b, zql, zqm, zqn, zqo, -zqu, -isSl, -zqs, -zqt, -zqv, -zqr]
    exact hQ _ _ u ql ho hgx hgq hL hqK huN (by simp [s10]) (by simp [s11]) (by simp [s14])
  | j + 1, u, ql, m, σ, hjK, ho, hgx, hgq, hy, hL, hqK, huN, s10, s11, s12, s13, s14, s15, hQ => by
    refine wp_round fun J hJ => ?_
    have hlen := hL.len
    obtain ⟨h1', h2', h3', h4'⟩ := hy.len
    rw [hn] at h1' h4'
    have hltx := get_lt hgx
    have hltq := get_lt hgq
    have hnx := ho.next
    -- the numbers
    have hVb := val_bd hcv.1
    rw [hV, hn] at hVb
    have hVp : 0 < V := by
      have := hcv.pos (fun h => by rw [h] at hn; simp at hn; omega)
      omega
    have hgt := gd_bd hcv.1 (n - 1)
    have htop1 : 1 ≤ top := by
      have := hcv.top (n := n - 1) (x := gd vl (n - 1)) (by omega) (by rw [gd_some (List.getElem?_eq_getElem (by omega)), List.getElem?_eq_getElem (by omega)])
      omega
    have hund := hL.under
    obtain ⟨W, hW⟩ : ∃ W, W = val ((u.drop j).take (n + 1)) := ⟨_, rfl⟩
    rw [← hW] at hund
    obtain ⟨t1, ht1⟩ : ∃ t1, t1 = gd u (j + n) := ⟨_, rfl⟩
    obtain ⟨t0, ht0⟩ : ∃ t0, t0 = gd u (j + n - 1) := ⟨_, rfl⟩
    have b1 := gd_bd hL.okU (j + n)
    have b0 := gd_bd hL.okU (j + n - 1)
    rw [← ht1] at b1
    rw [← ht0] at b0
    obtain ⟨t, ht⟩ : ∃ t, t = t1 * 4294967296 + t0 := ⟨_, rfl⟩
    have hlD : ((u.drop j).take (n + 1)).length = (n - 1) + 2 := by simp; omega
    have hWt : W = t * pw (n - 1) + val (((u.drop j).take (n + 1)).take (n - 1)) := by
      rw [hW, top2 hlD, gd_take (by omega), gd_take (by omega), gd_drop, gd_drop, show j + (n - 1 + 1) = j + n by omega, show j + (n - 1) = j + n - 1 by omega, ← ht1, ← ht0, ht]
    have hokD : OkL ((u.drop j).take (n + 1)) := (hL.okU.drop j).take _
    have hlo := val_bd (hokD.take (n - 1))
    rw [List.length_take, hlD, Nat.min_eq_left (by omega)] at hlo
    have hVt := top1 (l := vl) (n := n - 1) (by omega)
    rw [hV, ← htop] at hVt
    have hvl := val_bd (hcv.1.take (n - 1))
    have hpn := pw_pos (n - 1)
    have qs0 : 0 ≤ W / V := Int.ediv_nonneg hund.1 (by omega)
    have qs1 : W / V * V ≤ W := by have := Int.ediv_mul_le W (show V ≠ 0 by omega); omega
    have qs2 : W < (W / V + 1) * V := by have := Int.lt_ediv_add_one_mul_self W hVp; exact this
    have qs3 : W / V ≤ t / top := guess_up hpn hWt hlo.2 hVt hvl.1 (by omega) qs0 qs1
    have qs4 : W / V < 4294967296 := Int.ediv_lt_of_lt_mul hVp (by rw [Int.mul_comm]; exact hund.2)
    have tt : 0 ≤ t := by omega
    have tt2 : t < 18446744073709551616 := by omega
    have td0 : 0 ≤ t / top := Int.ediv_nonneg tt (by omega)
    have td1 : t / top ≤ t := Int.ediv_le_self _ tt
    -- the walk
    obtain ⟨e, he⟩ : ∃ e, e = j + n + 1 := ⟨_, rfl⟩
    obtain ⟨en, hen⟩ : ∃ en, en = j + n := ⟨_, rfl⟩
    obtain ⟨em, hem⟩ : ∃ em, em = j + n - 1 := ⟨_, rfl⟩
    have x0 : IntKind.i64.wrap ((j : Int) + (n : Int)) = (en : Int) := by rw [i64_id (by omega) (by omega)]; omega
    have x1 : IntKind.i64.wrap ((en : Int) + 1) = (e : Int) := by rw [i64_id (by omega) (by omega)]; omega
    have x2 : IntKind.i64.wrap ((en : Int) - 1) = (em : Int) := by rw [i64_id (by omega) (by omega)]; omega
    have x3 : IntKind.i64.wrap ((j : Int) - 1) = (j : Int) - 1 := i64_id (by omega) (by omega)
    have uT : (u ++ T).length = u.length + T.length := by simp
    have y0 : (en : Int) < N := by omega
    have y1 : (em : Int) < N := by omega
    have y2 : en + 1 ≤ (u ++ T).length := by omega
    have y3 : em + 1 ≤ (u ++ T).length := by omega
    have z1 : (u ++ T)[en]? = some t1 := by rw [List.getElem?_append_left (by omega), List.getElem?_eq_getElem (by omega), ht1, ← hen, gd_some (List.getElem?_eq_getElem (by omega))]
    have z0 : (u ++ T)[em]? = some t0 := by rw [List.getElem?_append_left (by omega), List.getElem?_eq_getElem (by omega), ht0, ← hem, gd_some (List.getElem?_eq_getElem (by omega))]
    obtain ⟨hl1, hy1⟩ := List.getElem?_eq_some_iff.1 z1
    obtain ⟨hl0, hy0⟩ := List.getElem?_eq_some_iff.1 z0
    have w1 : IntKind.u64.wrap t1 = t1 := u64_id (by omega) (by omega)
    have w0 : IntKind.u64.wrap t0 = t0 := u64_id (by omega) (by omega)
    have w2 : IntKind.u64.wrap (t1 * 4294967296) = t1 * 4294967296 := u64_id (by omega) (by omega)
    have w3 : IntKind.u64.wrap ↑((t1 * 4294967296 % 2 ^ IntKind.u64.bits).toNat ||| (t0 % 2 ^ IntKind.u64.bits).toNat) = t := by rw [or_shl (s := 32) (by decide) b1.1 b0.1 b0.2 (by omega), ht]
    have w4 : IntKind.u64.wrap (t.tdiv top) = t / top := by rw [Int.tdiv_eq_ediv_of_nonneg tt]; exact u64_id td0 (by omega)
    have w5 : ¬ top = 0 := by omega
    obtain ⟨F', hF'⟩ : ∃ F', F' = u ++ T := ⟨_, rfl⟩
    rw [← hF'] at z1 z0 y2 y3 hgx
    have hlF : F'.length = u.length + T.length := by rw [hF']; exact uT
    obtain ⟨hl1, hy1⟩ := List.getElem?_eq_some_iff.1 z1
    obtain ⟨hl0, hy0⟩ := List.getElem?_eq_some_iff.1 z0
    have y4 : en + 1 ≤ u.length + T.length := by omega
    have y5 : em + 1 ≤ u.length + T.length := by omega
    -- the rest of the round, for a first guess
    have rest : ∀ (g : Int) (σ1 : Slots) {Q1 : IExit → Slots → Mem → Prop}, 0 ≤ g → g < 4294967296 → W / V ≤ g → σ1 10 = v10 → σ1 11 = .slice (some ⟨xb, 0, none⟩) N 1 → σ1 12 = y → σ1 13 = L top → σ1 14 = .slice (some ⟨qb, 0, none⟩) K 1 → σ1 15 = I j → σ1 17 = L g →
        (∀ σ' m' g, 0 ≤ g → g < 4294967296 → W < (g + 1) * V → g * V ≤ W → Old m m' → σ' 10 = v10 → σ' 11 = .slice (some ⟨xb, 0, none⟩) N 1 → σ' 12 = y → σ' 13 = L top → σ' 14 = .slice (some ⟨qb, 0, none⟩) K 1 → σ' 15 = I j → σ' 17 = L g → Q1 (.exit 4) σ' m') → WP Tryz.prog (.loop ir165_l1) σ1 m Q1 := by
      intro g σ1 Q1 g0 g1 hg r10 r11 r12 r13 r14 r15 r17 hQ1
      have hxs : Sl m (.slice (some ⟨xb, 0, none⟩) N 1) u := by
        refine ⟨hL.okU, .inr ⟨xb, 0, _, true, by rw [huN], hgx, ?_, by simp; omega⟩⟩
        rw [hF', List.drop_zero, List.map_append, List.take_left' (by simp)]
      have hgV : W < (g + 1) * V := by
        have : (W / V + 1) * V ≤ (g + 1) * V := Int.mul_le_mul_of_nonneg_right (by omega) (by omega)
        omega
      exact rguess_loop (n := n) (N := N) (j := j) hxs hy hV hn huN (by omega) (by omega) hVp hW g.toNat g m σ1 (by omega) g0 g1 hgV (Old.refl m) r10 r11 r12 r13 r14 r15 r17 hQ1
    obtain ⟨x, hx⟩ : ∃ x, x = Value.slice (some ⟨xb, 0, none⟩) N 1 := ⟨_, rfl⟩
    have hVg0 : ∀ g : Int, 0 ≤ g → 0 ≤ V * g := fun g h => Int.mul_nonneg (by omega) h
    obtain ⟨D, hD⟩ : ∃ D, D = (u.drop j).take (n + 1) := ⟨_, rfl⟩
    rw [← hD] at hW hokD
    have hDl : D.length = n + 1 := by rw [hD, hlD]; omega
    have eD : ((u.take e).drop j).map U = D.map U := by rw [hD, List.drop_take]; congr 2; omega
    have eD2 : List.drop j (List.take e (List.map U u)) = D.map U := by rw [← eD, List.map_drop, List.map_take]
    have q1 : (j : Int) ≤ e := by omega
    have q2 : (e : Int) ≤ N := by omega
    have kc : t / top > 4294967295 ∨ ¬ t / top > 4294967295 := by omega
    rcases kc with k | k
    · simp (disch := first | omega | (simp only [zqp, zqq]; omega)) [ir165_l3, ir165_k1, ir165_k2, ir165_k3, ir165_k4, ir165_k5, ir165_k6, ir165_k7, ir165_k8, ir165_k9, ir165_k10, ir165_k11, ir165_k12, ir165_k13, ir165_k14, ir165_k15, ir165_k16, ir165_k17, ir165_k18, ir165_k19, ir165_k20, ir165_k21, ir165_k22, s10, s11, s12, s13, s14, s15, h1', h2', x0, x1, x2, y0, y1, y2, y3, z1, z0, hy1, hy0, hl1, hl0, hlF, y4, y5, w0, w1, w2, w3, w4, w5, k, hgx, head_td, zqa, zqb, zqc, zqd, zqe, zqf, zqg, zqh, zqi, zqj, zqk, u64b, u32b, zql, zqm, zqn, zqo, -zqu, -isSl, -zqs, -zqt, -zqv, -zqr]
      refine rest 4294967295 _ (by omega) (by omega) (by omega) (by simp [s10]) (by simp [s11]) (by simp [s12]) (by simp [s13]) (by simp [s14]) (by simp [s15]) (by simp) fun σ' m1 g g0 g1 gW gV ho1 p10 p11 p12 p13 p14 p15 p17 => ?_
      rw [← hx] at p11
      have hgx1 := ho1.some hgx
      have hxs1 : Sl m1 x u := by
        rw [hx]
        refine ⟨hL.okU, .inr ⟨xb, 0, _, true, by rw [huN], hgx1, ?_, by simp; omega⟩⟩
        rw [hF', List.drop_zero, List.map_append, List.take_left' (by simp)]
      have hnx1 := ho1.next
      have hxs1b := fun k => hxs1.mono ((Old.refl m1).bump k)
      obtain ⟨f1, f2, f3, f4⟩ := hxs1.len
      rw [huN] at f1 f4
      have hsub := (hxs1b 15).sub (k := j) (n := e) (by omega) (by omega)
      obtain ⟨c1, c2⟩ := hsub.cells
      have c3 := hsub.len.2.2.2
      rw [eD] at c2
      have hl : ((u.take e).drop j).length = n + 1 := by simp; omega
      rw [hl] at c3
      have lim : ((n : Int) + 1) * 4 ≤ 140737488355328 := by omega
      have lim2 : (n + 1) * 4 ≤ 140737488355328 := by omega
      have lim3 : n + 1 ≤ 9223372036854775807 := by omega
      obtain ⟨i1, i2, i3, i4⟩ := (hy.mono ho1).len
      rw [hn] at i1 i4
      simp (disch := first | omega | (simp only [zqp, zqq]; omega)) [p10, p11, p12, p13, p14, p15, p17, f1, f2, f3, i1, i2, x0, x1, q1, q2, c1, c2, c3, lim, lim2, lim3, zqa, zqb, zqc, zqd, zqe, zqf, zqg, zqh, zqi, zqj, zqk, u64b, u32b, zql, zqm, zqn, zqo, -zqu, -isSl, -zqs, -zqt, -zqv, -zqr]
      obtain ⟨m2, hm2⟩ : ∃ m2, m2 = (m1.bump 15).put (m1.next + 8) (some ⟨D.map U, true⟩) := ⟨_, rfl⟩
      rw [← hm2]
      have o2 : Old m1 m2 := by rw [hm2]; exact ((Old.refl m1).bump 15).put (by omega)
      have hcp : Sl m2 (.slice (some ⟨m1.next + 8, 0, none⟩) (n + 1) 1) D := by rw [hm2]; exact Sl.mk' hokD (zql (by simp)) hDl.symm
      have hbc : blkOf (.slice (some ⟨m1.next + 8, 0, none⟩) (n + 1) 1) ≠ some xb := by simp [blkOf]; omega
      have hxm2 : xb < m2.next := by have := o2.next; omega
      refine (frame_old (Ψ := fun r p' => Sl p' r (digs g)) (Part.less m2 xb) (rmake_wp g0 (by omega))).mono fun r1 m3 hp3 => ?_
      obtain ⟨o3, p3, pt3, op3, hs3, nn3⟩ := hp3
      have n3 := nn3 xb hxm2 less_get
      simp (disch := first | omega | (simp only [zqp, zqq]; omega)) [zqa, zqb, zqc, zqd, zqe, zqf, zqg, zqh, zqi, zqj, zqk, u64b, u32b, zql, zqm, zqn, zqo, -zqu, -isSl, -zqs, -zqt, -zqv, -zqr]
      have lg : (digs g).length ≤ 1 := digs_le g0 (by simp only [pw]; omega)
      have hy3 : Sl p3 y vl := (((hy.mono ho1).mono o2).less hbx).mono op3
      refine (frame_old (Ψ := fun r p' => Sl p' r (digs (V * g))) pt3 (by have := rtimes_wp hy3 hs3 (by omega) (by omega); rw [hV, val_digs g0] at this; exact this)).mono fun r2 m4 hp4 => ?_
      obtain ⟨o4, p4, pt4, op4, hs4, nn4⟩ := hp4
      have n4 := nn4 xb (by have := o3.next; omega) n3
      simp (disch := first | omega | (simp only [zqp, zqq]; omega)) [zqa, zqb, zqc, zqd, zqe, zqf, zqg, zqh, zqi, zqj, zqk, u64b, u32b, zql, zqm, zqn, zqo, -zqu, -isSl, -zqs, -zqt, -zqv, -zqr]
      have lvg : (digs (V * g)).length ≤ n + 1 := digs_le (hVg0 g g0) (mul_pw (i := n) (j := 1) (by omega) g0 hVb.2 (by simp only [pw]; omega))
      refine (frame_old (Ψ := fun r p' => Sl p' r (digs (W - V * g))) pt4 (by
        have := minus_wp (((hcp.less hbc).mono op3).mono op4) hs4 (by omega) (by omega) (by rw [val_digs (hVg0 g g0), ← hW, Int.mul_comm]; exact gV)
        rw [val_digs (hVg0 g g0), ← hW] at this; exact this)).mono fun r3 m5 hp5 => ?_
      obtain ⟨o5, p5, pt5, op5, hs5, nn5⟩ := hp5
      have n5 := nn5 xb (by have := o3.next; have := o4.next; omega) n4
      have oo : Old m m5 := (((ho1.trans o2).trans o3).trans o4).trans o5
      have hgx5 := oo.some hgx
      have gVc : g * V = V * g := Int.mul_comm _ _
      have R0 : 0 ≤ W - V * g := by omega
      have hgV1 : (g + 1) * V = V * g + V := by rw [Int.add_mul, Int.one_mul, gVc]
      have RV : W - V * g < V := by omega
      have lR : (digs (W - V * g)).length ≤ n + 1 := by have := digs_le (k := n) R0 (by omega); omega
      obtain ⟨Wl, hWl⟩ : ∃ Wl, Wl = digs (W - V * g) ++ List.replicate (n + 1 - (digs (W - V * g)).length) 0 := ⟨_, rfl⟩
      have lWl : Wl.length = n + 1 := by rw [hWl]; simp; omega
      simp (disch := first | omega | (simp only [zqp, zqq]; omega)) [p10, p11, p12, p13, p14, p15, p17, zqa, zqb, zqc, zqd, zqe, zqf, zqg, zqh, zqi, zqj, zqk, u64b, u32b, zql, zqm, zqn, zqo, -zqu, -isSl, -zqs, -zqt, -zqv, -zqr]
      have hgx6 : m5.get xb = some ⟨((u.take j ++ Wl.take 0 ++ u.drop (j + 0)) ++ T).map U, true⟩ := by rw [hgx5, hF']; simp [List.take_append_drop]
      refine rcopy_loop (m1 := m5) (v10 := v10) (v13 := L top) (v14 := .slice (some ⟨qb, 0, none⟩) K 1) (v17 := L g) (F := u) (T := T) (xb := xb) (n := n) (N := N) (j := j) (vl := vl) (hy.mono oo) hbx (hs5.sub' pt5.sub) (hs5.blk n5) hn huN (by omega) (by omega) hWl lR (n + 1) 0 m5 _ (by omega) (OldX.refl _ _) hgx6 (by simp [p10]) (by simp [p11, hx]) (by simp [p12]) (by simp [p13]) (by simp [p14]) (by simp [p15]) (by simp [p17]) (by simp) (by simp) fun σ6 m6 ox6 hg6 t10 t11 t12 t13 t14 t15 t17 => ?_
      have hgq5 := oo.some hgq
      have hgq6 : m6.get qb = some ⟨ql.map U, true⟩ := by rw [ox6.get qb (get_lt hgq5) (by omega), hgq5]
      have hltq6 := get_lt hgq6
      have v1 : IntKind.u32.wrap g = g := by rw [u32_wrap]; omega
      have v2 : (j : Int) < K := by omega
      have v3 : j + 1 ≤ ql.length := by omega
      have v4 : j < ql.length := by omega
      simp (disch := first | omega | (simp only [zqp, zqq]; omega)) [t10, t11, t12, t13, t14, t15, t17, x3, v1, v2, v3, v4, hgq6, zqa, zqb, zqc, zqd, zqe, zqf, zqg, zqh, zqi, zqj, zqk, u64b, u32b, zql, zqm, zqn, zqo, -zqu, -isSl, -zqs, -zqt, -zqv, -zqr]
      have hst := hL.step (w := Wl) (g := g) (by omega) lWl (by rw [hWl]; exact (can_digs _).1.app (OkL.zeros _)) ⟨g0, g1⟩ (by rw [hWl, val_pad, val_digs R0, ← hD, ← hW, gVc]) (by rw [hWl, val_pad, val_digs R0]; exact RV) (by omega)
      have hul : (u.take j ++ Wl ++ u.drop (j + n + 1)).length = N := by simp; omega
      refine hJ _ _ (rdiv_loop hn hn2 hV hcv hN htop hxq hx0 hq0 hbx hbq j (u.take j ++ Wl ++ u.drop (j + n + 1)) (ql.set j g) _ _ (by omega) ((Old.ofX (ho.trans oo) ox6 hx0).put hq0) (by rw [zqm hxq, hg6]) (by rw [zql hltq6, set_map]) ((((hy.mono oo).monoX hbx ox6)).monoX hbq (OldX.put (OldX.refl qb m6))) hst (by simp [hqK]) hul (by simp [t10]) (by simp [t11]) (by simp [t12]) (by simp [t13]) (by simp [t14]) (by simp) hQ)
    · simp (disch := first | omega | (simp only [zqp, zqq]; omega)) [ir165_l3, ir165_k1, ir165_k2, ir165_k3, ir165_k4, ir165_k5, ir165_k6, ir165_k7, ir165_k8, ir165_k9, ir165_k10, ir165_k11, ir165_k12, ir165_k13, ir165_k14, ir165_k15, ir165_k16, ir165_k17, ir165_k18, ir165_k19, ir165_k20, ir165_k21, ir165_k22, s10, s11, s12, s13, s14, s15, h1', h2', x0, x1, x2, y0, y1, y2, y3, z1, z0, hy1, hy0, hl1, hl0, hlF, y4, y5, w0, w1, w2, w3, w4, w5, k, hgx, head_td, zqa, zqb, zqc, zqd, zqe, zqf, zqg, zqh, zqi, zqj, zqk, u64b, u32b, zql, zqm, zqn, zqo, -zqu, -isSl, -zqs, -zqt, -zqv, -zqr]
      refine rest (t / top) _ (by omega) (by omega) (by omega) (by simp [s10]) (by simp [s11]) (by simp [s12]) (by simp [s13]) (by simp [s14]) (by simp [s15]) (by simp) fun σ' m1 g g0 g1 gW gV ho1 p10 p11 p12 p13 p14 p15 p17 => ?_
      rw [← hx] at p11
      have hgx1 := ho1.some hgx
      have hxs1 : Sl m1 x u := by
        rw [hx]
        refine ⟨hL.okU, .inr ⟨xb, 0, _, true, by rw [huN], hgx1, ?_, by simp; omega⟩⟩
        rw [hF', List.drop_zero, List.map_append, List.take_left' (by simp)]
      have hnx1 := ho1.next
      have hxs1b := fun k => hxs1.mono ((Old.refl m1).bump k)
      obtain ⟨f1, f2, f3, f4⟩ := hxs1.len
      rw [huN] at f1 f4
      have hsub := (hxs1b 15).sub (k := j) (n := e) (by omega) (by omega)
      obtain ⟨c1, c2⟩ := hsub.cells
      have c3 := hsub.len.2.2.2
      rw [eD] at c2
      have hl : ((u.take e).drop j).length = n + 1 := by simp; omega
      rw [hl] at c3
      have lim : ((n : Int) + 1) * 4 ≤ 140737488355328 := by omega
      have lim2 : (n + 1) * 4 ≤ 140737488355328 := by omega
      have lim3 : n + 1 ≤ 9223372036854775807 := by omega
      obtain ⟨i1, i2, i3, i4⟩ := (hy.mono ho1).len
      rw [hn] at i1 i4
      simp (disch := first | omega | (simp only [zqp, zqq]; omega)) [p10, p11, p12, p13, p14, p15, p17, f1, f2, f3, i1, i2, x0, x1, q1, q2, c1, c2, c3, lim, lim2, lim3, zqa, zqb, zqc, zqd, zqe, zqf, zqg, zqh, zqi, zqj, zqk, u64b, u32b, zql, zqm, zqn, zqo, -zqu, -isSl, -zqs, -zqt, -zqv, -zqr]
      obtain ⟨m2, hm2⟩ : ∃ m2, m2 = (m1.bump 15).put (m1.next + 8) (some ⟨D.map U, true⟩) := ⟨_, rfl⟩
      rw [← hm2]
      have o2 : Old m1 m2 := by rw [hm2]; exact ((Old.refl m1).bump 15).put (by omega)
      have hcp : Sl m2 (.slice (some ⟨m1.next + 8, 0, none⟩) (n + 1) 1) D := by rw [hm2]; exact Sl.mk' hokD (zql (by simp)) hDl.symm
      have hbc : blkOf (.slice (some ⟨m1.next + 8, 0, none⟩) (n + 1) 1) ≠ some xb := by simp [blkOf]; omega
      have hxm2 : xb < m2.next := by have := o2.next; omega
      refine (frame_old (Ψ := fun r p' => Sl p' r (digs g)) (Part.less m2 xb) (rmake_wp g0 (by omega))).mono fun r1 m3 hp3 => ?_
      obtain ⟨o3, p3, pt3, op3, hs3, nn3⟩ := hp3
      have n3 := nn3 xb hxm2 less_get
      simp (disch := first | omega | (simp only [zqp, zqq]; omega)) [zqa, zqb, zqc, zqd, zqe, zqf, zqg, zqh, zqi, zqj, zqk, u64b, u32b, zql, zqm, zqn, zqo, -zqu, -isSl, -zqs, -zqt, -zqv, -zqr]
      have lg : (digs g).length ≤ 1 := digs_le g0 (by simp only [pw]; omega)
      have hy3 : Sl p3 y vl := (((hy.mono ho1).mono o2).less hbx).mono op3
      refine (frame_old (Ψ := fun r p' => Sl p' r (digs (V * g))) pt3 (by have := rtimes_wp hy3 hs3 (by omega) (by omega); rw [hV, val_digs g0] at this; exact this)).mono fun r2 m4 hp4 => ?_
      obtain ⟨o4, p4, pt4, op4, hs4, nn4⟩ := hp4
      have n4 := nn4 xb (by have := o3.next; omega) n3
      simp (disch := first | omega | (simp only [zqp, zqq]; omega)) [zqa, zqb, zqc, zqd, zqe, zqf, zqg, zqh, zqi, zqj, zqk, u64b, u32b, zql, zqm, zqn, zqo, -zqu, -isSl, -zqs, -zqt, -zqv, -zqr]
      have lvg : (digs (V * g)).length ≤ n + 1 := digs_le (hVg0 g g0) (mul_pw (i := n) (j := 1) (by omega) g0 hVb.2 (by simp only [pw]; omega))
      refine (frame_old (Ψ := fun r p' => Sl p' r (digs (W - V * g))) pt4 (by
        have := minus_wp (((hcp.less hbc).mono op3).mono op4) hs4 (by omega) (by omega) (by rw [val_digs (hVg0 g g0), ← hW, Int.mul_comm]; exact gV)
        rw [val_digs (hVg0 g g0), ← hW] at this; exact this)).mono fun r3 m5 hp5 => ?_
      obtain ⟨o5, p5, pt5, op5, hs5, nn5⟩ := hp5
      have n5 := nn5 xb (by have := o3.next; have := o4.next; omega) n4
      have oo : Old m m5 := (((ho1.trans o2).trans o3).trans o4).trans o5
      have hgx5 := oo.some hgx
      have gVc : g * V = V * g := Int.mul_comm _ _
      have R0 : 0 ≤ W - V * g := by omega
      have hgV1 : (g + 1) * V = V * g + V := by rw [Int.add_mul, Int.one_mul, gVc]
      have RV : W - V * g < V := by omega
      have lR : (digs (W - V * g)).length ≤ n + 1 := by have := digs_le (k := n) R0 (by omega); omega
      obtain ⟨Wl, hWl⟩ : ∃ Wl, Wl = digs (W - V * g) ++ List.replicate (n + 1 - (digs (W - V * g)).length) 0 := ⟨_, rfl⟩
      have lWl : Wl.length = n + 1 := by rw [hWl]; simp; omega
      simp (disch := first | omega | (simp only [zqp, zqq]; omega)) [p10, p11, p12, p13, p14, p15, p17, zqa, zqb, zqc, zqd, zqe, zqf, zqg, zqh, zqi, zqj, zqk, u64b, u32b, zql, zqm, zqn, zqo, -zqu, -isSl, -zqs, -zqt, -zqv, -zqr]
      have hgx6 : m5.get xb = some ⟨((u.take j ++ Wl.take 0 ++ u.drop (j + 0)) ++ T).map U, true⟩ := by rw [hgx5, hF']; simp [List.take_append_drop]
      refine rcopy_loop (m1 := m5) (v10 := v10) (v13 := L top) (v14 := .slice (some ⟨qb, 0, none⟩) K 1) (v17 := L g) (F := u) (T := T) (xb := xb) (n := n) (N := N) (j := j) (vl := vl) (hy.mono oo) hbx (hs5.sub' pt5.sub) (hs5.blk n5) hn huN (by omega) (by omega) hWl lR (n + 1) 0 m5 _ (by omega) (OldX.refl _ _) hgx6 (by simp [p10]) (by simp [p11, hx]) (by simp [p12]) (by simp [p13]) (by simp [p14]) (by simp [p15]) (by simp [p17]) (by simp) (by simp) fun σ6 m6 ox6 hg6 t10 t11 t12 t13 t14 t15 t17 => ?_
      have hgq5 := oo.some hgq
      have hgq6 : m6.get qb = some ⟨ql.map U, true⟩ := by rw [ox6.get qb (get_lt hgq5) (by omega), hgq5]
      have hltq6 := get_lt hgq6
      have v1 : IntKind.u32.wrap g = g := by rw [u32_wrap]; omega
      have v2 : (j : Int) < K := by omega
      have v3 : j + 1 ≤ ql.length := by omega
      have v4 : j < ql.length := by omega
      simp (disch := first | omega | (simp only [zqp, zqq]; omega)) [t10, t11, t12, t13, t14, t15, t17, x3, v1, v2, v3, v4, hgq6, zqa, zqb, zqc, zqd, zqe, zqf, zqg, zqh, zqi, zqj, zqk, u64b, u32b, zql, zqm, zqn, zqo, -zqu, -isSl, -zqs, -zqt, -zqv, -zqr]
      have hst := hL.step (w := Wl) (g := g) (by omega) lWl (by rw [hWl]; exact (can_digs _).1.app (OkL.zeros _)) ⟨g0, g1⟩ (by rw [hWl, val_pad, val_digs R0, ← hD, ← hW, gVc]) (by rw [hWl, val_pad, val_digs R0]; exact RV) (by omega)
      have hul : (u.take j ++ Wl ++ u.drop (j + n + 1)).length = N := by simp; omega
      refine hJ _ _ (rdiv_loop hn hn2 hV hcv hN htop hxq hx0 hq0 hbx hbq j (u.take j ++ Wl ++ u.drop (j + n + 1)) (ql.set j g) _ _ (by omega) ((Old.ofX (ho.trans oo) ox6 hx0).put hq0) (by rw [zqm hxq, hg6]) (by rw [zql hltq6, set_map]) ((((hy.mono oo).monoX hbx ox6)).monoX hbq (OldX.put (OldX.refl qb m6))) hst (by simp [hqK]) hul (by simp [t10]) (by simp [t11]) (by simp [t12]) (by simp [t13]) (by simp [t14]) (by simp) hQ)
end Go.Proofs.YtkpifdkccdndcaaGreat
namespace Go.Proofs.YtkpifdkccdndcaaGreat
open Go Go.DI Go.Big
set_option linter.unusedSimpArgs false
set_option linter.unusedVariables false

theorem map2 {l : List Int} : l.map U ++ [U 0, U 0] = ((l ++ [0]) ++ [0]).map U := by simp
set_option maxHeartbeats 8000000 in
theorem rdivide_wp {m : Mem} {v w : Value} {X Y : Int} (hv : Sl m v (digs X)) (hw : Sl m w (digs Y)) (hX : 0 ≤ X) (hY : 0 < Y) (hX1 : X < pw 512) (hY1 : Y < pw 512) :
    WPCall Tryz.prog 165 [v, w] m (DivR m X Y) := by
  rw [call165 (by simp)]
  have lx := dlen hX hX1
  have ly := dlen (by omega) hY1
  have vx := val_digs hX
  have vy := val_digs (show 0 ≤ Y by omega)
  have hneY : digs Y ≠ [] := fun h => by rw [h] at vy; simp [val] at vy; omega
  have ly1 : 1 ≤ (digs Y).length := by have := List.length_pos_iff.2 hneY; omega
  obtain ⟨h1, h2, h3, h4⟩ := hv.len
  obtain ⟨h1', h2', h3', h4'⟩ := hw.len
  simp (disch := first | omega | (simp only [zqp, zqq]; omega)) [ir165_b, ir165_k1, ir165_k2, ir165_k3, ir165_k4, ir165_k5, ir165_k6, ir165_k7, ir165_k8, ir165_k9, ir165_k10, ir165_k11, ir165_k12, ir165_k13, ir165_k14, ir165_k15, ir165_k16, ir165_k17, ir165_k18, ir165_k19, ir165_k20, ir165_k21, ir165_k22, zqa, zqb, zqc, zqd, zqe, zqf, zqg, zqh, zqi, zqj, zqk, u64b, u32b, zql, zqm, zqn, zqo, -zqu, -isSl, -zqs, -zqt, -zqv, -zqr]
  refine (rcmp_wp hv hw (by omega) (by omega)).mono fun r0 m0 hp0 => ?_
  obtain ⟨o0, rfl⟩ := hp0
  rw [vx, vy]
  by_cases k1 : X < Y
  · have c1 : cmpI X Y < 0 := by rw [cmpI_lt k1]; omega
    simp (disch := first | omega | (simp only [zqp, zqq]; omega)) [c1, zqa, zqb, zqc, zqd, zqe, zqf, zqg, zqh, zqi, zqj, zqk, u64b, u32b, zql, zqm, zqn, zqo, -zqu, -isSl, -zqs, -zqt, -zqv, -zqr]
    refine (rtrim_wp (hv.mono o0) (by omega)).mono fun r m' hp => ?_
    rw [vx] at hp
    simp (disch := first | omega | (simp only [zqp, zqq]; omega)) [zqa, zqb, zqc, zqd, zqe, zqf, zqg, zqh, zqi, zqj, zqk, u64b, u32b, zql, zqm, zqn, zqo, -zqu, -isSl, -zqs, -zqt, -zqv, -zqr]
    refine ⟨o0.trans hp.1, _, _, rfl, ?_, ?_⟩
    · rw [Int.ediv_eq_zero_of_lt hX k1, digs_zero (by omega)]; exact Sl.nil
    · rw [Int.emod_eq_of_lt hX k1]; exact hp.2
  have c1 : ¬ cmpI X Y < 0 := by unfold cmpI; rw [if_neg k1]; split <;> omega
  have hneX : digs X ≠ [] := fun h => by rw [h] at vx; simp [val] at vx; omega
  have lx1 : 1 ≤ (digs X).length := by have := List.length_pos_iff.2 hneX; omega
  by_cases k2 : (digs Y).length = 1
  · obtain ⟨d, hd⟩ : ∃ d, digs Y = [d] := List.length_eq_one_iff.1 k2
    have hd2 := (can_digs Y).1 d (by simp [hd])
    have vd : d = Y := by rw [hd] at vy; simpa [val] using vy
    have k2' : ((digs Y).length : Int) = 1 := by omega
    have w0 : IntKind.i64.wrap (((digs X).length : Int) - 1) = ((digs X).length : Int) - 1 := i64_id (by omega) (by omega)
    simp (disch := first | omega | (simp only [zqp, zqq]; omega)) [c1, h1, h2, h1', h2', k2', w0, zqa, zqb, zqc, zqd, zqe, zqf, zqg, zqh, zqi, zqj, zqk, u64b, u32b, zql, zqm, zqn, zqo, -zqu, -isSl, -zqs, -zqt, -zqv, -zqr]
    obtain ⟨N, hN⟩ : ∃ N, N = (digs X).length := ⟨_, rfl⟩
    rw [← hN]
    have hM : Old m0 ((m0.bump 4).put (m0.next + 2) (some ⟨List.replicate N (.int .u32 0), true⟩)) := ((Old.refl m0).bump 4).put (by omega)
    have hnx := o0.next
    refine ⟨by omega, rshort_loop (hv.mono o0) (by rw [← hd]; exact hw.mono o0) ⟨by omega, hd2.2⟩ (by omega) (ob := m0.next + 2) (by omega) N 0 (List.replicate N 0) _ _ (by omega) hM (by rw [zql (by simp)]; simp) (OkL.zeros _) (by simp [hN]) (by omega) (by omega) (by rw [List.drop_of_length_le (by omega), List.drop_of_length_le (by simp)]; simp [val]) (by simp) (by simp) (by simp [hN]) (by simp) (by simp) fun σ' m' o c f1 f2 f3 f4 f5 f6 f7 q6 q7 => ?_⟩
    rw [vx, vd] at f7
    obtain ⟨e1, e2⟩ := div_of f7 f5 (by omega)
    have hs : Sl m' (.slice (some ⟨m0.next + 2, 0, none⟩) (digs X).length 1) o := Sl.mk' f3 f2 f4.symm
    simp (disch := first | omega | (simp only [zqp, zqq]; omega)) [q6, q7, zqa, zqb, zqc, zqd, zqe, zqf, zqg, zqh, zqi, zqj, zqk, u64b, u32b, zql, zqm, zqn, zqo, -zqu, -isSl, -zqs, -zqt, -zqv, -zqr]
    refine (rtrim_wp hs (by omega)).mono fun r1 m1 hp1 => ?_
    rw [← e1] at hp1
    simp (disch := first | omega | (simp only [zqp, zqq]; omega)) [q7, zqa, zqb, zqc, zqd, zqe, zqf, zqg, zqh, zqi, zqj, zqk, u64b, u32b, zql, zqm, zqn, zqo, -zqu, -isSl, -zqs, -zqt, -zqv, -zqr]
    refine (rmake_wp f5 (by omega)).mono fun r2 m2 hp2 => ?_
    rw [← e2] at hp2
    simp (disch := first | omega | (simp only [zqp, zqq]; omega)) [zqa, zqb, zqc, zqd, zqe, zqf, zqg, zqh, zqi, zqj, zqk, u64b, u32b, zql, zqm, zqn, zqo, -zqu, -isSl, -zqs, -zqt, -zqv, -zqr]
    exact ⟨((o0.trans f1).trans hp1.1).trans hp2.1, _, _, rfl, hp1.2.mono hp2.1, hp2.2⟩
  · obtain ⟨n0, hn0⟩ : ∃ n0, (digs Y).length = n0 + 2 := ⟨(digs Y).length - 2, by omega⟩
    have k2' : ¬ ((digs Y).length : Int) = 1 := by omega
    have hcY := can_digs Y
    -- the shift
    have gt := gd_bd hcY.1 (n0 + 1)
    have gt1 : 1 ≤ gd (digs Y) (n0 + 1) := by
      have := hcY.top (n := n0 + 1) (x := gd (digs Y) (n0 + 1)) (by omega) (by rw [gd_some (List.getElem?_eq_getElem (by omega)), List.getElem?_eq_getElem (by omega)])
      omega
    have hnb := nbits_top hcY.1 (n := n0 + 1) (by rw [hcY.2, hn0])
    rw [vy] at hnb
    have hnl := nbits_limb gt1 gt.2
    obtain ⟨s, hs⟩ : ∃ s : Nat, (s : Int) = 32 * ((digs Y).length : Int) - nbits Y := ⟨(32 * ((digs Y).length : Int) - nbits Y).toNat, by rw [hnb, hn0]; omega⟩
    have hs32 : s < 32 := by rw [hnb, hn0] at hs; omega
    obtain ⟨S, hS⟩ : ∃ S : Int, S = 2 ^ s := ⟨_, rfl⟩
    obtain ⟨Kc, hKc⟩ : ∃ Kc : Int, Kc = 2 ^ (32 - s) := ⟨_, rfl⟩
    have hSK : S * Kc = 4294967296 := by
      rw [hS, hKc, ← Int.pow_add, show s + (32 - s) = 32 by omega]; decide
    have pw1 : ∀ k : Nat, (1 : Int) ≤ 2 ^ k := fun k => by
      have h8 := Nat.two_pow_pos k
      have h9 : ((2 ^ k : Nat) : Int) = (2 : Int) ^ k := by simp
      omega
    have hS1 : 1 ≤ S ∧ S ≤ 2147483648 := by
      refine ⟨by rw [hS]; exact pw1 s, ?_⟩
      have h7 : (2 : Int) ^ (32 - s) = 2 * 2 ^ (31 - s) := by rw [show 32 - s = (31 - s) + 1 by omega, Int.pow_succ, Int.mul_comm]
      have h6 : S * (2 : Int) ^ (31 - s) = 2147483648 := by rw [hS, ← Int.pow_add, show s + (31 - s) = 31 by omega]; decide
      have h5 := pw1 (31 - s)
      have h4 : S * 1 ≤ S * 2 ^ (31 - s) := Int.mul_le_mul_of_nonneg_left h5 (by rw [hS]; have := pw1 s; omega)
      omega
    have w0 : IntKind.i64.wrap (32 * ((digs Y).length : Int)) = 32 * ((digs Y).length : Int) := i64_id (by omega) (by omega)
    have w1 : IntKind.i64.wrap (32 * ((digs Y).length : Int) - nbits Y) = (s : Int) := by rw [← hs]; exact i64_id (by omega) (by omega)
    simp (disch := first | omega | (simp only [zqp, zqq]; omega)) [c1, h1', h2', k2', w0, zqa, zqb, zqc, zqd, zqe, zqf, zqg, zqh, zqi, zqj, zqk, u64b, u32b, zql, zqm, zqn, zqo, -zqu, -isSl, -zqs, -zqt, -zqv, -zqr]
    refine (rbits_wp (Nm.digs (hw.mono o0) (by omega) hY1) hY1).mono fun r1 m1 hp1 => ?_
    obtain ⟨o1, rfl⟩ := hp1
    have oo1 := o0.trans o1
    have hnx1 := oo1.next
    simp (disch := first | omega | (simp only [zqp, zqq]; omega)) [w1, zqa, zqb, zqc, zqd, zqe, zqf, zqg, zqh, zqi, zqj, zqk, u64b, u32b, zql, zqm, zqn, zqo, -zqu, -isSl, -zqs, -zqt, -zqv, -zqr]
    -- x
    have hA0 : 0 ≤ X * S := Int.mul_nonneg hX (by omega)
    have hV0 : 0 < Y * S := Int.mul_pos hY (by omega)
    have hA1 : X * S < pw 513 := mul_pw (i := 512) (j := 1) hX (by omega) hX1 (by simp only [pw]; omega)
    have hV1 : Y * S < pw 513 := mul_pw (i := 512) (j := 1) (by omega) (by omega) hY1 (by simp only [pw]; omega)
    have lA := digs_le hA0 hA1
    have lV := digs_le (by omega) hV1
    have vA := val_digs hA0
    have vV := val_digs (show 0 ≤ Y * S by omega)
    have hVA : Y * S ≤ X * S := Int.mul_le_mul_of_nonneg_right (by omega) (by omega)
    have lVA : (digs (Y * S)).length ≤ (digs (X * S)).length := by
      by_cases h : (digs (Y * S)).length ≤ (digs (X * S)).length
      · exact h
      · have := Can.len_lt (can_digs (X * S)).1 (can_digs (Y * S)) (by omega)
        omega
    have lV2 : (digs Y).length ≤ (digs (Y * S)).length := by
      by_cases h : (digs Y).length ≤ (digs (Y * S)).length
      · exact h
      · have := Can.len_lt (can_digs (Y * S)).1 (can_digs Y) (by omega)
        have h9 : Y * 1 ≤ Y * S := Int.mul_le_mul_of_nonneg_left hS1.1 (by omega)
        omega
    obtain ⟨LA, hLA⟩ : ∃ LA, (digs (X * S)).length = LA := ⟨_, rfl⟩
    obtain ⟨n, hn⟩ : ∃ n, (digs (Y * S)).length = n := ⟨_, rfl⟩
    rw [hLA] at lA lVA
    rw [hn] at lV lVA lV2
    have hb1 := fun k => (Old.refl m1).bump k
    have up1 := rup_own (a := digs X) hS hs32 hS1 ((hv.mono oo1).mono (hb1 10)) (by omega)
    rw [vx] at up1
    refine up1.mono fun ru m2 hp2 => ?_
    obtain ⟨o2, hru⟩ := hp2
    have hru' : ∃ b, (m1.bump 10).next ≤ b ∧ ru = .slice (some ⟨b, 0, none⟩) LA 1 ∧ m2.get b = some ⟨(digs (X * S)).map U, true⟩ := by
      rw [← hLA]
      rcases hru with ⟨_, h⟩ | h
      · exfalso; rw [h] at vA; simp [val] at vA; omega
      · exact h
    obtain ⟨ub, hub, rfl, hgu⟩ := hru'
    have hltu := get_lt hgu
    have hn2 := o2.next
    simp only [zqq] at hub hn2
    have hLn : ((digs (X * S)).map U).length = LA := by simp [hLA]
    have lim : ((LA : Int) + 2) * 4 ≤ 140737488355328 := by omega
    have lim2 : (LA + 2) * 4 ≤ 140737488355328 := by omega
    have lim3 : LA + 2 ≤ 9223372036854775807 := by omega
    have tk : List.take LA ((digs (X * S)).map U) = (digs (X * S)).map U := List.take_of_length_le (by omega)
    simp (disch := first | omega | (simp only [zqp, zqq]; omega)) [hgu, hLA, lim, lim2, lim3, tk, zqa, zqb, zqc, zqd, zqe, zqf, zqg, zqh, zqi, zqj, zqk, u64b, u32b, zql, zqm, zqn, zqo, -zqu, -isSl, -zqs, -zqt, -zqv, -zqr]
    obtain ⟨xb, hxb⟩ : ∃ xb, xb = m1.next + 4 := ⟨_, rfl⟩
    obtain ⟨M3, hM3⟩ : ∃ M3, M3 = ((m2.put (m1.next + 3) (some ⟨[.int .u32 0, .int .u32 0], true⟩)).put ub none).put (m1.next + 4) (some ⟨(digs (X * S)).map U ++ [.int .u32 0, .int .u32 0], true⟩) := ⟨_, rfl⟩
    rw [← hM3, ← hxb]
    have oM3 : Old m1 M3 := by rw [hM3]; exact ((((hb1 10).trans o2).put (by omega)).put (by omega)).put (by omega)
    have hgx3 : M3.get xb = some ⟨((digs (X * S) ++ [0]) ++ [0]).map U, true⟩ := by rw [← map2, hM3, hxb]; exact zql (by simp; omega)
    have hltx3 := get_lt hgx3
    have hwb : blkOf w ≠ some xb := (hw.mono oo1).blk (get_none (by omega))
    refine (frame_old (Ψ := fun r p' => Sl p' r (digs (Y * S))) (Part.less M3 xb) (by
      have := rup_wp (a := digs Y) hS hs32 hS1 (((hw.mono oo1).mono oM3).less hwb) (by omega)
      rw [vy] at this; exact this)).mono fun ry m4 hp4 => ?_
    obtain ⟨o4, p4, pt4, op4, hs4, nn4⟩ := hp4
    have n4 := nn4 xb hltx3 less_get
    have hyb : blkOf ry ≠ some xb := hs4.blk n4
    have hy4 : Sl m4 ry (digs (Y * S)) := hs4.sub' pt4.sub
    have hgx4 := o4.some hgx3
    simp (disch := first | omega | (simp only [zqp, zqq]; omega)) [zqa, zqb, zqc, zqd, zqe, zqf, zqg, zqh, zqi, zqj, zqk, u64b, u32b, zql, zqm, zqn, zqo, -zqu, -isSl, -zqs, -zqt, -zqv, -zqr]
    have oo4 : Old m m4 := (oo1.trans oM3).trans o4
    -- its length
    refine (rup_wp (a := digs X) hS hs32 hS1 (hv.mono oo4) (by omega)).mono fun r5 m5 hp5 => ?_
    rw [vx] at hp5
    obtain ⟨o5, hs5⟩ := hp5
    obtain ⟨g1, g2, g3, g4⟩ := hs5.len
    rw [hLA] at g1
    have hy5 := hy4.mono o5
    have hgx5 := o5.some hgx4
    have hltx5 := get_lt hgx5
    obtain ⟨i1, i2, i3, i4⟩ := hy5.len
    rw [hn] at i1
    obtain ⟨n1, hn1⟩ : ∃ n1, n = n1 + 1 := ⟨n - 1, by omega⟩
    obtain ⟨K, hK⟩ : ∃ K, K = LA + 1 - n := ⟨_, rfl⟩
    have u0 : IntKind.i64.wrap ((LA : Int) + 1) = (LA : Int) + 1 := i64_id (by omega) (by omega)
    have u1 : IntKind.i64.wrap ((n : Int) - 1) = (n1 : Int) := by rw [i64_id (by omega) (by omega)]; omega
    have u2 : IntKind.i64.wrap ((LA : Int) + 1 - (n : Int)) = (K : Int) := by rw [i64_id (by omega) (by omega)]; omega
    have u3 : IntKind.i64.wrap ((K : Int) - 1) = (K : Int) - 1 := i64_id (by omega) (by omega)
    have j0 : (n1 : Int) < n := by omega
    have j1 : (LA : Int) + 1 ≤ (LA : Int) + 2 := by omega
    have a1 := hy5.addr (i := n1) (by omega)
    have a2 := hy5.load (i := n1) (by omega)
    have bt := gd_bd hy5.1 n1
    have u4 : IntKind.u64.wrap (gd (digs (Y * S)) n1) = gd (digs (Y * S)) n1 := u64_id (by omega) (by omega)
    have j2 : ((LA : Int) + 1).toNat = LA + 1 := by omega
    simp (disch := first | omega | (simp only [zqp, zqq]; omega)) [g1, g2, i1, i2, i3, u0, u1, u2, u3, u4, j0, j1, j2, a1, a2, zqa, zqb, zqc, zqd, zqe, zqf, zqg, zqh, zqi, zqj, zqk, u64b, u32b, zql, zqm, zqn, zqo, -zqu, -isSl, -zqs, -zqt, -zqv, -zqr]
    obtain ⟨qb, hqb⟩ : ∃ qb, qb = m5.next + 5 := ⟨_, rfl⟩
    have oo5 := oo4.trans o5
    have hnx5 := oo5.next
    have hM : Old m5 ((m5.bump 7).put qb (some ⟨List.replicate K (.int .u32 0), true⟩)) := ((Old.refl m5).bump 7).put (by omega)
    rw [← hqb]
    have hqn : blkOf ry ≠ some qb := hy5.blk (get_none (by omega))
    have hx0 := oo1.next
    refine ⟨by omega, ⟨by omega, by omega⟩, rdiv_loop (m00 := m) (vl := digs (Y * S)) (T := [0]) (xb := xb) (qb := qb) (n := n) (N := LA + 1) (K := K) (A := X * S) (V := Y * S) (v10 := I s) hn (by omega) vV (can_digs _) (by omega) (by rw [show n - 1 = n1 by omega]) (by omega) (by omega) (by omega) hyb hqn K (digs (X * S) ++ [0]) (List.replicate K 0) _ _ (Nat.le_refl _) (oo5.trans hM) (by rw [zqm (by omega), zqn (by omega)]; exact hgx5) (by rw [zql (by simp; omega)]; simp) (hy5.mono hM)
      (LD.first vA (can_digs _).1 (by omega) (by omega) (by have := (can_digs (Y * S)).lo (n := n1) (by omega); rw [vV] at this; rw [show n - 1 = n1 by omega]; exact this)) (by simp) (by simp [hLA]) (by simp) (by simp) (by simp) (by simp) (by simp) (by simp) fun σ' m7 u ql f1 f2 f3 f4 f5 f6 p10 p11 p14 => ?_⟩
    obtain ⟨d1, d2, d3⟩ := f4.done hV0
    obtain ⟨e1, e2⟩ := mul_div_scale (X := X) (Y := Y) (S := S) (by omega)
    have hq7 : Sl m7 (.slice (some ⟨qb, 0, none⟩) K 1) ql := Sl.mk' f4.okQ f3 f5.symm
    have hx7 : Sl m7 (.slice (some ⟨xb, 0, none⟩) (LA + 1) 1) u := by
      refine ⟨f4.okU, .inr ⟨xb, 0, _, true, by rw [f6], f2, ?_, by simp⟩⟩
      rw [List.drop_zero, List.map_append, List.take_left' (by simp)]
    simp (disch := first | omega | (simp only [zqp, zqq]; omega)) [p10, p11, p14, zqa, zqb, zqc, zqd, zqe, zqf, zqg, zqh, zqi, zqj, zqk, u64b, u32b, zql, zqm, zqn, zqo, -zqu, -isSl, -zqs, -zqt, -zqv, -zqr]
    refine (rtrim_wp hq7 (by omega)).mono fun r8 m8 hp8 => ?_
    rw [← d1, e1] at hp8
    simp (disch := first | omega | (simp only [zqp, zqq]; omega)) [p11, zqa, zqb, zqc, zqd, zqe, zqf, zqg, zqh, zqi, zqj, zqk, u64b, u32b, zql, zqm, zqn, zqo, -zqu, -isSl, -zqs, -zqt, -zqv, -zqr]
    refine (rtrim_wp (hx7.mono hp8.1) (by omega)).mono fun r9 m9 hp9 => ?_
    rw [d3, ← d2] at hp9
    have hR0 : 0 ≤ X * S % (Y * S) := Int.emod_nonneg _ (by omega)
    have hR1 : X * S % (Y * S) < Y * S := Int.emod_lt_of_pos _ hV0
    simp (disch := first | omega | (simp only [zqp, zqq]; omega)) [p10, zqa, zqb, zqc, zqd, zqe, zqf, zqg, zqh, zqi, zqj, zqk, u64b, u32b, zql, zqm, zqn, zqo, -zqu, -isSl, -zqs, -zqt, -zqv, -zqr]
    refine (rdown_wp hS hs32 hS1 hSK hp9.2 (by have := digs_le hR0 (show X * S % (Y * S) < pw 513 by omega); omega)).mono fun r10 m10 hp10 => ?_
    rw [val_digs hR0, e2] at hp10
    simp (disch := first | omega | (simp only [zqp, zqq]; omega)) [zqa, zqb, zqc, zqd, zqe, zqf, zqg, zqh, zqi, zqj, zqk, u64b, u32b, zql, zqm, zqn, zqo, -zqu, -isSl, -zqs, -zqt, -zqv, -zqr]
    exact ⟨((f1.trans hp8.1).trans hp9.1).trans hp10.1, _, _, rfl, (hp8.2.mono hp9.1).mono hp10.1, hp10.2⟩
end Go.Proofs.YtkpifdkccdndcaaGreat
namespace Go.Proofs.YtkpifdkccdndcaaGreat
open Go Go.DI Go.Big
set_option linter.unusedSimpArgs false
set_option linter.unusedVariables false

set_option maxHeartbeats 4000000 in
theorem rdiv_wp {m : Mem} {v w : Value} {X Y : Int} (hv : Nm m v X) (hw : Nm m w Y) (hX1 : X < pw 512) (hY1 : Y < pw 512) (hY : 0 < Y) : WPCall Tryz.prog 146 [v, w] m (DivT m X Y) := by
  rw [call146 (by simp)]
  have hX := hv.nonneg
  simp (disch := first | omega | (simp only [zqp, zqq]; omega)) [ir146_b, ir146_k1, ir146_k2, ir146_k3, ir146_k4, zqa, zqb, zqc, zqd, zqe, zqf, zqg, zqh, zqi, zqj, zqk, u64b, u32b, zql, zqm, zqn, zqo, -zqu, -isSl, -zqs, -zqt, -zqv, -zqr]
  refine (rlarge_nm hv hX1).mono fun r1 m1 hp1 => ?_
  obtain ⟨o1, rfl⟩ := hp1
  simp (disch := first | omega | (simp only [zqp, zqq]; omega)) [zqa, zqb, zqc, zqd, zqe, zqf, zqg, zqh, zqi, zqj, zqk, u64b, u32b, zql, zqm, zqn, zqo, -zqu, -isSl, -zqs, -zqt, -zqv, -zqr]
  refine (rlarge_nm (hw.mono o1) hY1).mono fun r2 m2 hp2 => ?_
  obtain ⟨o2, rfl⟩ := hp2
  have oo := o1.trans o2
  simp (disch := first | omega | (simp only [zqp, zqq]; omega)) [zqa, zqb, zqc, zqd, zqe, zqf, zqg, zqh, zqi, zqj, zqk, u64b, u32b, zql, zqm, zqn, zqo, -zqu, -isSl, -zqs, -zqt, -zqv, -zqr]
  refine (rtrim_nm (hw.mono oo)).mono fun r3 m3 hp3 => ?_
  obtain ⟨o3, hs3⟩ := hp3
  obtain ⟨h1, h2, h3, h4⟩ := hs3.len
  have vy := val_digs (show 0 ≤ Y by omega)
  have hne : digs Y ≠ [] := fun h => by rw [h] at vy; simp [val] at vy; omega
  have k1 : ¬ ((digs Y).length : Int) = 0 := by have := List.length_pos_iff.2 hne; omega
  simp (disch := first | omega | (simp only [zqp, zqq]; omega)) [h1, h2, k1, hne, zqa, zqb, zqc, zqd, zqe, zqf, zqg, zqh, zqi, zqj, zqk, u64b, u32b, zql, zqm, zqn, zqo, -zqu, -isSl, -zqs, -zqt, -zqv, -zqr]
  refine (rtrim_nm (hv.mono (oo.trans o3))).mono fun r4 m4 hp4 => ?_
  obtain ⟨o4, hs4⟩ := hp4
  simp (disch := first | omega | (simp only [zqp, zqq]; omega)) [zqa, zqb, zqc, zqd, zqe, zqf, zqg, zqh, zqi, zqj, zqk, u64b, u32b, zql, zqm, zqn, zqo, -zqu, -isSl, -zqs, -zqt, -zqv, -zqr]
  refine (rtrim_nm (hw.mono ((oo.trans o3).trans o4))).mono fun r5 m5 hp5 => ?_
  obtain ⟨o5, hs5⟩ := hp5
  simp (disch := first | omega | (simp only [zqp, zqq]; omega)) [zqa, zqb, zqc, zqd, zqe, zqf, zqg, zqh, zqi, zqj, zqk, u64b, u32b, zql, zqm, zqn, zqo, -zqu, -isSl, -zqs, -zqt, -zqv, -zqr]
  refine (rdivide_wp (hs4.mono o5) hs5 hX hY hX1 hY1).mono fun r6 m6 hp6 => ?_
  obtain ⟨o6, q, s, rfl, hq, hs⟩ := hp6
  simp (disch := first | omega | (simp only [zqp, zqq]; omega)) [zqa, zqb, zqc, zqd, zqe, zqf, zqg, zqh, zqi, zqj, zqk, u64b, u32b, zql, zqm, zqn, zqo, -zqu, -isSl, -zqs, -zqt, -zqv, -zqr]
  exact ⟨((((oo.trans o3).trans o4).trans o5).trans o6), q, s, rfl, hq, hs⟩

set_option maxHeartbeats 4000000 in
theorem rgcd_loop {m0 : Mem} {Q : IExit → Slots → Mem → Prop} : ∀ (r : Nat) (X Y : Int) (v w : Value) (m : Mem) (σ : Slots), Y ≤ r → 0 ≤ X → 0 ≤ Y → X < pw 512 → Y < pw 512 → Old m0 m → Sl m v (digs X) → Sl m w (digs Y) → σ 6 = v → σ 7 = w →
    (∀ σ' m' v', Old m0 m' → Sl m' v' (digs (gcdI X Y)) → σ' 6 = v' → Q (.exit 0) σ' m') → WP Tryz.prog (.loop ir145_l0) σ m Q := by
  intro r
  induction r with
  | zero =>
    intro X Y v w m σ hr hX hY lX lY ho hv hw s0 s1 hQ
    refine wp_round fun J hJ => ?_
    obtain rfl : Y = 0 := by omega
    obtain ⟨h1, h2, h3, h4⟩ := hw.len
    rw [digs_zero (by omega)] at h1
    simp only [List.length_nil] at h1
    simp (disch := first | omega | (simp only [zqp, zqq]; omega)) [ir145_l0, ir145_k1, ir145_k2, ir145_k3, ir145_k4, s0, s1, h1, h2, zqa, zqb, zqc, zqd, zqe, zqf, zqg, zqh, zqi, zqj, zqk, u64b, u32b, zql, zqm, zqn, zqo, -zqu, -isSl, -zqs, -zqt, -zqv, -zqr]
    exact hQ _ _ v ho (by rw [gcdI_zero hX]; exact hv) (by simp [s0])
  | succ r ih =>
    intro X Y v w m σ hr hX hY lX lY ho hv hw s0 s1 hQ
    by_cases h0 : Y = 0
    · exact ih X Y v w m σ (by omega) hX hY lX lY ho hv hw s0 s1 hQ
    · refine wp_round fun J hJ => ?_
      obtain ⟨h1, h2, h3, h4⟩ := hw.len
      have hne : digs Y ≠ [] := fun h => by have := val_digs hY; rw [h] at this; simp [val] at this; omega
      have hp := List.length_pos_iff.2 hne
      have hp' : (0 : Int) < ((digs Y).length : Int) := by omega
      simp (disch := first | omega | (simp only [zqp, zqq]; omega)) [ir145_l0, ir145_k1, ir145_k2, ir145_k3, ir145_k4, s0, s1, h1, h2, hp, hp', zqa, zqb, zqc, zqd, zqe, zqf, zqg, zqh, zqi, zqj, zqk, u64b, u32b, zql, zqm, zqn, zqo, -zqu, -isSl, -zqs, -zqt, -zqv, -zqr]
      refine (rdivide_wp hv hw hX (by omega) lX lY).mono fun r2 m2 hp2 => ?_
      obtain ⟨ho2, q, s, rfl, hq, hs⟩ := hp2
      simp (disch := first | omega | (simp only [zqp, zqq]; omega)) [s0, s1, zqa, zqb, zqc, zqd, zqe, zqf, zqg, zqh, zqi, zqj, zqk, u64b, u32b, zql, zqm, zqn, zqo, -zqu, -isSl, -zqs, -zqt, -zqv, -zqr]
      have e0 := Int.emod_nonneg X (show Y ≠ 0 by omega)
      have e1 := Int.emod_lt_of_pos X (show 0 < Y by omega)
      refine hJ _ _ (ih Y (X % Y) w s m2 _ (by omega) hY e0 lY (by omega) (ho.trans ho2) (hw.mono ho2) hs (by simp) (by simp) fun σ' m' v' f1 f2 f3 => ?_)
      exact hQ σ' m' v' f1 (by rw [gcdI_step hX (by omega)]; exact f2) f3
set_option maxHeartbeats 4000000 in
theorem rgcd_wp {m : Mem} {v w : Value} {X Y : Int} (hv : Nm m v X) (hw : Nm m w Y) (hX1 : X < pw 512) (hY1 : Y < pw 512) :
    WPCall Tryz.prog 145 [v, w] m (Res m (gcdI X Y)) := by
  rw [call145 (by simp)]
  have hX := hv.nonneg
  have hY := hw.nonneg
  simp (disch := first | omega | (simp only [zqp, zqq]; omega)) [ir145_b, ir145_k1, ir145_k2, ir145_k3, ir145_k4, zqa, zqb, zqc, zqd, zqe, zqf, zqg, zqh, zqi, zqj, zqk, u64b, u32b, zql, zqm, zqn, zqo, -zqu, -isSl, -zqs, -zqt, -zqv, -zqr]
  refine (rlarge_nm hv hX1).mono fun r1 m1 hp1 => ?_
  obtain ⟨o1, rfl⟩ := hp1
  simp (disch := first | omega | (simp only [zqp, zqq]; omega)) [zqa, zqb, zqc, zqd, zqe, zqf, zqg, zqh, zqi, zqj, zqk, u64b, u32b, zql, zqm, zqn, zqo, -zqu, -isSl, -zqs, -zqt, -zqv, -zqr]
  refine (rlarge_nm (hw.mono o1) hY1).mono fun r2 m2 hp2 => ?_
  obtain ⟨o2, rfl⟩ := hp2
  have oo := o1.trans o2
  simp (disch := first | omega | (simp only [zqp, zqq]; omega)) [zqa, zqb, zqc, zqd, zqe, zqf, zqg, zqh, zqi, zqj, zqk, u64b, u32b, zql, zqm, zqn, zqo, -zqu, -isSl, -zqs, -zqt, -zqv, -zqr]
  refine (rtrim_nm (hv.mono oo)).mono fun r3 m3 hp3 => ?_
  obtain ⟨o3, hs3⟩ := hp3
  simp (disch := first | omega | (simp only [zqp, zqq]; omega)) [zqa, zqb, zqc, zqd, zqe, zqf, zqg, zqh, zqi, zqj, zqk, u64b, u32b, zql, zqm, zqn, zqo, -zqu, -isSl, -zqs, -zqt, -zqv, -zqr]
  refine (rtrim_nm (hw.mono (oo.trans o3))).mono fun r4 m4 hp4 => ?_
  obtain ⟨o4, hs4⟩ := hp4
  simp (disch := first | omega | (simp only [zqp, zqq]; omega)) [zqa, zqb, zqc, zqd, zqe, zqf, zqg, zqh, zqi, zqj, zqk, u64b, u32b, zql, zqm, zqn, zqo, -zqu, -isSl, -zqs, -zqt, -zqv, -zqr]
  refine rgcd_loop (m0 := m) Y.toNat X Y r3 r4 m4 _ (by omega) hX hY hX1 hY1 ((oo.trans o3).trans o4) (hs3.mono o4) hs4 (by simp) (by simp) fun σ' m' v' f1 f2 f3 => ?_
  simp (disch := first | omega | (simp only [zqp, zqq]; omega)) [f3, zqa, zqb, zqc, zqd, zqe, zqf, zqg, zqh, zqi, zqj, zqk, u64b, u32b, zql, zqm, zqn, zqo, -zqu, -isSl, -zqs, -zqt, -zqv, -zqr]
  exact ⟨f1, v', rfl, f2⟩
end Go.Proofs.YtkpifdkccdndcaaGreat
