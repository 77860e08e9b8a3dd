/-
  'distances' of mincost: the search over the arcs of one node.
-/
import Derived.Test.YtapnkfkpkcajjaaMcCF
import Derived.Test.YtapnkfkpkcajjaaOpt
import Derived.Test.YtapnkfkpkcajjaaMfH
namespace Go.Proofs.Ytapnkfkpkcajjaa
open Go Go.DI Go.Nets
set_option linter.unusedSimpArgs false
set_option linter.unusedVariables false

theorem costS_eq {n : Net} {e : Nat × Bool} : costS n e = stC n e := by unfold costS stC; rfl
theorem Qu.mono {m m' : Mem} {q b : Nat} {l : List Stop} (h : Qu m q b l) (ho : Old m m') : Qu m' q b l := by
  obtain ⟨r, hr⟩ := h.bb
  exact ⟨ho.some h.qq, ⟨r, ho.some hr⟩, h.ne⟩
theorem Qu.put {m : Mem} {q b c : Nat} {l : List Stop} {x : Option Blk} (h : Qu m q b l) (h1 : q ≠ c) (h2 : b ≠ c) : Qu (m.put c x) q b l := by
  obtain ⟨r, hr⟩ := h.bb
  exact ⟨by rw [get_put_ne h1]; exact h.qq, ⟨r, by rw [get_put_ne h2]; exact hr⟩, h.ne⟩
/-- the rows of distances and of arcs, and the queue -/
structure RQ (db bb qp b N : Nat) (dist byf : Int → Int) (q : List Stop) (m : Mem) : Prop where
  gd : m.get db = some ⟨rowI N dist, true⟩
  gb : m.get bb = some ⟨rowI N byf, true⟩
  gq : Qu m qp b q
  n1 : db ≠ bb
  n2 : qp ≠ db
  n3 : qp ≠ bb
  n4 : b ≠ db
  n5 : b ≠ bb
theorem RQ.mono {db bb qp b N : Nat} {dist byf : Int → Int} {q : List Stop} {m m' : Mem} (h : RQ db bb qp b N dist byf q m) (ho : Old m m') : RQ db bb qp b N dist byf q m' :=
  ⟨ho.some h.gd, ho.some h.gb, h.gq.mono ho, h.n1, h.n2, h.n3, h.n4, h.n5⟩
structure RT (sb ob db bb qp N : Nat) (σ : Slots) : Prop where
  s0 : σ 0 = ptr sb
  s1 : σ 1 = .slice (some ⟨ob, 0, none⟩) N 1
  s6 : σ 6 = .slice (some ⟨db, 0, none⟩) N 1
  s7 : σ 7 = .slice (some ⟨bb, 0, none⟩) N 1
  s9 : σ 9 = ptr qp

set_option maxHeartbeats 4000000 in
set_option maxRecDepth 20000 in
theorem dist_inner {n : Net} (hV : n.Valid) {N : Nat} (hN : n.nodes = N) {fl : List Int} (hbd : Bnd n fl) {p : Int → Int} (hp : Opt n fl p) (hpb : ∀ v, 0 ≤ p v ∧ p v ≤ 1000000) (hk : ∀ a ∈ n.arcs, 0 ≤ a.k ∧ a.k ≤ 1000) (hkc : ∀ e, -1000 ≤ stC n e ∧ stC n e ≤ 1000) {v : Value} {sb fb ub ob : Nat} {m0 : Mem} (hS : Sr n fl v sb fb ub N m0) (hP : m0.get ub = some ⟨rowI N p, true⟩) {db bb qp : Nat} (hdb : m0.next ≤ db) (hbb : m0.next ≤ bb) (hqp : m0.next ≤ qp)
    {u : Nat} (hu : u < N) {dat : Int} {ab : Nat} (hab : m0.next ≤ ab) (a1 : ab ≠ db) (a2 : ab ≠ bb) (a3 : ab ≠ qp) {L : List Int} {lv : Value} (hL : Ints m0 lv L) (hLok : ∀ z ∈ L, (dec z).1 < n.arcs.length ∧ stF n (dec z) = u) (hLl : L.length < 100000) {W : Nat} (hW : W < 800000000) {Q : IExit → Slots → Mem → Prop} :
    ∀ (r j : Nat) (m : Mem) (σ : Slots) (b : Nat) (q : List Stop) (dist byf : Int → Int), j + r = L.length → Old m0 m → m0.next ≤ b → ab ≠ b → RQ db bb qp b N dist byf q m → m.get ab = some ⟨[I u, I dat], true⟩ → q.length + sumN (capD dist) N ≤ W →
    Dij n fl p N dist (fun x => dec (byf x)) (((u : Int), dat) :: q) → dist u = dat → dat < far → (∀ z ∈ L.take j, 0 < room n fl (dec z) → dist (stT n (dec z)) ≤ dat + rc n p (dec z)) → RT sb ob db bb qp N σ → σ 10 = ptr ab → σ 75 = lv → σ 76 = I L.length → σ 77 = I j →
    (∀ σ' m' b' q' dist' byf', Old m0 m' → m0.next ≤ b' → RQ db bb qp b' N dist' byf' q' m' → q'.length + 2 * sumN (capD dist') N ≤ q.length + 2 * sumN (capD dist) N → q'.length + sumN (capD dist') N ≤ W → Dij n fl p N dist' (fun x => dec (byf' x)) (((u : Int), dat) :: q') → dist' u = dat → (∀ z ∈ L, 0 < room n fl (dec z) → dist' (stT n (dec z)) ≤ dat + rc n p (dec z)) → RT sb ob db bb qp N σ' → Q (.exit 4) σ' m') →
    WP Try.prog (.loop ir47_l1) σ m Q
  | 0, j, m, σ, b, q, dist, byf, hj, ho, hb, hab', hR, hA, hq, hD, hdu, hdf, hz, hs, s10, s75, s76, s77, hQ => by
    refine wp_round fun J hJ => ?_
    obtain ⟨s0, s1, s6, s7, s9⟩ := hs
    have h1 : ¬ j < L.length := by omega
    simp [ir47_l1, s75, s76, s77, h1]
    refine hQ _ _ b q dist byf ho hb hR (Nat.le_refl _) hq hD hdu (fun z hz' => hz z ?_) ⟨by simp [s0], by simp [s1], by simp [s6], by simp [s7], by simp [s9]⟩
    rw [List.take_of_length_le (by omega)]; exact hz'
  | r + 1, j, m, σ, b, q, dist, byf, hj, ho, hb, hab', hR, hA, hq, hD, hdu, hdf, hz, hs, s10, s75, s76, s77, hQ => by
    refine wp_round fun J hJ => ?_
    obtain ⟨s0, s1, s6, s7, s9⟩ := hs
    have h1 : j < L.length := by omega
    have h1' : j + 1 ≤ L.length := h1
    obtain ⟨z, hz0⟩ : ∃ z, L[j]? = some z := ⟨L[j]'h1, by simp⟩
    have hz2 : ∀ h, L[j]'h = z := fun h => by rw [List.getElem?_eq_getElem h] at hz0; simpa using hz0
    have hzm := List.mem_of_getElem? hz0
    obtain ⟨hz3, hz4⟩ := hLok z hzm
    obtain ⟨lb, lo, rfl, hlb⟩ := hL.blk h1
    have hgl := ho.some hlb
    have hlt := get_lt hgl
    have hSm := hS.mono ho
    have htake : L.take (j + 1) = L.take j ++ [z] := by rw [List.take_add_one, hz0]; rfl
    have hnode := (st_node hV hz3).2
    simp (disch := first | omega | (simp only [next_put, next_bump]; omega)) [ir47_l1, s75, s76, s77, s0, h1, h1', hgl, hz0, hz2, head_td, get_put_self, get_put_ne, get_bump, put_put]
    refine step_wp hV hbd hSm (z := z) hz3 hk _ fun m1 ho1 => ?_
    rw [costS_eq]
    have hom1 := ho.trans ho1
    have hR1 := hR.mono ho1
    obtain ⟨gd, gb, gq, n1, n2, n3, n4, n5⟩ := hR1
    have gA := ho1.some hA
    have gS := (hS.mono hom1).s
    have gP := hom1.some hP
    have lA := get_lt gA
    have ld := get_lt gd
    have lb' := get_lt gb
    have hsbl := get_lt hS.s
    have hubl := get_lt hP
    have w0 : IntKind.i64.wrap ((j : Int) + 1) = (j : Int) + 1 := i64_id (by omega) (by omega)
    have hrcz : rc n p (dec z) = stC n (dec z) + p (stF n (dec z)) - p (stT n (dec z)) := rfl
    rw [hz4] at hrcz
    have hck := hkc (dec z)
    have hpT := hpb (stT n (dec z))
    have hpu := hpb (u : Int)
    have hlo := hD.lo (stT n (dec z))
    have hhi := hD.hi (stT n (dec z))
    have hadd := fun h3 h4 => hD.add hN hp (fun e => (hkc e).2) (e := dec z) h3 (by rw [hz4, hdu]; exact hdf) h4 hnode
    rw [hz4, hdu] at hadd
    have hcap := hD.cap (u : Int) (by rw [hdu]; exact hdf)
    rw [hdu] at hcap
    have hdat0 : 0 ≤ dat := by have := hD.lo (u : Int); omega
    have hopt := hp (dec z)
    have h700 := hV.n7
    have hcnt : (stT n (dec z) : Int) = u → dist (stT n (dec z)) = dat := fun hh => by rw [hh, hdu]
    unfold far at hdf hhi
    generalize hT : stT n (dec z) = T at *
    generalize hRm : room n fl (dec z) = R at *
    generalize hC : stC n (dec z) = C at *
    obtain ⟨t1, t2⟩ := hnode
    rw [hN] at t2
    obtain ⟨k, rfl⟩ : ∃ k : Nat, T = k := ⟨T.toNat, by omega⟩
    have t3 : k < N := by omega
    have t4 : k + 1 ≤ N := t3
    have u4 : u + 1 ≤ N := hu
    have hri : ∀ (g : Int → Int) (x : Nat), x < N → (rowI N g)[x]? = some (I (g x)) := fun g x hx => rowI_get hx
    have hr1 := fun g => hri g k t3
    have hr2 := fun g => hri g u hu
    have w1 : IntKind.i64.wrap (dat + C) = dat + C := i64_id (by omega) (by omega)
    have w2 : IntKind.i64.wrap (dat + C + p u) = dat + C + p u := i64_id (by omega) (by omega)
    have w3 : IntKind.i64.wrap (dat + C + p u - p k) = dat + C + p u - p k := i64_id (by omega) (by omega)
    have hd : dat + C + p u - p k = dat + rc n p (dec z) := by omega
    have keep : (0 < R → dist k ≤ dat + rc n p (dec z)) → ∀ (σ' : Slots) (m' : Mem), m' = m1 → RT sb ob db bb qp N σ' → σ' 10 = ptr ab → σ' 75 = .slice (some ⟨lb, 0, none⟩) L.length 1 → σ' 76 = I L.length → σ' 77 = I ((j : Int) + 1) → J σ' m' := by
      intro hc σ' m' hm q' q10 q75 q76 q77
      subst hm
      refine hJ _ _ (dist_inner hV hN hbd hp hpb hk hkc hS hP hdb hbb hqp hu hab a1 a2 a3 hL hLok hLl hW r (j + 1) m' σ' b q dist byf (by omega) hom1 hb hab' ⟨gd, gb, gq, n1, n2, n3, n4, n5⟩ gA hq hD hdu hdf (fun z' hz' => ?_) q' q10 q75 q76 (by rw [q77]; simp) hQ)
      rw [htake] at hz'
      rcases List.mem_append.1 hz' with h | h
      · exact hz z' h
      · simp at h; subst h
        intro hr
        rw [hT]; rw [hRm] at hr
        exact hc hr
    by_cases k1 : 0 < R
    · by_cases k2 : dat + C + p u - p k < dist k
      · simp (disch := first | omega | (simp only [next_put, next_bump]; omega)) [s75, s76, s77, s0, s1, s6, s7, s9, s10, gA, gS, gP, gd, gb, t3, t4, hu, u4, hr1, hr2, head_td, w0, w1, w2, w3, k1, k2, n1, rowI_setF, get_put_self, get_put_ne, get_bump, put_put, -rowI_set]
        have hd0 : 0 ≤ dat + C + p u - p k := by have := hopt k1; omega
        have hd7 : dat + C + p u - p k ≤ 700000 := by
          rcases Classical.em (dist k < 1099511627776) with hh | hh
          · have := hD.cap (k : Int) (by unfold far; exact hh); omega
          · have := cntU_set (sn dist) k (by omega) (by simp [sn, far, hh]) N t2
            omega
        have hcd := capD_add (dist := dist) (N := N) (x := k) (d := dat + C + p u - p k) (by omega) t2 hd0 k2 hd7
        have hD2 := hadd k1 (by omega)
        rw [← hd] at hD2
        have hby : (fun x => dec (setF byf (k : Int) z x)) = setF (fun x => dec (byf x)) (k : Int) (dec z) := by
          funext x; unfold setF; split <;> rfl
        have hku : (k : Int) ≠ u := fun hh => by have := hcnt hh; omega
        have lq := get_lt gq.qq
        have lqb : b < m1.next := by obtain ⟨r, hb⟩ := gq.bb; exact get_lt hb
        have n01 := hom1.next
        refine push_heap ((gq.put n2 n4).put n3 n5) (by omega) ((k : Int), dat + C + p u - p k) _ fun v m3 b' q' perm h3 k3 => ?_
        have kn := k3.next
        simp only [next_put] at kn
        have kget := fun c => k3.get c
        simp only [next_put] at kget
        have kb : b' = b ∨ m1.next ≤ b' := by have := k3.blk; simpa only [next_put] using this
        simp (disch := first | omega | (simp only [next_put, next_bump]; omega)) [s75, s76, s77, w0, get_put_self, get_put_ne, get_bump, put_put]
        refine hJ _ _ (dist_inner hV hN hbd hp hpb hk hkc hS hP hdb hbb hqp hu hab a1 a2 a3 hL hLok hLl hW r (j + 1) m3 _ b' q' (setF dist k (dat + C + p u - p k)) (setF byf k z) (by omega) ⟨by omega, fun c hc => ?_⟩ (by omega) (by omega) ⟨?_, ?_, h3, n1, n2, n3, by omega, by omega⟩ ?_ ?_ ?_ ?_ hdf (fun z' hz' => ?_) ⟨by simp [s0], by simp [s1], by simp [s6], by simp [s7], by simp [s9]⟩ (by simp [s10]) (by simp [s75]) (by simp [s76]) (by simp) (fun σ' m' b'' q'' dist' byf' g1 g2 g3 g4 g5 => hQ σ' m' b'' q'' dist' byf' g1 g2 g3 (by have := perm.length_eq; simp only [List.length_cons] at this; omega) g5))
        · rw [kget c (by omega) (by omega) (by omega), get_put_ne (by omega), get_put_ne (by omega), hom1.get c hc]
        · rw [kget db (by omega) (by omega) (by omega), get_put_ne n1, get_put_self (by omega)]
        · rw [kget bb (by omega) (by omega) (by omega), get_put_self (by simp only [next_put]; omega)]
        · rw [kget ab (by omega) a3 hab', get_put_ne a2, get_put_ne a1, gA]
        · have := perm.length_eq
          simp only [List.length_cons] at this
          omega
        · rw [hby]
          refine hD2.perm fun s => ?_
          simp only [List.mem_cons, perm.mem_iff]
          exact or_left_comm
        · rw [setF_ne (Ne.symm hku)]; exact hdu
        · intro hr
          rw [htake] at hz'
          rcases List.mem_append.1 hz' with h | h
          · have := hz z' h hr
            by_cases hx : stT n (dec z') = k
            · rw [hx] at this ⊢; rw [setF_same]; omega
            · rw [setF_ne hx]; exact this
          · simp at h; subst h
            rw [hT, setF_same]; omega
      · simp (disch := first | omega | (simp only [next_put, next_bump]; omega)) [s75, s76, s77, s0, s1, s6, s7, s9, s10, gA, gS, gP, gd, gb, t3, t4, hu, u4, hr1, hr2, head_td, w0, w1, w2, w3, k1, k2, get_put_self, get_put_ne, get_bump, put_put]
        exact keep (fun _ => by omega) _ _ rfl ⟨by simp [s0], by simp [s1], by simp [s6], by simp [s7], by simp [s9]⟩ (by simp [s10]) (by simp [s75]) (by simp [s76]) (by simp)
    · simp (disch := first | omega | (simp only [next_put, next_bump]; omega)) [s75, s76, s77, s0, s1, s6, s7, s9, s10, gA, gS, gP, gd, gb, t3, t4, hu, u4, hr1, hr2, head_td, w0, w1, w2, w3, k1, get_put_self, get_put_ne, get_bump, put_put]
      exact keep (fun h => absurd h k1) _ _ rfl ⟨by simp [s0], by simp [s1], by simp [s6], by simp [s7], by simp [s9]⟩ (by simp [s10]) (by simp [s75]) (by simp [s76]) (by simp)
end Go.Proofs.Ytapnkfkpkcajjaa
