/-
  'distances' of mincost.
-/
import Derived.Test.YtapnkfkpkcajjaaMcG
namespace Go.Proofs.Ytapnkfkpkcajjaa
open Go Go.DI Go.Nets
set_option linter.unusedSimpArgs false
set_option linter.unusedVariables false

set_option maxHeartbeats 4000000 in
set_option maxRecDepth 20000 in
theorem dist_outer {n : Net} (hV : n.Valid) {N : Nat} (hN : n.nodes = N) {fl : List Int} (hbd : Bnd n fl) {p : Int → Int} (hp : Opt n fl p) (hpb : ∀ v, 0 ≤ p v ∧ p v ≤ 1000000) (hk : ∀ a ∈ n.arcs, 0 ≤ a.k ∧ a.k ≤ 1000) (hkc : ∀ e, -1000 ≤ stC n e ∧ stC n e ≤ 1000) {v : Value} {sb fb ub ob : Nat} {m0 : Mem} (hS : Sr n fl v sb fb ub N m0) (hP : m0.get ub = some ⟨rowI N p, true⟩) {out : Int → List Int} (hO : Outs out ob N m0) (hOk : OutOk n out) (hOl : ∀ x, (out x).length < 100000) {db bb qp : Nat} (hdb : m0.next ≤ db) (hbb : m0.next ≤ bb) (hqp : m0.next ≤ qp)
    {W : Nat} (hW : W < 800000000) {Q : IExit → Slots → Mem → Prop} :
    ∀ (k : Nat) (m : Mem) (σ : Slots) (b : Nat) (q : List Stop) (dist byf : Int → Int), q.length + 2 * sumN (capD dist) N ≤ k → Old m0 m → m0.next ≤ b → RQ db bb qp b N dist byf q m → q.length + sumN (capD dist) N ≤ W →
    Dij n fl p N dist (fun x => dec (byf x)) q → RT sb ob db bb qp N σ →
    (∀ σ' m' dist' byf', Old m0 m' → m'.get db = some ⟨rowI N dist', true⟩ → m'.get bb = some ⟨rowI N byf', true⟩ → Dij n fl p N dist' (fun x => dec (byf' x)) [] → σ' 6 = .slice (some ⟨db, 0, none⟩) N 1 → σ' 7 = .slice (some ⟨bb, 0, none⟩) N 1 → Q (.exit 2) σ' m') →
    WP Try.prog (.loop ir47_l2) σ m Q := by
  intro k
  induction k with
  | zero =>
    intro m σ b q dist byf hk0 ho hb hR hq hD hs hQ
    have hq0 : q = [] := List.length_eq_zero_iff.1 (by omega)
    subst hq0
    refine wp_round fun J hJ => ?_
    obtain ⟨s0, s1, s6, s7, s9⟩ := hs
    have gq := hR.gq.qq
    simp (disch := first | omega | (simp only [next_put, next_bump]; omega)) [ir47_l2, s9, gq, qlen_wp, get_put_self, get_put_ne, get_bump, put_put]
    exact hQ _ _ dist byf ho hR.gd hR.gb hD (by simp [s6]) (by simp [s7])
  | succ k ih =>
    intro m σ b q dist byf hk0 ho hb hR hq hD hs hQ
    refine wp_round fun J hJ => ?_
    obtain ⟨s0, s1, s6, s7, s9⟩ := hs
    have gq := hR.gq.qq
    by_cases hne : q = []
    · subst hne
      simp (disch := first | omega | (simp only [next_put, next_bump]; omega)) [ir47_l2, s9, gq, qlen_wp, get_put_self, get_put_ne, get_bump, put_put]
      exact hQ _ _ dist byf ho hR.gd hR.gb hD (by simp [s6]) (by simp [s7])
    have hpos : 0 < q.length := List.length_pos_iff.2 hne
    simp (disch := first | omega | (simp only [next_put, next_bump]; omega)) [ir47_l2, s9, gq, qlen_wp, hpos, get_put_self, get_put_ne, get_bump, put_put]
    refine pop_heap (hR.mono ((Old.refl m).bump 6)).gq hne (by omega) _ fun s m1 b1 q1 perm h1 k1 => ?_
    have n01 := ho.next
    have kn := k1.next
    simp only [next_bump] at kn
    have kget := fun c => k1.get c
    simp only [next_bump] at kget
    have lq := get_lt gq
    have lqb : b < m.next := by obtain ⟨r, hb⟩ := hR.gq.bb; exact get_lt hb
    have ld := get_lt hR.gd
    have lbb := get_lt hR.gb
    have kb := k1.blk
    simp only [next_bump] at kb
    have n1 := hR.n1
    have n2 := hR.n2
    have n3 := hR.n3
    have n4 := hR.n4
    have n5 := hR.n5
    have ho1 : Old m0 m1 := ⟨by omega, fun c hc => by rw [kget c (by omega) (by omega) (by omega), get_bump (by omega), ho.get c hc]⟩
    have gd1 : m1.get db = some ⟨rowI N dist, true⟩ := by rw [kget db (by omega) (by omega) (by omega), get_bump ld]; exact hR.gd
    have gb1 : m1.get bb = some ⟨rowI N byf, true⟩ := by rw [kget bb (by omega) (by omega) (by omega), get_bump lbb]; exact hR.gb
    have ld1 := get_lt gd1
    have hD1 := hD.perm (q' := s :: q1) (fun x => perm.mem_iff)
    obtain ⟨⟨u1, u2⟩, hs2, hs3⟩ := hD1.qs s (by simp)
    have hl1 := perm.length_eq
    simp only [List.length_cons] at hl1
    obtain ⟨su, sd⟩ := s
    simp only at u1 u2 hs2 hs3
    obtain ⟨u, rfl⟩ : ∃ u : Nat, su = u := ⟨su.toNat, by omega⟩
    have u3 : u < N := by omega
    have u4 : u + 1 ≤ N := u3
    have hri : ∀ (g : Int → Int) (x : Nat), x < N → (rowI N g)[x]? = some (I (g x)) := fun g x hx => rowI_get hx
    have hr1 := fun g => hri g u u3
    have lob0 : ob < m0.next := by obtain ⟨oc, o1, _⟩ := hO.get; exact get_lt o1
    have ho2 : Old m0 (m1.put (m.next + 4) (some ⟨[I u, I sd], true⟩)) := ho1.put (by omega)
    have hR2 : RQ db bb qp b1 N dist byf q1 (m1.put (m.next + 4) (some ⟨[I u, I sd], true⟩)) :=
      ⟨by rw [get_put_ne (by omega)]; exact gd1, by rw [get_put_ne (by omega)]; exact gb1, h1.put (by omega) (by omega), n1, n2, n3, by omega, by omega⟩
    have hob : ∃ oc : List Value, m1.get ob = some ⟨oc, true⟩ ∧ ∃ lv, oc.length = N ∧ oc[u]? = some lv ∧ Ints m0 lv (out u) := by
      obtain ⟨oc, o1, o2, o3⟩ := hO.get
      obtain ⟨lv, l1, l2⟩ := o3 u u3
      exact ⟨oc, ho1.some o1, lv, o2, l1, l2⟩
    obtain ⟨oc, o1, lv, o2, l1, l2⟩ := hob
    have lob := get_lt o1
    have l1' : ∀ h, oc[u]'h = lv := fun h => by rw [List.getElem?_eq_getElem h] at l1; simpa using l1
    obtain ⟨hlen, hsl⟩ := l2.len
    by_cases k2 : dist u < sd
    · simp (disch := first | omega | (simp only [next_put, next_bump]; omega)) [s0, s1, s6, s7, s9, gd1, u3, u4, hr1, head_td, k2, get_put_self, get_put_ne, get_bump, put_put]
      exact hJ _ _ (ih _ _ b1 q1 dist byf (by omega) ho2 (by omega) hR2 (by omega) (hD1.stale k2) ⟨by simp [s0], by simp [s1], by simp [s6], by simp [s7], by simp [s9]⟩ hQ)
    · simp (disch := first | omega | (simp only [next_put, next_bump]; omega)) [s0, s1, s6, s7, s9, gd1, u3, u4, hr1, head_td, k2, o1, o2, l1, l1', hlen, hsl, get_put_self, get_put_ne, get_bump, put_put, -lenOfV, -isSl]
      have hsd : dist u = sd := by omega
      refine dist_inner hV hN hbd hp hpb hk hkc hS hP hdb hbb hqp (ob := ob) (u := u) u3 (dat := sd) (ab := m.next + 4) (by omega) (by omega) (by omega) (by omega) l2 (fun z hz => ⟨((hOk.from_ u ⟨u1, by omega⟩) z hz).1, ((hOk.from_ u ⟨u1, by omega⟩) z hz).2.1⟩) (hOl u) hW (out u).length 0 _ _ b1 q1 dist byf (by omega) ho2 (by omega) (by omega) hR2 (get_put_self (by omega)) (by omega) hD1 hsd hs3 (fun z hz => by simp at hz) ⟨by simp [s0], by simp [s1], by simp [s6], by simp [s7], by simp [s9]⟩ (by simp) (by simp) (by simp [hlen]) (by simp) (fun σ' m' b' q' dist' byf' g1 g2 g3 g4 g5 g6 g7 g8 g9 => ?_)
      have hpop : Dij n fl p N dist' (fun x => dec (byf' x)) q' := by
        refine g6.pop fun e he1 he2 => ?_
        obtain ⟨a, φ, ha, _⟩ := room_pos he1
        obtain ⟨z, hz1, hz2⟩ := hOk.all e (by have := (List.getElem?_eq_some_iff.1 ha).1; exact this)
        rw [he2] at hz1
        have := g8 z hz1
        rw [hz2] at this
        have := this he1
        rw [he2]; simp only; rw [g7]; exact this
      simp (disch := first | omega | (simp only [next_put, next_bump]; omega)) [get_put_self, get_put_ne, get_bump, put_put]
      exact hJ _ _ (ih _ _ b' q' dist' byf' (by omega) g1 g2 g3 (by omega) hpop g9 hQ)

theorem rowI_congrN {N : Nat} {g g' : Int → Int} (h : ∀ v : Nat, v < N → g v = g' v) : rowI N g = rowI N g' := by
  unfold rowI
  apply List.map_congr_left
  intro x hx
  rw [h x (by simpa using hx)]
set_option maxHeartbeats 4000000 in
theorem fill_loop {N db : Nat} (hN : N < 100000) {Q : IExit → Slots → Mem → Prop} : ∀ (r i : Nat) (m : Mem) (σ : Slots) (g : Int → Int), i + r = N → m.get db = some ⟨rowI N g, true⟩ → (∀ v : Nat, v < i → g (v : Int) = far) → σ 31 = I N → σ 32 = I i → σ 6 = .slice (some ⟨db, 0, none⟩) N 1 →
    (∀ σ', σ' 0 = σ 0 → σ' 1 = σ 1 → σ' 6 = σ 6 → σ' 7 = σ 7 → Q (.exit 0) σ' (m.put db (some ⟨rowI N (fun _ => far), true⟩))) → WP Try.prog (.loop ir47_l0) σ m Q
  | 0, i, m, σ, g, hi, hg, hv, s31, s32, s6, hQ => by
    refine wp_round fun J hJ => ?_
    have h1 : ¬ i < N := by omega
    have e : rowI N g = rowI N (fun _ => far) := rowI_congrN fun v hv' => hv v (by omega)
    simp [ir47_l0, s31, s32, h1]
    have := hQ (upd σ 33 (.bool false)) (by simp) (by simp) (by simp) (by simp)
    rw [← e, put_same hg] at this
    exact this
  | r + 1, i, m, σ, g, hi, hg, hv, s31, s32, s6, hQ => by
    refine wp_round fun J hJ => ?_
    have h1 : i < N := by omega
    have h2 : i + 1 ≤ N := h1
    have hl := get_lt hg
    have w0 : IntKind.i64.wrap ((i : Int) + 1) = (i : Int) + 1 := i64_id (by omega) (by omega)
    simp (disch := first | omega | (simp only [next_put, next_bump]; omega)) [ir47_l0, s31, s32, s6, h1, h2, hg, w0, rowI_setF, get_put_self, get_put_ne, get_bump, put_put, -rowI_set]
    refine hJ _ _ (fill_loop hN r (i + 1) _ _ (setF g i 1099511627776) (by omega) (get_put_self hl) (fun v hv' => ?_) (by simp [s31]) (by simp) (by simp [s6]) (fun σ' q0 q1 q6 q7 => ?_))
    · by_cases h : (v : Int) = i
      · rw [h, setF_same]; rfl
      · rw [setF_ne h]; exact hv v (by omega)
    · rw [put_put]
      exact hQ σ' (by rw [q0]; simp) (by rw [q1]; simp) (by rw [q6]; simp) (by rw [q7]; simp)

set_option maxHeartbeats 4000000 in
set_option maxRecDepth 20000 in
theorem dist_wp {n : Net} (hV : n.Valid) {N : Nat} (hN : n.nodes = N) {fl : List Int} (hbd : Bnd n fl) {p : Int → Int} (hp : Opt n fl p) (hp0 : p n.src = 0) (hpb : ∀ v, 0 ≤ p v ∧ p v ≤ 1000000) (hk : ∀ a ∈ n.arcs, 0 ≤ a.k ∧ a.k ≤ 1000) (hkc : ∀ e, -1000 ≤ stC n e ∧ stC n e ≤ 1000) {v : Value} {sb fb ub ob : Nat} {m : Mem} (hS : Sr n fl v sb fb ub N m) (hP : m.get ub = some ⟨rowI N p, true⟩) {out : Int → List Int} (hO : Outs out ob N m) (hOk : OutOk n out) (hOl : ∀ x, (out x).length < 100000) :
    WPCall Try.prog 47 [ptr sb, .slice (some ⟨ob, 0, none⟩) N 1] m fun r m' => Old m m' ∧ ∃ (db bb : Nat) (dist byf : Int → Int), r = .tuple #[.slice (some ⟨db, 0, none⟩) N 1, .slice (some ⟨bb, 0, none⟩) N 1] ∧ m.next ≤ db ∧ m.next ≤ bb ∧ db ≠ bb ∧ m'.get db = some ⟨rowI N dist, true⟩ ∧ m'.get bb = some ⟨rowI N byf, true⟩ ∧ Dij n fl p N dist (fun x => dec (byf x)) [] := by
  rw [call47 (by simp)]
  have hss := hS.s
  have hlb := get_lt hss
  obtain ⟨s1, s2⟩ := hV.src
  have h7 := hV.n7
  obtain ⟨ks, hks⟩ : ∃ k : Nat, n.src = k := ⟨n.src.toNat, by omega⟩
  have s3 : ks < N := by omega
  have s4 : ks + 1 ≤ N := s3
  have s5 : n.src < (N : Int) := by omega
  have s6 : n.src.toNat = ks := by omega
  have hN' : n.nodes.toNat = N := by omega
  have z0 : 0 ≤ n.nodes := by omega
  have z1 : n.nodes * 8 ≤ 140737488355328 := by omega
  have z2 : n.nodes ≤ 9223372036854775807 := by omega
  simp (disch := first | omega | (simp only [next_put, next_bump]; omega)) [ir47_b, hss, hN', z0, z1, z2, rowI_zero, get_put_self, get_put_ne, get_bump, put_put, -rowI_set]
  refine fill_loop (N := N) (db := m.next + 5) (by omega) N 0 _ _ (fun _ => 0) (by omega) (by simp (disch := first | omega | (simp only [next_put, next_bump]; omega)) only [get_put_self, get_put_ne]) (fun v hv => by omega) (by simp) (by simp) (by simp) (fun σ' q0 q1 q6 q7 => ?_)
  simp at q0 q1 q6 q7
  simp (disch := first | omega | (simp only [next_put, next_bump]; omega)) [hss, q0, q1, q6, q7, s1, s3, s4, s5, s6, rowI_setF, get_put_self, get_put_ne, get_bump, put_put, -rowI_set]
  have hst := Dij.start hV hN fl hp0 (fun x => dec ((fun _ => (0 : Int)) x))
  have hc1 := capD_le (setF (fun _ => far) n.src 0) N
  have hc2 : N * 700001 ≤ 700 * 700001 := Nat.mul_le_mul_right _ (by omega)
  refine dist_outer hV hN hbd hp hpb hk hkc hS hP hO hOk hOl (db := m.next + 5) (bb := m.next + 11) (qp := m.next + 14 + 7) (by omega) (by omega) (by omega) (W := 700000000) (by omega) (1 + 2 * sumN (capD (setF (fun _ => far) n.src 0)) N) _ _ (m.next + 14 + 6) [(n.src, 0)] (setF (fun _ => far) n.src 0) (fun _ => 0) (by simp) ?_ (by omega) ⟨?_, ?_, ⟨?_, ⟨[], ?_⟩, by omega⟩, by omega, by omega, by omega, by omega, by omega⟩ (by simp; omega) hst ⟨by simp [q0], by simp [q1], by simp [q6], by simp [q7], by simp⟩ (fun σ'' m'' dist' byf' g1 g2 g3 g4 g5 g6 => ?_)
  · exact ⟨by simp only [next_put, next_bump]; omega, fun b hb => by simp (disch := first | omega | (simp only [next_put, next_bump]; omega)) only [get_put_ne, get_bump]⟩
  · simp (disch := first | omega | (simp only [next_put, next_bump]; omega)) only [get_put_self, get_put_ne, get_bump, hks]
  · simp (disch := first | omega | (simp only [next_put, next_bump]; omega)) only [get_put_self, get_put_ne, get_bump]
  · simp (disch := first | omega | (simp only [next_put, next_bump]; omega)) only [get_put_self, get_put_ne, get_bump, List.length_cons, List.length_nil]
  · simp (disch := first | omega | (simp only [next_put, next_bump]; omega)) only [get_put_self, get_put_ne, get_bump]
    simp [stopsC, stopC]
  · simp (disch := first | omega | (simp only [next_put, next_bump]; omega)) [g5, g6, get_put_self, get_put_ne, get_bump, put_put]
    exact ⟨g1, _, _, ⟨rfl, rfl⟩, by omega, by omega, by omega, dist', g2, byf', g3, g4⟩
end Go.Proofs.Ytapnkfkpkcajjaa
