/-
  'reach'.
-/
import Derived.Test.YtapnkfkpkcajjaaMfG
namespace Go.Proofs.Ytapnkfkpkcajjaa
open Go Go.DI Go.Nets
set_option linter.unusedSimpArgs false
set_option linter.unusedVariables false

/-- the rows of arcs at the nodes -/
structure Outs (out : Int → List Int) (ub N : Nat) (m : Mem) : Prop where
  get : ∃ oc : List Value, m.get ub = some ⟨oc, true⟩ ∧ oc.length = N ∧ ∀ k : Nat, k < N → ∃ lv, oc[k]? = some lv ∧ Ints m lv (out k)
theorem Outs.mono {out : Int → List Int} {ub N : Nat} {m m' : Mem} (h : Outs out ub N m) (ho : Old m m') : Outs out ub N m' := by
  obtain ⟨oc, h1, h2, h3⟩ := h.get
  exact ⟨oc, ho.some h1, h2, fun k hk => by obtain ⟨lv, g1, g2⟩ := h3 k hk; exact ⟨lv, g1, g2.mono ho⟩⟩

set_option maxHeartbeats 4000000 in
set_option maxRecDepth 20000 in
theorem reach_outer {n : Net} (hV : n.Valid) {N : Nat} (hN : n.nodes = N) {fl : List Int} (hbd : Bnd n fl) {v : Value} {sb fb ub : Nat} {m0 : Mem} (hS : Sr n fl v sb fb ub N m0) {out : Int → List Int} (hO : Outs out ub N m0) (hOk : OutOk n out) (hOl : ∀ x, (out x).length < 100000) {bb eb : Nat} (hbb : m0.next ≤ bb) (heb : m0.next ≤ eb)
    {Q : IExit → Slots → Mem → Prop} :
    ∀ (k : Nat) (m : Mem) (σ : Slots) (qb off : Nat) (qc : List Value) (q : List Int) (se : Int → Bool) (byf : Int → Int), q.length + cntU se N = k → k ≤ 701 → Old m0 m → m0.next ≤ qb → RI N bb eb qb off qc q se byf m →
    Bfs n fl se (fun x => dec (byf x)) q → RS sb bb eb qb off N q σ →
    (∀ σ' m' se' byf', Old m0 m' → m'.get bb = some ⟨rowI N byf', true⟩ → m'.get eb = some ⟨rowB N se', true⟩ → Bfs n fl se' (fun x => dec (byf' x)) [] → σ' 4 = .slice (some ⟨bb, 0, none⟩) N 1 → σ' 5 = .slice (some ⟨eb, 0, none⟩) N 1 → Q (.exit 0) σ' m') →
    WP Try.prog (.loop ir44_l1) σ m Q := by
  intro k
  induction k with
  | zero =>
    intro m σ qb off qc q se byf hk hk7 ho hqb hR hB hs hQ
    have hq : q = [] := List.length_eq_zero_iff.1 (by omega)
    subst hq
    refine wp_round fun J hJ => ?_
    obtain ⟨s0, s4, s5, s6⟩ := hs
    simp [ir44_l1, s6]
    exact hQ _ _ se byf ho hR.b hR.e hB (by simp [s4]) (by simp [s5])
  | succ k ih =>
    intro m σ qb off qc q se byf hk hk7 ho hqb hR hB hs hQ
    refine wp_round fun J hJ => ?_
    have hs' := hs
    obtain ⟨s0, s4, s5, s6⟩ := hs'
    cases q with
    | nil =>
      simp [ir44_l1, s6]
      exact hQ _ _ se byf ho hR.b hR.e hB (by simp [s4]) (by simp [s5])
    | cons u q =>
      have hSm := hS.mono ho
      have hss := hSm.s
      obtain ⟨oc, o1, o2, o3⟩ := (hO.mono ho).get
      have hu := hB.qs u (by simp)
      obtain ⟨u1, u2⟩ := hB.node u hu
      obtain ⟨ku, rfl⟩ : ∃ ku : Nat, u = ku := ⟨u.toNat, by omega⟩
      have u3 : ku < N := by omega
      have u4 : ku + 1 ≤ N := u3
      obtain ⟨oc0, p1, p2, p3⟩ := hO.get
      have hoc : oc0 = oc := by
        have := ho.some p1; rw [o1] at this; cases this; rfl
      subst hoc
      obtain ⟨lv, l1, l2⟩ := p3 ku u3
      have l1' : ∀ h, oc0[ku]'h = lv := fun h => by rw [List.getElem?_eq_getElem h] at l1; simpa using l1
      obtain ⟨hlen, hsl⟩ := l2.len
      have hqv := hR.qv
      have hql := hR.ql
      have hqg := hR.qg
      simp only [List.length_cons] at hql hqv s6 hk
      have hq0 : qc[off]? = some (I ku) := by
        have := congrArg (fun l => l[0]?) hqv
        simp at this
        exact this
      have hq0' : ∀ h, qc[off]'h = I ku := fun h => by rw [List.getElem?_eq_getElem h] at hq0; simpa using hq0
      have q1 : off + 1 ≤ qc.length := by omega
      have q2 : off < qc.length := by omega
      simp (disch := first | omega | (simp only [next_put, next_bump]; omega)) [ir44_l1, s0, s4, s5, s6, hss, o1, o2, u3, u4, l1, l1', hlen, hsl, hqg, hq0, hq0', q1, q2, head_td, get_put_self, get_put_ne, get_bump, put_put, -lenOfV, -isSl]
      refine reach_inner hV hN hbd hS hbb heb l2 (fun z hz => ⟨((hOk.from_ ku ⟨u1, by omega⟩) z hz).1, ((hOk.from_ ku ⟨u1, by omega⟩) z hz).2.1⟩) (hOl ku) (out ku).length 0 m _ qb off qc ((ku : Int) :: q) se byf (by omega) ho hqb hR (by simp; omega) hB hu (fun z hz => by simp at hz) ⟨by simp [s0], by simp [s4], by simp [s5], by simp [s6]⟩ (by simp) (by simp [hlen]) (by simp) (fun σ' m' qb' off' qc' q' se' byf' new g1 g2 g3 g4 g5 g6 g7 g8 => ?_)
      obtain ⟨a0, a4, a5, a6⟩ := g8
      have hpop : Bfs n fl se' (fun x => dec (byf' x)) (q ++ new) := by
        refine Bfs.pop (u := (ku : Int)) (by simpa using g6) fun e he1 he2 => ?_
        obtain ⟨a, φ, ha, _⟩ := room_pos he1
        obtain ⟨z, hz1, hz2⟩ := hOk.all e (by have := (List.getElem?_eq_some_iff.1 ha).1; exact this)
        rw [he2] at hz1
        have := g7 z hz1
        rw [hz2] at this
        exact this he1
      have hR2 := g3
      obtain ⟨rb, re, rq, rql, rqv, rn1, rn2, rn3⟩ := hR2
      simp only [List.cons_append, List.length_cons, List.length_append, List.map_cons] at rql rqv a6
      have q2' : off' < qc'.length := by omega
      have z1 : (1 : Int) ≤ (q.length : Int) + (new.length : Int) + 1 := by omega
      have z3 : ((q.length : Int) + (new.length : Int) + 1).toNat = q.length + new.length + 1 := by omega
      have z2 : q.length + new.length + 1 - 1 = q.length + new.length := by omega
      simp (disch := first | omega | (simp only [next_put, next_bump]; omega)) [a0, a4, a5, a6, z1, z2, z3, get_put_self, get_put_ne, get_bump, put_put]
      refine hJ _ _ (ih m' _ qb' (off' + 1) qc' (q ++ new) se' byf' (by simp; omega) (by omega) g1 g2 ⟨rb, re, rq, by simp; omega, ?_, rn1, rn2, rn3⟩ hpop ⟨by simp [a0], by simp [a4], by simp [a5], by simp⟩ hQ)
      rw [List.drop_eq_getElem_cons q2', List.take_succ_cons] at rqv
      injection rqv with _ h
      rw [List.length_append]; exact h

set_option maxHeartbeats 4000000 in
set_option maxRecDepth 20000 in
theorem reach_wp {n : Net} (hV : n.Valid) {N : Nat} (hN : n.nodes = N) {fl : List Int} (hbd : Bnd n fl) {v : Value} {sb fb ub : Nat} {m : Mem} (hS : Sr n fl v sb fb ub N m) {out : Int → List Int} (hO : Outs out ub N m) (hOk : OutOk n out) (hOl : ∀ x, (out x).length < 100000) :
    WPCall Try.prog 44 [ptr sb] m fun r m' => Old m m' ∧ ∃ (bb eb : Nat) (byf : Int → Int) (se : Int → Bool), r = .tuple #[.slice (some ⟨bb, 0, none⟩) N 1, .slice (some ⟨eb, 0, none⟩) N 1] ∧ m.next ≤ bb ∧ m.next ≤ eb ∧ m'.get bb = some ⟨rowI N byf, true⟩ ∧ m'.get eb = some ⟨rowB N se, true⟩ ∧ Bfs n fl se (fun x => dec (byf x)) [] := by
  rw [call44 (by simp)]
  have hss := hS.s
  have hlb := get_lt hss
  obtain ⟨s1, s2⟩ := hV.src
  have h7 := hV.n7
  obtain ⟨ks, hks⟩ : ∃ k : Nat, n.src = k := ⟨n.src.toNat, by omega⟩
  have s3 : ks < N := by omega
  have s4 : ks + 1 ≤ N := s3
  have s5 : n.src < (N : Int) := by omega
  have s6 : n.src.toNat = ks := by omega
  have hN' : n.nodes.toNat = N := by omega
  have z0 : 0 ≤ n.nodes := by omega
  have z1 : n.nodes * 8 ≤ 140737488355328 := by omega
  have z1' : n.nodes ≤ 140737488355328 := by omega
  have z2 : n.nodes ≤ 9223372036854775807 := by omega
  simp (disch := first | omega | (simp only [next_put, next_bump]; omega)) [ir44_b, hss, s1, s5, s6, s3, s4, hN', z0, z1, z1', z2, rowB_zero, rowB_set, get_put_self, get_put_ne, get_bump, put_put, -rowI_set]
  refine reach_outer hV hN hbd hS hO hOk hOl (bb := m.next + 5) (eb := m.next + 11) (by omega) (by omega) (1 + cntU (setF (fun _ => false) n.src true) N) _ _ (m.next + 14 + 5) 0 [I n.src] [n.src] (setF (fun _ => false) n.src true) (fun _ => 0) (by simp) ?_ ?_ (by omega) ⟨?_, ?_, ?_, by simp, by simp, by omega, by omega, by omega⟩ (by have := Bfs.start hV fl (fun x => dec ((fun _ => 0) x)); exact this) ⟨by simp, by simp, by simp, by simp⟩ (fun σ' m' se' byf' g1 g2 g3 g4 g5 g6 => ?_)
  · have := cntU_set (fun _ => false) n.src s1 rfl N s5
    have := cntU_le (fun _ => false) N
    omega
  · exact ⟨by simp only [next_put, next_bump]; omega, fun b hb => by simp (disch := first | omega | (simp only [next_put, next_bump]; omega)) only [get_put_ne, get_bump]⟩
  · simp (disch := first | omega | (simp only [next_put, next_bump]; omega)) only [get_put_self, get_put_ne, get_bump, rowI_zero]
  · simp (disch := first | omega | (simp only [next_put, next_bump]; omega)) only [get_put_self, get_put_ne, get_bump, hks, rowB_set]
  · simp (disch := first | omega | (simp only [next_put, next_bump]; omega)) only [get_put_self, get_put_ne, get_bump]
  · simp (disch := first | omega | (simp only [next_put, next_bump]; omega)) [g5, g6, get_put_self, get_put_ne, get_bump, put_put]
    exact ⟨g1, _, _, ⟨rfl, rfl⟩, by omega, by omega, byf', g2, se', g3, g4⟩
end Go.Proofs.Ytapnkfkpkcajjaa
