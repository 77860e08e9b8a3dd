/-
  The reference's 'reach', whole.
-/
import Derived.Test.YtapnkfkpkcajjaaMfV
namespace Go.Proofs.Ytapnkfkpkcajjaa
open Go Go.DI Go.Nets
set_option linter.unusedSimpArgs false
set_option linter.unusedVariables false

set_option maxHeartbeats 8000000 in
set_option maxRecDepth 20000 in
theorem rreach_outer {n : Net} (hV : n.Valid) {N : Nat} (hN : n.nodes = N) {v : Value} {fl : List Int} (hfl : fl.length = n.arcs.length) {fb nb bb eb lo : Nat} {me : Mem} (hl : RL fb nb bb eb lo me) (hv : Arcs me v n.arcs) {Q : IExit → Slots → Mem → Prop} :
    ∀ (k : Nat) (m : Mem) (σ : Slots) (qb off : Nat) (qc : List Value) (q : List Int) (se : Int → Bool) (byf : Int → Int), q.length + cntU se N = k → k ≤ 701 → RF n v fl fb nb bb eb lo me m → lo ≤ qb → RI N bb eb qb off qc q se byf m →
    Bfs n fl se (fun x => dec2 n.arcs.length (byf x)) q → σ 1 = .slice (some ⟨fb, 0, none⟩) fl.length 1 → σ 2 = ptr nb → σ 6 = .slice (some ⟨eb, 0, none⟩) N 1 → σ 7 = .slice (some ⟨bb, 0, none⟩) N 1 → σ 8 = .slice (some ⟨qb, off, none⟩) q.length 1 →
    (∀ σ' m' se' byf', RF n v fl fb nb bb eb lo me m' → m'.get bb = some ⟨rowI N byf', true⟩ → m'.get eb = some ⟨rowB N se', true⟩ → Bfs n fl se' (fun x => dec2 n.arcs.length (byf' x)) [] → (∀ t, t < 8 → σ' t = σ t) → Q (.exit 0) σ' m') → WP Try.prog (.loop ir46_l1) σ m Q := by
  intro k
  induction k with
  | zero =>
    intro m σ qb off qc q se byf hk hk7 hF hqb hR hB s1 s2 s6 s7 s8 hQ
    have hq : q = [] := List.length_eq_zero_iff.1 (by omega)
    subst hq
    refine wp_round fun J hJ => ?_
    simp (disch := first | omega | (simp only [next_put, next_bump]; omega)) [ir46_l1, s8, get_put_self, get_put_ne, get_bump, put_put]
    exact hQ _ _ se byf hF hR.b hR.e hB (fun t ht => by simp (disch := omega) only [upd_ne])
  | succ k ih =>
    intro m σ qb off qc q se byf hk hk7 hF hqb hR hB s1 s2 s6 s7 s8 hQ
    refine wp_round fun J hJ => ?_
    cases q with
    | nil =>
      simp (disch := first | omega | (simp only [next_put, next_bump]; omega)) [ir46_l1, s8, get_put_self, get_put_ne, get_bump, put_put]
      exact hQ _ _ se byf hF hR.b hR.e hB (fun t ht => by simp (disch := omega) only [upd_ne])
    | cons u q =>
      have hqv := hR.qv
      have hql := hR.ql
      have hqg := hR.qg
      simp only [List.length_cons] at hql hqv s8 hk
      have hq0 : qc[off]? = some (I u) := by
        have := congrArg (fun l => l[0]?) hqv
        simp at this
        exact this
      have hq0' : ∀ h, qc[off]'h = I u := fun h => by rw [List.getElem?_eq_getElem h] at hq0; simpa using hq0
      have q1 : off + 1 ≤ qc.length := by omega
      have q2 : off < qc.length := by omega
      have z1 : (1 : Int) ≤ (q.length : Int) + 1 := by omega
      have z2 : ((q.length : Int) + 1).toNat - 1 = q.length := by omega
      have z3 : ((q.length : Int) + 1).toNat = q.length + 1 := by omega
      rw [List.drop_eq_getElem_cons q2, List.take_succ_cons] at hqv
      injection hqv with _ hqv
      simp (disch := first | omega | (simp only [next_put, next_bump]; omega)) [ir46_l1, s8, hqg, hq0, hq0', q1, q2, z1, z2, z3, head_td, get_put_self, get_put_ne, get_bump, put_put]
      refine rreach_inner hV hN hfl hl hv (x := u) n.arcs.length 0 m _ qb (off + 1) qc q se byf (by omega) hF hqb ⟨hR.b, hR.e, hR.qg, by omega, hqv, hR.n1, hR.n2, hR.n3⟩ (by omega) hB (fun e he => by omega) (by simp [s1]) (by simp [s2]) (by simp [s6]) (by simp [s7]) (by simp) (by simp) (by simp) (fun σ' m' qb' off' qc' new se' byf' g1 g2 g3 g4 g5 g6 g7 g8 => ?_)
      have q1' : ∀ t, t < 8 → σ' t = σ t := fun t ht => by rw [g7 t ht]; simp (disch := omega) only [upd_ne]
      simp
      refine hJ _ _ (ih m' _ qb' off' qc' (q ++ new) se' byf' (by simp; omega) (by omega) g1 g2 g3 (g5.pop (fun e he hx => ?_)) (by simp [q1' 1 (by omega), s1]) (by simp [q1' 2 (by omega), s2]) (by simp [q1' 6 (by omega), s6]) (by simp [q1' 7 (by omega), s7]) (by simp [g8]) (fun σ'' m'' se'' byf'' h1 h2 h3 h4 h5 => hQ σ'' m'' se'' byf'' h1 h2 h3 h4 (fun t ht => by rw [h5 t ht]; exact q1' t ht)))
      obtain ⟨a, φ, ha, _⟩ := room_pos he
      exact g6 e ((List.getElem?_eq_some_iff.1 ha).1) he hx

def RPost (n : Net) (N : Nat) (fl : List Int) (m : Mem) (r : Value) (m' : Mem) : Prop := Old m m' ∧ ∃ (bb eb : Nat) (byf : Int → Int) (se : Int → Bool), r = .tuple #[.slice (some ⟨eb, 0, none⟩) N 1, .slice (some ⟨bb, 0, none⟩) N 1] ∧ m.next ≤ bb ∧ m.next ≤ eb ∧ m'.get bb = some ⟨rowI N byf, true⟩ ∧ m'.get eb = some ⟨rowB N se, true⟩ ∧ Bfs n fl se (fun x => dec2 n.arcs.length (byf x)) []
set_option maxHeartbeats 8000000 in
set_option maxRecDepth 20000 in
theorem rreach_wp {n : Net} (hV : n.Valid) {N : Nat} (hN : n.nodes = N) {v : Value} {fl : List Int} (hfl : fl.length = n.arcs.length) {fb : Nat} {fo : Bool} {m : Mem} (hv : Arcs m v n.arcs) (hf : m.get fb = some ⟨fl.map (Value.int .i64 ·), fo⟩) : WPCall Try.prog 46 [netV n v, .slice (some ⟨fb, 0, none⟩) fl.length 1] m (RPost n N fl m) := by
  rw [call46 (by simp)]
  obtain ⟨s1, s2⟩ := hV.src
  have h7 := hV.n7
  have lf := get_lt hf
  obtain ⟨ks, hks⟩ : ∃ k : Nat, n.src = k := ⟨n.src.toNat, by omega⟩
  have s3 : ks < N := by omega
  have s4 : ks + 1 ≤ N := s3
  have s5 : n.src < (N : Int) := by omega
  have s6 : n.src.toNat = ks := by omega
  have hN' : n.nodes.toNat = N := by omega
  have z0 : 0 ≤ n.nodes := by omega
  have z1 : n.nodes * 8 ≤ 140737488355328 := by omega
  have z1' : n.nodes ≤ 140737488355328 := by omega
  have z2 : n.nodes ≤ 9223372036854775807 := by omega
  simp (disch := first | omega | (simp only [next_put, next_bump]; omega)) [ir46_b, s1, s5, s6, s3, s4, hN', z0, z1, z1', z2, rowB_zero, rowB_set, get_put_self, get_put_ne, get_bump, put_put, -rowI_set]
  refine rreach_outer hV hN hfl (fb := fb) (nb := m.next) (bb := m.next + 3 + 5) (eb := m.next + 3 + 2) (lo := m.next + 3 + 8) (me := m) ⟨⟨by omega, by omega, by omega, lf⟩, ⟨by omega, by omega, by omega, by omega⟩, ⟨by omega, by omega⟩⟩ hv (1 + cntU (setF (fun _ => false) n.src true) N) _ _ (m.next + 3 + 8 + 2) 0 [I n.src] [n.src] (setF (fun _ => false) n.src true) (fun _ => 0) (by simp) ?_ ⟨⟨by simp only [next_put, next_bump]; omega, fun b hb => by simp (disch := first | omega | (simp only [next_put, next_bump]; omega)) only [get_put_self, get_put_ne, get_bump]⟩, by simp (disch := first | omega | (simp only [next_put, next_bump]; omega)) only [get_put_self, get_put_ne, get_bump], ⟨fo, by simp (disch := first | omega | (simp only [next_put, next_bump]; omega)) only [get_put_self, get_put_ne, get_bump, hf]⟩, by simp only [next_put, next_bump]; omega⟩ (by omega) ⟨by simp (disch := first | omega | (simp only [next_put, next_bump]; omega)) only [get_put_self, get_put_ne, get_bump, rowI_zero], by simp (disch := first | omega | (simp only [next_put, next_bump]; omega)) only [get_put_self, get_put_ne, get_bump, hks, rowB_set], by simp (disch := first | omega | (simp only [next_put, next_bump]; omega)) only [get_put_self, get_put_ne, get_bump], by simp, by simp, by omega, by omega, by omega⟩ (by have := Bfs.start hV fl (fun x => dec2 n.arcs.length ((fun _ => 0) x)); exact this) (by simp) (by simp) (by simp) (by simp) (by simp) (fun σ' m' se' byf' g1 g2 g3 g4 g5 => ?_)
  · have := cntU_set (fun _ => false) n.src s1 rfl N s5
    have := cntU_le (fun _ => false) N
    omega
  · have q6 : σ' 6 = .slice (some ⟨m.next + 3 + 2, 0, none⟩) N 1 := by rw [g5 6 (by omega)]; simp
    have q7 : σ' 7 = .slice (some ⟨m.next + 3 + 5, 0, none⟩) N 1 := by rw [g5 7 (by omega)]; simp
    simp (disch := first | omega | (simp only [next_put, next_bump]; omega)) [q6, q7, get_put_self, get_put_ne, get_bump, put_put]
    exact ⟨g1.old, _, _, byf', se', rfl, by omega, by omega, g2, g3, g4⟩
end Go.Proofs.Ytapnkfkpkcajjaa
