/-
  'reach': the search over the arcs of one node.
-/
import Derived.Test.YtapnkfkpkcajjaaMfF
namespace Go.Proofs.Ytapnkfkpkcajjaa
open Go Go.DI Go.Nets
set_option linter.unusedSimpArgs false
set_option linter.unusedVariables false

def rowB (N : Nat) (g : Int → Bool) : List Value := (List.range N).map fun (x : Nat) => .bool (g x)
@[simp] theorem rowB_len {N : Nat} {g : Int → Bool} : (rowB N g).length = N := by simp [rowB]
@[simp] theorem rowB_getElem {N : Nat} {g : Int → Bool} {k : Nat} (h : k < (rowB N g).length) : (rowB N g)[k]'h = .bool (g k) := by simp [rowB]
theorem rowB_get {N : Nat} {g : Int → Bool} {k : Nat} (h : k < N) : (rowB N g)[k]? = some (.bool (g k)) := by simp [rowB, h]
theorem rowB_set {N : Nat} {g : Int → Bool} {k : Nat} {c : Bool} : (rowB N g).set k (.bool c) = rowB N (setF g k c) := by
  apply List.ext_getElem
  · simp
  · intro i h1 h2
    simp at h1
    rw [List.getElem_set]
    simp only [rowB_getElem, setF]
    by_cases h : k = i
    · subst h; simp
    · have : ¬ (i : Int) = k := by omega
      simp [h, this]
theorem rowI_setF {N : Nat} {g : Int → Int} {k : Nat} {c : Int} : (rowI N g).set k (I c) = rowI N (setF g k c) := rowI_set
theorem rowB_zero {N : Nat} : List.replicate N (.bool false) = rowB N (fun _ => false) := by
  apply List.ext_getElem <;> simp [rowB]

structure RI (N bb eb qb off : Nat) (qc : List Value) (q : List Int) (se : Int → Bool) (byf : Int → Int) (m : Mem) : Prop where
  b : m.get bb = some ⟨rowI N byf, true⟩
  e : m.get eb = some ⟨rowB N se, true⟩
  qg : m.get qb = some ⟨qc, true⟩
  ql : off + q.length ≤ qc.length
  qv : (qc.drop off).take q.length = q.map (Value.int .i64 ·)
  n1 : bb ≠ eb
  n2 : qb ≠ bb
  n3 : qb ≠ eb
structure RS (sb bb eb qb off N : Nat) (q : List Int) (σ : Slots) : Prop where
  s0 : σ 0 = ptr sb
  s4 : σ 4 = .slice (some ⟨bb, 0, none⟩) N 1
  s5 : σ 5 = .slice (some ⟨eb, 0, none⟩) N 1
  s6 : σ 6 = .slice (some ⟨qb, off, none⟩) q.length 1

set_option maxHeartbeats 4000000 in
theorem reach_inner {n : Net} (hV : n.Valid) {N : Nat} (hN : n.nodes = N) {fl : List Int} (hbd : Bnd n fl) {v : Value} {sb fb ub : Nat} {m0 : Mem} (hS : Sr n fl v sb fb ub N m0) {bb eb : Nat} (hbb : m0.next ≤ bb) (heb : m0.next ≤ eb)
    {u : Int} {L : List Int} {lv : Value} (hL : Ints m0 lv L) (hLok : ∀ z ∈ L, (dec z).1 < n.arcs.length ∧ stF n (dec z) = u) (hLl : L.length < 100000) {Q : IExit → Slots → Mem → Prop} :
    ∀ (r j : Nat) (m : Mem) (σ : Slots) (qb off : Nat) (qc : List Value) (q : List Int) (se : Int → Bool) (byf : Int → Int), j + r = L.length → Old m0 m → m0.next ≤ qb → RI N bb eb qb off qc q se byf m → q.length + cntU se N ≤ 701 →
    Bfs n fl se (fun x => dec (byf x)) q → se u = true → (∀ z ∈ L.take j, 0 < room n fl (dec z) → se (stT n (dec z)) = true) → RS sb bb eb qb off N q σ → σ 49 = lv → σ 50 = I L.length → σ 51 = I j →
    (∀ σ' m' qb' off' qc' q' se' byf' new, Old m0 m' → m0.next ≤ qb' → RI N bb eb qb' off' qc' (q ++ new) se' byf' m' → q' = q ++ new → new.length + cntU se' N = cntU se N → Bfs n fl se' (fun x => dec (byf' x)) (q ++ new) → (∀ z ∈ L, 0 < room n fl (dec z) → se' (stT n (dec z)) = true) → RS sb bb eb qb' off' N (q ++ new) σ' → Q (.exit 2) σ' m') →
    WP Try.prog (.loop ir44_l0) σ m Q
  | 0, j, m, σ, qb, off, qc, q, se, byf, hj, ho, hqb, hR, hql, hB, hu, hz, hs, s49, s50, s51, hQ => by
    refine wp_round fun J hJ => ?_
    obtain ⟨s0, s4, s5, s6⟩ := hs
    have h1 : ¬ j < L.length := by omega
    simp [ir44_l0, s49, s50, s51, h1]
    refine hQ _ _ qb off qc q se byf [] ho hqb (by simpa using hR) (by simp) (by simp) (by simpa using hB) (fun z hz' => hz z ?_) ⟨by simp [s0], by simp [s4], by simp [s5], by simp [s6]⟩
    rw [List.take_of_length_le (by omega)]; exact hz'
  | r + 1, j, m, σ, qb, off, qc, q, se, byf, hj, ho, hqb, hR, hql, hB, hu, hz, hs, s49, s50, s51, hQ => by
    refine wp_round fun J hJ => ?_
    have hs' := hs
    obtain ⟨s0, s4, s5, s6⟩ := hs'
    have h1 : j < L.length := by omega
    have h1' : j + 1 ≤ L.length := h1
    obtain ⟨z, hz0⟩ : ∃ z, L[j]? = some z := ⟨L[j]'h1, by simp⟩
    have hz2 : ∀ h, L[j]'h = z := fun h => by rw [List.getElem?_eq_getElem h] at hz0; simpa using hz0
    have hzm := List.mem_of_getElem? hz0
    obtain ⟨hz3, hz4⟩ := hLok z hzm
    obtain ⟨lb, lo, rfl, hlb⟩ := hL.blk h1
    have hgl := ho.some hlb
    have hlt := get_lt hlb
    have hSm := hS.mono ho
    have htake : L.take (j + 1) = L.take j ++ [z] := by rw [List.take_add_one, hz0]; rfl
    have hcall : ∀ Φ : Value → Mem → Prop, WPCall Try.prog 51 [ptr sb, I z] m Φ = Φ (.tuple #[I (stT n (dec z)), I (room n fl (dec z))]) m := fun Φ => (ends_ret hV hbd hSm hz3).wp
    have hnode := (st_node hV hz3).2
    obtain ⟨hb, he, hq, hqlen, hqv, n1, n2, n3⟩ := hR
    have lbb := get_lt hb
    have leb := get_lt he
    have lqb := get_lt hq
    have w0 : IntKind.i64.wrap ((j : Int) + 1) = (j : Int) + 1 := i64_id (by omega) (by omega)
    generalize hT : stT n (dec z) = T at *
    generalize hRm : room n fl (dec z) = R at *
    obtain ⟨t1, t2⟩ := hnode
    rw [hN] at t2
    obtain ⟨k, rfl⟩ : ∃ k : Nat, T = k := ⟨T.toNat, by omega⟩
    have t3 : k < N := by omega
    have t4 : k + 1 ≤ N := t3
    have hrb : ∀ g, (rowB N g)[k]? = some (.bool (g k)) := fun g => rowB_get t3
    have hri : ∀ g, (rowI N g)[k]? = some (I (g k)) := fun g => rowI_get t3
    have keep : (R ≤ 0 ∨ se k = true) → ∀ (σ' : Slots) (m' : Mem), m' = m → RS sb bb eb qb off N q σ' → σ' 49 = .slice (some ⟨lb, 0, none⟩) L.length 1 → σ' 50 = I L.length → σ' 51 = I ((j : Int) + 1) → J σ' m' := by
      intro hc σ' m' hm q' q49 q50 q51
      subst hm
      refine hJ _ _ (reach_inner hV hN hbd hS hbb heb hL hLok hLl r (j + 1) m' σ' qb off qc q se byf (by omega) ho hqb ⟨hb, he, hq, hqlen, hqv, n1, n2, n3⟩ hql hB hu (fun z' hz' => ?_) q' q49 q50 (by rw [q51]; simp) hQ)
      rw [htake] at hz'
      rcases List.mem_append.1 hz' with h | h
      · exact hz z' h
      · simp at h; subst h
        intro hr
        rw [hT]; rw [hRm] at hr
        rcases hc with h | h
        · omega
        · exact h
    by_cases k1 : 0 < R
    · cases k2 : se k
      · have hq8 : (q.length + 1) * 8 ≤ 140737488355328 := by omega
        have hq9 : q.length + 1 ≤ 9223372036854775807 := by omega
        simp (disch := first | omega | (simp only [next_put, next_bump]; omega)) [ir44_l0, s49, s50, s51, s0, s4, s5, s6, h1, h1', hgl, hz0, hz2, head_td, hcall, w0, t3, t4, hrb, hri, hb, he, hq, hqlen, hqv, k1, k2, hq8, hq9, n1, n2, n3, rowB_set, rowI_setF, get_put_self, get_put_ne, get_bump, put_put, -rowI_set]
        refine hJ _ _ (reach_inner hV hN hbd hS hbb heb hL hLok hLl r (j + 1) _ _ (m.next + 3) 0 (q.map (Value.int .i64 ·) ++ [I k]) (q ++ [(k : Int)]) (setF se k true) (setF byf k z) (by omega) ⟨by have := ho.next; simp only [next_put, next_bump]; omega, fun b hb => by have := ho.next; simp (disch := first | omega | (simp only [next_put, next_bump]; omega)) only [get_put_ne, get_bump]; exact ho.get b hb⟩ (by have := ho.next; omega) ⟨?_, ?_, ?_, by simp, by rw [List.drop_zero, List.take_of_length_le (by simp)]; simp, n1, by omega, by omega⟩ ?_ ?_ ?_ ?_ ⟨by simp [s0], by simp [s4], by simp [s5], by simp⟩ (by simp [s49]) (by simp [s50]) (by simp) (fun σ' m' qb' off' qc' q' se' byf' new g1 g2 g3 g4 g5 g6 g7 g8 => hQ σ' m' qb' off' qc' (q ++ (k : Int) :: new) se' byf' ((k : Int) :: new) g1 g2 (by simpa using g3) rfl ?_ (by simpa using g6) g7 (by simpa using g8)))
        · simp (disch := first | omega | (simp only [next_put, next_bump]; omega)) only [get_put_self, get_put_ne, get_bump]
        · simp (disch := first | omega | (simp only [next_put, next_bump]; omega)) only [get_put_self, get_put_ne, get_bump]
        · simp (disch := first | omega | (simp only [next_put, next_bump]; omega)) only [get_put_self, get_put_ne, get_bump]
        · have := cntU_set se k (by omega) k2 N t2
          simp; omega
        · have hadd := hB.add (e := dec z) (by rw [hRm]; exact k1) (by rw [hz4]; exact hu) (by rw [hT]; exact k2) (by rw [hT]; exact ⟨t1, by omega⟩)
          rw [hT] at hadd
          have e : (fun x => dec (setF byf (k : Int) z x)) = setF (fun x => dec (byf x)) (k : Int) (dec z) := by
            funext x; unfold setF; split <;> rfl
          rw [e]; exact hadd
        · unfold setF; split <;> first | rfl | exact hu
        · intro z' hz' hr
          rw [htake] at hz'
          rcases List.mem_append.1 hz' with h | h
          · unfold setF; split
            · rfl
            · exact hz z' h hr
          · simp at h; subst h
            rw [hT]; unfold setF; rw [if_pos rfl]
        · have := cntU_set se k (by omega) k2 N t2
          simp; omega
      · simp (disch := first | omega | (simp only [next_put, next_bump]; omega)) [ir44_l0, s49, s50, s51, s0, s4, s5, s6, h1, h1', hgl, hz0, hz2, head_td, hcall, w0, t3, t4, hrb, hri, hb, he, hq, hqlen, hqv, k1, k2, get_put_self, get_put_ne, get_bump, put_put]
        exact keep (.inr k2) _ _ rfl ⟨by simp [s0], by simp [s4], by simp [s5], by simp [s6]⟩ (by simp [s49]) (by simp [s50]) (by simp)
    · simp (disch := first | omega | (simp only [next_put, next_bump]; omega)) [ir44_l0, s49, s50, s51, s0, s4, s5, s6, h1, h1', hgl, hz0, hz2, head_td, hcall, w0, t3, t4, hrb, hri, hb, he, hq, hqlen, hqv, k1, get_put_self, get_put_ne, get_bump, put_put]
      exact keep (.inl (by omega)) _ _ rfl ⟨by simp [s0], by simp [s4], by simp [s5], by simp [s6]⟩ (by simp [s49]) (by simp [s50]) (by simp)
end Go.Proofs.Ytapnkfkpkcajjaa
