/-
  The reference's 'reach': one arc.
-/
import Derived.Test.YtapnkfkpkcajjaaMfP
import Derived.Test.YtapnkfkpkcajjaaMfQ
namespace Go.Proofs.Ytapnkfkpkcajjaa
open Go Go.DI Go.Nets
set_option linter.unusedSimpArgs false
set_option linter.unusedVariables false

def dec2 (L : Nat) (z : Int) : St := if z < 0 then (L, false) else if z < L then (z.toNat, true) else ((z - L).toNat, false)
theorem dec2_f {L i : Nat} (h : i < L) : dec2 L (i : Int) = (i, true) := by
  have h0 : ¬ (i : Int) < 0 := by omega
  have : (i : Int) < L := by omega
  simp only [dec2, h0, this, if_false, if_true, Int.toNat_natCast]
theorem dec2_b {L i : Nat} : dec2 L ((L : Int) + i) = (i, false) := by
  have h0 : ¬ (L : Int) + i < 0 := by omega
  have h : ¬ ((L : Int) + i < L) := by omega
  have h2 : ((L : Int) + i - L).toNat = i := by omega
  simp only [dec2, h0, h, if_false, h2]
theorem dec2_cases {L : Nat} {z : Int} (h : (dec2 L z).1 < L) : (∃ i : Nat, i < L ∧ z = i ∧ dec2 L z = (i, true)) ∨ (∃ i : Nat, i < L ∧ z = (L : Int) + i ∧ dec2 L z = (i, false)) := by
  by_cases h0 : z < 0
  · simp only [dec2, h0, if_true] at h; omega
  · by_cases h1 : z < L
    · exact .inl ⟨z.toNat, by omega, by omega, by simp only [dec2, h0, h1, if_false, if_true]⟩
    · have e : dec2 L z = ((z - L).toNat, false) := by simp only [dec2, h0, h1, if_false]
      rw [e] at h
      exact .inr ⟨(z - L).toNat, h, by omega, e⟩
def ir46_f : ICode := .seq (.region [
    ⟨0, some 45, none, .faddr 0 (.tmp 11), []⟩,
    ⟨1, some 46, none, .load false 1 (.tmp 45), []⟩,
    ⟨2, some 47, none, .mov (.tmp 9), []⟩,
    ⟨3, some 48, none, .bin .eql .other (.tmp 46) (.tmp 47), []⟩,
    ⟨4, some 49, none, .mov (.tmp 48), []⟩,
    ⟨5, some 50, some (49, true), .mov (.tmp 6), []⟩,
    ⟨6, some 51, some (49, true), .faddr 1 (.tmp 11), []⟩,
    ⟨7, some 52, some (49, true), .load false 1 (.tmp 51), []⟩,
    ⟨8, some 53, some (49, true), .iaddr 1 (.tmp 50) (.tmp 52), []⟩,
    ⟨9, some 54, some (49, true), .load false 1 (.tmp 53), []⟩,
    ⟨10, some 55, some (49, true), .un .not (.tmp 54), []⟩,
    ⟨11, some 56, none, .pick (.tmp 49) (.tmp 55) (.const (.bool false)), []⟩,
    ⟨12, some 57, none, .mov (.tmp 56), []⟩,
    ⟨13, some 58, some (57, true), .mov (.tmp 1), []⟩,
    ⟨14, some 59, some (57, true), .mov (.tmp 10), []⟩,
    ⟨15, some 60, some (57, true), .iaddr 1 (.tmp 58) (.tmp 59), []⟩,
    ⟨16, some 61, some (57, true), .load false 1 (.tmp 60), []⟩,
    ⟨17, some 62, some (57, true), .faddr 2 (.tmp 11), []⟩,
    ⟨18, some 63, some (57, true), .load false 1 (.tmp 62), []⟩,
    ⟨19, some 64, some (57, true), .bin .lss .other (.tmp 61) (.tmp 63), []⟩,
    ⟨20, some 65, none, .pick (.tmp 57) (.tmp 64) (.const (.bool false)), []⟩]) (.cond (.tmp 65) (.seq (.region [
     ⟨0, some 66, none, .mov (.tmp 6), []⟩,
     ⟨1, some 67, none, .faddr 1 (.tmp 11), []⟩,
     ⟨2, some 68, none, .load false 1 (.tmp 67), []⟩,
     ⟨3, some 69, none, .mov (.tmp 7), []⟩,
     ⟨4, some 70, none, .faddr 1 (.tmp 11), []⟩,
     ⟨5, some 71, none, .load false 1 (.tmp 70), []⟩,
     ⟨6, some 72, none, .mov (.tmp 10), []⟩,
     ⟨7, some 73, none, .iaddr 1 (.tmp 66) (.tmp 68), []⟩,
     ⟨8, none, none, .store 1 (.tmp 73) (.const (.bool true)), [(.tmp 70, .tmp 73)]⟩,
     ⟨9, some 74, none, .iaddr 1 (.tmp 69) (.tmp 71), []⟩,
     ⟨10, none, none, .store 1 (.tmp 74) (.tmp 72), []⟩]) (.region [
     ⟨0, some 75, none, .mov (.tmp 8), []⟩,
     ⟨1, some 76, none, .faddr 1 (.tmp 11), []⟩,
     ⟨2, some 77, none, .load false 1 (.tmp 76), []⟩,
     ⟨3, some 78, none, .bslice 1 1 [.int .i64 0] [(0, 1, .tmp 77)], []⟩,
     ⟨4, some 79, none, .app 1 8 (.tmp 75) (.tmp 78), []⟩,
     ⟨5, some 8, none, .mov (.tmp 79), []⟩])) (.skip))
def ir46_g : ICode := .seq (.region [
    ⟨0, some 80, none, .faddr 1 (.tmp 11), []⟩,
    ⟨1, some 81, none, .load false 1 (.tmp 80), []⟩,
    ⟨2, some 82, none, .mov (.tmp 9), []⟩,
    ⟨3, some 83, none, .bin .eql .other (.tmp 81) (.tmp 82), []⟩,
    ⟨4, some 84, none, .mov (.tmp 83), []⟩,
    ⟨5, some 85, some (84, true), .mov (.tmp 6), []⟩,
    ⟨6, some 86, some (84, true), .faddr 0 (.tmp 11), []⟩,
    ⟨7, some 87, some (84, true), .load false 1 (.tmp 86), []⟩,
    ⟨8, some 88, some (84, true), .iaddr 1 (.tmp 85) (.tmp 87), []⟩,
    ⟨9, some 89, some (84, true), .load false 1 (.tmp 88), []⟩,
    ⟨10, some 90, some (84, true), .un .not (.tmp 89), []⟩,
    ⟨11, some 91, none, .pick (.tmp 84) (.tmp 90) (.const (.bool false)), []⟩,
    ⟨12, some 92, none, .mov (.tmp 91), []⟩,
    ⟨13, some 93, some (92, true), .mov (.tmp 1), []⟩,
    ⟨14, some 94, some (92, true), .mov (.tmp 10), []⟩,
    ⟨15, some 95, some (92, true), .iaddr 1 (.tmp 93) (.tmp 94), []⟩,
    ⟨16, some 96, some (92, true), .load false 1 (.tmp 95), []⟩,
    ⟨17, some 97, some (92, true), .bin .gtr .other (.tmp 96) (.const (.int .i64 0)), []⟩,
    ⟨18, some 98, none, .pick (.tmp 92) (.tmp 97) (.const (.bool false)), []⟩]) (.cond (.tmp 98) (.seq (.region [
     ⟨0, some 99, none, .mov (.tmp 6), []⟩,
     ⟨1, some 100, none, .faddr 0 (.tmp 11), []⟩,
     ⟨2, some 101, none, .load false 1 (.tmp 100), []⟩,
     ⟨3, some 102, none, .mov (.tmp 7), []⟩,
     ⟨4, some 103, none, .faddr 0 (.tmp 11), []⟩,
     ⟨5, some 104, none, .load false 1 (.tmp 103), []⟩,
     ⟨6, some 105, none, .faddr 3 (.tmp 2), []⟩,
     ⟨7, some 106, none, .load false 1 (.tmp 105), []⟩,
     ⟨8, some 107, none, .lenV (.tmp 106), []⟩,
     ⟨9, some 108, none, .mov (.tmp 10), []⟩,
     ⟨10, some 109, none, .bin .add .other (.tmp 107) (.tmp 108), []⟩,
     ⟨11, some 110, none, .iaddr 1 (.tmp 99) (.tmp 101), []⟩,
     ⟨12, none, none, .store 1 (.tmp 110) (.const (.bool true)), [(.tmp 105, .tmp 110), (.tmp 103, .tmp 110)]⟩,
     ⟨13, some 111, none, .iaddr 1 (.tmp 102) (.tmp 104), []⟩,
     ⟨14, none, none, .store 1 (.tmp 111) (.tmp 109), []⟩]) (.region [
     ⟨0, some 112, none, .mov (.tmp 8), []⟩,
     ⟨1, some 113, none, .faddr 0 (.tmp 11), []⟩,
     ⟨2, some 114, none, .load false 1 (.tmp 113), []⟩,
     ⟨3, some 115, none, .bslice 1 1 [.int .i64 0] [(0, 1, .tmp 114)], []⟩,
     ⟨4, some 116, none, .app 1 8 (.tmp 112) (.tmp 115), []⟩,
     ⟨5, some 8, none, .mov (.tmp 116), []⟩])) (.skip))
theorem ir46_l0_n : ir46_l0 = (.seq (.seq (.region [
    ⟨0, some 33, none, .mov (.tmp 10), []⟩,
    ⟨1, some 34, none, .faddr 3 (.tmp 2), []⟩,
    ⟨2, some 35, none, .load false 1 (.tmp 34), []⟩,
    ⟨3, some 36, none, .lenV (.tmp 35), []⟩,
    ⟨4, some 37, none, .bin .lss .other (.tmp 33) (.tmp 36), []⟩]) (.cond (.tmp 37) (.skip) (.exit 2))) (.seq (.block 3 (.seq (.region [
    ⟨0, some 40, none, .faddr 3 (.tmp 2), []⟩,
    ⟨1, some 41, none, .load false 1 (.tmp 40), []⟩,
    ⟨2, some 42, none, .mov (.tmp 10), []⟩,
    ⟨3, some 43, none, .iaddr 4 (.tmp 41) (.tmp 42), []⟩,
    ⟨4, some 44, none, .load true 4 (.tmp 43), []⟩,
    ⟨5, some 11, none, .alloc [.int .i64 0, .int .i64 0, .int .i64 0, .int .i64 0], []⟩,
    ⟨6, none, none, .store 4 (.tmp 11) (.tmp 44), []⟩]) (.seq (ir46_f) (ir46_g)))) (.region [
    ⟨0, some 38, none, .mov (.tmp 10), []⟩,
    ⟨1, some 39, none, .bin .add .other (.tmp 38) (.const (.int .i64 1)), []⟩,
    ⟨2, some 10, none, .mov (.tmp 39), []⟩])) : ICode) := rfl

set_option maxHeartbeats 8000000 in
set_option maxRecDepth 20000 in
theorem ir46_f_wp {n : Net} (hV : n.Valid) {N : Nat} (hN : n.nodes = N) {fl : List Int} {fo : Bool} {fb ab bb eb qb off lo : Nat} {qc : List Value} {q : List Int} {se : Int → Bool} {byf : Int → Int} {m : Mem} {σ : Slots} {i : Nat} {a : Arc} {φ x : Int}
    (ha : n.arcs[i]? = some a) (hφ : fl[i]? = some φ) (hR : RI N bb eb qb off qc q se byf m) (hB : Bfs n fl se (fun x => dec2 n.arcs.length (byf x)) (x :: q)) (hqb : lo ≤ qb) (hlo : lo ≤ m.next) (hql : q.length ≤ 100000)
    (hab : m.get ab = some ⟨arcC a, true⟩) (hfb : m.get fb = some ⟨fl.map (Value.int .i64 ·), fo⟩) (x1 : ab ≠ eb) (x2 : ab ≠ bb) (x3 : ab ≠ qb) (x4 : fb ≠ eb) (x5 : fb ≠ bb) (x6 : fb ≠ qb)
    (s1 : σ 1 = .slice (some ⟨fb, 0, none⟩) fl.length 1) (s6 : σ 6 = .slice (some ⟨eb, 0, none⟩) N 1) (s7 : σ 7 = .slice (some ⟨bb, 0, none⟩) N 1) (s8 : σ 8 = .slice (some ⟨qb, off, none⟩) q.length 1) (s9 : σ 9 = I x) (s10 : σ 10 = I i) (s11 : σ 11 = ptr ab) {Q : IExit → Slots → Mem → Prop}
    (hQ : ∀ σ' m' qb' off' qc' new se' byf', (∀ t, t < 45 → t ≠ 8 → σ' t = σ t) → σ' 8 = .slice (some ⟨qb', off', none⟩) (q ++ new).length 1 → RI N bb eb qb' off' qc' (q ++ new) se' byf' m' → Bfs n fl se' (fun x => dec2 n.arcs.length (byf' x)) (x :: (q ++ new)) → new.length + cntU se' N = cntU se N → (∀ y, se y = true → se' y = true) → (0 < room n fl (i, true) → stF n (i, true) = x → se' (stT n (i, true)) = true) →
      (∀ c, c < m.next → c ≠ bb → c ≠ eb → c ≠ qb → m'.get c = m.get c) → m.next ≤ m'.next → lo ≤ qb' → (qb' = qb ∨ m.next ≤ qb') → Q .normal σ' m') : WP Try.prog ir46_f σ m Q := by
  obtain ⟨hb, he, hq, hqlen, hqv, n1, n2, n3⟩ := hR
  have hil := (List.getElem?_eq_some_iff.1 ha).1
  have hal := hV.al
  have hfl := (List.getElem?_eq_some_iff.1 hφ).1
  have i1 : i + 1 ≤ fl.length := hfl
  have hφ2 : ∀ h, fl[i]'h = φ := fun h => by rw [List.getElem?_eq_getElem h] at hφ; simpa using hφ
  obtain ⟨q1, q2, _⟩ := hV.arc a (List.mem_of_getElem? ha)
  have sF : stF n (i, true) = a.f := by simp [stF, ha]
  have sT : stT n (i, true) = a.t := by simp [stT, ha]
  have hrm : room n fl (i, true) = a.c - φ := by simp [room, ha, hφ]
  obtain ⟨t1, t2⟩ : n.node a.t := by assumption
  obtain ⟨f1, f2⟩ : n.node a.f := by assumption
  rw [hN] at t2 f2
  obtain ⟨k, hk⟩ : ∃ k : Nat, a.t = k := ⟨a.t.toNat, by omega⟩
  have tk : a.t.toNat = k := by omega
  have t3 : k < N := by omega
  have t4 : k + 1 ≤ N := t3
  have hrb : (rowB N se)[k]? = some (.bool (se a.t)) := by rw [rowB_get t3, hk]
  have hrb2 : ∀ h, (rowB N se)[k]'h = .bool (se a.t) := fun h => by rw [rowB_getElem, hk]
  have hri : (rowI N byf)[k]? = some (I (byf k)) := rowI_get t3
  have lbb := get_lt hb
  have leb := get_lt he
  have lqb := get_lt hq
  have lab := get_lt hab
  have lfb := get_lt hfb
  by_cases k1 : a.f = x
  · cases k2 : se a.t
    · by_cases k3 : φ < a.c
      · have z1 : (q.length + 1) * 8 ≤ 140737488355328 := by omega
        have z2 : q.length + 1 ≤ 9223372036854775807 := by omega
        simp (disch := first | omega | (simp only [next_put, next_bump]; omega)) [ir46_f, s1, s6, s7, s8, s9, s10, s11, hb, he, hq, hqlen, hqv, hab, hfb, hφ, hφ2, f1, f2, t1, t2, tk, head_td, hri, hrb, i1, hfl, arcC, ckOk, bne_iff_ne, x1, x2, x3, n1, n2, n3, rowB_set, rowI_setF, hrb2, t4, t3, eq_true k1, k2, k3, z1, z2, get_put_self, get_put_ne, get_bump, put_put, -rowI_set]
        refine hQ _ _ (m.next + 4) 0 (q.map (Value.int .i64 ·) ++ [I a.t]) [a.t] (setF se k true) (setF byf k (i : Int)) (fun t ht h8 => by simp (disch := omega) only [upd_ne]) (by simp) ⟨by simp (disch := first | omega | (simp only [next_put, next_bump]; omega)) only [get_put_self, get_put_ne, get_bump], by simp (disch := first | omega | (simp only [next_put, next_bump]; omega)) only [get_put_self, get_put_ne, get_bump], by simp (disch := first | omega | (simp only [next_put, next_bump]; omega)) only [get_put_self, get_put_ne, get_bump], by simp, by rw [List.drop_zero, List.take_of_length_le (by simp)]; simp, n1, by omega, by omega⟩ ?_ ?_ (fun y hy => by unfold setF; split <;> first | rfl | exact hy) (fun _ _ => by rw [sT, hk]; unfold setF; rw [if_pos rfl]) (fun c h1 h2 h3 h4 => by simp (disch := first | omega | (simp only [next_put, next_bump]; omega)) only [get_put_self, get_put_ne, get_bump]) (by simp only [next_put, next_bump]; omega) (by omega) (.inr (by omega))
        · have hadd := hB.add (e := (i, true)) (by rw [hrm]; omega) (by rw [sF, k1]; exact hB.qs x (by simp)) (by rw [sT]; exact k2) (by rw [sT]; exact ⟨t1, by omega⟩)
          rw [sT, hk] at hadd
          have e : (fun x => dec2 n.arcs.length (setF byf (k : Int) (i : Int) x)) = setF (fun x => dec2 n.arcs.length (byf x)) (k : Int) (i, true) := by
            funext y; unfold setF; split
            · exact dec2_f hil
            · rfl
          rw [e, hk]; simpa using hadd
        · have := cntU_set se k (by omega) (by rw [← hk]; exact k2) N (by omega)
          simp; omega
      · simp (disch := first | omega | (simp only [next_put, next_bump]; omega)) [ir46_f, s1, s6, s7, s8, s9, s10, s11, hb, he, hq, hqlen, hqv, hab, hfb, hφ, hφ2, f1, f2, t1, t2, tk, head_td, hri, hrb, i1, hfl, arcC, ckOk, bne_iff_ne, x1, x2, x3, n1, n2, n3, rowB_set, rowI_setF, hrb2, t4, t3, eq_true k1, k2, k3, get_put_self, get_put_ne, get_bump, put_put, -rowI_set]
        exact hQ _ _ qb off qc [] se byf (fun t ht h8 => by simp (disch := omega) only [upd_ne]) (by simp [s8]) (by simpa using ⟨hb, he, hq, hqlen, hqv, n1, n2, n3⟩) (by simpa using hB) (by simp) (fun y hy => hy) (fun h _ => by rw [hrm] at h; omega) (fun c h1 h2 h3 h4 => rfl) (Nat.le_refl _) hqb (.inl rfl)
    · simp (disch := first | omega | (simp only [next_put, next_bump]; omega)) [ir46_f, s1, s6, s7, s8, s9, s10, s11, hb, he, hq, hqlen, hqv, hab, hfb, hφ, hφ2, f1, f2, t1, t2, tk, head_td, hri, hrb, i1, hfl, arcC, ckOk, bne_iff_ne, x1, x2, x3, n1, n2, n3, rowB_set, rowI_setF, hrb2, t4, t3, eq_true k1, k2, get_put_self, get_put_ne, get_bump, put_put, -rowI_set]
      exact hQ _ _ qb off qc [] se byf (fun t ht h8 => by simp (disch := omega) only [upd_ne]) (by simp [s8]) (by simpa using ⟨hb, he, hq, hqlen, hqv, n1, n2, n3⟩) (by simpa using hB) (by simp) (fun y hy => hy) (fun _ _ => by rw [sT]; exact k2) (fun c h1 h2 h3 h4 => rfl) (Nat.le_refl _) hqb (.inl rfl)
  · simp (disch := first | omega | (simp only [next_put, next_bump]; omega)) [ir46_f, s1, s6, s7, s8, s9, s10, s11, hb, he, hq, hqlen, hqv, hab, hfb, hφ, hφ2, f1, f2, t1, t2, tk, head_td, hri, hrb, i1, hfl, arcC, ckOk, bne_iff_ne, x1, x2, x3, n1, n2, n3, rowB_set, rowI_setF, k1, get_put_self, get_put_ne, get_bump, put_put, -rowI_set]
    exact hQ _ _ qb off qc [] se byf (fun t ht h8 => by simp (disch := omega) only [upd_ne]) (by simp [s8]) (by simpa using ⟨hb, he, hq, hqlen, hqv, n1, n2, n3⟩) (by simpa using hB) (by simp) (fun y hy => hy) (fun _ h => by rw [sF] at h; exact absurd h k1) (fun c h1 h2 h3 h4 => rfl) (Nat.le_refl _) hqb (.inl rfl)

set_option maxHeartbeats 8000000 in
set_option maxRecDepth 20000 in
theorem ir46_g_wp {n : Net} (hV : n.Valid) {N : Nat} (hN : n.nodes = N) {fl : List Int} {fo : Bool} {fb ab bb eb qb off lo nb : Nat} {qc : List Value} {q : List Int} {se : Int → Bool} {byf : Int → Int} {m : Mem} {σ : Slots} {i : Nat} {a : Arc} {φ x : Int}
    (ha : n.arcs[i]? = some a) (hφ : fl[i]? = some φ) (hR : RI N bb eb qb off qc q se byf m) (hB : Bfs n fl se (fun x => dec2 n.arcs.length (byf x)) (x :: q)) (hqb : lo ≤ qb) (hlo : lo ≤ m.next) (hql : q.length ≤ 100000)
    (hab : m.get ab = some ⟨arcC a, true⟩) (hfb : m.get fb = some ⟨fl.map (Value.int .i64 ·), fo⟩) (x1 : ab ≠ eb) (x2 : ab ≠ bb) (x3 : ab ≠ qb) (x4 : fb ≠ eb) (x5 : fb ≠ bb) (x6 : fb ≠ qb) {v : Value} (hnb : m.get nb = some ⟨netC n v, true⟩) (hva : lenOfV v = n.arcs.length ∧ isSl v = true) (x7 : nb ≠ eb) (x8 : nb ≠ bb) (x9 : nb ≠ qb)
    (s1 : σ 1 = .slice (some ⟨fb, 0, none⟩) fl.length 1) (s6 : σ 6 = .slice (some ⟨eb, 0, none⟩) N 1) (s7 : σ 7 = .slice (some ⟨bb, 0, none⟩) N 1) (s8 : σ 8 = .slice (some ⟨qb, off, none⟩) q.length 1) (s9 : σ 9 = I x) (s10 : σ 10 = I i) (s11 : σ 11 = ptr ab) (s2 : σ 2 = ptr nb) {Q : IExit → Slots → Mem → Prop}
    (hQ : ∀ σ' m' qb' off' qc' new se' byf', (∀ t, t < 80 → t ≠ 8 → σ' t = σ t) → σ' 8 = .slice (some ⟨qb', off', none⟩) (q ++ new).length 1 → RI N bb eb qb' off' qc' (q ++ new) se' byf' m' → Bfs n fl se' (fun x => dec2 n.arcs.length (byf' x)) (x :: (q ++ new)) → new.length + cntU se' N = cntU se N → (∀ y, se y = true → se' y = true) → (0 < room n fl (i, false) → stF n (i, false) = x → se' (stT n (i, false)) = true) →
      (∀ c, c < m.next → c ≠ bb → c ≠ eb → c ≠ qb → m'.get c = m.get c) → m.next ≤ m'.next → lo ≤ qb' → (qb' = qb ∨ m.next ≤ qb') → Q .normal σ' m') : WP Try.prog ir46_g σ m Q := by
  obtain ⟨hb, he, hq, hqlen, hqv, n1, n2, n3⟩ := hR
  have hil := (List.getElem?_eq_some_iff.1 ha).1
  have hal := hV.al
  have hfl := (List.getElem?_eq_some_iff.1 hφ).1
  have i1 : i + 1 ≤ fl.length := hfl
  have hφ2 : ∀ h, fl[i]'h = φ := fun h => by rw [List.getElem?_eq_getElem h] at hφ; simpa using hφ
  obtain ⟨q1, q2, _⟩ := hV.arc a (List.mem_of_getElem? ha)
  have sF : stF n (i, false) = a.t := by simp [stF, ha]
  have sT : stT n (i, false) = a.f := by simp [stT, ha]
  have hrm : room n fl (i, false) = φ := by simp [room, ha, hφ]
  obtain ⟨t1, t2⟩ : n.node a.f := by assumption
  obtain ⟨f1, f2⟩ : n.node a.t := by assumption
  rw [hN] at t2 f2
  obtain ⟨k, hk⟩ : ∃ k : Nat, a.f = k := ⟨a.f.toNat, by omega⟩
  have tk : a.f.toNat = k := by omega
  have t3 : k < N := by omega
  have t4 : k + 1 ≤ N := t3
  have hrb : (rowB N se)[k]? = some (.bool (se a.f)) := by rw [rowB_get t3, hk]
  have hrb2 : ∀ h, (rowB N se)[k]'h = .bool (se a.f) := fun h => by rw [rowB_getElem, hk]
  have hri : (rowI N byf)[k]? = some (I (byf k)) := rowI_get t3
  have lbb := get_lt hb
  have leb := get_lt he
  have lqb := get_lt hq
  have lab := get_lt hab
  have lfb := get_lt hfb
  obtain ⟨hlen, hsl⟩ := hva
  have w1 : IntKind.i64.wrap ((n.arcs.length : Int) + i) = (n.arcs.length : Int) + i := i64_id (by omega) (by omega)
  have lnb := get_lt hnb
  by_cases k1 : a.t = x
  · cases k2 : se a.f
    · by_cases k3 : 0 < φ
      · have z1 : (q.length + 1) * 8 ≤ 140737488355328 := by omega
        have z2 : q.length + 1 ≤ 9223372036854775807 := by omega
        simp (disch := first | omega | (simp only [next_put, next_bump]; omega)) [ir46_g, s1, s6, s7, s8, s9, s10, s11, hb, he, hq, hqlen, hqv, hab, hfb, hφ, hφ2, f1, f2, t1, t2, tk, head_td, hri, hrb, i1, hfl, arcC, ckOk, bne_iff_ne, x1, x2, x3, hnb, hlen, hsl, s2, x7, x8, x9, w1, n1, n2, n3, rowB_set, rowI_setF, hrb2, t4, t3, eq_true k1, k2, k3, z1, z2, get_put_self, get_put_ne, get_bump, put_put, -rowI_set, -lenOfV, -isSl]
        refine hQ _ _ (m.next + 4) 0 (q.map (Value.int .i64 ·) ++ [I a.f]) [a.f] (setF se k true) (setF byf k ((n.arcs.length : Int) + i)) (fun t ht h8 => by simp (disch := omega) only [upd_ne]) (by simp) ⟨by simp (disch := first | omega | (simp only [next_put, next_bump]; omega)) only [get_put_self, get_put_ne, get_bump], by simp (disch := first | omega | (simp only [next_put, next_bump]; omega)) only [get_put_self, get_put_ne, get_bump], by simp (disch := first | omega | (simp only [next_put, next_bump]; omega)) only [get_put_self, get_put_ne, get_bump], by simp, by rw [List.drop_zero, List.take_of_length_le (by simp)]; simp, n1, by omega, by omega⟩ ?_ ?_ (fun y hy => by unfold setF; split <;> first | rfl | exact hy) (fun _ _ => by rw [sT, hk]; unfold setF; rw [if_pos rfl]) (fun c h1 h2 h3 h4 => by simp (disch := first | omega | (simp only [next_put, next_bump]; omega)) only [get_put_self, get_put_ne, get_bump]) (by simp only [next_put, next_bump]; omega) (by omega) (.inr (by omega))
        · have hadd := hB.add (e := (i, false)) (by rw [hrm]; omega) (by rw [sF, k1]; exact hB.qs x (by simp)) (by rw [sT]; exact k2) (by rw [sT]; exact ⟨t1, by omega⟩)
          rw [sT, hk] at hadd
          have e : (fun x => dec2 n.arcs.length (setF byf (k : Int) ((n.arcs.length : Int) + i) x)) = setF (fun x => dec2 n.arcs.length (byf x)) (k : Int) (i, false) := by
            funext y; unfold setF; split
            · exact dec2_b
            · rfl
          rw [e, hk]; simpa using hadd
        · have := cntU_set se k (by omega) (by rw [← hk]; exact k2) N (by omega)
          simp; omega
      · simp (disch := first | omega | (simp only [next_put, next_bump]; omega)) [ir46_g, s1, s6, s7, s8, s9, s10, s11, hb, he, hq, hqlen, hqv, hab, hfb, hφ, hφ2, f1, f2, t1, t2, tk, head_td, hri, hrb, i1, hfl, arcC, ckOk, bne_iff_ne, x1, x2, x3, hnb, hlen, hsl, s2, x7, x8, x9, w1, n1, n2, n3, rowB_set, rowI_setF, hrb2, t4, t3, eq_true k1, k2, k3, get_put_self, get_put_ne, get_bump, put_put, -rowI_set, -lenOfV, -isSl]
        exact hQ _ _ qb off qc [] se byf (fun t ht h8 => by simp (disch := omega) only [upd_ne]) (by simp [s8]) (by simpa using ⟨hb, he, hq, hqlen, hqv, n1, n2, n3⟩) (by simpa using hB) (by simp) (fun y hy => hy) (fun h _ => by rw [hrm] at h; omega) (fun c h1 h2 h3 h4 => rfl) (Nat.le_refl _) hqb (.inl rfl)
    · simp (disch := first | omega | (simp only [next_put, next_bump]; omega)) [ir46_g, s1, s6, s7, s8, s9, s10, s11, hb, he, hq, hqlen, hqv, hab, hfb, hφ, hφ2, f1, f2, t1, t2, tk, head_td, hri, hrb, i1, hfl, arcC, ckOk, bne_iff_ne, x1, x2, x3, hnb, hlen, hsl, s2, x7, x8, x9, w1, n1, n2, n3, rowB_set, rowI_setF, hrb2, t4, t3, eq_true k1, k2, get_put_self, get_put_ne, get_bump, put_put, -rowI_set, -lenOfV, -isSl]
      exact hQ _ _ qb off qc [] se byf (fun t ht h8 => by simp (disch := omega) only [upd_ne]) (by simp [s8]) (by simpa using ⟨hb, he, hq, hqlen, hqv, n1, n2, n3⟩) (by simpa using hB) (by simp) (fun y hy => hy) (fun _ _ => by rw [sT]; exact k2) (fun c h1 h2 h3 h4 => rfl) (Nat.le_refl _) hqb (.inl rfl)
  · simp (disch := first | omega | (simp only [next_put, next_bump]; omega)) [ir46_g, s1, s6, s7, s8, s9, s10, s11, hb, he, hq, hqlen, hqv, hab, hfb, hφ, hφ2, f1, f2, t1, t2, tk, head_td, hri, hrb, i1, hfl, arcC, ckOk, bne_iff_ne, x1, x2, x3, hnb, hlen, hsl, s2, x7, x8, x9, w1, n1, n2, n3, rowB_set, rowI_setF, k1, get_put_self, get_put_ne, get_bump, put_put, -rowI_set, -lenOfV, -isSl]
    exact hQ _ _ qb off qc [] se byf (fun t ht h8 => by simp (disch := omega) only [upd_ne]) (by simp [s8]) (by simpa using ⟨hb, he, hq, hqlen, hqv, n1, n2, n3⟩) (by simpa using hB) (by simp) (fun y hy => hy) (fun _ h => by rw [sF] at h; exact absurd h k1) (fun c h1 h2 h3 h4 => rfl) (Nat.le_refl _) hqb (.inl rfl)
end Go.Proofs.Ytapnkfkpkcajjaa
