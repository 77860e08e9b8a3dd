/-
  'Solve' of mincost: the rows of arcs at the nodes.
-/
import Derived.Test.YtapnkfkpkcajjaaMcI
import Derived.Test.YtapnkfkpkcajjaaMfM
namespace Go.Proofs.Ytapnkfkpkcajjaa
open Go Go.DI Go.Nets
set_option linter.unusedSimpArgs false
set_option linter.unusedVariables false
def ir33_r1 : ICode := .region [
    ⟨0, some 60, none, .mov (.tmp 13), []⟩,
    ⟨1, some 61, none, .faddr 0 (.tmp 15), []⟩,
    ⟨2, some 62, none, .load false 1 (.tmp 61), []⟩,
    ⟨3, some 63, none, .mov (.tmp 13), []⟩,
    ⟨4, some 64, none, .faddr 0 (.tmp 15), []⟩,
    ⟨5, some 65, none, .load false 1 (.tmp 64), []⟩,
    ⟨6, some 66, none, .iaddr 1 (.tmp 63) (.tmp 65), []⟩,
    ⟨7, some 67, none, .load false 1 (.tmp 66), []⟩,
    ⟨8, some 68, none, .mov (.tmp 14), []⟩,
    ⟨9, some 69, none, .bslice 1 1 [.int .i64 0] [(0, 1, .tmp 68)], []⟩,
    ⟨10, some 70, none, .app 1 8 (.tmp 67) (.tmp 69), [(.tmp 61, .tmp 67)]⟩,
    ⟨11, some 71, none, .iaddr 1 (.tmp 60) (.tmp 62), []⟩,
    ⟨12, none, none, .store 1 (.tmp 71) (.tmp 70), []⟩]
def ir33_r2 : ICode := .region [
    ⟨0, some 72, none, .mov (.tmp 13), []⟩,
    ⟨1, some 73, none, .faddr 1 (.tmp 15), []⟩,
    ⟨2, some 74, none, .load false 1 (.tmp 73), []⟩,
    ⟨3, some 75, none, .mov (.tmp 13), []⟩,
    ⟨4, some 76, none, .faddr 1 (.tmp 15), []⟩,
    ⟨5, some 77, none, .load false 1 (.tmp 76), []⟩,
    ⟨6, some 78, none, .iaddr 1 (.tmp 75) (.tmp 77), []⟩,
    ⟨7, some 79, none, .load false 1 (.tmp 78), []⟩,
    ⟨8, some 80, none, .mov (.tmp 14), []⟩,
    ⟨9, some 81, none, .bin .sub .other (.const (.int .i64 (-1))) (.tmp 80), []⟩,
    ⟨10, some 82, none, .bslice 1 1 [.int .i64 0] [(0, 1, .tmp 81)], []⟩,
    ⟨11, some 83, none, .app 1 8 (.tmp 79) (.tmp 82), [(.tmp 73, .tmp 79)]⟩,
    ⟨12, some 84, none, .iaddr 1 (.tmp 72) (.tmp 74), []⟩,
    ⟨13, none, none, .store 1 (.tmp 84) (.tmp 83), []⟩]
theorem ir33_l0_n : ir33_l0 = (
  .seq (
  .region [
    ⟨0, some 56, none, .bin .lss .other (.tmp 55) (.tmp 54), []⟩]) (
  .seq (
  .cond (.tmp 56) (
   .skip) (
   .exit 0)) (
  .seq (
  .block 1 (
  .seq (
  .region [
    ⟨0, some 57, none, .mov (.tmp 55), []⟩,
    ⟨1, some 58, none, .iaddr 4 (.tmp 53) (.tmp 55), []⟩,
    ⟨2, some 59, none, .load true 4 (.tmp 58), []⟩,
    ⟨3, some 15, none, .alloc [.int .i64 0, .int .i64 0, .int .i64 0, .int .i64 0], []⟩,
    ⟨4, some 14, none, .mov (.tmp 57), []⟩,
    ⟨5, none, none, .store 4 (.tmp 15) (.tmp 59), []⟩]) (
  .seq (
  ir33_r1) (
  ir33_r2)))) (
  .region [
    ⟨0, some 85, none, .bin .add .other (.tmp 55) (.const (.int .i64 1)), []⟩,
    ⟨1, some 55, none, .mov (.tmp 85), []⟩])))
 : ICode) := rfl

set_option maxHeartbeats 4000000 in
set_option maxRecDepth 20000 in
theorem ir33_r1_wp {n : Net} (hV : n.Valid) {N : Nat} (hN : n.nodes = N) {ub ab lo : Nat} {a : Arc} {o : Int → List Int} {B : Int → Nat} {m : Mem} {σ : Slots} {i : Nat} (hi : i < 2500) 
    (hab : m.get ab = some ⟨arcC a, true⟩) (hO : Outs2 o ub N lo B m) (hub : ub < lo) (hlo : lo ≤ m.next) (hnode : n.node a.f) (hol : (o a.f).length ≤ 100000) (habB : ∀ k : Nat, k < N → o k ≠ [] → B k ≠ ab) (hab2 : ab ≠ ub)
    (s13 : σ 13 = .slice (some ⟨ub, 0, none⟩) N 1) (s15 : σ 15 = ptr ab) (s14 : σ 14 = I i) {Q : IExit → Slots → Mem → Prop}
    (hQ : ∀ σ' m' B', (∀ t, t < 60 → σ' t = σ t) → m.next ≤ m'.next → (∀ b, b < m.next → b ≠ ub → (∀ k : Nat, k < N → o k ≠ [] → b ≠ B k) → m'.get b = m.get b) → Outs2 (setF o a.f (o a.f ++ [(i : Int)])) ub N lo B' m' → (∀ k : Nat, k < N → setF o a.f (o a.f ++ [(i : Int)]) k ≠ [] → B' k ≠ ab) → Q .normal σ' m') : WP Try.prog ir33_r1 σ m Q := by
  obtain ⟨k0, k2⟩ := hnode
  obtain ⟨k, hk⟩ : ∃ k : Nat, a.f = k := ⟨a.f.toNat, by omega⟩
  have k1 : a.f < (N : Int) := by omega
  have k3 : a.f.toNat = k := by omega
  have k4 : k < N := by omega
  have k5 : k + 1 ≤ N := k4
  rw [hk] at hQ hol
  have hub0 := hO.u
  have hget : (rowS N o B)[k]? = some (slv (o k) (B k)) := rowS_get k4
  have hget2 : ∀ h, (rowS N o B)[k]'h = slv (o k) (B k) := fun h => by rw [List.getElem?_eq_getElem h] at hget; simpa using hget
  have w1 : IntKind.i64.wrap (-1 - (i : Int)) = -1 - (i : Int) := i64_id (by omega) (by omega)
  have lub := get_lt hub0
  have lab := get_lt hab
  by_cases ho : o k = []
  · have hslv : slv (o k) (B k) = .slice none 0 0 := by unfold slv; rw [if_pos ho]
    rw [hslv] at hget hget2
    have hset := rowS_set (N := N) (o := o) (B := B) (k := k) (b := m.next + 10) (l := o k ++ [(i : Int)]) (by simp)
    have e1 : (o k ++ [(i : Int)]).length = 1 := by rw [ho]; rfl
    rw [e1] at hset
    simp (disch := first | omega | (simp only [next_put, next_bump]; omega)) [ir33_r1, s13, s15, s14, hab, hub0, k0, k1, k3, hget, head_td, arcC, k4, k5, hget2, hset, w1, ckOk, bne_iff_ne, hab2, get_put_self, get_put_ne, get_bump, put_put]
    refine hQ _ _ (setF B k (m.next + 10)) (fun t ht => by simp (disch := omega) only [upd_ne]) (by simp only [next_put, next_bump]; omega) (fun c h1 h2 h3 => by simp (disch := first | omega | (simp only [next_put, next_bump]; omega)) only [get_put_ne, get_bump]) (hO.app hub k4 (by omega) hlo ?_ ?_ ?_) ?_
    · simp (disch := first | omega | (simp only [next_put, next_bump]; omega)) only [get_put_self]
    · simp (disch := first | omega | (simp only [next_put, next_bump]; omega)) only [get_put_self, get_put_ne, get_bump]
      rw [ho]; rfl
    · intro c h1 h2 _
      simp (disch := first | omega | (simp only [next_put, next_bump]; omega)) only [get_put_ne, get_bump]
    · intro j hj hne
      unfold setF at hne ⊢
      split
      · omega
      · rename_i h; rw [if_neg h] at hne; exact habB j hj hne
  · have hslv : slv (o k) (B k) = .slice (some ⟨B k, 0, none⟩) (o k).length 1 := by unfold slv; rw [if_neg ho]
    rw [hslv] at hget hget2
    have hset := rowS_set (N := N) (o := o) (B := B) (k := k) (b := m.next + 10) (l := o k ++ [(i : Int)]) (by simp)
    have e1 : (o k ++ [(i : Int)]).length = (o k).length + 1 := by simp
    rw [e1] at hset
    obtain ⟨hB, hBlo⟩ := hO.get k k4 ho
    have lB := get_lt hB
    have b2 : ub ≠ B k := by omega
    have b3 : ab ≠ B k := fun h => habB k k4 ho h.symm
    have z1 : ((o k).length + 1) * 8 ≤ 140737488355328 := by omega
    have z2 : (o k).length + 1 ≤ 9223372036854775807 := by omega
    have z3 : ((o k).map (Value.int .i64 ·)).take (o k).length = (o k).map (Value.int .i64 ·) := List.take_of_length_le (by simp)
    simp (disch := first | omega | (simp only [next_put, next_bump]; omega)) [ir33_r1, s13, s15, s14, hab, hub0, k0, k1, k3, hget, head_td, arcC, k4, k5, hget2, hset, w1, ckOk, bne_iff_ne, hab2, hB, b2, b3, z1, z2, z3, get_put_self, get_put_ne, get_bump, put_put]
    refine hQ _ _ (setF B k (m.next + 10)) (fun t ht => by simp (disch := omega) only [upd_ne]) (by simp only [next_put, next_bump]; omega) (fun c h1 h2 h3 => by have := h3 k k4 ho; simp (disch := first | omega | (simp only [next_put, next_bump]; omega)) only [get_put_ne, get_bump]) (hO.app hub k4 (by omega) hlo ?_ ?_ ?_) ?_
    · simp (disch := first | omega | (simp only [next_put, next_bump]; omega)) only [get_put_self]
    · simp (disch := first | omega | (simp only [next_put, next_bump]; omega)) only [get_put_self, get_put_ne, get_bump]
      simp
    · intro c h1 h2 h3
      have := h3 ho
      simp (disch := first | omega | (simp only [next_put, next_bump]; omega)) only [get_put_ne, get_bump]
    · intro j hj hne
      unfold setF at hne ⊢
      split
      · omega
      · rename_i h; rw [if_neg h] at hne; exact habB j hj hne

set_option maxHeartbeats 4000000 in
set_option maxRecDepth 20000 in
theorem ir33_r2_wp {n : Net} (hV : n.Valid) {N : Nat} (hN : n.nodes = N) {ub ab lo : Nat} {a : Arc} {o : Int → List Int} {B : Int → Nat} {m : Mem} {σ : Slots} {i : Nat} (hi : i < 2500) 
    (hab : m.get ab = some ⟨arcC a, true⟩) (hO : Outs2 o ub N lo B m) (hub : ub < lo) (hlo : lo ≤ m.next) (hnode : n.node a.t) (hol : (o a.t).length ≤ 100000) (habB : ∀ k : Nat, k < N → o k ≠ [] → B k ≠ ab) (hab2 : ab ≠ ub)
    (s13 : σ 13 = .slice (some ⟨ub, 0, none⟩) N 1) (s15 : σ 15 = ptr ab) (s14 : σ 14 = I i) {Q : IExit → Slots → Mem → Prop}
    (hQ : ∀ σ' m' B', (∀ t, t < 72 → σ' t = σ t) → m.next ≤ m'.next → (∀ b, b < m.next → b ≠ ub → (∀ k : Nat, k < N → o k ≠ [] → b ≠ B k) → m'.get b = m.get b) → Outs2 (setF o a.t (o a.t ++ [(-1 - (i : Int))])) ub N lo B' m' → (∀ k : Nat, k < N → setF o a.t (o a.t ++ [(-1 - (i : Int))]) k ≠ [] → B' k ≠ ab) → Q .normal σ' m') : WP Try.prog ir33_r2 σ m Q := by
  obtain ⟨k0, k2⟩ := hnode
  obtain ⟨k, hk⟩ : ∃ k : Nat, a.t = k := ⟨a.t.toNat, by omega⟩
  have k1 : a.t < (N : Int) := by omega
  have k3 : a.t.toNat = k := by omega
  have k4 : k < N := by omega
  have k5 : k + 1 ≤ N := k4
  rw [hk] at hQ hol
  have hub0 := hO.u
  have hget : (rowS N o B)[k]? = some (slv (o k) (B k)) := rowS_get k4
  have hget2 : ∀ h, (rowS N o B)[k]'h = slv (o k) (B k) := fun h => by rw [List.getElem?_eq_getElem h] at hget; simpa using hget
  have w1 : IntKind.i64.wrap (-1 - (i : Int)) = -1 - (i : Int) := i64_id (by omega) (by omega)
  have lub := get_lt hub0
  have lab := get_lt hab
  by_cases ho : o k = []
  · have hslv : slv (o k) (B k) = .slice none 0 0 := by unfold slv; rw [if_pos ho]
    rw [hslv] at hget hget2
    have hset := rowS_set (N := N) (o := o) (B := B) (k := k) (b := m.next + 11) (l := o k ++ [(-1 - (i : Int))]) (by simp)
    have e1 : (o k ++ [(-1 - (i : Int))]).length = 1 := by rw [ho]; rfl
    rw [e1] at hset
    simp (disch := first | omega | (simp only [next_put, next_bump]; omega)) [ir33_r2, s13, s15, s14, hab, hub0, k0, k1, k3, hget, head_td, arcC, k4, k5, hget2, hset, w1, ckOk, bne_iff_ne, hab2, get_put_self, get_put_ne, get_bump, put_put]
    refine hQ _ _ (setF B k (m.next + 11)) (fun t ht => by simp (disch := omega) only [upd_ne]) (by simp only [next_put, next_bump]; omega) (fun c h1 h2 h3 => by simp (disch := first | omega | (simp only [next_put, next_bump]; omega)) only [get_put_ne, get_bump]) (hO.app hub k4 (by omega) hlo ?_ ?_ ?_) ?_
    · simp (disch := first | omega | (simp only [next_put, next_bump]; omega)) only [get_put_self]
    · simp (disch := first | omega | (simp only [next_put, next_bump]; omega)) only [get_put_self, get_put_ne, get_bump]
      rw [ho]; rfl
    · intro c h1 h2 _
      simp (disch := first | omega | (simp only [next_put, next_bump]; omega)) only [get_put_ne, get_bump]
    · intro j hj hne
      unfold setF at hne ⊢
      split
      · omega
      · rename_i h; rw [if_neg h] at hne; exact habB j hj hne
  · have hslv : slv (o k) (B k) = .slice (some ⟨B k, 0, none⟩) (o k).length 1 := by unfold slv; rw [if_neg ho]
    rw [hslv] at hget hget2
    have hset := rowS_set (N := N) (o := o) (B := B) (k := k) (b := m.next + 11) (l := o k ++ [(-1 - (i : Int))]) (by simp)
    have e1 : (o k ++ [(-1 - (i : Int))]).length = (o k).length + 1 := by simp
    rw [e1] at hset
    obtain ⟨hB, hBlo⟩ := hO.get k k4 ho
    have lB := get_lt hB
    have b2 : ub ≠ B k := by omega
    have b3 : ab ≠ B k := fun h => habB k k4 ho h.symm
    have z1 : ((o k).length + 1) * 8 ≤ 140737488355328 := by omega
    have z2 : (o k).length + 1 ≤ 9223372036854775807 := by omega
    have z3 : ((o k).map (Value.int .i64 ·)).take (o k).length = (o k).map (Value.int .i64 ·) := List.take_of_length_le (by simp)
    simp (disch := first | omega | (simp only [next_put, next_bump]; omega)) [ir33_r2, s13, s15, s14, hab, hub0, k0, k1, k3, hget, head_td, arcC, k4, k5, hget2, hset, w1, ckOk, bne_iff_ne, hab2, hB, b2, b3, z1, z2, z3, get_put_self, get_put_ne, get_bump, put_put]
    refine hQ _ _ (setF B k (m.next + 11)) (fun t ht => by simp (disch := omega) only [upd_ne]) (by simp only [next_put, next_bump]; omega) (fun c h1 h2 h3 => by have := h3 k k4 ho; simp (disch := first | omega | (simp only [next_put, next_bump]; omega)) only [get_put_ne, get_bump]) (hO.app hub k4 (by omega) hlo ?_ ?_ ?_) ?_
    · simp (disch := first | omega | (simp only [next_put, next_bump]; omega)) only [get_put_self]
    · simp (disch := first | omega | (simp only [next_put, next_bump]; omega)) only [get_put_self, get_put_ne, get_bump]
      simp
    · intro c h1 h2 h3
      have := h3 ho
      simp (disch := first | omega | (simp only [next_put, next_bump]; omega)) only [get_put_ne, get_bump]
    · intro j hj hne
      unfold setF at hne ⊢
      split
      · omega
      · rename_i h; rw [if_neg h] at hne; exact habB j hj hne

set_option maxHeartbeats 4000000 in
set_option maxRecDepth 20000 in
theorem mout_loop {n : Net} (hV : n.Valid) {N : Nat} (hN : n.nodes = N) {v : Value} {ub lo : Nat} {m0 : Mem} (hv : Arcs m0 v n.arcs) (hub : ub < lo) (hva : ∀ b l c, v = .slice (some ⟨b, 0, none⟩) l c → b < lo ∧ b ≠ ub) {Q : IExit → Slots → Mem → Prop} :
    ∀ (r i : Nat) (m : Mem) (σ : Slots) (o : Int → List Int) (B : Int → Nat), i + r = n.arcs.length → lo ≤ m.next → (∀ b, b < lo → b ≠ ub → m.get b = m0.get b) → Outs2 o ub N lo B m → OutInv n i o →
    σ 53 = v → σ 54 = I n.arcs.length → σ 55 = I i → σ 13 = .slice (some ⟨ub, 0, none⟩) N 1 →
    (∀ σ' m' o' B', (∀ t, t < 14 → σ' t = σ t) → m.next ≤ m'.next → (∀ b, b < lo → b ≠ ub → m'.get b = m0.get b) → Outs2 o' ub N lo B' m' → OutInv n n.arcs.length o' → Q (.exit 0) σ' m') → WP Try.prog (.loop ir33_l0) σ m Q
  | 0, i, m, σ, o, B, hi, hlo, hold, hO, hI, s53, s54, s55, s13, hQ => by
    refine wp_round fun J hJ => ?_
    have h1 : ¬ i < n.arcs.length := by omega
    obtain rfl : i = n.arcs.length := by omega
    simp (disch := first | omega | (simp only [next_put, next_bump]; omega)) [ir33_l0_n, s54, s55, h1, get_put_self, get_put_ne, get_bump, put_put]
    exact hQ _ _ o B (fun t ht => by simp (disch := omega) only [upd_ne]) (Nat.le_refl _) hold hO hI
  | r + 1, i, m, σ, o, B, hi, hlo, hold, hO, hI, s53, s54, s55, s13, hQ => by
    refine wp_round fun J hJ => ?_
    have h1 : i < n.arcs.length := by omega
    obtain ⟨a, ha⟩ : ∃ a, n.arcs[i]? = some a := ⟨n.arcs[i]'h1, by simp⟩
    obtain ⟨c, oo, rfl, hc⟩ := hv.blk h1
    obtain ⟨hva1, hva2⟩ := hva _ _ _ rfl
    have hgc := hold c hva1 hva2
    rw [hc] at hgc
    have hb : i * 4 + 4 ≤ n.arcs.length * 4 := by omega
    have c4 := arcs_at ha
    have hal := hV.al
    obtain ⟨a1, a2, a3, a4⟩ := hV.arc a (List.mem_of_getElem? ha)
    have w0 : IntKind.i64.wrap ((i : Int) + 1) = (i : Int) + 1 := i64_id (by omega) (by omega)
    have lc := get_lt hgc
    simp (disch := first | omega | (simp only [next_put, next_bump]; omega)) [ir33_l0_n, s53, s54, s55, h1, hgc, hb, c4, arcC, get_put_self, get_put_ne, get_bump, put_put]
    have old1 : ∀ b x, m.get b = some x → ((m.bump 6).put (m.next + 3) (some ⟨[I a.f, I a.t, I a.c, I a.k], true⟩)).get b = some x := fun b x hb => by
      have := get_lt hb
      rw [get_put_ne (by omega), get_bump this, hb]
    have hBlt : ∀ k : Nat, k < N → o k ≠ [] → B k < m.next ∧ lo ≤ B k := fun k hk hne => ⟨get_lt (hO.get k hk hne).1, (hO.get k hk hne).2⟩
    have lu := get_lt hO.u
    refine ir33_r1_wp (a := a) (o := o) (B := B) (ab := m.next + 3) (i := i) hV hN (by omega) (get_put_self (by simp)) (hO.mono old1) hub (by simp only [next_put, next_bump]; omega) a1 (by have := hI.len a.f; omega) (fun k hk hne => by have := hBlt k hk hne; omega) (by omega) (by simp [s13]) (by simp) (by simp) fun σ1 m1 B1 g1 g2 g3 g4 g5 => ?_
    simp only [next_put, next_bump] at g2
    simp only [thenK_normal]
    have hab1 : m1.get (m.next + 3) = some ⟨arcC a, true⟩ := by
      rw [g3 _ (by simp only [next_put, next_bump]; omega) (by omega) (fun k hk hne => by have := hBlt k hk hne; omega)]
      exact get_put_self (by simp)
    refine ir33_r2_wp (a := a) (B := B1) (ab := m.next + 3) (i := i) hV hN (by omega) hab1 g4 hub (by omega) a2 (by have := hI.len a.t; have := @setF_len o a.f (i : Int) a.t; omega) g5 (by omega) (by rw [g1 13 (by omega)]; simp [s13]) (by rw [g1 15 (by omega)]; simp) (by rw [g1 14 (by omega)]; simp) fun σ2 m2 B2 f1 f2 f3 f4 f5 => ?_
    have q : ∀ t, t < 60 → σ2 t = σ1 t := fun t ht => f1 t (by omega)
    have q55 : σ2 55 = I i := by rw [q 55 (by omega), g1 55 (by omega)]; simp [s55]
    have q53 : σ2 53 = .slice (some ⟨c, 0, none⟩) n.arcs.length 4 := by rw [q 53 (by omega), g1 53 (by omega)]; simp [s53]
    have q54 : σ2 54 = I n.arcs.length := by rw [q 54 (by omega), g1 54 (by omega)]; simp [s54]
    have q13 : σ2 13 = .slice (some ⟨ub, 0, none⟩) N 1 := by rw [q 13 (by omega), g1 13 (by omega)]; simp [s13]
    have ql : ∀ t, t < 14 → σ2 t = σ t := fun t ht => by
      rw [q t (by omega), g1 t (by omega)]; simp (disch := omega) only [upd_ne]
    simp (disch := first | omega | (simp only [next_put, next_bump]; omega)) [q55, w0, get_put_self, get_put_ne, get_bump, put_put]
    have hg5 : ∀ k : Nat, k < N → setF o a.f (o a.f ++ [(i : Int)]) k ≠ [] → lo ≤ B1 k := fun k hk hne => (g4.get k hk hne).2
    refine hJ _ _ (mout_loop hV hN hv hub hva r (i + 1) m2 _ _ B2 (by omega) (by omega) (fun b hb1 hb2 => ?_) f4 (hI.step ha (by omega)) (by simp [q53]) (by simp [q54]) (by simp) (by simp [q13]) (fun σ' m' o' B' e1 e2 e3 e4 e5 => hQ σ' m' o' B' (fun t ht => ?_) (by omega) e3 e4 e5))
    · rw [f3 b (by omega) hb2 (fun k hk hne => by have := hg5 k hk hne; omega), g3 b (by simp only [next_put, next_bump]; omega) hb2 (fun k hk hne => by have := hBlt k hk hne; omega)]
      rw [get_put_ne (by omega), get_bump (by omega)]
      exact hold b hb1 hb2
    · rw [e1 t ht]; simp (disch := omega) only [upd_ne]; exact ql t ht
end Go.Proofs.Ytapnkfkpkcajjaa
