/-
  'Solve': the rows of arcs at the nodes.
-/
import Derived.Test.YtapnkfkpkcajjaaMfI
namespace Go.Proofs.Ytapnkfkpkcajjaa
open Go Go.DI Go.Nets
set_option linter.unusedSimpArgs false
set_option linter.unusedVariables false

theorem upd_ne {σ : Slots} {t u : Nat} {v : Value} (h : u ≠ t) : upd σ t v u = σ u := by unfold upd; rw [if_neg h]
def slv (l : List Int) (b : Nat) : Value := if l = [] then .slice none 0 0 else .slice (some ⟨b, 0, none⟩) l.length 1
def rowS (N : Nat) (o : Int → List Int) (B : Int → Nat) : List Value := (List.range N).map fun (x : Nat) => slv (o x) (B x)
@[simp] theorem rowS_len {N : Nat} {o : Int → List Int} {B : Int → Nat} : (rowS N o B).length = N := by simp [rowS]
theorem rowS_get {N : Nat} {o : Int → List Int} {B : Int → Nat} {k : Nat} (h : k < N) : (rowS N o B)[k]? = some (slv (o k) (B k)) := by simp [rowS, h]
theorem rowS_set {N : Nat} {o : Int → List Int} {B : Int → Nat} {k b : Nat} {l : List Int} (hl : l ≠ []) : (rowS N o B).set k (.slice (some ⟨b, 0, none⟩) l.length 1) = rowS N (setF o k l) (setF B k b) := by
  apply List.ext_getElem
  · simp
  · intro i h1 h2
    simp at h1
    rw [List.getElem_set]
    by_cases h : k = i
    · subst h; simp [rowS, setF, slv, hl]
    · have : ¬ (i : Int) = k := by omega
      simp [rowS, setF, h, this]
structure Outs2 (o : Int → List Int) (ub N lo : Nat) (B : Int → Nat) (m : Mem) : Prop where
  u : m.get ub = some ⟨rowS N o B, true⟩
  get : ∀ k : Nat, k < N → o k ≠ [] → m.get (B k) = some ⟨(o k).map (Value.int .i64 ·), true⟩ ∧ lo ≤ B k
  inj : ∀ k k' : Nat, k < N → k' < N → k ≠ k' → o k ≠ [] → o k' ≠ [] → B k ≠ B k'
theorem Outs2.outs {o : Int → List Int} {ub N lo : Nat} {B : Int → Nat} {m : Mem} (h : Outs2 o ub N lo B m) : Outs o ub N m := by
  refine ⟨_, h.u, by simp, fun k hk => ⟨_, rowS_get hk, ?_⟩⟩
  unfold slv
  by_cases ho : o k = []
  · rw [if_pos ho]; exact .inl ⟨rfl, ho⟩
  · rw [if_neg ho]; exact .inr ⟨_, _, rfl, (h.get k hk ho).1⟩
theorem Outs2.app {o : Int → List Int} {ub N lo : Nat} {B : Int → Nat} {m m' : Mem} (h : Outs2 o ub N lo B m) (hub : ub < lo) {k : Nat} {c : Int} {id : Nat} (hk : k < N) (hid : m.next ≤ id) (hlo : lo ≤ m.next)
    (h1 : m'.get ub = some ⟨rowS N (setF o k (o k ++ [c])) (setF B k id), true⟩) (h2 : m'.get id = some ⟨(o k ++ [c]).map (Value.int .i64 ·), true⟩)
    (h3 : ∀ b, b < m.next → b ≠ ub → (o k ≠ [] → b ≠ B k) → m'.get b = m.get b) : Outs2 (setF o k (o k ++ [c])) ub N lo (setF B k id) m' := by
  have hs : ∀ {α : Type} (g : Int → α) (v : α) (j : Nat), j ≠ k → setF g k v j = g j := fun g v j hj => by unfold setF; rw [if_neg (by omega)]
  have hs' : ∀ {α : Type} (g : Int → α) (v : α), setF g k v k = v := fun g v => by unfold setF; rw [if_pos rfl]
  refine ⟨h1, fun j hj hne => ?_, fun j j' hj hj' hjj n1 n2 => ?_⟩
  · by_cases hjk : j = k
    · subst hjk; rw [hs', hs']; exact ⟨h2, by omega⟩
    · rw [hs _ _ j hjk] at hne
      rw [hs _ _ j hjk, hs _ _ j hjk]
      obtain ⟨g1, g2⟩ := h.get j hj hne
      refine ⟨?_, g2⟩
      rw [h3 _ (get_lt g1) (by omega) (fun hk0 => h.inj j k hj hk hjk hne hk0)]
      exact g1
  · by_cases hjk : j = k
    · subst hjk
      rw [hs _ _ j' (fun e => hjj e.symm)] at n2
      rw [hs', hs _ _ j' (fun e => hjj e.symm)]
      have := get_lt (h.get j' hj' n2).1
      omega
    · rw [hs _ _ j hjk] at n1
      rw [hs _ _ j hjk]
      by_cases hj'k : j' = k
      · subst hj'k
        rw [hs']
        have := get_lt (h.get j hj n1).1
        omega
      · rw [hs _ _ j' hj'k] at n2
        rw [hs _ _ j' hj'k]
        exact h.inj j j' hj hj' hjj n1 n2
def ir25_r1 : ICode := .region [
    ⟨0, some 33, none, .mov (.tmp 6), []⟩,
    ⟨1, some 34, none, .nilck (.tmp 33), []⟩,
    ⟨2, some 35, none, .faddr 5 (.tmp 34), []⟩,
    ⟨3, some 36, none, .load false 1 (.tmp 35), []⟩,
    ⟨4, some 37, none, .faddr 0 (.tmp 8), []⟩,
    ⟨5, some 38, none, .load false 1 (.tmp 37), []⟩,
    ⟨6, some 39, none, .mov (.tmp 6), []⟩,
    ⟨7, some 40, none, .nilck (.tmp 39), []⟩,
    ⟨8, some 41, none, .faddr 5 (.tmp 40), []⟩,
    ⟨9, some 42, none, .load false 1 (.tmp 41), []⟩,
    ⟨10, some 43, none, .faddr 0 (.tmp 8), []⟩,
    ⟨11, some 44, none, .load false 1 (.tmp 43), []⟩,
    ⟨12, some 45, none, .iaddr 1 (.tmp 42) (.tmp 44), []⟩,
    ⟨13, some 46, none, .load false 1 (.tmp 45), []⟩,
    ⟨14, some 47, none, .mov (.tmp 7), []⟩,
    ⟨15, some 48, none, .bslice 1 1 [.int .i64 0] [(0, 1, .tmp 47)], []⟩,
    ⟨16, some 49, none, .app 1 8 (.tmp 46) (.tmp 48), [(.tmp 37, .tmp 46), (.tmp 35, .tmp 46)]⟩,
    ⟨17, some 50, none, .iaddr 1 (.tmp 36) (.tmp 38), []⟩,
    ⟨18, none, none, .store 1 (.tmp 50) (.tmp 49), []⟩]
def ir25_r2 : ICode := .region [
    ⟨0, some 51, none, .mov (.tmp 6), []⟩,
    ⟨1, some 52, none, .nilck (.tmp 51), []⟩,
    ⟨2, some 53, none, .faddr 5 (.tmp 52), []⟩,
    ⟨3, some 54, none, .load false 1 (.tmp 53), []⟩,
    ⟨4, some 55, none, .faddr 1 (.tmp 8), []⟩,
    ⟨5, some 56, none, .load false 1 (.tmp 55), []⟩,
    ⟨6, some 57, none, .mov (.tmp 6), []⟩,
    ⟨7, some 58, none, .nilck (.tmp 57), []⟩,
    ⟨8, some 59, none, .faddr 5 (.tmp 58), []⟩,
    ⟨9, some 60, none, .load false 1 (.tmp 59), []⟩,
    ⟨10, some 61, none, .faddr 1 (.tmp 8), []⟩,
    ⟨11, some 62, none, .load false 1 (.tmp 61), []⟩,
    ⟨12, some 63, none, .iaddr 1 (.tmp 60) (.tmp 62), []⟩,
    ⟨13, some 64, none, .load false 1 (.tmp 63), []⟩,
    ⟨14, some 65, none, .mov (.tmp 7), []⟩,
    ⟨15, some 66, none, .bin .sub .other (.const (.int .i64 (-1))) (.tmp 65), []⟩,
    ⟨16, some 67, none, .bslice 1 1 [.int .i64 0] [(0, 1, .tmp 66)], []⟩,
    ⟨17, some 68, none, .app 1 8 (.tmp 64) (.tmp 67), [(.tmp 55, .tmp 64), (.tmp 53, .tmp 64)]⟩,
    ⟨18, some 69, none, .iaddr 1 (.tmp 54) (.tmp 56), []⟩,
    ⟨19, none, none, .store 1 (.tmp 69) (.tmp 68), []⟩]
theorem ir25_l0_n : ir25_l0 = (
  .seq (
  .region [
    ⟨0, some 29, none, .bin .lss .other (.tmp 28) (.tmp 27), []⟩]) (
  .seq (
  .cond (.tmp 29) (
   .skip) (
   .exit 0)) (
  .seq (
  .block 1 (
  .seq (
  .region [
    ⟨0, some 30, none, .mov (.tmp 28), []⟩,
    ⟨1, some 31, none, .iaddr 4 (.tmp 26) (.tmp 28), []⟩,
    ⟨2, some 32, none, .load true 4 (.tmp 31), []⟩,
    ⟨3, some 8, none, .alloc [.int .i64 0, .int .i64 0, .int .i64 0, .int .i64 0], []⟩,
    ⟨4, some 7, none, .mov (.tmp 30), []⟩,
    ⟨5, none, none, .store 4 (.tmp 8) (.tmp 32), []⟩]) (
  .seq (
  ir25_r1) (
  ir25_r2)))) (
  .region [
    ⟨0, some 70, none, .bin .add .other (.tmp 28) (.const (.int .i64 1)), []⟩,
    ⟨1, some 28, none, .mov (.tmp 70), []⟩])))
 : ICode) := rfl

set_option maxHeartbeats 4000000 in
set_option maxRecDepth 20000 in
theorem ir25_r1_wp {n : Net} (hV : n.Valid) {N : Nat} (hN : n.nodes = N) {fl : List Int} {v : Value} {sb fb ub ab lo : Nat} {a : Arc} {o : Int → List Int} {B : Int → Nat} {m : Mem} {σ : Slots} {i : Nat} (hi : i < 2500) (hsb : m.get sb = some ⟨[I n.nodes, I n.src, I n.snk, v, .slice (some ⟨fb, 0, none⟩) fl.length 1, .slice (some ⟨ub, 0, none⟩) N 1], true⟩)
    (hab : m.get ab = some ⟨arcC a, true⟩) (hO : Outs2 o ub N lo B m) (hub : ub < lo) (hsl : sb < lo) (hsu : sb ≠ ub) (hlo : lo ≤ m.next) (hnode : n.node a.f) (hol : (o a.f).length ≤ 100000) (habB : ∀ k : Nat, k < N → o k ≠ [] → B k ≠ ab) (hab2 : ab ≠ ub)
    (s6 : σ 6 = ptr sb) (s8 : σ 8 = ptr ab) (s7 : σ 7 = I i) {Q : IExit → Slots → Mem → Prop}
    (hQ : ∀ σ' m' B', (∀ t, t < 33 → σ' t = σ t) → m.next ≤ m'.next → (∀ b, b < m.next → b ≠ ub → (∀ k : Nat, k < N → o k ≠ [] → b ≠ B k) → m'.get b = m.get b) → Outs2 (setF o a.f (o a.f ++ [(i : Int)])) ub N lo B' m' → (∀ k : Nat, k < N → setF o a.f (o a.f ++ [(i : Int)]) k ≠ [] → B' k ≠ ab) → Q .normal σ' m') : WP Try.prog ir25_r1 σ m Q := by
  obtain ⟨k0, k2⟩ := hnode
  obtain ⟨k, hk⟩ : ∃ k : Nat, a.f = k := ⟨a.f.toNat, by omega⟩
  have k1 : a.f < (N : Int) := by omega
  have k3 : a.f.toNat = k := by omega
  have k4 : k < N := by omega
  have k5 : k + 1 ≤ N := k4
  rw [hk] at hQ hol
  have hub0 := hO.u
  have hget : (rowS N o B)[k]? = some (slv (o k) (B k)) := rowS_get k4
  have hget2 : ∀ h, (rowS N o B)[k]'h = slv (o k) (B k) := fun h => by rw [List.getElem?_eq_getElem h] at hget; simpa using hget
  have w1 : IntKind.i64.wrap (-1 - (i : Int)) = -1 - (i : Int) := i64_id (by omega) (by omega)
  have lub := get_lt hub0
  have lab := get_lt hab
  by_cases ho : o k = []
  · have hslv : slv (o k) (B k) = .slice none 0 0 := by unfold slv; rw [if_pos ho]
    rw [hslv] at hget hget2
    have hset := rowS_set (N := N) (o := o) (B := B) (k := k) (b := m.next + 16) (l := o k ++ [(i : Int)]) (by simp)
    have e1 : (o k ++ [(i : Int)]).length = 1 := by rw [ho]; rfl
    rw [e1] at hset
    simp (disch := first | omega | (simp only [next_put, next_bump]; omega)) [ir25_r1, s6, s8, s7, hsb, hab, hub0, k0, k1, k3, hget, head_td, arcC, k4, k5, hget2, hset, w1, ckOk, bne_iff_ne, hab2, get_put_self, get_put_ne, get_bump, put_put]
    refine hQ _ _ (setF B k (m.next + 16)) (fun t ht => by simp (disch := omega) only [upd_ne]) (by simp only [next_put, next_bump]; omega) (fun c h1 h2 h3 => by simp (disch := first | omega | (simp only [next_put, next_bump]; omega)) only [get_put_ne, get_bump]) (hO.app hub k4 (by omega) hlo ?_ ?_ ?_) ?_
    · simp (disch := first | omega | (simp only [next_put, next_bump]; omega)) only [get_put_self]
    · simp (disch := first | omega | (simp only [next_put, next_bump]; omega)) only [get_put_self, get_put_ne, get_bump]
      rw [ho]; rfl
    · intro c h1 h2 _
      simp (disch := first | omega | (simp only [next_put, next_bump]; omega)) only [get_put_ne, get_bump]
    · intro j hj hne
      unfold setF at hne ⊢
      split
      · omega
      · rename_i h; rw [if_neg h] at hne; exact habB j hj hne
  · have hslv : slv (o k) (B k) = .slice (some ⟨B k, 0, none⟩) (o k).length 1 := by unfold slv; rw [if_neg ho]
    rw [hslv] at hget hget2
    have hset := rowS_set (N := N) (o := o) (B := B) (k := k) (b := m.next + 16) (l := o k ++ [(i : Int)]) (by simp)
    have e1 : (o k ++ [(i : Int)]).length = (o k).length + 1 := by simp
    rw [e1] at hset
    obtain ⟨hB, hBlo⟩ := hO.get k k4 ho
    have lB := get_lt hB
    have b1 : sb ≠ B k := by omega
    have b2 : ub ≠ B k := by omega
    have b3 : ab ≠ B k := fun h => habB k k4 ho h.symm
    have z1 : ((o k).length + 1) * 8 ≤ 140737488355328 := by omega
    have z2 : (o k).length + 1 ≤ 9223372036854775807 := by omega
    have z3 : ((o k).map (Value.int .i64 ·)).take (o k).length = (o k).map (Value.int .i64 ·) := List.take_of_length_le (by simp)
    simp (disch := first | omega | (simp only [next_put, next_bump]; omega)) [ir25_r1, s6, s8, s7, hsb, hab, hub0, k0, k1, k3, hget, head_td, arcC, k4, k5, hget2, hset, w1, ckOk, bne_iff_ne, hab2, hB, b1, b2, b3, z1, z2, z3, get_put_self, get_put_ne, get_bump, put_put]
    refine hQ _ _ (setF B k (m.next + 16)) (fun t ht => by simp (disch := omega) only [upd_ne]) (by simp only [next_put, next_bump]; omega) (fun c h1 h2 h3 => by have := h3 k k4 ho; simp (disch := first | omega | (simp only [next_put, next_bump]; omega)) only [get_put_ne, get_bump]) (hO.app hub k4 (by omega) hlo ?_ ?_ ?_) ?_
    · simp (disch := first | omega | (simp only [next_put, next_bump]; omega)) only [get_put_self]
    · simp (disch := first | omega | (simp only [next_put, next_bump]; omega)) only [get_put_self, get_put_ne, get_bump]
      simp
    · intro c h1 h2 h3
      have := h3 ho
      simp (disch := first | omega | (simp only [next_put, next_bump]; omega)) only [get_put_ne, get_bump]
    · intro j hj hne
      unfold setF at hne ⊢
      split
      · omega
      · rename_i h; rw [if_neg h] at hne; exact habB j hj hne

set_option maxHeartbeats 4000000 in
set_option maxRecDepth 20000 in
theorem ir25_r2_wp {n : Net} (hV : n.Valid) {N : Nat} (hN : n.nodes = N) {fl : List Int} {v : Value} {sb fb ub ab lo : Nat} {a : Arc} {o : Int → List Int} {B : Int → Nat} {m : Mem} {σ : Slots} {i : Nat} (hi : i < 2500) (hsb : m.get sb = some ⟨[I n.nodes, I n.src, I n.snk, v, .slice (some ⟨fb, 0, none⟩) fl.length 1, .slice (some ⟨ub, 0, none⟩) N 1], true⟩)
    (hab : m.get ab = some ⟨arcC a, true⟩) (hO : Outs2 o ub N lo B m) (hub : ub < lo) (hsl : sb < lo) (hsu : sb ≠ ub) (hlo : lo ≤ m.next) (hnode : n.node a.t) (hol : (o a.t).length ≤ 100000) (habB : ∀ k : Nat, k < N → o k ≠ [] → B k ≠ ab) (hab2 : ab ≠ ub)
    (s6 : σ 6 = ptr sb) (s8 : σ 8 = ptr ab) (s7 : σ 7 = I i) {Q : IExit → Slots → Mem → Prop}
    (hQ : ∀ σ' m' B', (∀ t, t < 51 → σ' t = σ t) → m.next ≤ m'.next → (∀ b, b < m.next → b ≠ ub → (∀ k : Nat, k < N → o k ≠ [] → b ≠ B k) → m'.get b = m.get b) → Outs2 (setF o a.t (o a.t ++ [(-1 - (i : Int))])) ub N lo B' m' → (∀ k : Nat, k < N → setF o a.t (o a.t ++ [(-1 - (i : Int))]) k ≠ [] → B' k ≠ ab) → Q .normal σ' m') : WP Try.prog ir25_r2 σ m Q := by
  obtain ⟨k0, k2⟩ := hnode
  obtain ⟨k, hk⟩ : ∃ k : Nat, a.t = k := ⟨a.t.toNat, by omega⟩
  have k1 : a.t < (N : Int) := by omega
  have k3 : a.t.toNat = k := by omega
  have k4 : k < N := by omega
  have k5 : k + 1 ≤ N := k4
  rw [hk] at hQ hol
  have hub0 := hO.u
  have hget : (rowS N o B)[k]? = some (slv (o k) (B k)) := rowS_get k4
  have hget2 : ∀ h, (rowS N o B)[k]'h = slv (o k) (B k) := fun h => by rw [List.getElem?_eq_getElem h] at hget; simpa using hget
  have w1 : IntKind.i64.wrap (-1 - (i : Int)) = -1 - (i : Int) := i64_id (by omega) (by omega)
  have lub := get_lt hub0
  have lab := get_lt hab
  by_cases ho : o k = []
  · have hslv : slv (o k) (B k) = .slice none 0 0 := by unfold slv; rw [if_pos ho]
    rw [hslv] at hget hget2
    have hset := rowS_set (N := N) (o := o) (B := B) (k := k) (b := m.next + 17) (l := o k ++ [(-1 - (i : Int))]) (by simp)
    have e1 : (o k ++ [(-1 - (i : Int))]).length = 1 := by rw [ho]; rfl
    rw [e1] at hset
    simp (disch := first | omega | (simp only [next_put, next_bump]; omega)) [ir25_r2, s6, s8, s7, hsb, hab, hub0, k0, k1, k3, hget, head_td, arcC, k4, k5, hget2, hset, w1, ckOk, bne_iff_ne, hab2, get_put_self, get_put_ne, get_bump, put_put]
    refine hQ _ _ (setF B k (m.next + 17)) (fun t ht => by simp (disch := omega) only [upd_ne]) (by simp only [next_put, next_bump]; omega) (fun c h1 h2 h3 => by simp (disch := first | omega | (simp only [next_put, next_bump]; omega)) only [get_put_ne, get_bump]) (hO.app hub k4 (by omega) hlo ?_ ?_ ?_) ?_
    · simp (disch := first | omega | (simp only [next_put, next_bump]; omega)) only [get_put_self]
    · simp (disch := first | omega | (simp only [next_put, next_bump]; omega)) only [get_put_self, get_put_ne, get_bump]
      rw [ho]; rfl
    · intro c h1 h2 _
      simp (disch := first | omega | (simp only [next_put, next_bump]; omega)) only [get_put_ne, get_bump]
    · intro j hj hne
      unfold setF at hne ⊢
      split
      · omega
      · rename_i h; rw [if_neg h] at hne; exact habB j hj hne
  · have hslv : slv (o k) (B k) = .slice (some ⟨B k, 0, none⟩) (o k).length 1 := by unfold slv; rw [if_neg ho]
    rw [hslv] at hget hget2
    have hset := rowS_set (N := N) (o := o) (B := B) (k := k) (b := m.next + 17) (l := o k ++ [(-1 - (i : Int))]) (by simp)
    have e1 : (o k ++ [(-1 - (i : Int))]).length = (o k).length + 1 := by simp
    rw [e1] at hset
    obtain ⟨hB, hBlo⟩ := hO.get k k4 ho
    have lB := get_lt hB
    have b1 : sb ≠ B k := by omega
    have b2 : ub ≠ B k := by omega
    have b3 : ab ≠ B k := fun h => habB k k4 ho h.symm
    have z1 : ((o k).length + 1) * 8 ≤ 140737488355328 := by omega
    have z2 : (o k).length + 1 ≤ 9223372036854775807 := by omega
    have z3 : ((o k).map (Value.int .i64 ·)).take (o k).length = (o k).map (Value.int .i64 ·) := List.take_of_length_le (by simp)
    simp (disch := first | omega | (simp only [next_put, next_bump]; omega)) [ir25_r2, s6, s8, s7, hsb, hab, hub0, k0, k1, k3, hget, head_td, arcC, k4, k5, hget2, hset, w1, ckOk, bne_iff_ne, hab2, hB, b1, b2, b3, z1, z2, z3, get_put_self, get_put_ne, get_bump, put_put]
    refine hQ _ _ (setF B k (m.next + 17)) (fun t ht => by simp (disch := omega) only [upd_ne]) (by simp only [next_put, next_bump]; omega) (fun c h1 h2 h3 => by have := h3 k k4 ho; simp (disch := first | omega | (simp only [next_put, next_bump]; omega)) only [get_put_ne, get_bump]) (hO.app hub k4 (by omega) hlo ?_ ?_ ?_) ?_
    · simp (disch := first | omega | (simp only [next_put, next_bump]; omega)) only [get_put_self]
    · simp (disch := first | omega | (simp only [next_put, next_bump]; omega)) only [get_put_self, get_put_ne, get_bump]
      simp
    · intro c h1 h2 h3
      have := h3 ho
      simp (disch := first | omega | (simp only [next_put, next_bump]; omega)) only [get_put_ne, get_bump]
    · intro j hj hne
      unfold setF at hne ⊢
      split
      · omega
      · rename_i h; rw [if_neg h] at hne; exact habB j hj hne
end Go.Proofs.Ytapnkfkpkcajjaa
