/-
  The frame: a call that succeeds in a part of the memory succeeds in the whole, and leaves the rest alone.
-/
import Derived.Test.YticjcminhkgabaaGreatDoorFwY
namespace Go.DI
open Go Go.RowKit

/-- M is m, and behind D what X holds -/
structure Ext (D : Nat → Prop) (X m M : Mem) : Prop where
  next : M.next = m.next
  xn : X.next ≤ m.next
  lo : ∀ b, D b → b < m.next
  off : ∀ b, D b → m.get b = none
  fr : ∀ b, D b → M.get b = X.get b ∧ M.mp b = X.mp b
  eq : ∀ b, ¬ D b → M.get b = m.get b
  mp : M.mp = m.mp

section
variable {D : Nat → Prop} {X m M : Mem}
theorem Ext.nd (E : Ext D X m M) {b : Nat} {x : Blk} (h : m.get b = some x) : ¬ D b := fun hd => by rw [E.off b hd] at h; cases h
theorem Ext.get (E : Ext D X m M) {b : Nat} {x : Blk} (h : m.get b = some x) : M.get b = some x := by rw [E.eq b (E.nd h), h]
theorem Ext.getM (E : Ext D X m M) {b : Nat} {e : List (Value × Value)} (h : m.getM b = some e) : M.getM b = some e := by
  unfold Mem.getM at h ⊢
  cases hg : m.get b with
  | none => rw [hg] at h; cases h
  | some x => rw [hg] at h; rw [E.get hg, E.mp]; exact h
theorem Ext.getM_nd (E : Ext D X m M) {b : Nat} {e : List (Value × Value)} (h : m.getM b = some e) : ¬ D b := by
  unfold Mem.getM at h
  cases hg : m.get b with
  | none => rw [hg] at h; cases h
  | some x => exact E.nd hg
theorem Ext.put (E : Ext D X m M) {b : Nat} (hb : ¬ D b) (x : Option Blk) : Ext D X (m.put b x) (M.put b x) where
  next := E.next
  xn := E.xn
  lo := E.lo
  off c hc := by rw [zqm (show c ≠ b from fun h => hb (h ▸ hc)), E.off c hc]
  fr c hc := ⟨by rw [zqm (show c ≠ b from fun h => hb (h ▸ hc)), (E.fr c hc).1], (E.fr c hc).2⟩
  eq c hc := by
    by_cases h : c = b
    · subst h; simp only [Mem.get, Mem.put, E.next, if_true]
    · rw [zqm h, zqm h, E.eq c hc]
  mp := E.mp
theorem Ext.putM (E : Ext D X m M) {b : Nat} (hb : ¬ D b) (e : List (Value × Value)) : Ext D X (m.putM b e) (M.putM b e) where
  next := E.next
  xn := E.xn
  lo := E.lo
  off c hc := by rw [get_putM_ne (show c ≠ b from fun h => hb (h ▸ hc)), E.off c hc]
  fr c hc := by
    refine ⟨by rw [get_putM_ne (show c ≠ b from fun h => hb (h ▸ hc)), (E.fr c hc).1], by show (if c = b then some e else M.mp c) = _; rw [if_neg (show c ≠ b from fun h => hb (h ▸ hc))]; exact (E.fr c hc).2⟩
  eq c hc := by
    by_cases h : c = b
    · subst h; simp only [Mem.get, Mem.putM, E.next, if_true]
    · rw [get_putM_ne h, get_putM_ne h, E.eq c hc]
  mp := by show (fun i => if i = b then some e else M.mp i) = _; rw [E.mp]; rfl
theorem Ext.bump (E : Ext D X m M) (k : Nat) : Ext D X (m.bump k) (M.bump k) where
  next := by show M.next + k = m.next + k; rw [E.next]
  xn := by have := E.xn; show X.next ≤ m.next + k; omega
  lo b hb := by have := E.lo b hb; show b < m.next + k; omega
  off b hb := by rw [zqn (E.lo b hb), E.off b hb]
  fr b hb := ⟨by rw [zqn (by rw [E.next]; exact E.lo b hb), (E.fr b hb).1], (E.fr b hb).2⟩
  eq b hb := by
    by_cases h : b < m.next
    · rw [zqn h, zqn (by rw [E.next]; exact h), E.eq b hb]
    · simp [Mem.get, Mem.bump, E.next, h]
  mp := E.mp

theorem Ext.addrOk (E : Ext D X m M) {v : Value} {n : Nat} (h : addrOk m v n = true) : addrOk M v n = true := by
  unfold DI.addrOk at h ⊢
  split at h
  · rename_i a
    simp only [Bool.and_eq_true] at h ⊢
    refine ⟨h.1, ?_⟩
    cases hg : m.get a.block with
    | none => rw [hg] at h; simp at h
    | some x => rw [hg] at h; rw [E.get hg]; exact h.2
  · cases h
theorem Ext.addrOwn (E : Ext D X m M) {v : Value} (h : addrOwn m v = true) : addrOwn M v = true := by
  unfold DI.addrOwn at h ⊢
  split at h
  · rename_i a
    cases hg : m.get a.block with
    | none => rw [hg] at h; cases h
    | some x => rw [hg] at h; rw [E.get hg]; exact h
  · cases h
theorem Ext.loadV (E : Ext D X m M) {v : Value} {n : Nat} {ag : Bool} (h : DI.addrOk m v n = true) : loadV M ag n v = loadV m ag n v := by
  unfold DI.addrOk at h
  split at h
  · rename_i a
    simp only [Bool.and_eq_true] at h
    cases hg : m.get a.block with
    | none => rw [hg] at h; simp at h
    | some x => simp only [DI.loadV, cellsAt, hg, E.get hg]
  · cases h
theorem Ext.storeM (E : Ext D X m M) {v : Value} {n : Nat} {cs : List Value} (h : DI.addrOk m v n = true) : Ext D X (storeM m v cs) (storeM M v cs) := by
  unfold DI.addrOk at h
  split at h
  · rename_i a
    simp only [Bool.and_eq_true] at h
    cases hg : m.get a.block with
    | none => rw [hg] at h; simp at h
    | some x => simp only [DI.storeM, hg, E.get hg]; exact E.put (E.nd hg) _
  · cases h
theorem Ext.sliceOk (E : Ext D X m M) {v : Value} {z : Nat} (h : sliceOk m z v = true) : sliceOk M z v = true := by
  unfold DI.sliceOk at h ⊢
  split at h
  · exact h
  · rename_i a l c
    simp only [Bool.and_eq_true] at h ⊢
    refine ⟨h.1, ?_⟩
    cases hg : m.get a.block with
    | none => rw [hg] at h; simp at h
    | some x => rw [hg] at h; rw [E.get hg]; exact h.2
  · cases h
theorem Ext.sliceOwn (E : Ext D X m M) {v : Value} (h : sliceOwn m v = true) : sliceOwn M v = true := by
  unfold DI.sliceOwn at h ⊢
  split at h
  · rfl
  · rename_i a l c
    cases hg : m.get a.block with
    | none => rw [hg] at h; cases h
    | some x => rw [hg] at h; rw [E.get hg]; exact h
  · cases h
theorem Ext.sliceCells (E : Ext D X m M) {v : Value} {z : Nat} (h : DI.sliceOk m z v = true) : sliceCells M z v = sliceCells m z v := by
  unfold DI.sliceOk at h
  split at h
  · rfl
  · rename_i a l c
    simp only [Bool.and_eq_true] at h
    cases hg : m.get a.block with
    | none => rw [hg] at h; simp at h
    | some x => simp only [DI.sliceCells, cellsAt, hg, E.get hg]
  · cases h
theorem Ext.kill (E : Ext D X m M) {v : Value} {z : Nat} (h : DI.sliceOk m z v = true) : Ext D X (kill m v) (kill M v) := by
  unfold DI.sliceOk at h
  split at h
  · exact E
  · rename_i a l c
    simp only [Bool.and_eq_true] at h
    cases hg : m.get a.block with
    | none => rw [hg] at h; simp at h
    | some x => exact E.put (E.nd hg) _
  · cases h
theorem Ext.mapOf (E : Ext D X m M) {v : Value} {es : List (Value × Value)} (h : mapOf m v = some es) : mapOf M v = some es := by
  unfold DI.mapOf at h ⊢
  split at h
  · exact h
  · exact E.getM h
  · cases h

theorem ok_ext (E : Ext D X m M) {k : IK} {σ : Slots} (h : k.ok σ m = true) : k.ok σ M = true := by
  cases k with
  | sliceA z n y => simp only [IK.ok, Bool.and_eq_true] at h ⊢; exact ⟨E.addrOk h.1, h.2⟩
  | load ag n x => simp only [IK.ok, Bool.and_eq_true] at h ⊢; exact ⟨E.addrOk h.1, h.2⟩
  | store n x v => simp only [IK.ok, Bool.and_eq_true] at h ⊢; exact ⟨⟨⟨E.addrOk h.1.1.1, E.addrOwn h.1.1.2⟩, h.1.2⟩, h.2⟩
  | convBS x => simp only [IK.ok, Bool.and_eq_true] at h ⊢; exact ⟨E.sliceOk h.1, by rw [E.sliceCells h.1]; exact h.2⟩
  | app z bytes x y => simp only [IK.ok, Bool.and_eq_true] at h ⊢; exact ⟨⟨⟨⟨⟨E.sliceOk h.1.1.1.1.1, E.sliceOwn h.1.1.1.1.2⟩, E.sliceOk h.1.1.1.2⟩, h.1.1.2⟩, h.1.2⟩, h.2⟩
  | mlook ck z o x kk =>
    simp only [IK.ok] at h ⊢
    cases hm : DI.mapOf m (ev σ x) with
    | none => rw [hm] at h; cases h
    | some es => rw [hm] at h; rw [E.mapOf hm]; exact h
  | mput ck x kk v =>
    simp only [IK.ok] at h ⊢
    split at h
    · rename_i x0 b hb
      cases hm : m.getM b with
      | none => rw [hm] at h; cases h
      | some es => rw [hm] at h; rw [E.getM hm]; exact h
    · cases h
  | _ => exact h
theorem val_ext (E : Ext D X m M) {k : IK} {σ : Slots} {id : Nat} (h : k.ok σ m = true) : k.val id σ M = k.val id σ m := by
  cases k with
  | load ag n x => simp only [IK.ok, Bool.and_eq_true] at h; exact E.loadV h.1
  | convBS x => simp only [IK.ok, Bool.and_eq_true] at h; simp only [IK.val, E.sliceCells h.1]
  | mlook ck z o x kk =>
    simp only [IK.ok] at h
    cases hm : DI.mapOf m (ev σ x) with
    | none => rw [hm] at h; cases h
    | some es => simp only [IK.val, hm, E.mapOf hm]
  | _ => rfl
theorem mem_ext (E : Ext D X m M) {k : IK} {σ : Slots} {id : Nat} (hid : ¬ D id) (h : k.ok σ m = true) : Ext D X (k.mem id σ m) (k.mem id σ M) := by
  cases k with
  | alloc z => exact E.put hid _
  | box x => exact E.put hid _
  | bslice a b c d => exact E.put hid _
  | convSB x => exact E.put hid _
  | mkslice a b c d e => exact E.put hid _
  | store n x v => simp only [IK.ok, Bool.and_eq_true] at h; exact E.storeM h.1.1.1
  | app z bytes x y =>
    simp only [IK.ok, Bool.and_eq_true] at h
    simp only [IK.mem]
    split
    · exact E
    · rw [E.sliceCells h.1.1.1.1.1, E.sliceCells h.1.1.1.2]
      exact (E.kill h.1.1.1.1.1).put hid _
  | mkmap => exact E.putM hid _
  | mput ck x kk v =>
    simp only [IK.ok] at h
    split at h
    · rename_i x0 b hb
      cases hm : m.getM b with
      | none => rw [hm] at h; cases h
      | some es => simp only [IK.mem, hb, mapBlk, hm, E.getM hm]; exact E.putM (E.getM_nd hm) _
    · cases h
  | _ => exact E
theorem callee_ext (E : Ext D X m M) {k : IK} {σ : Slots} {fa : Nat × List Value} (h : k.callee σ m = some fa) : k.callee σ M = some fa := by
  cases k with
  | icall rows x args =>
    simp only [IK.callee] at h ⊢
    split at h
    · split at h
      · exact h
      · split at h
        · rename_i hc
          simp only [Bool.and_eq_true] at hc
          rw [if_pos (by simp only [Bool.and_eq_true]; exact ⟨E.addrOk hc.1, hc.2⟩), E.loadV hc.1]; exact h
        · cases h
      · cases h
    · cases h
  | _ => exact h
theorem calleeN_ext {m M : Mem} {k : IK} {σ : Slots} (h : k.callee σ m = none) (hok : k.ok σ m = true) : k.callee σ M = none := by
  refine isCall_callee ?_
  cases k with
  | call f a => simp [IK.ok] at hok
  | callv f a => simp [IK.ok] at hok
  | icall f a b => simp [IK.ok] at hok
  | _ => rfl

def ExtCl (D : Nat → Prop) (X : Mem) (cl : Callee) : Prop := ∀ f a m r m', cl f a m = some (r, m') → ∀ M, Ext D X m M → ∃ M', cl f a M = some (r, M') ∧ Ext D X m' M'

theorem keepOk_ext {m' M' : Mem} (E : Ext D X m M) (E' : Ext D X m' M') {σ : Slots} {ck : List (Operand × Operand)} (h : keepOk σ ck m m') : keepOk σ ck M M' := fun p hp b hb => by
  by_cases hd : D b
  · rw [(E.fr b hd).1, (E'.fr b hd).1]
  · rw [E.eq b hd, E'.eq b hd]; exact h p hp b hb

theorem step_ext {cl : Callee} (hcl : ExtCl D X cl) (E : Ext D X m M) {base : Nat} (hb : ∀ b, D b → b < base) {o : IOp} {σ σ' : Slots} {m' : Mem} (h : stepOp cl base o σ m = some (σ', m')) (hk : ckProp o σ m m') :
    ∃ M', stepOp cl base o σ M = some (σ', M') ∧ Ext D X m' M' ∧ ckProp o σ M M' := by
  unfold stepOp at h ⊢
  unfold ckProp at hk ⊢
  by_cases hw : wantedI σ o.g = true
  · rw [if_pos hw] at h ⊢
    replace hk := hk hw
    cases hc : o.k.callee σ m with
    | none =>
      rw [hc] at h hk
      simp only at h hk
      split at h
      · rename_i hok
        cases h
        simp only [calleeN_ext hc hok]
        rw [if_pos (ok_ext E hok), val_ext E hok]
        exact ⟨_, rfl, mem_ext E (fun hd => by have := hb _ hd; omega) hok, fun _ => hk⟩
      · cases h
    | some fa =>
      obtain ⟨f, args⟩ := fa
      rw [hc] at h hk
      simp only at h hk
      cases hf : cl f args m with
      | none => rw [hf] at h; cases h
      | some vm =>
        obtain ⟨v, m1⟩ := vm
        rw [hf] at h
        cases h
        obtain ⟨M', h1, E'⟩ := hcl _ _ _ _ _ hf M E
        simp only [callee_ext E hc, h1]
        exact ⟨_, rfl, E', fun _ => keepOk_ext E E' hk⟩
  · rw [if_neg hw] at h ⊢
    cases h
    exact ⟨M, rfl, E, fun h => absurd h hw⟩
theorem ops_ext {cl : Callee} (hcl : ExtCl D X cl) {base : Nat} (hb : ∀ b, D b → b < base) : ∀ {L : List IOp} {σ σ' : Slots} {m m' M : Mem}, Ext D X m M → runOps cl base L σ m = some (σ', m') → ∃ M', runOps cl base L σ M = some (σ', M') ∧ Ext D X m' M'
  | [], _, _, _, _, M, E, h => by cases h; exact ⟨M, rfl, E⟩
  | _ :: _, _, _, _, _, M, E, h => by
    obtain ⟨σ1, m1, h1, h2, h3⟩ := runOps_cons h
    obtain ⟨M1, g1, E1, g2⟩ := step_ext hcl E hb h1 h2
    obtain ⟨M2, g3, E2⟩ := ops_ext hcl hb E1 h3
    exact ⟨M2, runOps_mk g1 g2 g3, E2⟩
theorem iter_ext {f : Slots → Mem → Option (IExit × Slots × Mem)} (hf : ∀ σ m e σ' m', f σ m = some (e, σ', m') → ∀ M, Ext D X m M → ∃ M', f σ M = some (e, σ', M') ∧ Ext D X m' M') :
    ∀ {n : Nat} {σ : Slots} {m : Mem} {e : IExit} {σ' : Slots} {m' M : Mem}, iter f n σ m = some (e, σ', m') → Ext D X m M → ∃ M', iter f n σ M = some (e, σ', M') ∧ Ext D X m' M'
  | 0, _, _, _, _, _, _, h, _ => by simp [iter] at h
  | n + 1, σ, m, e, σ', m', M, h, E => by
    rcases iter_step h with ⟨σ1, m1, h1, h2⟩ | ⟨h1, h2⟩
    · obtain ⟨M1, g1, E1⟩ := hf _ _ _ _ _ h1 M E
      obtain ⟨M2, g2, E2⟩ := iter_ext hf h2 E1
      exact ⟨M2, by simp only [iter, g1]; exact g2, E2⟩
    · obtain ⟨M1, g1, E1⟩ := hf _ _ _ _ _ h1 M E
      refine ⟨M1, ?_, E1⟩
      simp only [iter, g1]
      cases e with
      | normal => exact absurd rfl h2
      | exit id => rfl
      | ret => rfl
theorem icy_get {m : Mem} {b : Nat} : (icy m).get b = (m.get b).map icyB := by
  unfold Mem.get
  show (if b < m.next then _ else _) = _
  by_cases h : b < m.next
  · rw [if_pos h, if_pos h]; rfl
  · rw [if_neg h, if_neg h]; rfl
theorem Ext.icy (E : Ext D X m M) : Ext D (icy X) (icy m) (icy M) where
  next := E.next
  xn := E.xn
  lo := E.lo
  off b hb := by rw [icy_get, E.off b hb]; rfl
  fr b hb := ⟨by rw [icy_get, icy_get, (E.fr b hb).1], rfl⟩
  eq b hb := by rw [icy_get, icy_get, E.eq b hb]
  mp := rfl
theorem Ext.tight (E : Ext D X m M) {z : Nat} {v : Value} (h : tight z m v = true) : tight z M v = true := by
  unfold DI.tight at h ⊢
  split at h
  · rename_i a l c
    cases hg : m.get a.block with
    | none => rw [hg] at h; cases h
    | some x => rw [hg] at h; rw [E.get hg]; exact h
  · rfl
theorem Ext.lateOk (E : Ext D X m M) {o : IOp} {σ : Slots} (h : lateOk o σ m = true) : lateOk o σ M = true := by
  unfold DI.lateOk at h ⊢
  simp only [Bool.and_eq_true] at h ⊢
  refine ⟨⟨h.1.1, ?_⟩, ok_ext E h.2⟩
  have := h.1.2
  split at this
  · exact E.tight this
  · cases this
theorem exec_ext {cl : Callee} (hcl : ∀ X, ExtCl D X cl) {n : Nat} : ∀ {c : ICode} {σ σ' : Slots} {m m' M : Mem} {e : IExit}, exec cl n c σ m = some (e, σ', m') → Ext D X m M → ∃ M', exec cl n c σ M = some (e, σ', M') ∧ Ext D X m' M'
  | .skip, _, _, _, _, M, _, h, E => by cases h; exact ⟨M, rfl, E⟩
  | .region ops, σ, σ', m, m', M, e, h, E => by
    simp only [exec] at h ⊢
    split at h
    · rename_i σ1 m1 hr
      cases h
      have E' : Ext D X (regBump ops m) (regBump ops M) := by
        unfold regBump
        split
        · exact E.bump _
        · exact E
      obtain ⟨M', g, E2⟩ := ops_ext (hcl X) (base := m.next) (fun b hb => E.lo b hb) E' hr
      refine ⟨M', ?_, E2⟩
      rw [E.next, g]
    · cases h
  | .late pre o rest, σ, σ', m, m', M, e, h, E => by
    simp only [exec] at h ⊢
    split at h
    · rename_i σ1 m1 h1
      split at h
      · rename_i hok
        split at h
        · rename_i σ2 m2 h2
          cases h
          obtain ⟨M1, g1, E1⟩ := ops_ext (hcl X) (base := m.next) (fun b hb => E.lo b hb) (E.bump _) h1
          have hk : o.k.ok σ1 m1 = true := by unfold DI.lateOk at hok; simp only [Bool.and_eq_true] at hok; exact hok.2
          obtain ⟨M2, g2, E2⟩ := ops_ext (hcl _) (base := m.next) (fun b hb => E.lo b hb) E1.icy h2
          rw [E.next, g1]
          simp only [E1.lateOk hok, if_true, val_ext E1 hk, g2, E2.next, E1.next]
          exact ⟨_, rfl, (mem_ext E1 (fun hd => by have := E.lo _ hd; omega) hk).bump _⟩
        · cases h
      · cases h
    · cases h
  | .seq a b, σ, σ', m, m', M, e, h, E => by
    simp only [exec] at h ⊢
    split at h
    · rename_i σ1 m1 h1
      obtain ⟨M1, g1, E1⟩ := exec_ext hcl h1 E
      obtain ⟨M2, g2, E2⟩ := exec_ext hcl h E1
      exact ⟨M2, by rw [g1]; exact g2, E2⟩
    · rename_i hne
      obtain ⟨M1, g1, E1⟩ := exec_ext hcl h E
      refine ⟨M1, ?_, E1⟩
      rw [g1]
      cases e with
      | normal => exact absurd h (hne _ _)
      | exit id => rfl
      | ret => rfl
  | .cond x a b, σ, σ', m, m', M, e, h, E => by
    simp only [exec] at h ⊢
    split at h
    · rename_i h1
      rw [if_pos h1]
      split at h
      · rename_i h2; rw [if_pos h2]; exact exec_ext hcl h E
      · rename_i h2; rw [if_neg h2]; exact exec_ext hcl h E
    · cases h
  | .block id c, σ, σ', m, m', M, e, h, E => by
    simp only [exec] at h ⊢
    split at h
    · rename_i h1
      obtain ⟨M1, g1, E1⟩ := exec_ext hcl h1 E
      rw [g1]
      simp only
      split at h
      · rename_i hid; cases h; exact ⟨M1, by rw [if_pos hid], E1⟩
      · rename_i hid; cases h; exact ⟨M1, by rw [if_neg hid], E1⟩
    · rename_i hne
      obtain ⟨M1, g1, E1⟩ := exec_ext hcl h E
      refine ⟨M1, ?_, E1⟩
      rw [g1]
      cases e with
      | normal => rfl
      | exit id => exact absurd h (hne _ _ _)
      | ret => rfl
  | .loop c, σ, σ', m, m', M, e, h, E => by
    simp only [exec] at h ⊢
    exact iter_ext (f := exec cl n c) (fun σ m e σ' m' h1 M E => exec_ext hcl h1 E) h E
  | .exit id, _, _, _, _, M, _, h, E => by cases h; exact ⟨M, rfl, E⟩
  | .ret, _, _, _, _, M, _, h, E => by cases h; exact ⟨M, rfl, E⟩

theorem resOk_ext (E : Ext D X m M) {σ : Slots} {r : IRes} (h : resOk m σ r = true) : resOk M σ r = true ∧ resV M σ r = resV m σ r := by
  cases r with
  | tmp t => exact ⟨rfl, rfl⟩
  | cell t ag n =>
    simp only [resOk, Bool.and_eq_true] at h ⊢
    exact ⟨⟨E.addrOk h.1, h.2⟩, E.loadV h.1⟩
theorem ret_ext (E : Ext D X m M) {σ : Slots} {rs : List IRes} (h : retOk m σ rs = true) : retOk M σ rs = true ∧ retV M σ rs = retV m σ rs := by
  have hr : ∀ r ∈ rs, resOk m σ r = true := by simpa [retOk] using h
  refine ⟨by simp only [retOk, List.all_eq_true]; exact fun r hm => (resOk_ext E (hr r hm)).1, ?_⟩
  unfold retV
  split
  · exact (resOk_ext E (hr _ (by simp))).2
  · rw [List.map_congr_left fun r hm => (resOk_ext E (hr r hm)).2]
theorem call_ext {P : Program} : ∀ n X, ExtCl D X (callF P n)
  | 0, _ => fun f a m r m' h => by simp [callF] at h
  | n + 1, X => fun f a m r m' h M E => by
    simp only [callF] at h ⊢
    split at h
    · rename_i F hF
      split at h
      · rename_i hle
        rw [if_pos hle]
        split at h
        · cases h
        · rename_i e σ' m1 hne hex
          obtain ⟨M1, g1, E1⟩ := exec_ext (call_ext n) hex E
          split at h
          · rename_i hr
            cases h
            obtain ⟨g2, g3⟩ := ret_ext E1 hr
            rw [g1]
            refine ⟨M1, ?_, E1⟩
            cases e with
            | normal => simp only [g2, g3, if_true]
            | ret => simp only [g2, g3, if_true]
            | exit id => exact absurd rfl (hne id)
          · cases h
        · cases h
      · cases h
    · cases h
end

/-- a part of the memory -/
structure Part (p m : Mem) : Prop where
  next : p.next = m.next
  mp : p.mp = m.mp
  get : ∀ b x, p.get b = some x → m.get b = some x
/-- what lies outside a part is left alone -/
structure Rest (p m p' m' : Mem) : Prop where
  part : Part p' m'
  next : m.next ≤ m'.next
  out : ∀ b, b < m.next → p.get b = none → m'.get b = m.get b ∧ p'.get b = none ∧ m'.mp b = m.mp b
theorem Part.refl (m : Mem) : Part m m := ⟨rfl, rfl, fun _ _ h => h⟩
theorem WPCall.frame {P : Program} {f : Nat} {args : List Value} {p m : Mem} {Φ : Value → Mem → Prop} (hp : Part p m) (h : WPCall P f args p Φ) :
    WPCall P f args m fun r m' => ∃ p', Φ r p' ∧ Rest p m p' m' := by
  obtain ⟨n, r, p', h1, q⟩ := h
  have E : Ext (fun b => b < p.next ∧ p.get b = none) m p m := by
    refine ⟨hp.next.symm, by rw [hp.next]; exact Nat.le_refl _, fun b hb => hb.1, fun b hb => hb.2, fun b _ => ⟨rfl, rfl⟩, fun b hb => ?_, hp.mp.symm⟩
    cases hg : p.get b with
    | some x => exact hp.get b x hg
    | none =>
      have : ¬ b < p.next := fun hlt => hb ⟨hlt, hg⟩
      have h2 : ¬ b < m.next := by rw [← hp.next]; exact this
      simp only [Mem.get, h2, if_false]
  obtain ⟨m', h2, E'⟩ := call_ext n m _ _ _ _ _ h1 m E
  refine ⟨n, r, m', h2, p', q, ⟨E'.next.symm, E'.mp.symm, fun b x hb => E'.get hb⟩, ?_, fun b hb hn => ?_⟩
  · rw [E'.next]; exact E'.xn
  · have hd : b < p.next ∧ p.get b = none := ⟨by rw [hp.next]; exact hb, hn⟩
    exact ⟨(E'.fr b hd).1, E'.off b hd, (E'.fr b hd).2⟩
end Go.DI
