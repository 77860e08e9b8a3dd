/-
  A run of closed code over whole contents, as a computation: memories and slots as trees.
-/
import Derived.Test.YticjcminhkgabaaGreatDoorTvL
namespace Go.DI
open Go Go.RowKit
set_option linter.unusedSimpArgs false
set_option linter.unusedVariables false

/-! trees -/
theorem beq_ff {a b : Nat} (h : a ≠ b) : Nat.beq a b = false := by
  cases hb : Nat.beq a b with
  | false => rfl
  | true => exact absurd (Nat.eq_of_beq_eq_true hb) h
inductive Tr (α : Type) where
  | nil
  | node (v : Option α) (l r : Tr α)
section
variable {α : Type}
def Tr.get : Tr α → Nat → Option α
  | .nil, _ => none
  | .node v l r, k => bif Nat.beq k 0 then v else bif Nat.beq (k % 2) 1 then l.get (k / 2) else r.get (k / 2 - 1)
def Tr.set : Nat → Tr α → Nat → Option α → Tr α
  | 0, t, _, _ => t
  | n + 1, .nil, k, x => bif Nat.beq k 0 then .node x .nil .nil else bif Nat.beq (k % 2) 1 then .node none (Tr.set n .nil (k / 2) x) .nil else .node none .nil (Tr.set n .nil (k / 2 - 1) x)
  | n + 1, .node v l r, k, x => bif Nat.beq k 0 then .node x l r else bif Nat.beq (k % 2) 1 then .node v (Tr.set n l (k / 2) x) r else .node v l (Tr.set n r (k / 2 - 1) x)
@[simp] theorem Tr.get_nil (k : Nat) : (Tr.nil : Tr α).get k = none := rfl
theorem Tr.get_node {v : Option α} {l r : Tr α} {k : Nat} : (Tr.node v l r).get k = if k = 0 then v else if k % 2 = 1 then l.get (k / 2) else r.get (k / 2 - 1) := by
  show (bif Nat.beq k 0 then _ else _) = _
  by_cases h : k = 0
  · simp [h]
  · have h1 : Nat.beq k 0 = false := beq_ff h
    rw [h1, if_neg h]
    show (bif Nat.beq (k % 2) 1 then _ else _) = _
    by_cases h2 : k % 2 = 1
    · simp [h2]
    · have h3 : Nat.beq (k % 2) 1 = false := beq_ff h2
      rw [h3, if_neg h2]; rfl
theorem Tr.get_set : ∀ {n : Nat} {t : Tr α} {k : Nat} {x : Option α} {j : Nat}, k + 1 < 2 ^ n → (Tr.set n t k x).get j = if j = k then x else t.get j
  | 0, t, k, x, j, h => by simp at h
  | n + 1, t, k, x, j, h => by
    have hp : 2 ^ (n + 1) = 2 * 2 ^ n := by rw [Nat.pow_succ]; omega
    have go : ∀ (v : Option α) (l r : Tr α), (if k = 0 then Tr.node x l r else if k % 2 = 1 then .node v (Tr.set n l (k / 2) x) r else .node v l (Tr.set n r (k / 2 - 1) x)).get j = if j = k then x else (Tr.node v l r).get j := fun v l r => by
      by_cases h0 : k = 0
      · subst h0
        rw [if_pos rfl, Tr.get_node, Tr.get_node]
        by_cases hj : j = 0
        · simp [hj]
        · simp [hj]
      · rw [if_neg h0]
        by_cases h1 : k % 2 = 1
        · rw [if_pos h1, Tr.get_node, Tr.get_node]
          by_cases hj : j = 0
          · have : j ≠ k := by omega
            simp [hj]; omega
          · rw [if_neg hj, if_neg hj]
            by_cases hj1 : j % 2 = 1
            · rw [if_pos hj1, if_pos hj1, Tr.get_set (by omega)]
              by_cases e : j = k
              · rw [if_pos e, if_pos (by omega)]
              · rw [if_neg e, if_neg (by omega)]
            · rw [if_neg hj1, if_neg hj1, if_neg (by omega)]
        · rw [if_neg h1, Tr.get_node, Tr.get_node]
          by_cases hj : j = 0
          · simp [hj]; omega
          · rw [if_neg hj, if_neg hj]
            by_cases hj1 : j % 2 = 1
            · rw [if_pos hj1, if_pos hj1, if_neg (by omega)]
            · rw [if_neg hj1, if_neg hj1, Tr.get_set (by omega)]
              by_cases e : j = k
              · rw [if_pos e, if_pos (by omega)]
              · rw [if_neg e, if_neg (by omega)]
    have cv : ∀ {β : Type} (a b c : β), (bif Nat.beq k 0 then a else bif Nat.beq (k % 2) 1 then b else c) = if k = 0 then a else if k % 2 = 1 then b else c := fun a b c => by
      by_cases h0 : k = 0
      · simp [h0]
      · have h1 : Nat.beq k 0 = false := beq_ff h0
        rw [h1, if_neg h0]
        show (bif Nat.beq (k % 2) 1 then _ else _) = _
        by_cases h2 : k % 2 = 1
        · simp [h2]
        · have h3 : Nat.beq (k % 2) 1 = false := beq_ff h2
          rw [h3, if_neg h2]; rfl
    cases t with
    | nil =>
      show (bif Nat.beq k 0 then Tr.node x .nil .nil else bif Nat.beq (k % 2) 1 then .node none (Tr.set n .nil (k / 2) x) .nil else .node none .nil (Tr.set n .nil (k / 2 - 1) x)).get j = _
      rw [cv, go none .nil .nil]
      by_cases e : j = k
      · rw [if_pos e, if_pos e]
      · rw [if_neg e, if_neg e, Tr.get_node]; simp
    | node v l r =>
      show (bif Nat.beq k 0 then Tr.node x l r else bif Nat.beq (k % 2) 1 then .node v (Tr.set n l (k / 2) x) r else .node v l (Tr.set n r (k / 2 - 1) x)).get j = _
      rw [cv, go v l r]
end

/-! slots -/
abbrev TS := Tr Value
def sg (S : TS) : Slots := fun k => match S.get k with | some v => v | none => undef
/-- the greatest key -/
def keyOk (k : Nat) : Bool := Nat.blt k 2000000
theorem key_pow {k : Nat} (h : keyOk k = true) : k + 1 < 2 ^ 21 := by
  have : k < 2000000 := by simpa [keyOk, Nat.blt_eq] using h
  omega
def putE (S : TS) (d : Option Nat) (v : Value) : Option TS := match d with
  | none => some S
  | some k => if keyOk k then some (Tr.set 21 S k (some v)) else none
theorem sg_put {S S' : TS} {d : Option Nat} {v : Value} (h : putE S d v = some S') : sg S' = putD (sg S) d v := by
  unfold putE at h
  cases d with
  | none => cases h; rfl
  | some k =>
    simp only at h
    split at h
    · next hk =>
      cases h
      funext j
      show (match (Tr.set 21 S k (some v)).get j with | some v => v | none => undef) = upd (sg S) k v j
      rw [Tr.get_set (key_pow hk)]
      unfold upd
      by_cases e : j = k
      · rw [if_pos e, if_pos e]
      · rw [if_neg e, if_neg e]; rfl
    · cases h
def initE : List Value → Nat → TS → TS
  | [], _, S => S
  | v :: l, k, S => initE l (k + 1) (Tr.set 21 S k (some v))
theorem initE_get : ∀ {l : List Value} {k : Nat} {S : TS} {j : Nat}, k + l.length < 1000000 → (initE l k S).get j = if k ≤ j ∧ j < k + l.length then l[j - k]? else S.get j
  | [], k, S, j, h => by
    rw [if_neg fun h2 => by simp at h2; omega]; rfl
  | v :: l, k, S, j, h => by
    simp only [List.length_cons] at h
    show (initE l (k + 1) (Tr.set 21 S k (some v))).get j = _
    rw [initE_get (by omega), Tr.get_set (by omega)]
    by_cases e : j = k
    · subst e
      rw [if_neg (by omega), if_pos rfl, if_pos ⟨Nat.le_refl _, by simp⟩]; simp
    · by_cases h2 : k + 1 ≤ j ∧ j < k + 1 + l.length
      · rw [if_pos h2, if_pos (by simp; omega)]
        have : j - k = (j - (k + 1)) + 1 := by omega
        rw [this, List.getElem?_cons_succ]
      · rw [if_neg h2, if_neg e, if_neg (by simp; omega)]
theorem sg_init {args : List Value} (h : args.length < 1000000) : sg (initE args 0 .nil) = initσ args := by
  funext j
  show (match (initE args 0 .nil).get j with | some v => v | none => undef) = args.getD j undef
  rw [initE_get (by omega)]
  by_cases h2 : j < args.length
  · rw [if_pos ⟨Nat.zero_le _, by omega⟩]
    simp [List.getElem?_eq_getElem h2]
  · rw [if_neg (by omega)]
    simp [List.getElem?_eq_none (by omega : args.length ≤ j)]

/-! memories -/
structure TM where
  next : Nat
  blk : Tr Blk
  mp : Tr (List (Value × Value))
def mm (M : TM) : Mem := ⟨M.next, fun b => M.blk.get b, fun b => M.mp.get b⟩
def TM0 : TM := ⟨0, .nil, .nil⟩
def WFM (M : TM) : Prop := ∀ i, M.next ≤ i → M.blk.get i = none
theorem mm0 : mm TM0 = mem0 := rfl
theorem wf0 : WFM TM0 := fun _ _ => rfl
def bumpE (M : TM) (k : Nat) : TM := ⟨M.next + k, M.blk, M.mp⟩
theorem mm_bump {M : TM} (h : WFM M) {k : Nat} : mm (bumpE M k) = (mm M).bump k := by
  unfold mm bumpE Mem.bump
  simp only [Mem.mk.injEq, and_true, true_and]
  funext i
  by_cases hi : i < M.next
  · rw [if_pos hi]
  · rw [if_neg hi]; exact h i (by omega)
theorem wf_bump {M : TM} (h : WFM M) {k : Nat} : WFM (bumpE M k) := fun i hi => h i (by simp [bumpE] at hi; omega)
def putB (M : TM) (b : Nat) (x : Option Blk) : Option TM := if keyOk b && Nat.blt b M.next then some ⟨M.next, Tr.set 21 M.blk b x, M.mp⟩ else none
theorem putB_ok {M M' : TM} {b : Nat} {x : Option Blk} (hw : WFM M) (h : putB M b x = some M') : WFM M' ∧ mm M' = (mm M).put b x := by
  unfold putB at h
  split at h
  · next hk =>
    cases h
    simp only [Bool.and_eq_true, Nat.blt_eq] at hk
    refine ⟨fun i hi => ?_, ?_⟩
    · show (Tr.set 21 M.blk b x).get i = none
      rw [Tr.get_set (key_pow hk.1), if_neg (by simp at hi; omega)]; exact hw i hi
    · unfold mm Mem.put
      simp only [Mem.mk.injEq, and_true, true_and]
      funext i
      rw [Tr.get_set (key_pow hk.1)]
  · cases h
def putME (M : TM) (b : Nat) (es : List (Value × Value)) : Option TM := if keyOk b && Nat.blt b M.next then some ⟨M.next, Tr.set 21 M.blk b (some ⟨[], true⟩), Tr.set 21 M.mp b (some es)⟩ else none
theorem putME_ok {M M' : TM} {b : Nat} {es : List (Value × Value)} (hw : WFM M) (h : putME M b es = some M') : WFM M' ∧ mm M' = (mm M).putM b es := by
  unfold putME at h
  split at h
  · next hk =>
    cases h
    simp only [Bool.and_eq_true, Nat.blt_eq] at hk
    refine ⟨fun i hi => ?_, ?_⟩
    · show (Tr.set 21 M.blk b (some ⟨[], true⟩)).get i = none
      rw [Tr.get_set (key_pow hk.1), if_neg (by simp at hi; omega)]; exact hw i hi
    · unfold mm Mem.putM
      simp only [Mem.mk.injEq, true_and]
      refine ⟨?_, ?_⟩
      · funext i; rw [Tr.get_set (key_pow hk.1)]
      · funext i; rw [Tr.get_set (key_pow hk.1)]
  · cases h
/-- what an operation does to the memory -/
def memE (k : IK) (id : Nat) (σ : Slots) (M : TM) : Option TM :=
  match k with
  | .alloc z => putB M id (some ⟨z, true⟩)
  | .box x => putB M id (some ⟨vcells (ev σ x), true⟩)
  | .bslice _ _ z ps => putB M id (some ⟨partsV z σ ps, true⟩)
  | .store _ x v => (match ev σ x with
    | .pointer (some a) => (match M.blk.get a.block with | some y => putB M a.block (some ⟨blit y.cells a.off (vcells (ev σ v)), y.own⟩) | none => none)
    | _ => none)
  | .convSB x => putB M id (some ⟨ofBytes (asS (ev σ x)), true⟩)
  | .mkslice _ _ zero l _ => putB M id (some ⟨(List.replicate (asI (ev σ l)).toNat zero).flatten, true⟩)
  | .app z _ x y => if slLenT (ev σ y) = 0 then some M else (match ev σ x with
    | .slice (some a) l _ => (match putB M a.block none with
      | some M1 => putB M1 id (some ⟨sliceCells (mm M) z (ev σ x) ++ cellsT (mm M) z (ev σ y), true⟩)
      | none => none)
    | .slice none _ _ => putB M id (some ⟨cellsT (mm M) z (ev σ y), true⟩)
    | _ => none)
  | .mkmap => putME M id []
  | .mput _ x k v => putME M (mapBlk (ev σ x)) (mset (ev σ k) (ev σ v) (((mm M).getM (mapBlk (ev σ x))).getD []))
  | _ => some M
theorem mm_get {M : TM} {b : Nat} {x : Blk} (hw : WFM M) (h : M.blk.get b = some x) : (mm M).get b = some x := by
  have : b < M.next := Nat.lt_of_not_le fun e => by rw [hw b e] at h; cases h
  show (if b < M.next then M.blk.get b else none) = _
  rw [if_pos this, h]
theorem memE_ok {k : IK} {id : Nat} {σ : Slots} {M M' : TM} (hw : WFM M) (h : memE k id σ M = some M') : WFM M' ∧ mm M' = k.memT id σ (mm M) := by
  have key : ∀ {b : Nat} {x : Option Blk}, putB M b x = some M' → WFM M' ∧ mm M' = (mm M).put b x := fun h => putB_ok hw h
  cases k with
  | alloc z => exact key h
  | box x => exact key h
  | bslice a b z ps => exact key h
  | store n x v =>
    simp only [memE] at h
    show WFM M' ∧ mm M' = storeM (mm M) (ev σ x) (vcells (ev σ v))
    split at h
    · next a hx =>
      split at h
      · next y hy =>
        obtain ⟨h1, h2⟩ := key h
        refine ⟨h1, ?_⟩
        rw [h2]
        unfold storeM
        rw [hx]
        simp only [mm_get hw hy]
      · cases h
    · cases h
  | convSB x => exact key h
  | mkslice a b c d e => exact key h
  | app z by_ x y =>
    simp only [memE] at h
    show WFM M' ∧ mm M' = if slLenT (ev σ y) = 0 then mm M else (kill (mm M) (ev σ x)).put id (some ⟨sliceCells (mm M) z (ev σ x) ++ cellsT (mm M) z (ev σ y), true⟩)
    split at h
    · next h0 => cases h; rw [if_pos h0]; exact ⟨hw, rfl⟩
    · next h0 =>
      rw [if_neg h0]
      split at h
      · next a l c hx =>
        split at h
        · next M1 h1 =>
          obtain ⟨w1, e1⟩ := putB_ok hw h1
          obtain ⟨w2, e2⟩ := putB_ok w1 h
          refine ⟨w2, ?_⟩
          rw [e2, e1, hx]; rfl
        · cases h
      · next l c hx =>
        obtain ⟨w2, e2⟩ := putB_ok hw h
        refine ⟨w2, ?_⟩
        rw [e2, hx]; rfl
      · cases h
  | mkmap => exact putME_ok hw h
  | mput a x k v => exact putME_ok hw h
  | _ => cases h; exact ⟨hw, rfl⟩
end Go.DI
