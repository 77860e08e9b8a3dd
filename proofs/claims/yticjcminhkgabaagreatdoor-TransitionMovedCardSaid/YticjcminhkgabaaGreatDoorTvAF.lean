/-
  Values that carry the whole contents of a slice that is never written; their relation to the values of the abstract memory.
  The operations over such values: what they ask, their value, the memory behind them; the relation of two memories.
  The operations that leave the memory alone: over related values they ask no more below, and their values are related.
  The operations that leave the memory alone, one by one.
  The operations that make or change memory; all operations together.
  Calls: those of a known result (of whole contents alone), and those that are followed through the memory. What a code does over such values, and that it is so below.
-/
import Derived.Test.YticjcminhkgabaaGreatDoorFwU
namespace Go.DI
open Go Go.RowKit
set_option linter.unusedSimpArgs false
set_option linter.unusedVariables false

def mkRow (r : List Value) : Value := .agg r.toArray
def unRow : Value → List Value | .agg a => a.toList | _ => []
/-- a slice that is never written: its rows, each of z cells -/
def immS (rows : List (List Value)) (z : Nat) : Value := .func (.yield 0) (rows.map mkRow).toArray #[.int .i64 z]
/-- a pointer into a row that is never written -/
def immP (row : List Value) (k : Nat) : Value := .func (.yield 1) row.toArray #[.int .i64 k]
def numOf : List Value → Nat | [.int _ n] => n.toNat | _ => 0
def isImm : Value → Bool | .func (.yield n) _ _ => n == 0 | _ => false
def isImmP : Value → Bool | .func (.yield n) _ _ => n == 1 | _ => false
def isY : Value → Bool | .func (.yield _) _ _ => true | _ => false
def immRows : Value → List (List Value) | .func _ rs _ => rs.toList.map unRow | _ => []
def immZ : Value → Nat | .func _ _ zs => numOf zs.toList | _ => 0
def pRow : Value → List Value | .func _ rs _ => rs.toList | _ => []
section
variable {rows rows' : List (List Value)} {z z' k k' : Nat} {row row' : List Value}
@[simp] theorem unRow_mk : unRow (mkRow row) = row := rfl
@[simp] theorem isImm_S : isImm (immS rows z) = true := rfl
@[simp] theorem isImm_P : isImm (immP row k) = false := rfl
@[simp] theorem isImmP_S : isImmP (immS rows z) = false := rfl
@[simp] theorem isImmP_P : isImmP (immP row k) = true := rfl
@[simp] theorem isY_S : isY (immS rows z) = true := rfl
@[simp] theorem isY_P : isY (immP row k) = true := rfl
@[simp] theorem immRows_S : immRows (immS rows z) = rows := by simp [immRows, immS, Function.comp_def]
@[simp] theorem immZ_S : immZ (immS rows z) = z := by simp [immZ, immS, numOf]
@[simp] theorem pRow_P : pRow (immP row k) = row := rfl
@[simp] theorem immZ_P : immZ (immP row k) = k := by simp [immZ, immP, numOf]
@[simp] theorem immS_inj : immS rows z = immS rows' z' ↔ rows = rows' ∧ z = z' :=
  ⟨fun h => ⟨by have := congrArg immRows h; simpa using this, by have := congrArg immZ h; simpa using this⟩, fun ⟨a, b⟩ => by rw [a, b]⟩
@[simp] theorem immP_inj : immP row k = immP row' k' ↔ row = row' ∧ k = k' :=
  ⟨fun h => ⟨by have := congrArg pRow h; simpa using this, by have := congrArg immZ h; simpa using this⟩, fun ⟨a, b⟩ => by rw [a, b]⟩
end

abbrev Emb := Nat → Option Nat
abbrev Frz := Nat → Option (List Value)
abbrev noE : Emb := fun _ => none
abbrev noF : Frz := fun _ => none

inductive VR (F : Frz) : Emb → Value → Value → Prop
  | flat {E : Emb} {v : Value} (h : flat1 v = true) : VR F E v v
  | ptr {E : Emb} {o b off : Nat} (h : E o = some b) : VR F E (.pointer (some ⟨o, off, none⟩)) (.pointer (some ⟨b, off, none⟩))
  | slice {E : Emb} {o b off l z : Nat} (h : E o = some b) : VR F E (.slice (some ⟨o, off, none⟩) l z) (.slice (some ⟨b, off, none⟩) l z)
  | sliceV {E : Emb} {o z : Nat} : VR F E (.slice (some ⟨o, 0, none⟩) 0 z) (.slice none 0 0)
  | map {E : Emb} {o b : Nat} (h : E o = some b) : VR F E (.map (some o)) (.map (some b))
  | agg {E : Emb} {xs ys : Array Value} (hs : xs.size = ys.size) (h : ∀ (i : Nat) (x y : Value), xs[i]? = some x → ys[i]? = some y → VR F E x y) : VR F E (.agg xs) (.agg ys)
  | tuple {E : Emb} {xs ys : Array Value} (hs : xs.size = ys.size) (h : ∀ (i : Nat) (x y : Value), xs[i]? = some x → ys[i]? = some y → VR F E x y) : VR F E (.tuple xs) (.tuple ys)
  | func {E : Emb} {f : Nat} {xs ys cs ds : Array Value} (hs : xs.size = ys.size) (h : ∀ (i : Nat) (x y : Value), xs[i]? = some x → ys[i]? = some y → VR F E x y)
      (hs2 : cs.size = ds.size) (h2 : ∀ (i : Nat) (x y : Value), cs[i]? = some x → ds[i]? = some y → VR F E x y) : VR F E (.func (.func f) xs cs) (.func (.func f) ys ds)
  | iface {E : Emb} {t : TypeId} {v v' : Value} (h : VR F E v v') : VR F E (.iface t v) (.iface t v')
  | imm {E : Emb} {v : Value} {b off z : Nat} {cs : List Value} {rows : List (List Value)} (e : v = immS rows z) (hF : F b = some cs) (hl : off + rows.length * z ≤ cs.length)
      (hz : ∀ (i : Nat) r, rows[i]? = some r → r.length = z) (hc : ∀ (i j : Nat) r x y, rows[i]? = some r → r[j]? = some x → cs[off + i * z + j]? = some y → VR F noE x y) : VR F E v (.slice (some ⟨b, off, none⟩) rows.length z)
  | immN {E : Emb} {v : Value} {z : Nat} (e : v = immS [] z) : VR F E v (.slice none 0 0)
  | immP {E : Emb} {v : Value} {b off k : Nat} {cs row : List Value} (e : v = immP row k) (hF : F b = some cs) (hl : off + row.length ≤ cs.length)
      (hc : ∀ (j : Nat) x y, row[j]? = some x → cs[off + j]? = some y → VR F noE x y) : VR F E v (.pointer (some ⟨b, off + k, none⟩))

def ELe (E E' : Emb) : Prop := ∀ o b, E o = some b → E' o = some b
def FLe (F F' : Frz) : Prop := ∀ b cs, F b = some cs → F' b = some cs
theorem ELe.refl (E : Emb) : ELe E E := fun _ _ h => h
theorem ELe.trans {a b c : Emb} (h : ELe a b) (h' : ELe b c) : ELe a c := fun x l hx => h' x l (h x l hx)
theorem ELe.nil (E : Emb) : ELe noE E := fun _ _ h => by cases h
theorem FLe.refl (F : Frz) : FLe F F := fun _ _ h => h
theorem FLe.trans {a b c : Frz} (h : FLe a b) (h' : FLe b c) : FLe a c := fun x l hx => h' x l (h x l hx)

theorem VR.mono {F F' : Frz} {E E' : Emb} {v v' : Value} (h : VR F E v v') (hF : FLe F F') (hE : ELe E E') : VR F' E' v v' := by
  induction h generalizing E' with
  | flat h => exact .flat h
  | ptr h => exact .ptr (hE _ _ h)
  | slice h => exact .slice (hE _ _ h)
  | sliceV => exact .sliceV
  | map h => exact .map (hE _ _ h)
  | agg hs _ ih => exact .agg hs fun i x y a b => ih i x y a b hE
  | tuple hs _ ih => exact .tuple hs fun i x y a b => ih i x y a b hE
  | func hs _ hs2 _ ih ih2 => exact .func hs (fun i x y a b => ih i x y a b hE) hs2 fun i x y a b => ih2 i x y a b hE
  | iface _ ih => exact .iface (ih hE)
  | imm e h1 hl hz hc ih => exact .imm e (hF _ _ h1) hl hz fun i j r x y a b c => ih i j r x y a b c (ELe.refl _)
  | immN e => exact .immN e
  | immP e h1 hl hc ih => exact .immP e (hF _ _ h1) hl fun j x y a b => ih j x y a b (ELe.refl _)

def LR (F : Frz) (E : Emb) (xs ys : List Value) : Prop := xs.length = ys.length ∧ ∀ (i : Nat) (x y : Value), xs[i]? = some x → ys[i]? = some y → VR F E x y
section
variable {F F' : Frz} {E E' : Emb}
theorem LR.nil : LR F E [] [] := ⟨rfl, by intro i x y h; simp at h⟩
theorem LR.cons {x y : Value} {xs ys : List Value} (h : VR F E x y) (hs : LR F E xs ys) : LR F E (x :: xs) (y :: ys) := by
  refine ⟨by simp [hs.1], fun i a b ha hb => ?_⟩
  cases i with
  | zero => simp at ha hb; subst ha; subst hb; exact h
  | succ i => exact hs.2 i a b (by simpa using ha) (by simpa using hb)
theorem LR.mono {xs ys : List Value} (h : LR F E xs ys) (hF : FLe F F') (hE : ELe E E') : LR F' E' xs ys := ⟨h.1, fun i x y hx hy => (h.2 i x y hx hy).mono hF hE⟩
theorem LR.agg {xs ys : List Value} (h : LR F E xs ys) : VR F E (.agg xs.toArray) (.agg ys.toArray) := .agg (by simpa using h.1) (by simpa using h.2)
theorem LR.tuple {xs ys : List Value} (h : LR F E xs ys) : VR F E (.tuple xs.toArray) (.tuple ys.toArray) := .tuple (by simpa using h.1) (by simpa using h.2)
theorem LR.append {a b c d : List Value} (h : LR F E a b) (h' : LR F E c d) : LR F E (a ++ c) (b ++ d) := by
  refine ⟨by simp [h.1, h'.1], fun i x y hx hy => ?_⟩
  rw [List.getElem?_append] at hx hy
  rw [← h.1] at hy
  split at hx
  · rename_i hi; rw [if_pos hi] at hy; exact h.2 _ _ _ hx hy
  · rename_i hi; rw [if_neg hi] at hy; exact h'.2 _ _ _ hx hy
theorem LR.drop {a b : List Value} (h : LR F E a b) (n : Nat) : LR F E (a.drop n) (b.drop n) :=
  ⟨by simp [h.1], fun i x y hx hy => h.2 (n + i) x y (by simpa using hx) (by simpa using hy)⟩
theorem LR.take {a b : List Value} (h : LR F E a b) (n : Nat) : LR F E (a.take n) (b.take n) := by
  refine ⟨by simp [h.1], fun i x y hx hy => ?_⟩
  rw [List.getElem?_take] at hx hy
  split at hx
  · rename_i hi; rw [if_pos hi] at hy; exact h.2 _ _ _ hx hy
  · cases hx
theorem LR.set {a b : List Value} (h : LR F E a b) (n : Nat) {x y : Value} (hv : VR F E x y) : LR F E (a.set n x) (b.set n y) := by
  refine ⟨by simp [h.1], fun i u v hx hy => ?_⟩
  rw [List.getElem?_set] at hx hy
  rw [← h.1] at hy
  split at hx
  · rename_i hi
    rw [if_pos hi] at hy
    split at hx
    · rename_i h2
      rw [if_pos h2] at hy
      simp at hx hy; subst hx; subst hy; exact hv
    · cases hx
  · rename_i hi
    rw [if_neg hi] at hy
    exact h.2 _ _ _ hx hy
theorem LR.blit : ∀ {vs us : List Value} {a b : List Value} (off : Nat), LR F E a b → LR F E vs us → LR F E (blit a off vs) (blit b off us)
  | [], [], _, _, _, h, _ => h
  | [], u :: us, _, _, _, _, h2 => by simp [LR] at h2
  | v :: vs, [], _, _, _, _, h2 => by simp [LR] at h2
  | v :: vs, u :: us, a, b, off, h, h2 => by
    simp only [Go.DI.blit]
    exact LR.blit (off + 1) (h.set off (h2.2 0 v u rfl rfl)) ⟨by simpa using h2.1, fun i x y hx hy => h2.2 (i + 1) x y (by simpa using hx) (by simpa using hy)⟩
theorem LR.get {a b : List Value} (h : LR F E a b) {i : Nat} {x : Value} (hx : a[i]? = some x) : ∃ y, b[i]? = some y ∧ VR F E x y := by
  have hi : i < a.length := (List.getElem?_eq_some_iff.1 hx).1
  rw [h.1] at hi
  exact ⟨b[i], List.getElem?_eq_getElem hi, h.2 i x _ hx (List.getElem?_eq_getElem hi)⟩
theorem LR.map_ {α : Type} (f g : α → Value) : ∀ (l : List α), (∀ x ∈ l, VR F E (f x) (g x)) → LR F E (l.map f) (l.map g)
  | [], _ => LR.nil
  | x :: l, h => LR.cons (h x (by simp)) (LR.map_ f g l fun y hy => h y (by simp [hy]))
theorem LR.flat {cs : List Value} (h : cs.all flat1 = true) : LR F E cs cs := by
  refine ⟨rfl, fun i x y hx hy => ?_⟩
  rw [hx] at hy
  cases hy
  exact .flat (List.all_eq_true.1 h x (List.mem_of_getElem? hx))
theorem LR.flatten {k : Nat} {cs : List Value} (h : LR F E cs cs) : LR F E (List.replicate k cs).flatten (List.replicate k cs).flatten := by
  induction k with
  | zero => exact LR.nil
  | succ k ih => rw [List.replicate_succ, List.flatten_cons]; exact h.append ih
theorem VR.flatV {v : Value} (h : flatV v = true) : VR F E v v := by
  unfold Go.DI.flatV at h
  split at h
  · rename_i cs; have := LR.agg (F := F) (E := E) (LR.flat h); simpa using this
  · rename_i cs; have := LR.tuple (F := F) (E := E) (LR.flat h); simpa using this
  · exact .flat h
theorem VR.undef : VR F E undef undef := LR.tuple LR.nil

/-! inversions -/
theorem VR.inv_flat {v v' : Value} (h : VR F E v v') (hf : flat1 v = true) : v' = v := by
  cases h with
  | flat => rfl
  | imm e => subst e; simp [flat1, immS] at hf
  | immN e => subst e; simp [flat1, immS] at hf
  | immP e => subst e; simp [flat1, DI.immP] at hf
  | _ => simp [flat1] at hf
theorem VR.inv_int {k : IntKind} {n : Int} {v : Value} (h : VR F E (.int k n) v) : v = .int k n := h.inv_flat rfl
theorem VR.inv_bool {b : Bool} {v : Value} (h : VR F E (.bool b) v) : v = .bool b := h.inv_flat rfl
theorem VR.inv_string {b : ByteArray} {v : Value} (h : VR F E (.string b) v) : v = .string b := h.inv_flat rfl
theorem VR.inv_ptr {a : Addr} {v : Value} (h : VR F E (.pointer (some a)) v) : ∃ b, E a.block = some b ∧ a.spot = none ∧ v = .pointer (some ⟨b, a.off, none⟩) := by
  cases h with
  | flat h => simp [flat1] at h
  | ptr h => exact ⟨_, h, rfl, rfl⟩
  | imm e => simp [immS] at e
  | immN e => simp [immS] at e
  | immP e => simp [DI.immP] at e
theorem VR.inv_slice {a : Addr} {l z : Nat} {v : Value} (h : VR F E (.slice (some a) l z) v) : (∃ b, E a.block = some b ∧ a.spot = none ∧ v = .slice (some ⟨b, a.off, none⟩) l z) ∨ (a.off = 0 ∧ a.spot = none ∧ l = 0 ∧ v = .slice none 0 0) := by
  cases h with
  | flat h => simp [flat1] at h
  | slice h => exact .inl ⟨_, h, rfl, rfl⟩
  | sliceV => exact .inr ⟨rfl, rfl, rfl, rfl⟩
  | imm e => simp [immS] at e
  | immN e => simp [immS] at e
  | immP e => simp [DI.immP] at e
theorem VR.inv_agg {xs : Array Value} {v : Value} (h : VR F E (.agg xs) v) : ∃ ys, v = .agg ys ∧ LR F E xs.toList ys.toList := by
  cases h with
  | flat h => simp [flat1] at h
  | agg hs h => exact ⟨_, rfl, by simpa using hs, by simpa using h⟩
  | imm e => simp [immS] at e
  | immN e => simp [immS] at e
  | immP e => simp [DI.immP] at e
theorem VR.inv_tuple {xs : Array Value} {v : Value} (h : VR F E (.tuple xs) v) : ∃ ys, v = .tuple ys ∧ LR F E xs.toList ys.toList := by
  cases h with
  | flat h => simp [flat1] at h
  | tuple hs h => exact ⟨_, rfl, by simpa using hs, by simpa using h⟩
  | imm e => simp [immS] at e
  | immN e => simp [immS] at e
  | immP e => simp [DI.immP] at e
theorem VR.inv_func {f : Nat} {xs cs : Array Value} {v : Value} (h : VR F E (.func (.func f) xs cs) v) : ∃ ys ds, v = .func (.func f) ys ds ∧ LR F E xs.toList ys.toList ∧ LR F E cs.toList ds.toList := by
  cases h with
  | flat h => simp [flat1] at h
  | func hs h hs2 h2 => exact ⟨_, _, rfl, ⟨by simpa using hs, by simpa using h⟩, by simpa using hs2, by simpa using h2⟩
  | imm e => simp [immS] at e
  | immN e => simp [immS] at e
  | immP e => simp [DI.immP] at e
theorem VR.inv_iface {t : TypeId} {x v : Value} (h : VR F E (.iface t x) v) : ∃ y, v = .iface t y ∧ VR F E x y := by
  cases h with
  | flat h => simp [flat1] at h
  | iface h => exact ⟨_, rfl, h⟩
  | imm e => simp [immS] at e
  | immN e => simp [immS] at e
  | immP e => simp [DI.immP] at e
theorem VR.inv_map {o : Nat} {v : Value} (h : VR F E (.map (some o)) v) : ∃ b, E o = some b ∧ v = .map (some b) := by
  cases h with
  | flat h => simp [flat1] at h
  | map h => exact ⟨_, h, rfl⟩
  | imm e => simp [immS] at e
  | immN e => simp [immS] at e
  | immP e => simp [DI.immP] at e
theorem VR.inv_imm {x v : Value} (h : VR F E x v) (hi : isImm x = true) : ∃ rows z, x = immS rows z ∧ ((rows = [] ∧ v = .slice none 0 0) ∨ ∃ b off cs, v = .slice (some ⟨b, off, none⟩) rows.length z ∧ F b = some cs ∧ off + rows.length * z ≤ cs.length ∧
    (∀ (i : Nat) r, rows[i]? = some r → r.length = z) ∧ (∀ (i j : Nat) r x y, rows[i]? = some r → r[j]? = some x → cs[off + i * z + j]? = some y → VR F noE x y)) := by
  cases h with
  | flat h => cases x <;> simp_all [flat1, isImm]
  | imm e h1 h2 h3 h4 => exact ⟨_, _, e, .inr ⟨_, _, _, rfl, h1, h2, h3, h4⟩⟩
  | immN e => exact ⟨_, _, e, .inl ⟨rfl, rfl⟩⟩
  | immP e => subst e; simp at hi
  | _ => simp [isImm] at hi
theorem VR.inv_immP {x v : Value} (h : VR F E x v) (hi : isImmP x = true) : ∃ row k b off cs, x = DI.immP row k ∧ v = .pointer (some ⟨b, off + k, none⟩) ∧ F b = some cs ∧ off + row.length ≤ cs.length ∧
    (∀ (j : Nat) x y, row[j]? = some x → cs[off + j]? = some y → VR F noE x y) := by
  cases h with
  | flat h => cases x <;> simp_all [flat1, isImmP]
  | immP e h1 h2 h3 => exact ⟨_, _, _, _, _, e, rfl, h1, h2, h3⟩
  | imm e => subst e; simp at hi
  | immN e => subst e; simp at hi
  | _ => simp [isImmP] at hi

theorem VR.vcells {v v' : Value} (h : VR F E v v') : LR F E (vcells v) (vcells v') := by
  cases h with
  | agg hs h => exact ⟨by simpa [DI.vcells] using hs, by simpa [DI.vcells] using h⟩
  | flat h => cases v <;> simp [flat1] at h <;> exact LR.cons (.flat (by simp [flat1, h])) LR.nil
  | ptr h => exact LR.cons (.ptr h) LR.nil
  | slice h => exact LR.cons (.slice h) LR.nil
  | sliceV => exact LR.cons .sliceV LR.nil
  | tuple hs h => exact LR.cons (.tuple hs h) LR.nil
  | func hs h hs2 h2 => exact LR.cons (.func hs h hs2 h2) LR.nil
  | iface h => exact LR.cons (.iface h) LR.nil
  | map h => exact LR.cons (.map h) LR.nil
  | imm e a b c d => subst e; exact LR.cons (.imm rfl a b c d) LR.nil
  | immN e => subst e; exact LR.cons (.immN rfl) LR.nil
  | immP e a b c => subst e; exact LR.cons (.immP rfl a b c) LR.nil
theorem VR.notTup {v v' : Value} (h : VR F E v v') (hn : notTup v = true) : notTup v' = true := by
  cases h <;> first | rfl | assumption | (simp [DI.notTup] at hn)
theorem VR.oneC {v v' : Value} (h : VR F E v v') (hn : oneC v = true) : oneC v' = true := by
  cases h <;> first | rfl | assumption | (simp [DI.oneC] at hn)
end
end Go.DI
namespace Go.DI
open Go Go.RowKit
set_option linter.unusedSimpArgs false
set_option linter.unusedVariables false

def addrOkT (m : Mem) (v : Value) (n : Nat) : Bool := if isImmP v then decide (immZ v + n ≤ (pRow v).length) else addrOk m v n
def loadVT (m : Mem) (ag : Bool) (n : Nat) (v : Value) : Value :=
  if isImmP v then (if ag then .agg (((pRow v).drop (immZ v)).take n).toArray else (((pRow v).drop (immZ v)).take 1).headD undef) else loadV m ag n v
def ptrPlainT (v : Value) : Bool := isImmP v || ptrPlain v
def ptrAddT (v : Value) (n : Nat) : Value := if isImmP v then immP (pRow v) (immZ v + n) else ptrAdd v n
def isSlT (v : Value) : Bool := isImm v || isSl v
def lenT (v : Value) : Int := if isImm v then ((immRows v).length : Nat) else zqu v
def slLenT (v : Value) : Nat := if isImm v then (immRows v).length else zqr v
def slPlainT (z : Nat) (v : Value) : Bool := if isImm v then immZ v == z else zqs z v
def slSubT (v : Value) (z l h : Nat) : Value := if isImm v then immS (((immRows v).take h).drop l) z else zqv v z l h
def slElemT (v : Value) (z : Nat) (i : Int) : Value := if isImm v then immP ((immRows v).getD i.toNat []) 0 else zqt v z i
def sliceOkT (m : Mem) (z : Nat) (v : Value) : Bool := if isImm v then immZ v == z else sliceOk m z v
def cellsT (m : Mem) (z : Nat) (v : Value) : List Value := if isImm v then (immRows v).flatten else sliceCells m z v
/-- a value that may stand in a comparison -/
def binSafe (v : Value) : Bool := !isY v && (match v with | .slice (some _) l _ => l != 0 | _ => true)

def IK.okT (k : IK) (σ : Slots) (m : Mem) : Bool :=
  match k with
  | .load ag n x => addrOkT m (ev σ x) n && (ag || decide (n = 1))
  | .bin op c x y => binSafe (ev σ x) && binSafe (ev σ y) && binOk op c (ev σ x) (ev σ y)
  | .convBS x => sliceOkT m 1 (ev σ x) && (cellsT m 1 (ev σ x)).all isU8
  | .sliceS z x lo hi => slPlainT z (ev σ x) && optOk σ lo && optOk σ hi && decide (0 ≤ optI σ lo 0) && decide (optI σ lo 0 ≤ optI σ hi (lenT (ev σ x))) && decide (optI σ hi (lenT (ev σ x)) ≤ lenT (ev σ x))
  | .sliceM z x lo hi mx => slPlainT z (ev σ x) && optOk σ lo && isI (ev σ hi) && isI (ev σ mx) && decide (0 ≤ optI σ lo 0) && decide (optI σ lo 0 ≤ asI (ev σ hi)) && decide (asI (ev σ hi) ≤ asI (ev σ mx)) && decide (asI (ev σ mx) ≤ lenT (ev σ x))
  | .faddr _ x => ptrPlainT (ev σ x)
  | .iaddr z x i => slPlainT z (ev σ x) && isI (ev σ i) && decide (0 ≤ asI (ev σ i)) && decide (asI (ev σ i) < lenT (ev σ x))
  | .iaddrA _ len x i => ptrPlainT (ev σ x) && isI (ev σ i) && decide (0 ≤ asI (ev σ i)) && decide (asI (ev σ i) < (len : Int))
  | .lenV x => isSlT (ev σ x)
  | .app z bytes x y => sliceOk m z (ev σ x) && sliceOwn m (ev σ x) && sliceOkT m z (ev σ y) && decide (0 < z) && decide ((zqr (ev σ x) + slLenT (ev σ y)) * bytes ≤ 140737488355328) && decide (zqr (ev σ x) + slLenT (ev σ y) ≤ 9223372036854775807)
  | .mkfunc fn _ _ => (match fn with | .func _ => true | _ => false)
  | k => k.ok σ m

def IK.valT (k : IK) (id : Nat) (σ : Slots) (m : Mem) : Value :=
  match k with
  | .load ag n x => loadVT m ag n (ev σ x)
  | .convBS x => .string (toBytes (cellsT m 1 (ev σ x)))
  | .sliceS z x lo hi => slSubT (ev σ x) z (optI σ lo 0).toNat (optI σ hi (lenT (ev σ x))).toNat
  | .sliceM z x lo hi _ => slSubT (ev σ x) z (optI σ lo 0).toNat (asI (ev σ hi)).toNat
  | .faddr off x => ptrAddT (ev σ x) off
  | .iaddr z x i => slElemT (ev σ x) z (asI (ev σ i))
  | .iaddrA z _ x i => ptrAddT (ev σ x) ((asI (ev σ i)).toNat * z)
  | .lenV x => .int .i64 (lenT (ev σ x))
  | .app z _ x y => if slLenT (ev σ y) = 0 then ev σ x else .slice (some ⟨id, 0, none⟩) (zqr (ev σ x) + slLenT (ev σ y)) z
  | k => k.val id σ m

def IK.memT (k : IK) (id : Nat) (σ : Slots) (m : Mem) : Mem :=
  match k with
  | .app z _ x y => if slLenT (ev σ y) = 0 then m else (kill m (ev σ x)).put id (some ⟨sliceCells m z (ev σ x) ++ cellsT m z (ev σ y), true⟩)
  | k => k.mem id σ m

def ownAt (m : Mem) (o : Nat) : Bool := match m.get o with | some x => x.own | none => false
def blkOwn (m : Mem) (v : Value) : Bool := match blkOf v with | some o => ownAt m o | none => true
def apart (m : Mem) (a b : Value) : Bool :=
  if isY a then !isY b && blkOwn m b else if isY b then blkOwn m a else match blkOf a, blkOf b with
    | some a, some b => a != b
    | _, _ => true
def ckOkT (σ : Slots) (m : Mem) (ck : List (Operand × Operand)) : Bool := ck.all fun (x, y) => apart m (ev σ x) (ev σ y)
def keepT (σ : Slots) (m : Mem) (ck : List (Operand × Operand)) : Bool := ck.all fun p => match blkOf (ev σ p.1) with | some o => !ownAt m o | none => true

/-! what is asked of a code beforehand -/
def okK (k : IK) : Bool := k.opnds.all argOk && (match k with
  | .alloc z | .build z _ | .bslice _ _ z _ | .mkslice _ _ z _ _ => z.all flat1
  | .mlook _ z _ _ _ => flat1 z
  | _ => true)
def okOp (o : IOp) : Bool := okK o.k && o.ck.all fun p => argOk p.1 && argOk p.2
def okCode : ICode → Bool
  | .region ops => ops.all okOp && nodupB (ops.map (·.ix)) && ops.all fun o => decide (o.ix < ops.length)
  | .seq a b => okCode a && okCode b
  | .cond c a b => argOk c && okCode a && okCode b
  | .block _ c => okCode c
  | .loop c => okCode c
  | .late _ _ _ => false
  | _ => true

/-! two memories -/
def ER (F : Frz) (E : Emb) (es es' : List (Value × Value)) : Prop := es.length = es'.length ∧ ∀ (i : Nat) e e', es[i]? = some e → es'[i]? = some e' → VR F E e.1 e'.1 ∧ VR F E e.2 e'.2
theorem ER.mono {F F' : Frz} {E E' : Emb} {es es' : List (Value × Value)} (h : ER F E es es') (hF : FLe F F') (hE : ELe E E') : ER F' E' es es' := ⟨h.1, fun i e e' a b => ⟨(h.2 i e e' a b).1.mono hF hE, (h.2 i e e' a b).2.mono hF hE⟩⟩

structure Sim (E : Emb) (F : Frz) (t m : Mem) : Prop where
  obj : ∀ o x, t.get o = some x → (∃ b cs w, E o = some b ∧ m.get b = some ⟨cs, w⟩ ∧ (x.own = true → w = true) ∧ LR F E x.cells cs) ∨ (E o = none ∧ x.cells = [])
  maps : ∀ o es, t.getM o = some es → ∃ b es', E o = some b ∧ m.getM b = some es' ∧ ER F E es es'
  mp0 : ∀ o, E o = none → t.mp o = none
  inj : ∀ o o' b, E o = some b → E o' = some b → o = o'
  lt : ∀ o b, E o = some b → o < t.next ∧ b < m.next
  fr : ∀ b cs, F b = some cs → (∃ w, m.get b = some ⟨cs, w⟩) ∧ ∀ o x, E o = some b → t.get o = some x → x.own = false

def Wr (E : Emb) (t : Mem) (b : Nat) : Prop := ∃ o x, E o = some b ∧ t.get o = some x ∧ x.own = true
def Al (E : Emb) (t : Mem) (b : Nat) : Prop := ∃ o x, E o = some b ∧ t.get o = some x
/-- from one pair of memories to a later one -/
structure Fr (tn mn : Nat) (E : Emb) (F : Frz) (t m : Mem) (E' : Emb) (F' : Frz) (t' m' : Mem) : Prop where
  e : ELe E E'
  f : FLe F F'
  en : ∀ o b, E' o = some b → E o = some b ∨ (tn ≤ o ∧ mn ≤ b)
  fn : ∀ b cs, F' b = some cs → F b = some cs ∨ mn ≤ b ∨ Al E t b
  tnx : t.next ≤ t'.next
  mnx : m.next ≤ m'.next
  keep : ∀ b, b < mn → ¬ Wr E t b → m'.get b = m.get b
  wm : ∀ b, b < mn → Wr E' t' b → Wr E t b
  am : ∀ b, b < mn → Al E' t' b → Al E t b
theorem Fr.refl {tn mn : Nat} {E : Emb} {F : Frz} {t m : Mem} : Fr tn mn E F t m E F t m :=
  ⟨ELe.refl _, FLe.refl _, fun _ _ h => .inl h, fun _ _ h => .inl h, Nat.le_refl _, Nat.le_refl _, fun _ _ _ => rfl, fun _ _ h => h, fun _ _ h => h⟩
theorem Fr.trans {tn mn : Nat} {E E1 E2 : Emb} {F F1 F2 : Frz} {t t1 t2 m m1 m2 : Mem} (h : Fr tn mn E F t m E1 F1 t1 m1) (h' : Fr tn mn E1 F1 t1 m1 E2 F2 t2 m2) : Fr tn mn E F t m E2 F2 t2 m2 where
  e := h.e.trans h'.e
  f := h.f.trans h'.f
  en o b hb := (h'.en o b hb).elim (fun h1 => h.en o b h1) .inr
  fn b cs hb := by
    rcases h'.fn b cs hb with h1 | h1 | h1
    · exact h.fn b cs h1
    · exact .inr (.inl h1)
    · by_cases h2 : b < mn
      · exact .inr (.inr (h.am b h2 h1))
      · exact .inr (.inl (by omega))
  tnx := Nat.le_trans h.tnx h'.tnx
  mnx := Nat.le_trans h.mnx h'.mnx
  keep b hb hw := by rw [h'.keep b hb (fun w => hw (h.wm b hb w)), h.keep b hb hw]
  wm b hb hw := h.wm b hb (h'.wm b hb hw)
  am b hb hw := h.am b hb (h'.am b hb hw)
theorem Fr.weak {tn mn tn' mn' : Nat} {E E' : Emb} {F F' : Frz} {t t' m m' : Mem} (h : Fr tn mn E F t m E' F' t' m') (ht : tn' ≤ tn) (hm : mn' ≤ mn) : Fr tn' mn' E F t m E' F' t' m' where
  e := h.e
  f := h.f
  en o b hb := (h.en o b hb).imp_right fun ⟨a, b⟩ => ⟨by omega, by omega⟩
  fn b cs hb := by
    rcases h.fn b cs hb with h1 | h1 | h1
    · exact .inl h1
    · exact .inr (.inl (by omega))
    · exact .inr (.inr h1)
  tnx := h.tnx
  mnx := h.mnx
  keep b hb hw := h.keep b (by omega) hw
  wm b hb hw := h.wm b (by omega) hw
  am b hb hw := h.am b (by omega) hw

def SR (F : Frz) (E : Emb) (σ σ' : Slots) : Prop := ∀ t, VR F E (σ t) (σ' t)
section
variable {F F' : Frz} {E E' : Emb} {σ σ' : Slots} {t m : Mem}
theorem SR.mono (h : SR F E σ σ') (hF : FLe F F') (hE : ELe E E') : SR F' E' σ σ' := fun t => (h t).mono hF hE
theorem SR.ev (h : SR F E σ σ') {x : Operand} (hx : argOk x = true) : VR F E (ev σ x) (ev σ' x) := by
  cases x with
  | tmp t => exact h t
  | const v => exact VR.flatV hx
  | func f => exact .func rfl (by intro i x y h; simp at h) rfl (by intro i x y h; simp at h)
  | global g => simp [argOk] at hx
theorem SR.put (h : SR F E σ σ') {d : Option Nat} {v v' : Value} (hv : VR F E v v') : SR F E (putD σ d v) (putD σ' d v') := by
  cases d with
  | none => exact h
  | some d =>
    intro t
    simp only [putD, upd]
    by_cases e : t = d
    · simp only [e, if_true]; exact hv
    · simp only [e, if_false]; exact h t
theorem SR.evs (h : SR F E σ σ') {l : List Operand} (hl : l.all argOk = true) : LR F E (l.map (Go.DI.ev σ)) (l.map (Go.DI.ev σ')) :=
  LR.map_ _ _ _ fun x hx => h.ev (List.all_eq_true.1 hl x hx)
theorem SR.init {as bs : List Value} (h : LR F E as bs) : SR F E (initσ as) (initσ bs) := fun t => by
  simp only [initσ, List.getD_eq_getElem?_getD]
  cases ha : as[t]? with
  | none =>
    rw [List.getElem?_eq_none (by rw [← h.1]; exact List.getElem?_eq_none_iff.1 ha)]
    exact VR.undef
  | some x => obtain ⟨y, hy, hv⟩ := h.get ha; rw [hy]; exact hv
theorem Sim.of_map (hs : Sim E F t m) {o : Nat} {es : List (Value × Value)} (h : t.getM o = some es) : ∃ b es', E o = some b ∧ m.getM b = some es' ∧ ER F E es es' := hs.maps o es h

theorem isB_relT {v v' : Value} (h : VR F E v v') (hb : isB v = true) : v' = v := by cases v <;> simp [isB] at hb; exact h.inv_bool
theorem isI_relT {v v' : Value} (h : VR F E v v') (hb : isI v = true) : v' = v := by cases v <;> simp [isI] at hb; exact h.inv_int
theorem isStr_relT {v v' : Value} (h : VR F E v v') (hb : isStr v = true) : v' = v := by cases v <;> simp [isStr] at hb; exact h.inv_string
theorem wanted_relT (h : SR F E σ σ') (g : Option (Nat × Bool)) : wantedI σ' g = wantedI σ g := by
  cases g with
  | none => rfl
  | some g =>
    obtain ⟨j, b⟩ := g
    have hv := h j
    simp only [wantedI]
    generalize σ j = v at hv
    generalize σ' j = v' at hv
    cases hv with
    | flat h => rfl
    | imm e => subst e; rfl
    | immN e => subst e; rfl
    | immP e => subst e; rfl
    | _ => rfl
end
end Go.DI
namespace Go.DI
open Go Go.RowKit
set_option linter.unusedSimpArgs false
set_option linter.unusedVariables false
set_option linter.unnecessarySimpa false

section
variable {F : Frz} {E : Emb} {σ σ' : Slots} {t m : Mem} {v v' : Value}
theorem imm_flat (h : flat1 v = true) : isImm v = false ∧ isImmP v = false ∧ isY v = false := by cases v <;> simp_all [flat1, isImm, isImmP, isY]
theorem LR.headD {xs ys : List Value} (h : LR F E xs ys) : VR F E (xs.headD undef) (ys.headD undef) := by
  cases xs with
  | nil => cases ys with
    | nil => exact VR.undef
    | cons y ys => simp [LR] at h
  | cons x xs => cases ys with
    | nil => simp [LR] at h
    | cons y ys => exact h.2 0 x y rfl rfl
theorem LR.flat2 : ∀ {rows rows' : List (List Value)}, rows.length = rows'.length → (∀ (i : Nat) r r', rows[i]? = some r → rows'[i]? = some r' → LR F E r r') → LR F E rows.flatten rows'.flatten
  | [], [], _, _ => LR.nil
  | [], _ :: _, h, _ => by simp at h
  | _ :: _, [], h, _ => by simp at h
  | r :: rows, r' :: rows', h, hh => by
    rw [List.flatten_cons, List.flatten_cons]
    exact (hh 0 r r' rfl rfl).append (LR.flat2 (by simpa using h) fun i a b ha hb => hh (i + 1) a b (by simpa using ha) (by simpa using hb))
/-- cells of a frozen row -/
theorem LR.row {row cs : List Value} {off k n : Nat} (hl : off + row.length ≤ cs.length) (hc : ∀ (j : Nat) x y, row[j]? = some x → cs[off + j]? = some y → VR F noE x y) (hk : k + n ≤ row.length) :
    LR F E ((row.drop k).take n) ((cs.drop (off + k)).take n) := by
  refine ⟨by simp; omega, fun i x y hx hy => ?_⟩
  rw [List.getElem?_take] at hx hy
  split at hx
  · rename_i hi
    rw [if_pos hi] at hy
    rw [List.getElem?_drop] at hx hy
    exact (hc (k + i) x y hx (by rw [← Nat.add_assoc]; exact hy)).mono (FLe.refl _) (ELe.nil _)
  · cases hx

theorem Sim.at_ (hs : Sim E F t m) {o b : Nat} {x : Blk} (hE : E o = some b) (hx : t.get o = some x) : ∃ cs w, m.get b = some ⟨cs, w⟩ ∧ (x.own = true → w = true) ∧ LR F E x.cells cs := by
  rcases hs.obj o x hx with ⟨b', cs, w, h1, h2, h3, h4⟩ | ⟨h1, _⟩
  · rw [hE] at h1; cases h1; exact ⟨cs, w, h2, h3, h4⟩
  · rw [hE] at h1; cases h1

theorem addrOk_relT (hs : Sim E F t m) (hv : VR F E v v') {n : Nat} (h : addrOkT t v n = true) : addrOk m v' n = true := by
  unfold addrOkT at h
  split at h
  · rename_i hi
    obtain ⟨row, k, b, off, cs, rfl, rfl, hF, hl, hc⟩ := hv.inv_immP hi
    obtain ⟨⟨w, hw⟩, _⟩ := hs.fr b cs hF
    simp at h
    simp [hw]; omega
  · rename_i hni
    unfold addrOk at h
    split at h
    · next a =>
      obtain ⟨b, hE, hsp, rfl⟩ := hv.inv_ptr
      simp only [Bool.and_eq_true] at h
      cases hg : t.get a.block with
      | none => rw [hg] at h; simp at h
      | some x =>
        rw [hg] at h
        obtain ⟨cs, w, h1, _, h3⟩ := hs.at_ hE hg
        simp at h
        simp [h1]
        have := h3.1; omega
    · cases h
theorem loadV_relT (hs : Sim E F t m) (hv : VR F E v v') {n : Nat} {ag : Bool} (h : addrOkT t v n = true) (h1 : (ag || decide (n = 1)) = true) : VR F E (loadVT t ag n v) (loadV m ag n v') := by
  unfold addrOkT at h
  unfold loadVT
  split at h
  · rename_i hi
    rw [if_pos hi]
    obtain ⟨row, k, b, off, cs, rfl, rfl, hF, hl, hc⟩ := hv.inv_immP hi
    obtain ⟨⟨w, hw⟩, _⟩ := hs.fr b cs hF
    simp at h
    simp only [loadV_ptr, cellsAt_eq, hw, immZ_P, pRow_P]
    cases ag with
    | true => exact (LR.row hl hc h).agg
    | false => simp at h1; subst h1; exact (LR.row hl hc h).headD
  · rename_i hi
    rw [if_neg hi]
    unfold addrOk at h
    split at h
    · next a =>
      obtain ⟨b, hE, hsp, rfl⟩ := hv.inv_ptr
      simp only [Bool.and_eq_true] at h
      cases hg : t.get a.block with
      | none => rw [hg] at h; simp at h
      | some x =>
        obtain ⟨cs, w, h2, _, h3⟩ := hs.at_ hE hg
        simp only [loadV, cellsAt, h2]
        rw [hg]
        cases ag with
        | true => exact ((h3.drop _).take _).agg
        | false => exact ((h3.drop _).take _).headD
    · cases h
theorem ptrPlain_rel (hv : VR F E v v') (h : ptrPlainT v = true) : ptrPlain v' = true := by
  cases hv with
  | flat h1 => obtain ⟨_, h2, _⟩ := imm_flat h1; simpa [ptrPlainT, h2] using h
  | ptr h => rfl
  | immP e => rfl
  | imm e => subst e; simp [ptrPlainT, ptrPlain, immS, isImmP] at h
  | immN e => subst e; simp [ptrPlainT, ptrPlain, immS, isImmP] at h
  | _ => simp [ptrPlainT, ptrPlain, isImmP] at h
theorem ptrAdd_rel (hv : VR F E v v') (h : ptrPlainT v = true) (n : Nat) : VR F E (ptrAddT v n) (ptrAdd v' n) := by
  cases hv with
  | flat h1 =>
    obtain ⟨_, h2, _⟩ := imm_flat h1
    simp only [ptrPlainT, h2, Bool.false_or, ptrPlain] at h
    split at h
    · simp [flat1] at h1
    · cases h
  | ptr hE => simp only [ptrAddT, isImmP, ptrAdd, Bool.false_eq_true, if_false]; exact .ptr hE
  | immP e hF hl hc => subst e; simp only [ptrAddT, isImmP_P, if_true, pRow_P, immZ_P, ptrAdd, Nat.add_assoc]; exact .immP rfl hF hl hc
  | imm e => subst e; simp [ptrPlainT, ptrPlain, immS, isImmP] at h
  | immN e => subst e; simp [ptrPlainT, ptrPlain, immS, isImmP] at h
  | _ => simp [ptrPlainT, ptrPlain, isImmP] at h
theorem len_rel (hv : VR F E v v') : lenT v = zqu v' := by
  cases hv with
  | flat h => simp [lenT, (imm_flat h).1]
  | imm e => subst e; simp [lenT, zqu]
  | immN e => subst e; simp [lenT, zqu]
  | immP e => subst e; simp [lenT, zqu, immP, isImm]
  | _ => rfl
theorem slLen_rel (hv : VR F E v v') : slLenT v = zqr v' := by
  cases hv with
  | flat h => simp [slLenT, (imm_flat h).1]
  | imm e => subst e; simp [slLenT, zqr]
  | immN e => subst e; simp [slLenT, zqr]
  | immP e => subst e; simp [slLenT, zqr, immP, isImm]
  | _ => rfl
theorem isSl_rel (hv : VR F E v v') (h : isSlT v = true) : isSl v' = true := by
  cases hv with
  | flat h1 => simpa [isSlT, (imm_flat h1).1] using h
  | imm e => rfl
  | immN e => rfl
  | immP e => subst e; simp [isSlT, immP, isImm, isSl] at h
  | _ => simpa [isSlT, isImm, isSl] using h
theorem slPlain_rel (hv : VR F E v v') {z : Nat} (h : slPlainT z v = true) : zqs z v' = true := by
  cases hv with
  | flat h1 => simpa [slPlainT, (imm_flat h1).1] using h
  | imm e => subst e; simpa [slPlainT] using h
  | immN e => rfl
  | immP e => subst e; simp [slPlainT, immP, isImm, zqs] at h
  | sliceV => rfl
  | slice => simpa [slPlainT, isImm] using h
  | _ => simp [slPlainT, isImm, zqs] at h
theorem slSub_rel (hv : VR F E v v') {z l h : Nat} (hp : slPlainT z v = true) (h1 : l ≤ h) (h2 : h ≤ slLenT v) : VR F E (slSubT v z l h) (zqv v' z l h) := by
  cases hv with
  | flat hf =>
    simp only [slSubT, (imm_flat hf).1, Bool.false_eq_true, if_false]
    unfold zqv
    split
    · simp [flat1] at hf
    · exact .flat rfl
  | imm e hF hl hz hc =>
    rename_i b off z' cs rows
    subst e
    have hzz : z' = z := by simpa [slPlainT] using hp
    subst hzz
    have h2' : h ≤ rows.length := by simpa [slLenT] using h2
    simp only [slSubT, isImm_S, if_true, immRows_S, zqv]
    have hlen : ((rows.take h).drop l).length = h - l := by simp; omega
    have hm : h * z' ≤ rows.length * z' := Nat.mul_le_mul_right _ h2'
    have hq : l * z' + (h - l) * z' = h * z' := by rw [← Nat.add_mul]; congr 1; omega
    rw [← hlen]
    refine .imm rfl hF (by rw [hlen]; omega) (fun i r hr => ?_) fun i j r x y hr hx hy => ?_
    · rw [List.getElem?_drop, List.getElem?_take] at hr
      split at hr
      · exact hz _ _ hr
      · cases hr
    · rw [List.getElem?_drop, List.getElem?_take] at hr
      split at hr
      · refine hc _ j r x y hr hx ?_
        rw [← hy]; congr 1; rw [Nat.add_mul]; omega
      · cases hr
  | immN e =>
    subst e
    simp only [slSubT, isImm_S, if_true, immRows_S, zqv]
    simp
    exact .immN rfl
  | immP e => subst e; simp [slPlainT, immP, isImm, zqs] at hp
  | sliceV =>
    have : h = 0 := by simpa [slLenT, isImm, zqr] using h2
    subst this
    have : l = 0 := by omega
    subst this
    simp only [slSubT, isImm, zqv, Bool.false_eq_true, if_false, Nat.zero_mul, Nat.add_zero, Nat.sub_self]
    exact .sliceV
  | slice hE => simp only [slSubT, isImm, zqv, Bool.false_eq_true, if_false]; exact .slice hE
  | _ => simp [slPlainT, isImm, zqs] at hp
theorem slElem_rel (hv : VR F E v v') {z : Nat} {i : Int} (hp : slPlainT z v = true) (h0 : 0 ≤ i) (h1 : i < lenT v) : VR F E (slElemT v z i) (zqt v' z i) := by
  obtain ⟨n, rfl⟩ := Int.eq_ofNat_of_zero_le h0
  cases hv with
  | flat hf =>
    simp only [lenT, (imm_flat hf).1, Bool.false_eq_true, if_false] at h1
    simp only [slPlainT, (imm_flat hf).1, Bool.false_eq_true, if_false] at hp
    unfold zqs at hp
    split at hp
    · simp [zqu] at h1; simp at hp; omega
    · simp [flat1] at hf
    · cases hp
  | imm e hF hl hz hc =>
    rename_i b off z' cs rows
    subst e
    have hzz : z' = z := by simpa [slPlainT] using hp
    subst hzz
    have h2 : n < rows.length := by simpa [lenT] using h1
    simp only [slElemT, isImm_S, if_true, immRows_S, zqt, Int.ofNat_eq_natCast, Int.toNat_natCast]
    rw [List.getD_eq_getElem?_getD, List.getElem?_eq_getElem h2, Option.getD_some]
    have hr := List.getElem?_eq_getElem h2
    have hl2 := hz _ _ hr
    have : (n + 1) * z' ≤ rows.length * z' := Nat.mul_le_mul_right _ h2
    rw [Nat.add_mul] at this
    exact .immP (off := off + n * z') (k := 0) rfl hF (by omega) fun j x y hx hy => hc n j _ x y hr hx hy
  | immN e => subst e; simp [lenT] at h1; omega
  | immP e => subst e; simp [slPlainT, immP, isImm, zqs] at hp
  | sliceV => simp [lenT, isImm, zqu] at h1; omega
  | slice hE => simp only [slElemT, isImm, zqt, Bool.false_eq_true, if_false]; exact .ptr hE
  | _ => simp [slPlainT, isImm, zqs] at hp
theorem sliceOk_relT (hs : Sim E F t m) (hv : VR F E v v') {z : Nat} (h : sliceOkT t z v = true) : sliceOk m z v' = true := by
  cases hv with
  | flat hf =>
    simp only [sliceOkT, (imm_flat hf).1, Bool.false_eq_true, if_false] at h
    unfold sliceOk at h
    split at h
    · simpa [sliceOk] using h
    · simp [flat1] at hf
    · cases h
  | imm e hF hl hz hc =>
    subst e
    have := by simpa [sliceOkT] using h
    subst this
    obtain ⟨⟨w, hw⟩, _⟩ := hs.fr _ _ hF
    simp [hw, hl]
  | immN e => rfl
  | immP e => subst e; simp [sliceOkT, immP, isImm, sliceOk] at h
  | sliceV => rfl
  | slice hE =>
    rename_i o b off l z'
    simp only [sliceOkT, isImm, Bool.false_eq_true, if_false, sliceOk_sl, Bool.and_eq_true] at h ⊢
    refine ⟨h.1, ?_⟩
    cases hg : t.get o with
    | none => rw [hg] at h; simp at h
    | some x =>
      rw [hg] at h
      obtain ⟨cs, w, h1, _, h3⟩ := hs.at_ hE hg
      have := h3.1
      simp [h1] at h ⊢
      omega
  | _ => simp [sliceOkT, isImm, sliceOk] at h
theorem cells_rel (hs : Sim E F t m) (hv : VR F E v v') {z : Nat} (h : sliceOkT t z v = true) : LR F E (cellsT t z v) (sliceCells m z v') := by
  cases hv with
  | flat hf =>
    simp only [sliceOkT, (imm_flat hf).1, Bool.false_eq_true, if_false] at h
    unfold sliceOk at h
    split at h
    · exact LR.nil
    · simp [flat1] at hf
    · cases h
  | imm e hF hl hz hc =>
    rename_i b off z' cs rows
    subst e
    have := by simpa [sliceOkT] using h
    subst this
    obtain ⟨⟨w, hw⟩, _⟩ := hs.fr _ _ hF
    simp only [cellsT, isImm_S, if_true, immRows_S, sliceCells_sl, cellsAt_eq, hw]
    obtain ⟨rows', e1, e2, e3⟩ := rows_of rows.length off hl
    rw [← e2]
    refine LR.flat2 e1.symm fun i r r' hr hr' => ?_
    have hi := (List.getElem?_eq_some_iff.1 hr).1
    rw [e3 i hi] at hr'
    cases hr'
    have hlr := hz _ _ hr
    have : (i + 1) * z' ≤ rows.length * z' := Nat.mul_le_mul_right _ hi
    rw [Nat.add_mul] at this
    have := LR.row (F := F) (E := E) (row := r) (cs := cs) (off := off + i * z') (k := 0) (n := z') (by omega) (fun j x y hx hy => hc i j r x y hr hx hy) (by omega)
    rw [List.drop_zero, List.take_of_length_le (by omega)] at this
    exact this
  | immN e => subst e; simp [cellsT, sliceCells]; exact LR.nil
  | immP e => subst e; simp [sliceOkT, immP, isImm, sliceOk] at h
  | sliceV =>
    simp only [cellsT, isImm, Bool.false_eq_true, if_false, sliceCells, cellsAt]
    split
    · simp; exact LR.nil
    · exact LR.nil
  | slice hE =>
    rename_i o b off l z'
    simp only [sliceOkT, isImm, Bool.false_eq_true, if_false, sliceOk_sl, Bool.and_eq_true] at h
    simp only [cellsT, isImm, Bool.false_eq_true, if_false, sliceCells, cellsAt]
    cases hg : t.get o with
    | none => rw [hg] at h; simp at h
    | some x =>
      obtain ⟨cs, w, h1, _, h3⟩ := hs.at_ hE hg
      simp only [h1]
      exact (h3.drop _).take _
  | _ => simp [sliceOkT, isImm, sliceOk] at h
theorem sliceOwn_relT (hs : Sim E F t m) (hv : VR F E v v') (h : sliceOwn t v = true) : sliceOwn m v' = true := by
  unfold sliceOwn at h
  split at h
  · rename_i l c
    cases hv with
    | flat hf => rfl
    | imm e => simp [immS] at e
    | immN e => simp [immS] at e
    | immP e => simp [immP] at e
  · rename_i a l c
    rcases hv.inv_slice with ⟨b, hE, _, rfl⟩ | ⟨_, _, _, rfl⟩
    · cases hg : t.get a.block with
      | none => rw [hg] at h; cases h
      | some x =>
        rw [hg] at h
        obtain ⟨cs, w, h1, h2, h3⟩ := hs.at_ hE hg
        simp [h1, h2 h]
    · rfl
  · cases h
theorem mapOf_rel (hs : Sim E F t m) (hv : VR F E v v') {es : List (Value × Value)} (h : mapOf t v = some es) : ∃ es', mapOf m v' = some es' ∧ ER F E es es' := by
  unfold mapOf at h
  split at h
  · cases h
    have : v' = .map none := hv.inv_flat rfl
    subst this
    exact ⟨[], rfl, rfl, fun i e e' a => by simp at a⟩
  · obtain ⟨b, es', h1, h2, h3⟩ := hs.maps _ _ h
    obtain ⟨b', h4, rfl⟩ := hv.inv_map
    rw [h1] at h4; cases h4
    exact ⟨es', h2, h3⟩
  · cases h
theorem isKey_rel (hv : VR F E v v') {ck : KK} (h : isKeyB ck v = true) : v' = v := by
  cases ck <;> cases v <;> simp [isKeyB] at h
  · exact hv.inv_int
  · exact hv.inv_string
theorem keyLike_rel {ck : KK} {es es' : List (Value × Value)} (he : ER F E es es') (hv : VR F E v v') (h : keyLike ck v es = true) : keyLike ck v' es' = true ∧ v' = v ∧ ∀ (i : Nat) e e', es[i]? = some e → es'[i]? = some e' → e'.1 = e.1 := by
  simp only [keyLike, Bool.and_eq_true, List.all_eq_true] at h ⊢
  have e1 := isKey_rel hv h.1
  subst e1
  have hk : ∀ (i : Nat) e e', es[i]? = some e → es'[i]? = some e' → e'.1 = e.1 := fun i e e' a b => isKey_rel (he.2 i e e' a b).1 (h.2 e (List.mem_of_getElem? a))
  refine ⟨⟨h.1, fun e' hm => ?_⟩, rfl, hk⟩
  obtain ⟨i, hi, rfl⟩ := List.getElem_of_mem hm
  have hi' : i < es.length := by rw [he.1]; exact hi
  rw [hk i _ _ (List.getElem?_eq_getElem hi') (List.getElem?_eq_getElem hi)]
  exact h.2 _ (List.getElem_mem hi')
theorem mget_rel {k : Value} : ∀ {es es' : List (Value × Value)}, ER F E es es' → (∀ (i : Nat) e e', es[i]? = some e → es'[i]? = some e' → e'.1 = e.1) → (mget k es = none ∧ mget k es' = none) ∨ ∃ a b, mget k es = some a ∧ mget k es' = some b ∧ VR F E a b
  | [], [], _, _ => .inl ⟨rfl, rfl⟩
  | [], _ :: _, h, _ => by simp [ER] at h
  | _ :: _, [], h, _ => by simp [ER] at h
  | e :: es, e' :: es', h, hk => by
    have h0 := hk 0 e e' rfl rfl
    simp only [mget, h0]
    split
    · exact .inr ⟨_, _, rfl, rfl, (h.2 0 e e' rfl rfl).2⟩
    · exact mget_rel ⟨by simpa using h.1, fun i a b ha hb => h.2 (i + 1) a b (by simpa using ha) (by simpa using hb)⟩ fun i a b ha hb => hk (i + 1) a b (by simpa using ha) (by simpa using hb)
theorem mset_rel {k v v' : Value} (hkk : VR F E k k) (hv : VR F E v v') : ∀ {es es' : List (Value × Value)}, ER F E es es' → (∀ (i : Nat) e e', es[i]? = some e → es'[i]? = some e' → e'.1 = e.1) → ER F E (mset k v es) (mset k v' es')
  | [], [], _, _ => ⟨rfl, fun i a b ha hb => by
      cases i with
      | zero => simp [mset] at ha hb; subst ha; subst hb; exact ⟨hkk, hv⟩
      | succ i => simp [mset] at ha⟩
  | [], _ :: _, h, _ => by simp [ER] at h
  | _ :: _, [], h, _ => by simp [ER] at h
  | e :: es, e' :: es', h, hk => by
    have h0 := hk 0 e e' rfl rfl
    have ht : ER F E es es' := ⟨by simpa using h.1, fun i a b ha hb => h.2 (i + 1) a b (by simpa using ha) (by simpa using hb)⟩
    simp only [mset, h0]
    split
    · refine ⟨by simpa using h.1, fun i a b ha hb => ?_⟩
      cases i with
      | zero => simp at ha hb; subst ha; subst hb; exact ⟨hkk, hv⟩
      | succ i => exact ht.2 i a b (by simpa using ha) (by simpa using hb)
    · have := mset_rel hkk hv ht fun i a b ha hb => hk (i + 1) a b (by simpa using ha) (by simpa using hb)
      refine ⟨by simpa using this.1, fun i a b ha hb => ?_⟩
      cases i with
      | zero => simp at ha hb; subst ha; subst hb; exact h.2 0 e e' rfl rfl
      | succ i => exact this.2 i a b (by simpa using ha) (by simpa using hb)
end
end Go.DI
namespace Go.DI
open Go Go.RowKit
set_option linter.unusedSimpArgs false
set_option linter.unusedVariables false
set_option linter.unnecessarySimpa false

section
variable {F : Frz} {E : Emb} {σ σ' : Slots} {t m : Mem} {v v' : Value}
theorem optI_relT (hσ : SR F E σ σ') {x : Option Operand} (hx : ∀ o, x = some o → argOk o = true) (h : optOk σ x = true) (d : Int) : optOk σ' x = true ∧ optI σ' x d = optI σ x d := by
  cases x with
  | none => exact ⟨rfl, rfl⟩
  | some o =>
    have e := isI_relT (hσ.ev (hx o rfl)) h
    simp only [optOk, optI, e] at h ⊢
    exact ⟨h, trivial⟩
theorem partsOk_rel (hσ : SR F E σ σ') {cs cs' : List Value} (hl : cs.length = cs'.length) {ps : List (Nat × Nat × Operand)} (ha : ∀ p ∈ ps, argOk p.2.2 = true) (h : partsOk cs σ ps = true) : partsOk cs' σ' ps = true := by
  simp only [partsOk, List.all_eq_true] at h ⊢
  intro p hp
  have := h p hp
  obtain ⟨off, n, x⟩ := p
  simp only [Bool.and_eq_true, decide_eq_true_eq] at this ⊢
  have hv := hσ.ev (ha _ hp)
  exact ⟨⟨hv.notTup this.1.1, by rw [← hv.vcells.1]; exact this.1.2⟩, by rw [← hl]; exact this.2⟩
theorem partsV_rel (hσ : SR F E σ σ') : ∀ {ps : List (Nat × Nat × Operand)} {cs cs' : List Value}, LR F E cs cs' → (∀ p ∈ ps, argOk p.2.2 = true) → LR F E (partsV cs σ ps) (partsV cs' σ' ps)
  | [], _, _, h, _ => h
  | (off, n, x) :: ps, _, _, h, ha => by
    simp only [partsV]
    exact partsV_rel hσ (h.blit off (hσ.ev (ha (off, n, x) (by simp))).vcells) fun p hp => ha p (by simp [hp])
theorem VR.same {v : Value} (h : flat1 v = true ∨ v = Go.undef) : VR F E v v := by
  rcases h with h | rfl
  · exact .flat h
  · exact VR.undef
theorem intBin_flat (op : BinOp) (k : IntKind) (a b : Int) : flat1 (intBin op k a b) = true := by cases op <;> rfl
theorem strBin_flat (op : BinOp) (a b : ByteArray) : flat1 (strBin op a b) = true ∨ strBin op a b = Go.undef := by cases op <;> first | exact .inl rfl | exact .inr rfl
theorem binV_flat (op : BinOp) (x y : Value) : flat1 (binV op x y) = true ∨ binV op x y = Go.undef := by
  unfold binV
  split
  · exact .inl (intBin_flat _ _ _ _)
  · exact strBin_flat _ _ _
  · split
    · exact .inl rfl
    · exact .inl rfl
    · exact .inr rfl
/-- what a comparison sees of a value -/
theorem safe_cases (hv : VR F E v v') (h : binSafe v = true) : v' = v ∨ (∃ a a', v = .pointer (some a) ∧ v' = .pointer (some a')) ∨ (∃ a a' l z, v = .slice (some a) l z ∧ v' = .slice (some a') l z) ∨
    (∃ f xs cs ys ds, v = .func (.func f) xs cs ∧ v' = .func (.func f) ys ds) ∨ (∃ a b, v = .map a ∧ v' = .map b) ∨ (∃ a b, v = .agg a ∧ v' = .agg b) ∨ (∃ a b, v = .tuple a ∧ v' = .tuple b) ∨ ∃ t a b, v = .iface t a ∧ v' = .iface t b := by
  cases hv with
  | flat => exact .inl rfl
  | ptr => exact .inr (.inl ⟨_, _, rfl, rfl⟩)
  | slice => exact .inr (.inr (.inl ⟨_, _, _, _, rfl, rfl⟩))
  | sliceV => simp [binSafe, isY] at h
  | map => exact .inr (.inr (.inr (.inr (.inl ⟨_, _, rfl, rfl⟩))))
  | agg => exact .inr (.inr (.inr (.inr (.inr (.inl ⟨_, _, rfl, rfl⟩)))))
  | tuple => exact .inr (.inr (.inr (.inr (.inr (.inr (.inl ⟨_, _, rfl, rfl⟩))))))
  | func => exact .inr (.inr (.inr (.inl ⟨_, _, _, _, _, rfl, rfl⟩)))
  | iface => exact .inr (.inr (.inr (.inr (.inr (.inr (.inr ⟨_, _, _, rfl, rfl⟩))))))
  | imm e => subst e; simp [binSafe] at h
  | immN e => subst e; simp [binSafe] at h
  | immP e => subst e; simp [binSafe] at h
theorem binOk_eq {x y : Value} {op : BinOp} {c : TyC} (h : (isI x && isI y) = false) (h2 : (isStr x && isStr y) = false) : binOk op c x y = (match op with | .eql | .neq => eqOk c x y | _ => false) := by
  unfold binOk
  split
  · simp [isI] at h
  · simp [isStr] at h2
  · rfl
theorem binV_eq {x y : Value} {op : BinOp} (h : (isI x && isI y) = false) (h2 : (isStr x && isStr y) = false) : binV op x y = (match op with | .eql => .bool (eqV x y) | .neq => .bool (!eqV x y) | _ => Go.undef) := by
  unfold binV
  split
  · simp [isI] at h
  · simp [isStr] at h2
  · rfl
theorem isI_back (hv : VR F E v v') (h : binSafe v = true) : isI v' = isI v ∧ isStr v' = isStr v := by
  rcases safe_cases hv h with rfl | ⟨a, a', rfl, rfl⟩ | ⟨a, a', l, z, rfl, rfl⟩ | ⟨f, xs, cs, ys, ds, rfl, rfl⟩ | ⟨a, b, rfl, rfl⟩ | ⟨a, b, rfl, rfl⟩ | ⟨a, b, rfl, rfl⟩ | ⟨t, a, b, rfl, rfl⟩ <;> exact ⟨rfl, rfl⟩
def tag : Value → Value
  | .pointer (some _) => .pointer (some ⟨0, 0, none⟩)
  | .slice (some _) _ _ => .slice (some ⟨0, 0, none⟩) 0 0
  | .func _ _ _ => .func (.func 0) #[] #[]
  | .map _ => .map none
  | .agg _ => .agg #[]
  | .tuple _ => .tuple #[]
  | .iface _ _ => .iface 0 .nilIface
  | v => v
theorem eqOk_tag (c : TyC) (x y : Value) : eqOk c (tag x) (tag y) = eqOk c x y := by
  cases c <;> cases x <;> cases y <;> first | rfl | (cases ‹Option Addr› <;> first | rfl | (cases ‹Option Addr› <;> rfl))
theorem eqV_tag (x y : Value) : eqV (tag x) (tag y) = eqV x y := by
  cases x <;> cases y <;> first | rfl | (cases ‹Option Addr› <;> first | rfl | (cases ‹Option Addr› <;> rfl))
theorem tag_rel (hv : VR F E v v') (h : binSafe v = true) : tag v' = tag v := by
  rcases safe_cases hv h with rfl | ⟨a, a', rfl, rfl⟩ | ⟨a, a', l, z, rfl, rfl⟩ | ⟨f, xs, cs, ys, ds, rfl, rfl⟩ | ⟨a, b, rfl, rfl⟩ | ⟨a, b, rfl, rfl⟩ | ⟨a, b, rfl, rfl⟩ | ⟨t, a, b, rfl, rfl⟩ <;> rfl
theorem eq_rel {x y x' y' : Value} {c : TyC} (hx : VR F E x x') (hy : VR F E y y') (h1 : binSafe x = true) (h2 : binSafe y = true) (h : eqOk c x y = true) : eqOk c x' y' = true ∧ eqV x' y' = eqV x y := by
  rw [← eqOk_tag, tag_rel hx h1, tag_rel hy h2, eqOk_tag, ← eqV_tag x' y', tag_rel hx h1, tag_rel hy h2, eqV_tag]
  exact ⟨h, rfl⟩
theorem bin_rel {x y x' y' : Value} {op : BinOp} {c : TyC} (hx : VR F E x x') (hy : VR F E y y') (h1 : binSafe x = true) (h2 : binSafe y = true) (h : binOk op c x y = true) : binOk op c x' y' = true ∧ binV op x' y' = binV op x y := by
  obtain ⟨i1, s1⟩ := isI_back hx h1
  obtain ⟨i2, s2⟩ := isI_back hy h2
  by_cases hi : (isI x && isI y) = true
  · simp only [Bool.and_eq_true] at hi
    rw [isI_relT hx hi.1, isI_relT hy hi.2]; exact ⟨h, rfl⟩
  · by_cases hs : (isStr x && isStr y) = true
    · simp only [Bool.and_eq_true] at hs
      rw [isStr_relT hx hs.1, isStr_relT hy hs.2]; exact ⟨h, rfl⟩
    · simp only [Bool.not_eq_true] at hi hs
      rw [binOk_eq hi hs] at h
      rw [binOk_eq (by rw [i1, i2]; exact hi) (by rw [s1, s2]; exact hs), binV_eq hi hs, binV_eq (by rw [i1, i2]; exact hi) (by rw [s1, s2]; exact hs)]
      cases op <;> simp only [Bool.false_eq_true] at h ⊢
      · obtain ⟨a, b⟩ := eq_rel hx hy h1 h2 h; rw [b]; exact ⟨a, rfl⟩
      · obtain ⟨a, b⟩ := eq_rel hx hy h1 h2 h; rw [b]; exact ⟨a, rfl⟩
theorem like_same : ∀ {ks : List CK} {as bs as' bs' : List Value}, cellsLike ks as bs = true → LR F E as as' → LR F E bs bs' → as' = as ∧ bs' = bs
  | [], [], [], as', bs', _, h1, h2 => by
    have e1 : as' = [] := List.eq_nil_of_length_eq_zero (by rw [← h1.1]; rfl)
    have e2 : bs' = [] := List.eq_nil_of_length_eq_zero (by rw [← h2.1]; rfl)
    exact ⟨e1, e2⟩
  | k :: ks, a :: as, b :: bs, [], _, _, h1, _ => by simp [LR] at h1
  | k :: ks, a :: as, b :: bs, _ :: _, [], _, _, h2 => by simp [LR] at h2
  | k :: ks, a :: as, b :: bs, a' :: as', b' :: bs', h, h1, h2 => by
    simp only [cellsLike, Bool.and_eq_true] at h
    obtain ⟨e1, e2⟩ := like_same h.2 ⟨by simpa using h1.1, fun i x y hx hy => h1.2 (i + 1) x y (by simpa using hx) (by simpa using hy)⟩ ⟨by simpa using h2.1, fun i x y hx hy => h2.2 (i + 1) x y (by simpa using hx) (by simpa using hy)⟩
    have ha := h1.2 0 a a' rfl rfl
    have hb := h2.2 0 b b' rfl rfl
    have hk := h.1
    have e3 : a' = a := by cases k <;> cases a <;> cases b <;> simp [cellLike] at hk <;> exact ha.inv_flat rfl
    have e4 : b' = b := by cases k <;> cases a <;> cases b <;> simp [cellLike] at hk <;> exact hb.inv_flat rfl
    rw [e1, e2, e3, e4]; exact ⟨rfl, rfl⟩
  | [], _ :: _, _, _, _, h, _, _ => by simp [cellsLike] at h
  | [], [], _ :: _, _, _, h, _, _ => by simp [cellsLike] at h
  | _ :: _, [], _, _, _, h, _, _ => by simp [cellsLike] at h
  | _ :: _, _ :: _, [], _, _, h, _, _ => by simp [cellsLike] at h
theorem mm_rel (hσ : SR F E σ σ') (mx : Bool) : ∀ (xs : List Operand) (acc : Value), xs.all argOk = true → (xs.all fun y => isI (ev σ y)) = true → isI acc = true →
    (xs.foldl (fun acc y => if mx then maxI acc (ev σ' y) else minI acc (ev σ' y)) acc = xs.foldl (fun acc y => if mx then maxI acc (ev σ y) else minI acc (ev σ y)) acc) ∧ isI (xs.foldl (fun acc y => if mx then maxI acc (ev σ y) else minI acc (ev σ y)) acc) = true
  | [], acc, _, _, h => ⟨rfl, h⟩
  | y :: xs, acc, ha, hi, h => by
    simp only [List.all_cons, Bool.and_eq_true] at ha hi
    have e := isI_relT (hσ.ev ha.1) hi.1
    simp only [List.foldl_cons, e]
    refine mm_rel hσ mx xs _ ha.2 hi.2 ?_
    have h1 := hi.1
    cases acc <;> simp [isI] at h
    cases hy : ev σ y <;> simp [hy, isI] at h1
    split <;> rfl
theorem flatI (h : isI v = true) : flat1 v = true := by cases v <;> simp [isI] at h <;> rfl

def IK.quiet : IK → Bool
  | .alloc _ | .box _ | .bslice _ _ _ _ | .convSB _ | .mkslice _ _ _ _ _ | .app _ _ _ _ | .mkmap | .store _ _ _ | .mput _ _ _ _ | .call _ _ | .callv _ _ | .icall _ _ _ => false
  | _ => true
theorem quiet_mem {k : IK} (h : k.quiet = true) {id id' : Nat} : k.memT id σ t = t ∧ k.mem id' σ' m = m := by
  cases k <;> first | exact ⟨rfl, rfl⟩ | cases h

set_option maxHeartbeats 4000000 in
theorem quiet_rel (hs : Sim E F t m) (hσ : SR F E σ σ') {k : IK} (hq : k.quiet = true) (ho : okK k = true) (hok : k.okT σ t = true) (id id' : Nat) : k.ok σ' m = true ∧ VR F E (k.valT id σ t) (k.val id' σ' m) := by
  simp only [okK, Bool.and_eq_true] at ho
  obtain ⟨ha, hz⟩ := ho
  cases k with
  | mov x => simp [IK.opnds] at ha; exact ⟨rfl, hσ.ev ha⟩
  | pick c a b =>
    simp [IK.opnds] at ha
    have e := isB_relT (hσ.ev ha.1) hok
    refine ⟨by simp only [IK.ok, e]; exact hok, ?_⟩
    simp only [IK.valT, IK.val, e]
    split
    · exact hσ.ev ha.2.1
    · exact hσ.ev ha.2.2
  | nilck x =>
    simp [IK.opnds] at ha
    have hv := hσ.ev ha
    refine ⟨?_, hv⟩
    simp only [IK.okT, IK.ok] at hok ⊢
    generalize ev σ x = a at hv hok
    generalize ev σ' x = a' at hv
    cases hv with
    | flat => exact hok
    | _ => rfl
  | build z ps =>
    have ha' : ∀ p ∈ ps, argOk p.2.2 = true := fun p hp => List.all_eq_true.1 ha _ (by simp only [IK.opnds]; exact List.mem_map_of_mem hp)
    have hl := LR.flat (F := F) (E := E) hz
    exact ⟨partsOk_rel hσ rfl ha' hok, (partsV_rel hσ hl ha').agg⟩
  | load ag n x =>
    simp [IK.opnds] at ha
    simp only [IK.okT, Bool.and_eq_true] at hok
    refine ⟨?_, loadV_relT hs (hσ.ev ha) hok.1 hok.2⟩
    simp only [IK.ok, Bool.and_eq_true]
    exact ⟨addrOk_relT hs (hσ.ev ha) hok.1, hok.2⟩
  | bin op c x y =>
    simp [IK.opnds] at ha
    simp only [IK.okT, Bool.and_eq_true] at hok
    obtain ⟨h1, h2⟩ := bin_rel (hσ.ev ha.1) (hσ.ev ha.2) hok.1.1 hok.1.2 hok.2
    refine ⟨h1, ?_⟩
    simp only [IK.valT, IK.val, h2]
    exact VR.same (binV_flat _ _ _)
  | eqAgg neg ks x y =>
    simp [IK.opnds] at ha
    simp only [IK.okT, IK.ok, Bool.and_eq_true] at hok
    have hx := hσ.ev ha.1
    have hy := hσ.ev ha.2
    simp only [IK.ok, IK.valT, IK.val]
    cases hx0 : ev σ x <;> simp [hx0, isAggV] at hok
    cases hy0 : ev σ y <;> simp [hy0, isAggV] at hok
    rw [hx0] at hx; rw [hy0] at hy
    obtain ⟨xs, e1, l1⟩ := hx.inv_agg
    obtain ⟨ys, e2, l2⟩ := hy.inv_agg
    obtain ⟨e3, e4⟩ := like_same hok l1 l2
    simp only [e1, e2, vcells, e3, e4, isAggV, Bool.true_and]
    exact ⟨hok, .flat rfl⟩
  | un op x =>
    simp [IK.opnds] at ha
    have hv := hσ.ev ha
    simp only [IK.okT, IK.ok, IK.valT, IK.val] at hok ⊢
    cases hx0 : ev σ x with
    | int k n => rw [hx0] at hv hok; rw [hv.inv_int]; exact ⟨hok, by cases op <;> first | exact .flat rfl | exact VR.undef⟩
    | bool b => rw [hx0] at hv hok; rw [hv.inv_bool]; exact ⟨hok, by cases op <;> first | exact .flat rfl | exact VR.undef⟩
    | _ => rw [hx0] at hok; cases op <;> simp [unOk] at hok
  | convI k x =>
    simp [IK.opnds] at ha
    have e := isI_relT (hσ.ev ha) hok
    simp only [IK.ok, IK.valT, IK.val, e]
    exact ⟨hok, .flat rfl⟩
  | convId x =>
    simp [IK.opnds] at ha
    have e := isStr_relT (hσ.ev ha) hok
    simp only [IK.ok, IK.valT, IK.val, e]
    refine ⟨hok, ?_⟩
    simp only [IK.okT, IK.ok] at hok
    cases hx : ev σ x <;> simp [hx, isStr] at hok
    exact .flat rfl
  | convBS x =>
    simp [IK.opnds] at ha
    have hv := hσ.ev ha
    simp only [IK.okT, Bool.and_eq_true] at hok
    have hl := cells_rel hs hv hok.1
    have e : sliceCells m 1 (ev σ' x) = cellsT t 1 (ev σ x) := by
      apply List.ext_getElem
      · exact hl.1.symm
      · intro i h1 h2
        have hh := hl.2 i _ _ (List.getElem?_eq_getElem h2) (List.getElem?_eq_getElem h1)
        have hu := List.all_eq_true.1 hok.2 _ (List.getElem_mem h2)
        generalize (cellsT t 1 (ev σ x))[i] = a at hh hu
        cases a <;> simp [isU8] at hu
        exact hh.inv_int
    simp only [IK.ok, IK.valT, IK.val, e, Bool.and_eq_true]
    exact ⟨⟨sliceOk_relT hs hv hok.1, hok.2⟩, .flat rfl⟩
  | sliceStr x lo hi =>
    simp [IK.opnds] at ha
    have hlo : ∀ o, lo = some o → argOk o = true := fun o h => ha.2.1 o h
    have hhi : ∀ o, hi = some o → argOk o = true := fun o h => ha.2.2 o h
    simp only [IK.okT, IK.ok, Bool.and_eq_true, decide_eq_true_eq] at hok
    obtain ⟨⟨⟨⟨⟨h1, h2⟩, h3⟩, h4⟩, h5⟩, h6⟩ := hok
    have e := isStr_relT (hσ.ev ha.1) h1
    obtain ⟨e1, e2⟩ := optI_relT hσ hlo h2 0
    obtain ⟨e3, e4⟩ := optI_relT hσ hhi h3 (zqu (ev σ x))
    simp only [IK.ok, IK.valT, IK.val, e, e1, e2, e3, e4, Bool.and_eq_true, decide_eq_true_eq]
    exact ⟨⟨⟨⟨⟨⟨h1, trivial⟩, trivial⟩, h4⟩, h5⟩, h6⟩, .flat rfl⟩
  | sliceS z x lo hi =>
    simp [IK.opnds] at ha
    have hlo : ∀ o, lo = some o → argOk o = true := fun o h => ha.2.1 o h
    have hhi : ∀ o, hi = some o → argOk o = true := fun o h => ha.2.2 o h
    simp only [IK.okT, Bool.and_eq_true, decide_eq_true_eq] at hok
    obtain ⟨⟨⟨⟨⟨h1, h2⟩, h3⟩, h4⟩, h5⟩, h6⟩ := hok
    have hv := hσ.ev ha.1
    have el := len_rel hv
    obtain ⟨e1, e2⟩ := optI_relT hσ hlo h2 0
    obtain ⟨e3, e4⟩ := optI_relT hσ hhi h3 (lenT (ev σ x))
    simp only [IK.ok, IK.valT, IK.val, ← el, e1, e2, e3, e4, Bool.and_eq_true, decide_eq_true_eq]
    refine ⟨⟨⟨⟨⟨⟨slPlain_rel hv h1, trivial⟩, trivial⟩, h4⟩, h5⟩, h6⟩, slSub_rel hv h1 (by omega) ?_⟩
    have : lenT (ev σ x) = slLenT (ev σ x) := by
      have h1' := slPlain_rel hv h1
      rw [el, slLen_rel hv]
      unfold zqs at h1'
      split at h1'
      · simp at h1'; next hq => rw [hq]; simp [zqu, zqr]
      · next hq => rw [hq]; simp [zqu, zqr]
      · cases h1'
    omega
  | sliceM z x lo hi mx =>
    simp [IK.opnds] at ha
    have hlo : ∀ o, lo = some o → argOk o = true := fun o h => ha.2.2.2 o (by simp [h])
    simp only [IK.okT, Bool.and_eq_true, decide_eq_true_eq] at hok
    obtain ⟨⟨⟨⟨⟨⟨⟨h1, h2⟩, h3⟩, h4⟩, h5⟩, h6⟩, h7⟩, h8⟩ := hok
    have hv := hσ.ev ha.1
    have el := len_rel hv
    obtain ⟨e1, e2⟩ := optI_relT hσ hlo h2 0
    have e3 := isI_relT (hσ.ev ha.2.1) h3
    have e4 := isI_relT (hσ.ev ha.2.2.1) h4
    simp only [IK.ok, IK.valT, IK.val, ← el, e1, e2, e3, e4, Bool.and_eq_true, decide_eq_true_eq]
    refine ⟨⟨⟨⟨⟨⟨⟨⟨slPlain_rel hv h1, trivial⟩, h3⟩, h4⟩, h5⟩, h6⟩, h7⟩, h8⟩, slSub_rel hv h1 (by omega) ?_⟩
    have : lenT (ev σ x) = slLenT (ev σ x) := by
      have h1' := slPlain_rel hv h1
      rw [el, slLen_rel hv]
      unfold zqs at h1'
      split at h1'
      · simp at h1'; next hq => rw [hq]; simp [zqu, zqr]
      · next hq => rw [hq]; simp [zqu, zqr]
      · cases h1'
    omega
  | sliceA z n x =>
    simp [IK.opnds] at ha
    have hv := hσ.ev ha
    simp only [IK.okT, IK.ok, Bool.and_eq_true] at hok
    simp only [IK.ok, IK.valT, IK.val, Bool.and_eq_true]
    have hni : isImmP (ev σ x) = false := by
      cases hx : ev σ x <;> simp [hx, addrOk] at hok <;> rfl
    have ht : addrOkT t (ev σ x) (n * z) = true := by rw [addrOkT, hni]; exact hok.1
    refine ⟨⟨addrOk_relT hs hv ht, hok.2⟩, ?_⟩
    cases hx : ev σ x <;> simp [hx, addrOk] at hok
    next a =>
      cases a with
      | none => simp at hok
      | some a =>
        rw [hx] at hv
        obtain ⟨b, h1, h2, h3⟩ := hv.inv_ptr
        rw [h3]
        simp only [arrSl]
        exact .slice h1
  | faddr off x => simp [IK.opnds] at ha; exact ⟨ptrPlain_rel (hσ.ev ha) hok, ptrAdd_rel (hσ.ev ha) hok off⟩
  | field ag off n x =>
    simp [IK.opnds] at ha
    have hv := hσ.ev ha
    simp only [IK.okT, IK.ok, Bool.and_eq_true] at hok
    simp only [IK.ok, IK.valT, IK.val, Bool.and_eq_true]
    cases hx : ev σ x <;> simp [hx, fieldOk] at hok
    rw [hx] at hv
    obtain ⟨ys, e, hl⟩ := hv.inv_agg
    have := hl.1
    simp at this
    rw [e]
    refine ⟨⟨by simp [fieldOk]; omega, by simpa using hok.2⟩, ?_⟩
    simp only [fieldV]
    split
    · exact ((hl.drop _).take _).agg
    · next hag =>
      rename_i cs
      have h1 : n = 1 := by simpa [hag] using hok.2
      have hi : off < cs.toList.length := by simp; omega
      obtain ⟨y, hy, hvy⟩ := hl.get (List.getElem?_eq_getElem hi)
      rw [List.getD_eq_getElem?_getD, List.getD_eq_getElem?_getD, List.getElem?_eq_getElem hi, hy]
      exact hvy
  | iaddr z x i =>
    simp [IK.opnds] at ha
    simp only [IK.okT, Bool.and_eq_true, decide_eq_true_eq] at hok
    obtain ⟨⟨⟨h1, h2⟩, h3⟩, h4⟩ := hok
    have hv := hσ.ev ha.1
    have e := isI_relT (hσ.ev ha.2) h2
    simp only [IK.ok, IK.valT, IK.val, e, ← len_rel hv, Bool.and_eq_true, decide_eq_true_eq]
    exact ⟨⟨⟨⟨slPlain_rel hv h1, h2⟩, h3⟩, h4⟩, slElem_rel hv h1 h3 h4⟩
  | iaddrA z n x i =>
    simp [IK.opnds] at ha
    simp only [IK.okT, Bool.and_eq_true, decide_eq_true_eq] at hok
    obtain ⟨⟨⟨h1, h2⟩, h3⟩, h4⟩ := hok
    have hv := hσ.ev ha.1
    have e := isI_relT (hσ.ev ha.2) h2
    simp only [IK.ok, IK.valT, IK.val, e, Bool.and_eq_true, decide_eq_true_eq]
    exact ⟨⟨⟨⟨ptrPlain_rel hv h1, h2⟩, h3⟩, h4⟩, ptrAdd_rel hv h1 _⟩
  | idxStr x i =>
    simp [IK.opnds] at ha
    simp only [IK.okT, IK.ok, Bool.and_eq_true, decide_eq_true_eq] at hok
    obtain ⟨⟨⟨h1, h2⟩, h3⟩, h4⟩ := hok
    have e := isI_relT (hσ.ev ha.2) h2
    have e1 := isStr_relT (hσ.ev ha.1) h1
    simp only [IK.ok, IK.valT, IK.val, e, e1, Bool.and_eq_true, decide_eq_true_eq]
    exact ⟨⟨⟨⟨h1, h2⟩, h3⟩, h4⟩, .flat rfl⟩
  | ext i x =>
    simp [IK.opnds] at ha
    have hv := hσ.ev ha
    simp only [IK.okT, IK.ok] at hok
    simp only [IK.ok, IK.valT, IK.val]
    cases hx : ev σ x <;> simp [hx, tupOk] at hok
    rename_i vs
    rw [hx] at hv
    obtain ⟨ys, e, hl⟩ := hv.inv_tuple
    have := hl.1
    simp at this
    rw [e]
    have hi : i < vs.toList.length := by simpa using hok
    obtain ⟨y, hy, hvy⟩ := hl.get (List.getElem?_eq_getElem hi)
    refine ⟨by simp [tupOk]; omega, ?_⟩
    simp only [tupAt]
    rw [List.getD_eq_getElem?_getD, List.getD_eq_getElem?_getD, List.getElem?_eq_getElem hi, hy]
    exact hvy
  | lenS x =>
    simp [IK.opnds] at ha
    have e1 := isStr_relT (hσ.ev ha) hok
    simp only [IK.ok, IK.valT, IK.val, e1]
    exact ⟨hok, .flat rfl⟩
  | lenV x =>
    simp [IK.opnds] at ha
    have hv := hσ.ev ha
    refine ⟨isSl_rel hv hok, ?_⟩
    simp only [IK.valT, IK.val, len_rel hv]
    exact .flat rfl
  | minmax mx x xs =>
    simp [IK.opnds] at ha
    simp only [IK.okT, IK.ok, Bool.and_eq_true] at hok
    have e := isI_relT (hσ.ev ha.1) hok.1
    have hxs : xs.all argOk = true := by simpa using ha.2
    obtain ⟨h1, h2⟩ := mm_rel hσ mx xs (ev σ x) hxs hok.2 hok.1
    simp only [IK.ok, IK.valT, IK.val, e, h1, Bool.and_eq_true]
    refine ⟨⟨hok.1, ?_⟩, .flat (flatI h2)⟩
    simp only [List.all_eq_true] at hok hxs ⊢
    intro y hy
    rw [isI_relT (hσ.ev (hxs y hy)) (hok.2 y hy)]
    exact hok.2 y hy
  | mkfunc fn first caps =>
    simp only [IK.okT] at hok
    simp only [IK.opnds, List.all_append, Bool.and_eq_true] at ha
    refine ⟨rfl, ?_⟩
    simp only [IK.valT, IK.val]
    cases fn with
    | func f =>
      have h1 := hσ.evs ha.1
      have h2 := hσ.evs ha.2
      exact .func (by simpa using h1.1) (by simpa using h1.2) (by simpa using h2.1) (by simpa using h2.2)
    | _ => cases hok
  | mkif ty x => simp [IK.opnds] at ha; exact ⟨rfl, .iface (hσ.ev ha)⟩
  | tass ty x =>
    simp [IK.opnds] at ha
    have hv := hσ.ev ha
    simp only [IK.okT, IK.ok] at hok
    simp only [IK.ok, IK.valT, IK.val]
    cases hx : ev σ x <;> simp [hx, ifOk] at hok
    rw [hx] at hv
    obtain ⟨y, e, h1⟩ := hv.inv_iface
    rw [e]
    exact ⟨by simpa [ifOk] using hok, h1⟩
  | mlook ck z o x kk =>
    simp [IK.opnds] at ha
    simp only [IK.okT, IK.ok] at hok
    simp only [IK.ok, IK.valT, IK.val]
    cases hm : mapOf t (ev σ x) with
    | none => rw [hm] at hok; cases hok
    | some es =>
      rw [hm] at hok
      simp only at hok
      obtain ⟨es', h1, h2⟩ := mapOf_rel hs (hσ.ev ha.1) hm
      obtain ⟨h3, h4, h5⟩ := keyLike_rel h2 (hσ.ev ha.2) hok
      rw [h1, h4]
      rw [h4] at h3
      refine ⟨h3, ?_⟩
      simp only [Option.bind_some]
      have hzz : VR F E z z := .flat hz
      rcases mget_rel (k := ev σ kk) h2 h5 with ⟨e1, e2⟩ | ⟨a, b, e1, e2, e3⟩
      · rw [e1, e2]
        split
        · exact (LR.cons hzz (LR.cons (.flat rfl) LR.nil)).tuple
        · exact hzz
      · rw [e1, e2]
        split
        · exact (LR.cons e3 (LR.cons (.flat rfl) LR.nil)).tuple
        · exact e3
  | _ => cases hq
end
end Go.DI
namespace Go.DI
open Go Go.RowKit
set_option linter.unusedSimpArgs false
set_option linter.unusedVariables false
set_option linter.unnecessarySimpa false

def setE (E : Emb) (id mid : Nat) : Emb := fun o => if o = id then some mid else E o
section
variable {F : Frz} {E : Emb} {σ σ' : Slots} {t m : Mem} {v v' : Value} {id mid tn mn : Nat}
theorem ELe.set (h : E id = none) : ELe E (setE E id mid) := fun o b hb => by
  unfold setE
  split
  · next e => subst e; rw [h] at hb; cases hb
  · exact hb
/-- names that nothing has -/
structure New (E : Emb) (F : Frz) (t m : Mem) (id mid : Nat) : Prop where
  e : E id = none
  b : ∀ o, E o ≠ some mid
  f : F mid = none
  tl : id < t.next
  ml : mid < m.next
theorem New.ne (hn : New E F t m id mid) {o b : Nat} (h : E o = some b) : b ≠ mid := fun e => by subst e; exact hn.b o h
theorem Sim.ne (hs : Sim E F t m) {p o c b : Nat} (h : E p = some c) (h' : E o = some b) (hn : p ≠ o) : c ≠ b := fun e => by subst e; exact hn (hs.inj p o c h h')
theorem getM_cells {m : Mem} {b : Nat} {es : List (Value × Value)} (h : m.getM b = some es) : m.get b = some ⟨[], true⟩ ∧ m.mp b = some es := by
  unfold Mem.getM at h
  cases hg : m.get b with
  | none => rw [hg] at h; cases h
  | some x =>
    obtain ⟨cs, w⟩ := x
    rw [hg] at h
    cases cs with
    | nil => cases w with
      | true => exact ⟨rfl, h⟩
      | false => cases h
    | cons c cs => cases h
theorem getM_of {m : Mem} {b : Nat} {es : List (Value × Value)} (h : m.get b = some ⟨[], true⟩) (h' : m.mp b = some es) : m.getM b = some es := by
  unfold Mem.getM; rw [h]; exact h'
theorem new_sim (hs : Sim E F t m) (hn : New E F t m id mid) {cs cs' : List Value} (hc : LR F E cs cs') : Sim (setE E id mid) F (t.put id (some ⟨cs, true⟩)) (m.put mid (some ⟨cs', true⟩)) where
  obj o x hx := by
    by_cases ho : o = id
    · subst ho
      rw [zql hn.tl] at hx
      cases hx
      exact .inl ⟨mid, cs', true, by simp [setE], zql hn.ml, fun _ => rfl, hc.mono (FLe.refl _) (ELe.set hn.e)⟩
    · rw [zqm ho] at hx
      rcases hs.obj o x hx with ⟨b, ds, w, h1, h2, h3, h4⟩ | ⟨h1, h2⟩
      · exact .inl ⟨b, ds, w, by simp [setE, ho, h1], by rw [zqm (hn.ne h1), h2], h3, h4.mono (FLe.refl _) (ELe.set hn.e)⟩
      · exact .inr ⟨by simp [setE, ho, h1], h2⟩
  maps o es he := by
    by_cases ho : o = id
    · subst ho
      have := (getM_cells he).2
      rw [show (t.put o (some ⟨cs, true⟩)).mp = t.mp from rfl, hs.mp0 o hn.e] at this
      cases this
    · rw [getM_put_ne ho] at he
      obtain ⟨b, es', h1, h2, h3⟩ := hs.maps o es he
      exact ⟨b, es', by simp [setE, ho, h1], by rw [getM_put_ne (hn.ne h1), h2], h3.mono (FLe.refl _) (ELe.set hn.e)⟩
  mp0 o h := by
    simp only [setE] at h
    split at h
    · cases h
    · exact hs.mp0 o h
  inj o o' b h h' := by
    simp only [setE] at h h'
    split at h
    · cases h
      split at h'
      · next a b => rw [a, b]
      · exact absurd h' (hn.b o')
    · split at h'
      · cases h'; exact absurd h (hn.b o)
      · exact hs.inj o o' b h h'
  lt o b h := by
    simp only [setE] at h
    split at h
    · next e => cases h; subst e; exact ⟨hn.tl, hn.ml⟩
    · exact hs.lt o b h
  fr b ds h := by
    have hb : b ≠ mid := fun e => by subst e; rw [hn.f] at h; cases h
    obtain ⟨⟨w, h1⟩, h2⟩ := hs.fr b ds h
    refine ⟨⟨w, by rw [zqm hb, h1]⟩, fun o x ho hx => ?_⟩
    simp only [setE] at ho
    split at ho
    · cases ho; exact absurd rfl hb
    · next hne => rw [zqm hne] at hx; exact h2 o x ho hx
theorem new_fr (hn : New E F t m id mid) (h1 : tn ≤ id) (h2 : mn ≤ mid) {x : Option Blk} {y : Option Blk} : Fr tn mn E F t m (setE E id mid) F (t.put id x) (m.put mid y) where
  e := ELe.set hn.e
  f := FLe.refl _
  en o b h := by
    simp only [setE] at h
    split at h
    · next e => cases h; subst e; exact .inr ⟨h1, h2⟩
    · exact .inl h
  fn b cs h := .inl h
  tnx := Nat.le_refl _
  mnx := Nat.le_refl _
  keep b hb _ := zqm (by omega)
  wm b hb := fun ⟨o, y, h, h', h''⟩ => by
    simp only [setE] at h
    split at h
    · cases h; omega
    · next hne => exact ⟨o, y, h, by rw [zqm hne] at h'; exact h', h''⟩
  am b hb := fun ⟨o, y, h, h'⟩ => by
    simp only [setE] at h
    split at h
    · cases h; omega
    · next hne => exact ⟨o, y, h, by rw [zqm hne] at h'; exact h'⟩
theorem newM_sim (hs : Sim E F t m) (hn : New E F t m id mid) {es es' : List (Value × Value)} (hc : ER F E es es') : Sim (setE E id mid) F (t.putM id es) (m.putM mid es') where
  obj o x hx := by
    by_cases ho : o = id
    · subst ho
      rw [get_putM_self hn.tl] at hx
      cases hx
      exact .inl ⟨mid, [], true, by simp [setE], get_putM_self hn.ml, fun _ => rfl, LR.nil⟩
    · rw [get_putM_ne ho] at hx
      rcases hs.obj o x hx with ⟨b, ds, w, h1, h2, h3, h4⟩ | ⟨h1, h2⟩
      · exact .inl ⟨b, ds, w, by simp [setE, ho, h1], by rw [get_putM_ne (hn.ne h1), h2], h3, h4.mono (FLe.refl _) (ELe.set hn.e)⟩
      · exact .inr ⟨by simp [setE, ho, h1], h2⟩
  maps o fs he := by
    by_cases ho : o = id
    · subst ho
      rw [getM_putM_self hn.tl] at he
      cases he
      exact ⟨mid, es', by simp [setE], getM_putM_self hn.ml, hc.mono (FLe.refl _) (ELe.set hn.e)⟩
    · rw [getM_putM_ne ho] at he
      obtain ⟨b, es', h1, h2, h3⟩ := hs.maps o fs he
      exact ⟨b, es', by simp [setE, ho, h1], by rw [getM_putM_ne (hn.ne h1), h2], h3.mono (FLe.refl _) (ELe.set hn.e)⟩
  mp0 o h := by
    simp only [setE] at h
    split at h
    · cases h
    · next hne => show (if o = id then some es else t.mp o) = none; rw [if_neg hne]; exact hs.mp0 o h
  inj := (new_sim hs hn (cs := []) (cs' := []) LR.nil).inj
  lt := (new_sim hs hn (cs := []) (cs' := []) LR.nil).lt
  fr b ds h := by
    have hb : b ≠ mid := fun e => by subst e; rw [hn.f] at h; cases h
    obtain ⟨⟨w, h1⟩, h2⟩ := hs.fr b ds h
    refine ⟨⟨w, by rw [get_putM_ne hb, h1]⟩, fun o x ho hx => ?_⟩
    simp only [setE] at ho
    split at ho
    · cases ho; exact absurd rfl hb
    · next hne => rw [get_putM_ne hne] at hx; exact h2 o x ho hx
theorem newM_fr (hn : New E F t m id mid) (h1 : tn ≤ id) (h2 : mn ≤ mid) {es es' : List (Value × Value)} : Fr tn mn E F t m (setE E id mid) F (t.putM id es) (m.putM mid es') where
  e := ELe.set hn.e
  f := FLe.refl _
  en o b h := by
    simp only [setE] at h
    split at h
    · next e => cases h; subst e; exact .inr ⟨h1, h2⟩
    · exact .inl h
  fn b cs h := .inl h
  tnx := Nat.le_refl _
  mnx := Nat.le_refl _
  keep b hb _ := get_putM_ne (by omega)
  wm b hb := fun ⟨o, y, h, h', h''⟩ => by
    simp only [setE] at h
    split at h
    · cases h; omega
    · next hne => exact ⟨o, y, h, by rw [get_putM_ne hne] at h'; exact h', h''⟩
  am b hb := fun ⟨o, y, h, h'⟩ => by
    simp only [setE] at h
    split at h
    · cases h; omega
    · next hne => exact ⟨o, y, h, by rw [get_putM_ne hne] at h'; exact h'⟩
/-- an object's cells change -/
theorem upd_sim (hs : Sim E F t m) {o b : Nat} {x : Blk} {cs' : List Value} {w : Bool} (hE : E o = some b) (hx : t.get o = some x) (hw : x.own = true) (hb : m.get b = some ⟨cs', w⟩)
    {ds ds' : List Value} (hl : ds.length = x.cells.length) (hc : LR F E ds ds') (hww : w = true) : Sim E F (t.put o (some ⟨ds, true⟩)) (m.put b (some ⟨ds', w⟩)) where
  obj p y hy := by
    have hlt := hs.lt o b hE
    by_cases ho : p = o
    · subst ho
      rw [zql hlt.1] at hy
      cases hy
      exact .inl ⟨b, ds', w, hE, zql hlt.2, fun _ => hww, hc⟩
    · rw [zqm ho] at hy
      rcases hs.obj p y hy with ⟨c, ds, w, h1, h2, h3, h4⟩ | h1
      · exact .inl ⟨c, ds, w, h1, by rw [zqm (hs.ne h1 hE ho), h2], h3, h4⟩
      · exact .inr h1
  maps p es he := by
    have hlt := hs.lt o b hE
    by_cases ho : p = o
    · subst ho
      obtain ⟨h1, h2⟩ := getM_cells he
      rw [zql hlt.1] at h1
      have hd : ds = [] := by simpa using h1
      subst hd
      have hcs : x.cells = [] := List.eq_nil_of_length_eq_zero hl.symm
      have : t.getM p = some es := getM_of (by rw [hx]; obtain ⟨a, b⟩ := x; simp at hcs hw; simp [hcs, hw]) h2
      obtain ⟨b', es', g1, g2, g3⟩ := hs.maps p es this
      rw [hE] at g1; cases g1
      have hd' : ds' = [] := List.eq_nil_of_length_eq_zero (by rw [← hc.1]; rfl)
      refine ⟨b, es', hE, ?_, g3⟩
      subst hd'; subst hww
      exact getM_of (zql hlt.2) (getM_cells g2).2
    · rw [getM_put_ne ho] at he
      obtain ⟨c, es', h1, h2, h3⟩ := hs.maps p es he
      exact ⟨c, es', h1, by rw [getM_put_ne (hs.ne h1 hE ho), h2], h3⟩
  mp0 := hs.mp0
  inj := hs.inj
  lt := hs.lt
  fr c es h := by
    obtain ⟨⟨w', h1⟩, h2⟩ := hs.fr c es h
    have hc : c ≠ b := fun e => by subst e; have := h2 o x hE hx; rw [hw] at this; cases this
    refine ⟨⟨w', by rw [zqm hc, h1]⟩, fun p y hp hy => ?_⟩
    have : p ≠ o := fun e => by subst e; rw [hE] at hp; cases hp; exact hc rfl
    rw [zqm this] at hy
    exact h2 p y hp hy
theorem upd_fr (hs : Sim E F t m) {o b : Nat} {x : Blk} (hE : E o = some b) (hx : t.get o = some x) (hw : x.own = true) {y z : Option Blk} : Fr tn mn E F t m E F (t.put o y) (m.put b z) where
  e := ELe.refl _
  f := FLe.refl _
  en o b h := .inl h
  fn b cs h := .inl h
  tnx := Nat.le_refl _
  mnx := Nat.le_refl _
  keep c hc hn := zqm (fun e => hn (by subst e; exact ⟨o, x, hE, hx, hw⟩))
  wm c hc := fun ⟨p, u, h, h', h''⟩ => by
    by_cases hp : p = o
    · subst hp; rw [hE] at h; cases h; exact ⟨p, x, hE, hx, hw⟩
    · rw [zqm hp] at h'; exact ⟨p, u, h, h', h''⟩
  am c hc := fun ⟨p, u, h, h'⟩ => by
    by_cases hp : p = o
    · subst hp; rw [hE] at h; cases h; exact ⟨p, x, hE, hx⟩
    · rw [zqm hp] at h'; exact ⟨p, u, h, h'⟩
/-- an object is forgotten -/
theorem drop_sim (hs : Sim E F t m) {o : Nat} : Sim E F (t.put o none) m where
  obj p y hy := by
    by_cases ho : p = o
    · subst ho
      by_cases hlt : p < t.next
      · rw [zql hlt] at hy; cases hy
      · have h1 : (t.put p none).get p = none := get_none (by simp; omega)
        rw [h1] at hy; cases hy
    · rw [zqm ho] at hy; exact hs.obj p y hy
  maps p es he := by
    by_cases ho : p = o
    · subst ho
      have := (getM_cells he).1
      by_cases hlt : p < t.next
      · rw [zql hlt] at this; cases this
      · have h1 : (t.put p none).get p = none := get_none (by simp; omega)
        rw [h1] at this; cases this
    · rw [getM_put_ne ho] at he; exact hs.maps p es he
  mp0 := hs.mp0
  inj := hs.inj
  lt := hs.lt
  fr c es h := by
    obtain ⟨h1, h2⟩ := hs.fr c es h
    refine ⟨h1, fun p y hp hy => ?_⟩
    by_cases ho : p = o
    · subst ho
      by_cases hlt : p < t.next
      · rw [zql hlt] at hy; cases hy
      · have h1 : (t.put p none).get p = none := get_none (by simp; omega)
        rw [h1] at hy; cases hy
    · rw [zqm ho] at hy; exact h2 p y hp hy
theorem drop_fr {o : Nat} : Fr tn mn E F t m E F (t.put o none) m where
  e := ELe.refl _
  f := FLe.refl _
  en o b h := .inl h
  fn b cs h := .inl h
  tnx := Nat.le_refl _
  mnx := Nat.le_refl _
  keep c hc hn := rfl
  wm c hc := fun ⟨p, u, h, h', h''⟩ => by
    by_cases hp : p = o
    · subst hp
      by_cases hlt : p < t.next
      · rw [zql hlt] at h'; cases h'
      · have h1 : (t.put p none).get p = none := get_none (by simp; omega)
        rw [h1] at h'; cases h'
    · rw [zqm hp] at h'; exact ⟨p, u, h, h', h''⟩
  am c hc := fun ⟨p, u, h, h'⟩ => by
    by_cases hp : p = o
    · subst hp
      by_cases hlt : p < t.next
      · rw [zql hlt] at h'; cases h'
      · have h1 : (t.put p none).get p = none := get_none (by simp; omega)
        rw [h1] at h'; cases h'
    · rw [zqm hp] at h'; exact ⟨p, u, h, h'⟩
/-- and its block too -/
theorem kill_sim (hs : Sim E F t m) {o b : Nat} {x : Blk} (hE : E o = some b) (hx : t.get o = some x) (hw : x.own = true) : Sim E F (t.put o none) (m.put b none) where
  obj p y hy := by
    have hlt := hs.lt o b hE
    by_cases ho : p = o
    · subst ho; rw [zql hlt.1] at hy; cases hy
    · rw [zqm ho] at hy
      rcases hs.obj p y hy with ⟨c, ds, w, h1, h2, h3, h4⟩ | h1
      · exact .inl ⟨c, ds, w, h1, by rw [zqm (hs.ne h1 hE ho), h2], h3, h4⟩
      · exact .inr h1
  maps p es he := by
    have hlt := hs.lt o b hE
    by_cases ho : p = o
    · subst ho; have := (getM_cells he).1; rw [zql hlt.1] at this; cases this
    · rw [getM_put_ne ho] at he
      obtain ⟨c, es', h1, h2, h3⟩ := hs.maps p es he
      exact ⟨c, es', h1, by rw [getM_put_ne (hs.ne h1 hE ho), h2], h3⟩
  mp0 := hs.mp0
  inj := hs.inj
  lt := hs.lt
  fr c es h := by
    obtain ⟨⟨w', h1⟩, h2⟩ := hs.fr c es h
    have hc : c ≠ b := fun e => by subst e; have := h2 o x hE hx; rw [hw] at this; cases this
    refine ⟨⟨w', by rw [zqm hc, h1]⟩, fun p y hp hy => ?_⟩
    have : p ≠ o := fun e => by subst e; rw [hE] at hp; cases hp; exact hc rfl
    rw [zqm this] at hy
    exact h2 p y hp hy
theorem ofBytes_rel (s : ByteArray) : LR F E (ofBytes s) (ofBytes s) := LR.flat (by simp only [ofBytes, List.all_map, List.all_eq_true]; intro b _; rfl)

/-- one operation -/
structure OpRel (tn mn id mid : Nat) (E : Emb) (F : Frz) (t m t' m' : Mem) (v v' : Value) (E' : Emb) : Prop where
  sim : Sim E' F t' m'
  val : VR F E' v v'
  fr : Fr tn mn E F t m E' F t' m'
  oth : ∀ o, o ≠ id → E' o = E o
  self : E' id = E id ∨ E' id = some mid
theorem OpRel.new (hs : Sim E F t m) (hn : New E F t m id mid) (h1 : tn ≤ id) (h2 : mn ≤ mid) {cs cs' : List Value} (hc : LR F E cs cs') {v v' : Value} (hv : VR F (setE E id mid) v v') :
    ∃ E', OpRel tn mn id mid E F t m (t.put id (some ⟨cs, true⟩)) (m.put mid (some ⟨cs', true⟩)) v v' E' :=
  ⟨setE E id mid, new_sim hs hn hc, hv, new_fr hn h1 h2, fun o ho => by simp [setE, ho], .inr (by simp [setE])⟩
theorem OpRel.same (hs : Sim E F t m) {v v' : Value} (hv : VR F E v v') : ∃ E', OpRel tn mn id mid E F t m t m v v' E' := ⟨E, hs, hv, Fr.refl, fun _ _ => rfl, .inl rfl⟩

set_option maxHeartbeats 4000000 in
theorem op_rel (hs : Sim E F t m) (hσ : SR F E σ σ') {k : IK} (hc : k.isCall = false) (ho : okK k = true) (hok : k.okT σ t = true) (hn : k.isAlloc = true → New E F t m id mid) (h1 : tn ≤ id) (h2 : mn ≤ mid) :
    k.ok σ' m = true ∧ ∃ E', OpRel tn mn id mid E F t m (k.memT id σ t) (k.mem mid σ' m) (k.valT id σ t) (k.val mid σ' m) E' := by
  by_cases hq : k.quiet = true
  · obtain ⟨a, b⟩ := quiet_rel hs hσ hq ho hok id mid
    obtain ⟨e1, e2⟩ := quiet_mem (σ := σ) (σ' := σ') (t := t) (m := m) hq (id := id) (id' := mid)
    refine ⟨a, ?_⟩
    rw [e1, e2]
    exact OpRel.same hs b
  · simp only [okK, Bool.and_eq_true] at ho
    obtain ⟨ha, hz⟩ := ho
    have hsome : setE E id mid id = some mid := by simp [setE]
    cases k with
    | alloc z => exact ⟨rfl, OpRel.new hs (hn rfl) h1 h2 (LR.flat hz) (.ptr hsome)⟩
    | box x =>
      simp [IK.opnds] at ha
      exact ⟨(hσ.ev ha).notTup hok, OpRel.new hs (hn rfl) h1 h2 (hσ.ev ha).vcells (.ptr hsome)⟩
    | bslice a n z ps =>
      have ha' : ∀ p ∈ ps, argOk p.2.2 = true := fun p hp => List.all_eq_true.1 ha _ (by simp only [IK.opnds]; exact List.mem_map_of_mem hp)
      exact ⟨partsOk_rel hσ rfl ha' hok, OpRel.new hs (hn rfl) h1 h2 (partsV_rel hσ (LR.flat hz) ha') (.slice hsome)⟩
    | convSB x =>
      simp [IK.opnds] at ha
      simp only [IK.okT, IK.ok, Bool.and_eq_true] at hok
      have e := isStr_relT (hσ.ev ha) hok.1
      simp only [IK.ok, IK.valT, IK.val, IK.memT, IK.mem, e, Bool.and_eq_true]
      exact ⟨hok, OpRel.new hs (hn rfl) h1 h2 (ofBytes_rel _) (.slice hsome)⟩
    | mkslice z bytes zero l c =>
      simp [IK.opnds] at ha
      have hok' := hok
      simp only [IK.okT, IK.ok, Bool.and_eq_true] at hok
      have e1 := isI_relT (hσ.ev ha.1) hok.1.1.1.1.1.1
      have e2 := isI_relT (hσ.ev ha.2) hok.1.1.1.1.1.2
      simp only [IK.ok, IK.valT, IK.val, IK.memT, IK.mem, e1, e2, Bool.and_eq_true]
      exact ⟨hok, OpRel.new hs (hn rfl) h1 h2 (LR.flatten (LR.flat hz)) (.slice hsome)⟩
    | mkmap =>
      have := hn rfl
      exact ⟨rfl, setE E id mid, newM_sim hs this ⟨rfl, fun i e e' a => by simp at a⟩, .map hsome, newM_fr this h1 h2, fun o ho => by simp [setE, ho], .inr hsome⟩
    | store n x v =>
      simp [IK.opnds] at ha
      have hx := hσ.ev ha.1
      have hv := hσ.ev ha.2
      simp only [IK.okT, IK.ok, Bool.and_eq_true, decide_eq_true_eq] at hok
      obtain ⟨⟨⟨g1, g2⟩, g3⟩, g4⟩ := hok
      have hni : isImmP (ev σ x) = false := by
        cases hx0 : ev σ x <;> simp [hx0, addrOk] at g1 <;> rfl
      have g1' := addrOk_relT hs hx (n := n) (by rw [addrOkT, hni]; exact g1)
      simp only [IK.ok, IK.valT, IK.val, IK.memT, IK.mem, Bool.and_eq_true, decide_eq_true_eq]
      cases hx0 : ev σ x with
      | pointer p =>
        cases p with
        | none => simp [hx0, addrOk] at g1
        | some a =>
          rw [hx0] at hx g1 g2
          obtain ⟨b, e1, e2, e3⟩ := hx.inv_ptr
          obtain ⟨ab, ao, asp⟩ := a
          simp only at e1 e2 e3
          subst e2
          cases hg : t.get ab with
          | none => simp [hg] at g1
          | some y =>
            simp only [addrOk_ptr, hg, decide_eq_true_eq] at g1
            simp only [addrOwn_ptr, hg] at g2
            obtain ⟨cs, w, q1, q2, q3⟩ := hs.at_ e1 hg
            have hw := q2 g2
            subst hw
            rw [e3] at g1' ⊢
            simp only [storeM_ptr, hg, q1, addrOwn_ptr, g2]
            refine ⟨⟨⟨⟨g1', trivial⟩, hv.notTup g3⟩, by rw [← hv.vcells.1]; exact g4⟩, E, ?_, VR.undef, upd_fr hs e1 hg g2, fun _ _ => rfl, .inl rfl⟩
            exact upd_sim hs e1 hg g2 q1 (by
              have : ∀ (vs : List Value) (cs : List Value) (o : Nat), (blit cs o vs).length = cs.length := by
                intro vs
                induction vs with
                | nil => intro cs o; rfl
                | cons v vs ih => intro cs o; simp only [blit, ih, List.length_set]
              exact this _ _ _) (q3.blit _ hv.vcells) rfl
      | _ => simp [hx0, addrOk] at g1
    | app z bytes x y =>
      simp [IK.opnds] at ha
      have hx := hσ.ev ha.1
      have hy := hσ.ev ha.2
      simp only [IK.okT, Bool.and_eq_true, decide_eq_true_eq] at hok
      obtain ⟨⟨⟨⟨⟨g1, g2⟩, g3⟩, g4⟩, g5⟩, g6⟩ := hok
      have hni : isImm (ev σ x) = false := by
        cases hx0 : ev σ x <;> simp [hx0, sliceOk] at g1 <;> rfl
      have g1t : sliceOkT t z (ev σ x) = true := by rw [sliceOkT, hni]; exact g1
      have g1' := sliceOk_relT hs hx g1t
      have g2' := sliceOwn_relT hs hx g2
      have g3' := sliceOk_relT hs hy g3
      have ely := slLen_rel hy
      have elx : zqr (ev σ x) = zqr (ev σ' x) := by rw [← slLen_rel hx, slLenT, hni]; rfl
      have cx : LR F E (sliceCells t z (ev σ x)) (sliceCells m z (ev σ' x)) := by
        have := cells_rel hs hx g1t
        rw [cellsT, hni] at this; exact this
      have cy := cells_rel hs hy g3
      simp only [IK.ok, IK.valT, IK.val, IK.memT, IK.mem, Bool.and_eq_true, decide_eq_true_eq]
      refine ⟨⟨⟨⟨⟨⟨g1', g2'⟩, g3'⟩, g4⟩, by rw [← elx, ← ely]; exact g5⟩, by rw [← elx, ← ely]; exact g6⟩, ?_⟩
      rw [← ely, ← elx]
      split
      · exact OpRel.same hs hx
      · have hnew := hn rfl
        have key : ∃ t1 m1, kill t (ev σ x) = t1 ∧ kill m (ev σ' x) = m1 ∧ Sim E F t1 m1 ∧ Fr tn mn E F t m E F t1 m1 ∧ t1.next = t.next ∧ m1.next = m.next := by
          refine ⟨_, _, rfl, rfl, ?_⟩
          unfold sliceOk at g1
          split at g1
          · next hx0 =>
            rw [hx0] at hx ⊢
            have : ev σ' x = _ := hx.inv_flat (by simpa [flat1] using g1)
            rw [this]
            exact ⟨hs, Fr.refl, rfl, rfl⟩
          · next a l c hx0 =>
            rw [hx0] at hx g2 ⊢
            rcases hx.inv_slice with ⟨b, e1, e2, e3⟩ | ⟨e1, e2, e3, e4⟩
            · rw [e3]
              cases hg : t.get a.block with
              | none => simp [sliceOwn, hg] at g2
              | some y =>
                simp only [sliceOwn, hg] at g2
                exact ⟨kill_sim hs e1 hg g2, upd_fr hs e1 hg g2, rfl, rfl⟩
            · rw [e4]
              exact ⟨drop_sim hs, drop_fr, rfl, rfl⟩
          · cases g1
        obtain ⟨t1, m1, e1, e2, hs1, hf1, en1, en2⟩ := key
        rw [e1, e2]
        have hnew1 : New E F t1 m1 id mid := ⟨hnew.e, hnew.b, hnew.f, by rw [en1]; exact hnew.tl, by rw [en2]; exact hnew.ml⟩
        obtain ⟨E', q⟩ := OpRel.new (tn := tn) (mn := mn) hs1 hnew1 h1 h2 (cx.append cy) (v := .slice (some ⟨id, 0, none⟩) (zqr (ev σ x) + slLenT (ev σ y)) z) (v' := .slice (some ⟨mid, 0, none⟩) (zqr (ev σ x) + slLenT (ev σ y)) z) (.slice hsome)
        exact ⟨E', q.sim, q.val, hf1.trans q.fr, q.oth, q.self⟩
    | mput ck x kk v =>
      simp [IK.opnds] at ha
      have hx := hσ.ev ha.1
      have hk := hσ.ev ha.2.1
      have hv := hσ.ev ha.2.2
      simp only [IK.okT, IK.ok] at hok
      split at hok
      · next b hx0 =>
        cases hm : t.getM b with
        | none => simp [hm] at hok
        | some es =>
          simp only [hm, Bool.and_eq_true] at hok
          obtain ⟨c, es', q1, q2, q3⟩ := hs.maps b es hm
          rw [hx0] at hx
          obtain ⟨c', q4, q5⟩ := hx.inv_map
          rw [q1] at q4; cases q4
          obtain ⟨r1, r2, r3⟩ := keyLike_rel q3 hk hok.1
          simp only [IK.ok, IK.valT, IK.val, IK.memT, IK.mem, hx0, q5, mapBlk, hm, q2, Option.getD_some, Bool.and_eq_true]
          refine ⟨⟨r1, hv.oneC hok.2⟩, E, ?_, VR.undef, ?_, fun _ _ => rfl, .inl rfl⟩
          · rw [r2]
            have hkk : VR F E (ev σ kk) (ev σ kk) := by rw [r2] at hk; exact hk
            have hme := mset_rel hkk hv q3 r3
            have hlt := hs.lt b c q1
            refine ⟨fun p y hy => ?_, fun p fs hp => ?_, fun p hp => ?_, hs.inj, hs.lt, fun d ds hd => ?_⟩
            · by_cases hpb : p = b
              · subst hpb
                rw [get_putM_self hlt.1] at hy
                cases hy
                exact .inl ⟨c, [], true, q1, get_putM_self hlt.2, fun _ => rfl, LR.nil⟩
              · rw [get_putM_ne hpb] at hy
                rcases hs.obj p y hy with ⟨c', ds, w, h1, h2, h3, h4⟩ | h1
                · exact .inl ⟨c', ds, w, h1, by rw [get_putM_ne (hs.ne h1 q1 hpb), h2], h3, h4⟩
                · exact .inr h1
            · by_cases hpb : p = b
              · subst hpb
                rw [getM_putM_self hlt.1] at hp
                cases hp
                exact ⟨c, _, q1, getM_putM_self hlt.2, hme⟩
              · rw [getM_putM_ne hpb] at hp
                obtain ⟨c', es', h1, h2, h3⟩ := hs.maps p fs hp
                exact ⟨c', es', h1, by rw [getM_putM_ne (hs.ne h1 q1 hpb), h2], h3⟩
            · have hne : p ≠ b := fun e => by subst e; rw [q1] at hp; cases hp
              show (if p = b then _ else t.mp p) = none
              rw [if_neg hne]; exact hs.mp0 p hp
            · obtain ⟨⟨w', g1⟩, g2⟩ := hs.fr d ds hd
              have hg := (getM_cells hm).1
              have hdc : d ≠ c := fun e => by subst e; have := g2 b _ q1 hg; cases this
              refine ⟨⟨w', by rw [get_putM_ne hdc, g1]⟩, fun p y hp hy => ?_⟩
              have : p ≠ b := fun e => by subst e; rw [q1] at hp; cases hp; exact hdc rfl
              rw [get_putM_ne this] at hy
              exact g2 p y hp hy
          · have hg := (getM_cells hm).1
            refine ⟨ELe.refl _, FLe.refl _, fun _ _ h => .inl h, fun _ _ h => .inl h, Nat.le_refl _, Nat.le_refl _, fun d hd hw => ?_, fun d hd => fun ⟨p, u, h, h', h''⟩ => ?_, fun d hd => fun ⟨p, u, h, h'⟩ => ?_⟩
            · exact get_putM_ne (fun e => hw (by subst e; exact ⟨b, _, q1, hg, rfl⟩))
            · by_cases hp : p = b
              · subst hp; rw [q1] at h; cases h; exact ⟨p, _, q1, hg, rfl⟩
              · rw [get_putM_ne hp] at h'; exact ⟨p, u, h, h', h''⟩
            · by_cases hp : p = b
              · subst hp; rw [q1] at h; cases h; exact ⟨p, _, q1, hg⟩
              · rw [get_putM_ne hp] at h'; exact ⟨p, u, h, h'⟩
      · cases hok
    | call => cases hc
    | callv => cases hc
    | icall => cases hc
    | _ => exact absurd rfl hq
theorem ck_relT (hs : Sim E F t m) (hσ : SR F E σ σ') {ck : List (Operand × Operand)} (ha : ck.all (fun p => argOk p.1 && argOk p.2) = true) (h : ckOkT σ t ck = true) : ckOk σ' ck = true := by
  simp only [ckOk, ckOkT, List.all_eq_true] at h ha ⊢
  intro p hp
  have h1 := h p hp
  have h2 := ha p hp
  obtain ⟨x, y⟩ := p
  simp only [Bool.and_eq_true] at h2
  simp only at h1 ⊢
  have hx := hσ.ev h2.1
  have hy := hσ.ev h2.2
  generalize ev σ x = a at hx h1
  generalize ev σ' x = a' at hx
  generalize ev σ y = b at hy h1
  generalize ev σ' y = b' at hy
  have kY : ∀ {a a' : Value}, VR F E a a' → isY a = true → ∀ c, blkOf a' = some c → ∃ cs, F c = some cs := fun ha hy c hc => by
    cases ha with
    | flat h => have := (imm_flat h).2.2; rw [this] at hy; cases hy
    | imm e hF => simp [blkOf] at hc; subst hc; exact ⟨_, hF⟩
    | immN => simp [blkOf] at hc
    | immP e hF => simp [blkOf] at hc; subst hc; exact ⟨_, hF⟩
    | _ => simp [isY] at hy
  have kN : ∀ {a a' : Value}, VR F E a a' → isY a = false → ∀ c, blkOf a' = some c → ∃ o, blkOf a = some o ∧ E o = some c := fun ha hy c hc => by
    cases ha with
    | flat h =>
      rename_i a
      unfold blkOf at hc
      split at hc <;> simp [flat1] at h hc
    | ptr hE => simp [blkOf] at hc; subst hc; exact ⟨_, rfl, hE⟩
    | slice hE => simp [blkOf] at hc; subst hc; exact ⟨_, rfl, hE⟩
    | map hE => simp [blkOf] at hc; subst hc; exact ⟨_, rfl, hE⟩
    | imm e => subst e; simp at hy
    | immN e => subst e; simp at hy
    | immP e => subst e; simp at hy
    | _ => simp [blkOf] at hc
  have kO : ∀ {c : Nat} {cs : List Value} {b : Value} {o : Nat}, F c = some cs → blkOf b = some o → blkOwn t b = true → E o = some c → False := fun {c cs b o} hF hb ho hE => by
    simp only [blkOwn, hb, ownAt] at ho
    cases hg : t.get o with
    | none => simp [hg] at ho
    | some x =>
      simp only [hg] at ho
      have := (hs.fr c cs hF).2 o x hE hg
      rw [ho] at this; cases this
  cases ha' : blkOf a' with
  | none => rfl
  | some c =>
    cases hb' : blkOf b' with
    | none => rfl
    | some d =>
      simp only
      unfold apart at h1
      split at h1
      · next ya =>
        simp only [Bool.and_eq_true, Bool.not_eq_true'] at h1
        obtain ⟨cs, f1⟩ := kY hx ya c ha'
        obtain ⟨o, f2, f3⟩ := kN hy h1.1 d hb'
        simp only [bne_iff_ne, ne_eq]
        intro e; subst e
        exact kO f1 f2 h1.2 f3
      · next ya =>
        split at h1
        · next yb =>
          obtain ⟨cs, f1⟩ := kY hy yb d hb'
          obtain ⟨o, f2, f3⟩ := kN hx (by simpa using ya) c ha'
          simp only [bne_iff_ne, ne_eq]
          intro e; subst e
          exact kO f1 f2 h1 f3
        · next yb =>
          obtain ⟨o, f2, f3⟩ := kN hx (by simpa using ya) c ha'
          obtain ⟨o', f2', f3'⟩ := kN hy (by simpa using yb) d hb'
          rw [f2, f2'] at h1
          simp only [bne_iff_ne, ne_eq] at h1 ⊢
          intro e; subst e
          exact h1 (hs.inj o o' c f3 f3')
end
end Go.DI
namespace Go.DI
open Go Go.RowKit
set_option linter.unusedSimpArgs false
set_option linter.unusedVariables false
set_option linter.unnecessarySimpa false

def optMap {α β : Type} (f : α → Option β) : List α → Option (List β)
  | [] => some []
  | x :: xs => match f x with
    | some y => (match optMap f xs with
      | some ys => some (y :: ys)
      | none => none)
    | none => none
theorem optMap_get {α β : Type} {f : α → Option β} : ∀ {l : List α} {l' : List β}, optMap f l = some l' → l'.length = l.length ∧ ∀ (i : Nat) (y : β), l'[i]? = some y → ∃ x, l[i]? = some x ∧ f x = some y
  | [], l', h => by cases h; exact ⟨rfl, fun i y h => by simp at h⟩
  | x :: xs, l', h => by
    simp only [optMap] at h
    cases hf : f x with
    | none => simp [hf] at h
    | some y =>
      cases hr : optMap f xs with
      | none => simp [hf, hr] at h
      | some ys =>
        simp only [hf, hr, Option.some.injEq] at h
        subst h
        obtain ⟨h1, h2⟩ := optMap_get hr
        refine ⟨by simp [h1], fun i z hz => ?_⟩
        cases i with
        | zero => simp at hz; subst hz; exact ⟨x, rfl, hf⟩
        | succ i => exact h2 i z (by simpa using hz)
theorem optMap_id {α : Type} {f : α → Option α} : ∀ {l : List α}, (∀ x ∈ l, f x = some x) → optMap f l = some l
  | [], _ => rfl
  | x :: xs, h => by
    have ih : optMap f xs = some xs := optMap_id fun y hy => h y (List.mem_cons_of_mem _ hy)
    simp only [optMap, h x (by simp), ih]
def chunk (z : Nat) : Nat → List Value → List (List Value)
  | 0, _ => []
  | n + 1, cs => cs.take z :: chunk z n (cs.drop z)
theorem chunk_len (z : Nat) : ∀ (n : Nat) (cs : List Value), (chunk z n cs).length = n
  | 0, _ => rfl
  | n + 1, cs => by simp [chunk, chunk_len z n]
theorem chunk_get {z : Nat} : ∀ {n : Nat} {cs : List Value} {i : Nat} {r : List Value}, (chunk z n cs)[i]? = some r → i < n ∧ r = (cs.drop (i * z)).take z
  | 0, cs, i, r, h => by simp [chunk] at h
  | n + 1, cs, i, r, h => by
    cases i with
    | zero => simp [chunk] at h; subst h; simp
    | succ i =>
      simp only [chunk, List.getElem?_cons_succ] at h
      obtain ⟨h1, h2⟩ := chunk_get h
      refine ⟨by omega, ?_⟩
      rw [h2, List.drop_drop, Nat.add_mul]; congr 2; omega
theorem chunk_flat {z : Nat} : ∀ {rows : List (List Value)}, (∀ r ∈ rows, r.length = z) → chunk z rows.length rows.flatten = rows
  | [], _ => rfl
  | r :: rows, h => by
    have h1 := h r (by simp)
    simp only [List.length_cons, chunk, List.flatten_cons]
    rw [← h1, List.take_left, List.drop_left, h1, chunk_flat fun x hx => h x (by simp [hx])]

def cellB (v : Value) : Bool := flat1 v || isY v
/-- a value with all that its slices hold -/
def frz : Nat → Mem → Value → Option Value
  | 0, _, v => if cellB v then some v else none
  | n + 1, t, v => if cellB v then some v else match v with
    | .slice (some a) l z => match t.get a.block with
      | some x => if a.spot.isNone && decide (a.off + l * z ≤ x.cells.length) then
          (match optMap (optMap (frz n t)) (chunk z l (x.cells.drop a.off)) with
            | some rows => some (immS rows z)
            | none => none) else none
      | none => none
    | .agg cs => match optMap (frz n t) cs.toList with
      | some l => some (.agg l.toArray)
      | none => none
    | .tuple cs => match optMap (frz n t) cs.toList with
      | some l => some (.tuple l.toArray)
      | none => none
    | .func (.func f) xs cs => match optMap (frz n t) xs.toList, optMap (frz n t) cs.toList with
      | some l, some k => some (.func (.func f) l.toArray k.toArray)
      | _, _ => none
    | _ => none
/-- the objects that it reads -/
def reach : Nat → Mem → Value → List Nat
  | 0, _, _ => []
  | n + 1, t, v => if cellB v then [] else match v with
    | .slice (some a) _ _ => a.block :: (match t.get a.block with
      | some x => x.cells.flatMap (reach n t)
      | none => [])
    | .agg cs => cs.toList.flatMap (reach n t)
    | .tuple cs => cs.toList.flatMap (reach n t)
    | .func _ xs cs => xs.toList.flatMap (reach n t) ++ cs.toList.flatMap (reach n t)
    | _ => []
theorem cell_rel {F F1 : Frz} {E : Emb} (hF : FLe F F1) {v v' : Value} (hv : VR F E v v') (hc : cellB v = true) : VR F1 noE v v' := by
  cases hv with
  | flat h => exact .flat h
  | imm e h1 h2 h3 h4 => exact .imm e (hF _ _ h1) h2 h3 fun i j r x y a b c => (h4 i j r x y a b c).mono hF (ELe.refl _)
  | immN e => exact .immN e
  | immP e h1 h2 h3 => exact .immP e (hF _ _ h1) h2 fun j x y a b => (h3 j x y a b).mono hF (ELe.refl _)
  | _ => simp [cellB, flat1, isY] at hc
theorem frz_rel {F F1 : Frz} {E : Emb} {t m : Mem} (hs : Sim E F t m) (hF : FLe F F1) : ∀ (n : Nat) {v v' r : Value}, VR F E v v' → frz n t v = some r → (∀ o ∈ reach n t v, (t.get o).isSome = true → ∀ b cs w, E o = some b → m.get b = some ⟨cs, w⟩ → F1 b = some cs) → VR F1 noE r v'
  | 0, v, v', r, hv, h, _ => by
    simp only [frz] at h
    split at h
    · next hc => cases h; exact cell_rel hF hv hc
    · cases h
  | n + 1, v, v', r, hv, h, hr => by
    simp only [frz] at h
    simp only [reach] at hr
    split at h
    · next hc => cases h; exact cell_rel hF hv hc
    · next hc =>
      rw [if_neg hc] at hr
      have lst : ∀ {xs ys ls : List Value}, LR F E xs ys → optMap (frz n t) xs = some ls → (∀ o ∈ xs.flatMap (reach n t), (t.get o).isSome = true → ∀ b cs w, E o = some b → m.get b = some ⟨cs, w⟩ → F1 b = some cs) → LR F1 noE ls ys := fun hl ho hh => by
        obtain ⟨h1, h2⟩ := optMap_get ho
        refine ⟨by rw [h1, hl.1], fun i x y hx hy => ?_⟩
        obtain ⟨x0, hx0, he⟩ := h2 i x hx
        exact frz_rel hs hF n (hl.2 i x0 y hx0 hy) he fun o ho => hh o (List.mem_flatMap.2 ⟨x0, List.mem_of_getElem? hx0, ho⟩)
      split at h
      · next a l z =>
        cases hg : t.get a.block with
        | none => simp [hg] at h
        | some x =>
          simp only [hg] at h hr
          split at h
          · next hb =>
            simp only [Bool.and_eq_true, decide_eq_true_eq] at hb
            cases hrows : optMap (optMap (frz n t)) (chunk z l (x.cells.drop a.off)) with
            | none => simp [hrows] at h
            | some rows =>
              simp only [hrows, Option.some.injEq] at h
              subst h
              obtain ⟨g1, g2⟩ := optMap_get hrows
              rw [chunk_len] at g1
              rcases hv.inv_slice with ⟨b, e1, e2, rfl⟩ | ⟨e1, e2, e3, rfl⟩
              · obtain ⟨cs, w, q1, q2, q3⟩ := hs.at_ e1 hg
                have hb1 := hr a.block (by simp) (by rw [hg]; rfl) b cs w e1 q1
                rw [← g1]
                have hrow : ∀ (i : Nat) r, rows[i]? = some r → i < l ∧ ∃ r0, r0 = (x.cells.drop (a.off + i * z)).take z ∧ optMap (frz n t) r0 = some r := fun i r hi => by
                  obtain ⟨r0, k1, k2⟩ := g2 i r hi
                  obtain ⟨k3, k4⟩ := chunk_get k1
                  exact ⟨k3, r0, by rw [k4, List.drop_drop], k2⟩
                refine .imm rfl hb1 (by rw [g1, ← q3.1]; exact hb.2) (fun i r hi => ?_) fun i j r u y hi hj hy => ?_
                · obtain ⟨k3, r0, k4, k5⟩ := hrow i r hi
                  rw [(optMap_get k5).1, k4]
                  simp
                  have : (i + 1) * z ≤ l * z := Nat.mul_le_mul_right _ k3
                  rw [Nat.add_mul] at this
                  omega
                · obtain ⟨k3, r0, k4, k5⟩ := hrow i r hi
                  obtain ⟨u0, k6, k7⟩ := (optMap_get k5).2 j u hj
                  rw [k4, List.getElem?_take] at k6
                  split at k6
                  · rw [List.getElem?_drop] at k6
                    refine frz_rel hs hF n (q3.2 _ u0 y k6 hy) k7 fun o ho => hr o ?_
                    exact List.mem_cons_of_mem _ (List.mem_flatMap.2 ⟨u0, List.mem_of_getElem? k6, ho⟩)
                  · cases k6
              · subst e3
                have : rows = [] := List.eq_nil_of_length_eq_zero g1
                subst this
                exact .immN rfl
          · cases h
      · next cs =>
        cases ho : optMap (frz n t) cs.toList with
        | none => simp [ho] at h
        | some l =>
          simp only [ho, Option.some.injEq] at h
          subst h
          obtain ⟨ys, rfl, hl⟩ := hv.inv_agg
          have := (lst hl ho hr).agg
          simpa using this
      · next cs =>
        cases ho : optMap (frz n t) cs.toList with
        | none => simp [ho] at h
        | some l =>
          simp only [ho, Option.some.injEq] at h
          subst h
          obtain ⟨ys, rfl, hl⟩ := hv.inv_tuple
          have := (lst hl ho hr).tuple
          simpa using this
      · next f xs cs =>
        cases ho : optMap (frz n t) xs.toList with
        | none => simp [ho] at h
        | some l =>
          cases ho2 : optMap (frz n t) cs.toList with
          | none => simp [ho, ho2] at h
          | some k =>
            simp only [ho, ho2, Option.some.injEq] at h
            subst h
            obtain ⟨ys, ds, rfl, hl, hk⟩ := hv.inv_func
            have h1 := lst hl ho fun o h => hr o (List.mem_append.2 (.inl h))
            have h2 := lst hk ho2 fun o h => hr o (List.mem_append.2 (.inr h))
            exact .func (by simpa using h1.1) (by simpa using h1.2) (by simpa using h2.1) (by simpa using h2.2)
      · cases h

def frzs (n : Nat) (t : Mem) (args : List Value) : Option (List Value) := optMap (frz n t) args
/-- objects that are no longer written -/
def shut (t : Mem) : List Nat → Mem
  | [] => t
  | o :: l => shut (match t.get o with | some x => t.put o (some ⟨x.cells, false⟩) | none => t) l
/-- objects that are not maps -/
def clr (t : Mem) (l : List Nat) : Mem := ⟨t.next, t.blk, fun o => if o ∈ l then none else t.mp o⟩
@[simp] theorem clr_nil (t : Mem) : clr t [] = t := by simp [clr]
@[simp] theorem clr_get (t : Mem) (l : List Nat) (o : Nat) : (clr t l).get o = t.get o := rfl
@[simp] theorem clr_next (t : Mem) (l : List Nat) : (clr t l).next = t.next := rfl
@[simp] theorem shut_nil (t : Mem) : shut t [] = t := rfl
@[simp] theorem shut_cons (t : Mem) (o : Nat) (l : List Nat) : shut t (o :: l) = shut (match t.get o with | some x => t.put o (some ⟨x.cells, false⟩) | none => t) l := rfl
theorem shut_next : ∀ (l : List Nat) (t : Mem), (shut t l).next = t.next
  | [], t => rfl
  | o :: l, t => by
    rw [shut_cons, shut_next l]
    split <;> rfl
theorem shut_get : ∀ (l : List Nat) (t : Mem) (p : Nat) (x : Blk), (shut t l).get p = some x → ∃ y, t.get p = some y ∧ x.cells = y.cells ∧ (x.own = true → y.own = true) ∧ (p ∈ l → x.own = false)
  | [], t, p, x, h => ⟨x, h, rfl, fun h => h, fun h => by simp at h⟩
  | o :: l, t, p, x, h => by
    rw [shut_cons] at h
    obtain ⟨y, h1, h2, h3, h4⟩ := shut_get l _ p x h
    cases hg : t.get o with
    | none =>
      rw [hg] at h1
      refine ⟨y, h1, h2, h3, fun hp => ?_⟩
      rcases List.mem_cons.1 hp with rfl | hp
      · simp only at h1; rw [hg] at h1; cases h1
      · exact h4 hp
    | some z =>
      rw [hg] at h1
      simp only at h1
      by_cases hpo : p = o
      · subst hpo
        rw [zql (get_lt hg)] at h1
        cases h1
        have hf : x.own = false := by
          cases hx : x.own with
          | false => rfl
          | true => have := h3 hx; cases this
        exact ⟨z, hg, h2, (fun hx => by rw [hf] at hx; cases hx), fun _ => hf⟩
      · rw [zqm hpo] at h1
        exact ⟨y, h1, h2, h3, fun hp => h4 ((List.mem_cons.1 hp).resolve_left hpo)⟩
theorem shut_mp : ∀ (l : List Nat) (t : Mem), (shut t l).mp = t.mp
  | [], t => rfl
  | o :: l, t => by
    rw [shut_cons, shut_mp l]
    split <;> rfl

section
variable (P : Program)
def Fs (F : Frz) (m : Mem) : Prop := ∀ b cs, F b = some cs → ∃ w, m.get b = some ⟨cs, w⟩
/-- a call whose arguments and result are whole contents -/
def TPure (f : Nat) (args : List Value) (r : Value) : Prop := ∀ (F : Frz) (m : Mem) (as : List Value), Fs F m → LR F noE args as →
  WPCall P f as m fun r' m' => m.next ≤ m'.next ∧ (∀ b, b < m.next → m'.get b = m.get b) ∧ ∃ F', FLe F F' ∧ Fs F' m' ∧ VR F' noE r r'
/-- a call that is followed through the memory -/
def WPTC (f : Nat) (args : List Value) (t : Mem) (Φ : Value → Mem → Prop) : Prop := ∀ (E : Emb) (F : Frz) (as : List Value) (m : Mem), Sim E F t m → LR F E args as →
  WPCall P f as m fun r' m' => ∃ E' F' r t', Φ r t' ∧ Sim E' F' t' m' ∧ VR F' E' r r' ∧ Fr t.next m.next E F t m E' F' t' m'
def WPT (c : ICode) (σ : Slots) (t : Mem) (Q : IExit → Slots → Mem → Prop) : Prop := okCode c = true → ∀ (E : Emb) (F : Frz) (σ' : Slots) (m : Mem), Sim E F t m → SR F E σ σ' →
  WP P c σ' m fun e σ1' m' => ∃ E' F' σ1 t', Q e σ1 t' ∧ Sim E' F' t' m' ∧ SR F' E' σ1 σ1' ∧ Fr t.next m.next E F t m E' F' t' m'
/-- what is known of a function -/
structure PSpec where
  f : Nat
  fn : List Value → Option Value
  ok : ∀ args r, fn args = some r → TPure P f args r
/-- what is known of a function that changes the memory -/
structure ISpec where
  f : Nat
  fn : List Value → Mem → Option (Value × Mem)
  ok : ∀ args t r t', fn args t = some (r, t') → ∀ Φ : Value → Mem → Prop, Φ r t' → WPTC P f args t Φ
structure Sps where
  p : List (PSpec P)
  i : List (ISpec P)
variable {P}
def hasI : List (ISpec P) → Nat → Bool
  | [], _ => false
  | s :: l, f => s.f == f || hasI l f
def specI : List (ISpec P) → Nat → List Value → Mem → (Value → Mem → Prop) → Prop
  | [], _, _, _, _ => False
  | s :: l, f, args, t, K => if s.f = f then (match s.fn args t with
    | some (r, t') => K r t'
    | none => False) else specI l f args t K
def hasS : List (PSpec P) → Nat → Bool
  | [], _ => false
  | s :: l, f => s.f == f || hasS l f
def specT : List (PSpec P) → Nat → List Value → (Value → Prop) → Prop
  | [], _, _, _ => False
  | s :: l, f, args, Φ => if s.f = f then (match s.fn args with
    | some r => Φ r
    | none => False) else specT l f args Φ
def pureT (sp : List (PSpec P)) (f : Nat) (args : List Value) (t : Mem) (K : Value → Mem → Prop) : Prop := match frzs 9 t args with
  | some ts => specT sp f ts fun r => K r (if flatV r then clr t (args.flatMap (reach 9 t)) else shut t (args.flatMap (reach 9 t)))
  | none => False
def callT (sp : Sps P) (f : Nat) (args : List Value) (t : Mem) (kp : Bool) (K : Value → Mem → Prop) : Prop :=
  if hasS sp.p f then pureT sp.p f args t K else kp = true ∧ if hasI sp.i f then specI sp.i f args t K else WPTC P f args t K
def callvT (sp : Sps P) (v : Value) (args : List Value) (t : Mem) (kp : Bool) (K : Value → Mem → Prop) : Prop := match v with
  | .func (.func f) first caps => callT sp f (first.toList ++ args ++ caps.toList) t kp K
  | _ => False
/-- one operation -/
def oneT (sp : Sps P) (base : Nat) (o : IOp) (σ : Slots) (t : Mem) (K : Slots → Mem → Prop) : Prop := match o.k with
  | .call f as => callT sp f (as.map (ev σ)) t (keepT σ t o.ck) fun r t' => K (putD σ o.d r) t'
  | .callv x as => callvT sp (ev σ x) (as.map (ev σ)) t (keepT σ t o.ck) fun r t' => K (putD σ o.d r) t'
  | .icall _ _ _ => False
  | k => k.okT σ t = true ∧ ckOkT σ t o.ck = true ∧ K (putD σ o.d (k.valT (base + o.ix) σ t)) (k.memT (base + o.ix) σ t)
def TWO (sp : Sps P) (base : Nat) : List IOp → Slots → Mem → (Slots → Mem → Prop) → Prop
  | [], σ, t, K => K σ t
  | o :: rest, σ, t, K => if wantedI σ o.g = true then oneT sp base o σ t (fun σ t => TWO sp base rest σ t K) else TWO sp base rest (putD σ o.d undef) t K
def TW (sp : Sps P) : ICode → Slots → Mem → (IExit → Slots → Mem → Prop) → Prop
  | .skip, σ, t, Q => Q .normal σ t
  | .region ops, σ, t, Q => TWO sp t.next ops σ (regBump ops t) (Q .normal)
  | .late _ _ _, _, _, _ => False
  | .seq a b, σ, t, Q => TW sp a σ t fun e σ t => match e with
    | .normal => TW sp b σ t Q
    | e => Q e σ t
  | .cond c a b, σ, t, Q => isB (ev σ c) = true ∧ if asB (ev σ c) = true then TW sp a σ t Q else TW sp b σ t Q
  | .block id c, σ, t, Q => TW sp c σ t fun e σ t => match e with
    | .exit id' => if id' = id then Q .normal σ t else Q (.exit id') σ t
    | e => Q e σ t
  | .loop c, σ, t, Q => WPT P (.loop c) σ t Q
  | .exit id, σ, t, Q => Q (.exit id) σ t
  | .ret, σ, t, Q => Q .ret σ t
end

section
variable {P : Program} {F : Frz} {E : Emb} {t m : Mem}
theorem specI_sound {l : List (ISpec P)} {f : Nat} {args : List Value} {t : Mem} {K : Value → Mem → Prop} (h : specI l f args t K) : WPTC P f args t K := by
  induction l with
  | nil => exact h.elim
  | cons s l ih =>
    simp only [specI] at h
    split at h
    · next e =>
      cases hf : s.fn args t with
      | none => rw [hf] at h; exact h.elim
      | some rt => obtain ⟨r, t'⟩ := rt; rw [hf] at h; have := s.ok args t r t' hf K h; rw [e] at this; exact this
    · exact ih h
theorem TPure.use {f : Nat} {ts as : List Value} {r : Value} (h : TPure P f ts r) (hF : Fs F m) (ha : LR F noE ts as) : WPCall P f as m fun r' m' => m.next ≤ m'.next ∧ (∀ b, b < m.next → m'.get b = m.get b ∧ (F b = none → m'.mp b = m.mp b)) ∧
    ∃ F', FLe F F' ∧ Fs F' m' ∧ (∀ b cs, F' b = some cs → F b = some cs ∨ m.next ≤ b) ∧ VR F' noE r r' := by
  obtain ⟨p, hp⟩ : ∃ p : Mem, p = ⟨m.next, fun b => if (F b).isSome then m.blk b else none, m.mp⟩ := ⟨_, rfl⟩
  have pn : p.next = m.next := by rw [hp]
  have pmp : p.mp = m.mp := by rw [hp]
  have pg : ∀ b, p.get b = if (F b).isSome then m.get b else none := fun b => by
    rw [hp]; simp only [Mem.get]
    split
    · rfl
    · split <;> rfl
  have part : Part p m := ⟨pn, pmp, fun b x hx => by
    rw [pg] at hx
    split at hx
    · exact hx
    · cases hx⟩
  have hFp : Fs F p := fun b cs hb => by
    obtain ⟨w, hw⟩ := hF b cs hb
    exact ⟨w, by rw [pg, hb]; exact hw⟩
  refine (WPCall.frame part (h F p as hFp ha)).mono fun r' m' hh => ?_
  obtain ⟨p', ⟨h1, h2, F', h3, h4, h5⟩, rest⟩ := hh
  refine ⟨rest.next, fun b hb => ⟨?_, fun hn => (rest.out b hb (by rw [pg, hn]; rfl)).2.2⟩, F', h3, fun b cs hb => ?_, fun b cs hb => ?_, h5⟩
  · cases hg : p.get b with
    | none => exact (rest.out b hb hg).1
    | some x => rw [part.get b x hg]; exact rest.part.get b x (by rw [h2 b (by rw [pn]; exact hb), hg])
  · obtain ⟨w, hw⟩ := h4 b cs hb; exact ⟨w, rest.part.get b _ hw⟩
  · by_cases hlt : b < m.next
    · left
      obtain ⟨w, hw⟩ := h4 b cs hb
      cases hg : p.get b with
      | none => rw [(rest.out b hlt hg).2.1] at hw; cases hw
      | some x =>
        rw [h2 b (by rw [pn]; exact hlt)] at hw
        rw [pg] at hw
        split at hw
        · next hs =>
          cases hfb : F b with
          | none => rw [hfb] at hs; cases hs
          | some cs' =>
            obtain ⟨w', hw'⟩ := hF b cs' hfb
            rw [hw'] at hw; cases hw; rfl
        · cases hw
    · exact .inr (by omega)
theorem flat_back {v v' : Value} (h : VR F E v v') (hf : flatV v = true) : v' = v := by
  unfold flatV at hf
  split at hf
  · obtain ⟨ys, rfl, hl⟩ := h.inv_agg
    rename_i cs
    have : ys.toList = cs.toList := by
      apply List.ext_getElem
      · exact hl.1.symm
      · intro i h1 h2
        exact (hl.2 i _ _ (List.getElem?_eq_getElem h2) (List.getElem?_eq_getElem h1)).inv_flat (List.all_eq_true.1 hf _ (List.getElem_mem h2))
    rw [← Array.toArray_toList (xs := ys), this]
  · obtain ⟨ys, rfl, hl⟩ := h.inv_tuple
    rename_i cs
    have : ys.toList = cs.toList := by
      apply List.ext_getElem
      · exact hl.1.symm
      · intro i h1 h2
        exact (hl.2 i _ _ (List.getElem?_eq_getElem h2) (List.getElem?_eq_getElem h1)).inv_flat (List.all_eq_true.1 hf _ (List.getElem_mem h2))
    rw [← Array.toArray_toList (xs := ys), this]
  · exact h.inv_flat hf
open Classical in
/-- the call of a known result, below -/
theorem pure_soundT (hs : Sim E F t m) {sp : List (PSpec P)} {f : Nat} {args as : List Value} (ha : LR F E args as) {K : Value → Mem → Prop} (h : pureT sp f args t K) :
    WPCall P f as m fun r' m' => (∀ b, b < m.next → m'.get b = m.get b) ∧ ∃ F' r t', K r t' ∧ Sim E F' t' m' ∧ VR F' E r r' ∧ Fr t.next m.next E F t m E F' t' m' := by
  unfold pureT at h
  cases hz : frzs 9 t args with
  | none => rw [hz] at h; exact h.elim
  | some ts =>
    rw [hz] at h
    simp only at h
    obtain ⟨l, hl⟩ : ∃ l, l = args.flatMap (reach 9 t) := ⟨_, rfl⟩
    rw [← hl] at h
    have hex : ∃ r, TPure P f ts r ∧ K r (if flatV r then clr t l else shut t l) := by
      clear hz hl
      induction sp with
      | nil => exact h.elim
      | cons s sp ih =>
        simp only [specT] at h
        split at h
        · next e =>
          cases hf : s.fn ts with
          | none => rw [hf] at h; exact h.elim
          | some r => rw [hf] at h; exact ⟨r, by have := s.ok ts r hf; rw [e] at this; exact this, h⟩
        · exact ih h
    obtain ⟨r, hr, hK⟩ := hex
    obtain ⟨F1, hF1⟩ : ∃ F1 : Frz, F1 = fun b => match F b with
      | some cs => some cs
      | none => if ∃ o, o ∈ l ∧ E o = some b ∧ (t.get o).isSome = true then (m.get b).map (·.cells) else none := ⟨_, rfl⟩
    have f1 : FLe F F1 := fun b cs hb => by rw [hF1]; simp [hb]
    have f2 : ∀ b cs, F1 b = some cs → F b = some cs ∨ (∃ o, o ∈ l ∧ E o = some b) := fun b cs hb => by
      rw [hF1] at hb
      simp only at hb
      split at hb
      · next h1 => rw [h1]; exact .inl hb
      · split at hb
        · next h1 => obtain ⟨o, k1, k2, _⟩ := h1; exact .inr ⟨o, k1, k2⟩
        · cases hb
    have f5 : ∀ b cs, F1 b = some cs → F b = some cs ∨ Al E t b := fun b cs hb => by
      rw [hF1] at hb
      simp only at hb
      split at hb
      · next h1 => rw [h1]; exact .inl hb
      · split at hb
        · next h1 => obtain ⟨o, _, k2, k3⟩ := h1; obtain ⟨x, hx⟩ := Option.isSome_iff_exists.1 k3; exact .inr ⟨o, x, k2, hx⟩
        · cases hb
    have f3 : Fs F1 m := fun b cs hb => by
      rw [hF1] at hb
      simp only at hb
      split at hb
      · next h1 => cases hb; exact (hs.fr b _ h1).1
      · split at hb
        · cases hg : m.get b with
          | none => rw [hg] at hb; cases hb
          | some x => rw [hg] at hb; cases hb; exact ⟨x.own, rfl⟩
        · cases hb
    have f4 : ∀ o ∈ l, (t.get o).isSome = true → ∀ b cs w, E o = some b → m.get b = some ⟨cs, w⟩ → F1 b = some cs := fun o ho hal b cs w hE hg => by
      rw [hF1]
      simp only
      cases hFb : F b with
      | some ds => obtain ⟨⟨w', hw'⟩, _⟩ := hs.fr b ds hFb; rw [hg] at hw'; cases hw'; rfl
      | none => simp only; rw [if_pos ⟨o, ho, hE, hal⟩, hg]; rfl
    have ha1 : LR F1 noE ts as := by
      obtain ⟨h1, h2⟩ := optMap_get hz
      refine ⟨by rw [h1, ha.1], fun i x y hx hy => ?_⟩
      obtain ⟨x0, hx0, he⟩ := h2 i x hx
      exact frz_rel hs f1 9 (ha.2 i x0 y hx0 hy) he fun o ho => f4 o (by rw [hl]; exact List.mem_flatMap.2 ⟨x0, List.mem_of_getElem? hx0, ho⟩)
    refine (hr.use f3 ha1).mono fun r' m' hh => ?_
    obtain ⟨g1, g2, F', g3, g4, g5, g6⟩ := hh
    refine ⟨fun b hb => (g2 b hb).1, ?_⟩
    by_cases hfl : flatV r = true
    · rw [if_pos hfl] at hK
      refine ⟨F, r, _, hK, ?_, by rw [flat_back g6 hfl]; exact VR.flatV hfl, ?_⟩
      · refine ⟨fun o x hx => ?_, fun o es he => ?_, fun o ho => ?_, hs.inj, fun o b h => ⟨(hs.lt o b h).1, Nat.lt_of_lt_of_le (hs.lt o b h).2 g1⟩, fun b cs hb => ?_⟩
        · rcases hs.obj o x hx with ⟨b, cs, w, h1, h2, h3, h4⟩ | h1
          · exact .inl ⟨b, cs, w, h1, by rw [(g2 b (hs.lt o b h1).2).1, h2], h3, h4⟩
          · exact .inr h1
        · obtain ⟨e1, e2⟩ := getM_cells he
          have hol : o ∉ l := fun hm => by simp [clr, hm] at e2
          have e3 : t.mp o = some es := by simpa [clr, hol] using e2
          obtain ⟨b, es', h1, h2, h3⟩ := hs.maps o es (getM_of e1 e3)
          refine ⟨b, es', h1, ?_, h3⟩
          obtain ⟨h4, h5⟩ := getM_cells h2
          have hb := (hs.lt o b h1).2
          have hFb : F1 b = none := by
            cases hq : F1 b with
            | none => rfl
            | some cs =>
              rcases f2 b cs hq with h6 | ⟨o', h6, h7⟩
              · have := (hs.fr b cs h6).2 o _ h1 e1; cases this
              · rw [hs.inj o' o b h7 h1] at h6; exact absurd h6 hol
          exact getM_of (by rw [(g2 b hb).1]; exact h4) (by rw [(g2 b hb).2 hFb]; exact h5)
        · show (if o ∈ l then none else t.mp o) = none
          rw [hs.mp0 o ho]; simp
        · obtain ⟨⟨w, h1⟩, h2⟩ := hs.fr b cs hb
          exact ⟨⟨w, by rw [(g2 b (get_lt h1)).1, h1]⟩, h2⟩
      · exact ⟨ELe.refl _, FLe.refl _, fun _ _ h => .inl h, fun _ _ h => .inl h, Nat.le_refl _, g1, fun b hb _ => (g2 b hb).1, fun b hb hw => hw, fun b hb hw => hw⟩
    · rw [if_neg hfl] at hK
      have hFF := f1.trans g3
      refine ⟨F', r, _, hK, ?_, g6.mono (FLe.refl _) (ELe.nil _), ?_⟩
      · refine ⟨fun o x hx => ?_, fun o es he => ?_, fun o ho => ?_, hs.inj, fun o b h => ⟨by rw [shut_next]; exact (hs.lt o b h).1, Nat.lt_of_lt_of_le (hs.lt o b h).2 g1⟩, fun b cs hb => ?_⟩
        · obtain ⟨y, hy, e1, e2, _⟩ := shut_get l t o x hx
          rcases hs.obj o y hy with ⟨b, cs, w, h1, h2, h3, h4⟩ | ⟨h1, h2⟩
          · exact .inl ⟨b, cs, w, h1, by rw [(g2 b (hs.lt o b h1).2).1, h2], fun h => h3 (e2 h), by rw [e1]; exact h4.mono hFF (ELe.refl _)⟩
          · exact .inr ⟨h1, by rw [e1, h2]⟩
        · obtain ⟨e1, e2⟩ := getM_cells he
          obtain ⟨y, hy, e3, e4, e5⟩ := shut_get l t o _ e1
          have hol : o ∉ l := fun hm => by have := e5 hm; cases this
          have hy' : y = ⟨[], true⟩ := by obtain ⟨a, b⟩ := y; simp at e3 e4; simp [e3, e4]
          subst hy'
          rw [shut_mp] at e2
          obtain ⟨b, es', h1, h2, h3⟩ := hs.maps o es (getM_of hy e2)
          refine ⟨b, es', h1, ?_, h3.mono hFF (ELe.refl _)⟩
          obtain ⟨h4, h5⟩ := getM_cells h2
          have hb := (hs.lt o b h1).2
          have hFb : F1 b = none := by
            cases hq : F1 b with
            | none => rfl
            | some cs =>
              rcases f2 b cs hq with h6 | ⟨o', h6, h7⟩
              · have := (hs.fr b cs h6).2 o _ h1 hy; cases this
              · rw [hs.inj o' o b h7 h1] at h6; exact absurd h6 hol
          exact getM_of (by rw [(g2 b hb).1]; exact h4) (by rw [(g2 b hb).2 hFb]; exact h5)
        · rw [shut_mp]; exact hs.mp0 o ho
        · refine ⟨g4 b cs hb, fun o x hE hx => ?_⟩
          obtain ⟨y, hy, e1, e2, e3⟩ := shut_get l t o x hx
          have hb' := (hs.lt o b hE).2
          rcases g5 b cs hb with h6 | h6
          · rcases f2 b cs h6 with h7 | ⟨o', h7, h8⟩
            · have h9 := (hs.fr b cs h7).2 o y hE hy
              cases hx0 : x.own with
              | false => rfl
              | true => rw [e2 hx0] at h9; cases h9
            · rw [hs.inj o' o b h8 hE] at h7; exact e3 h7
          · omega
      · refine ⟨ELe.refl _, hFF, fun _ _ h => .inl h, fun b cs hb => ?_, by rw [shut_next]; exact Nat.le_refl _, g1, fun b hb _ => (g2 b hb).1, fun b hb hw => ?_, fun b hb hw => ?_⟩
        · rcases g5 b cs hb with h6 | h6
          · rcases f5 b cs h6 with h7 | h7
            · exact .inl h7
            · exact .inr (.inr h7)
          · exact .inr (.inl h6)
        · obtain ⟨o, x, h1, h2, h3⟩ := hw
          obtain ⟨y, hy, e1, e2, e3⟩ := shut_get l t o x h2
          exact ⟨o, y, h1, hy, e2 h3⟩
        · obtain ⟨o, x, h1, h2⟩ := hw
          obtain ⟨y, hy, e1, e2, e3⟩ := shut_get l t o x h2
          exact ⟨o, y, h1, hy⟩
end
end Go.DI
