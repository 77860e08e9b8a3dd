/-
  The relation between the abstract memory and the model's world; values; the operations that touch no memory.
  The operations that touch no memory: what the model does is what the intermediate form says.
  The operations that touch no memory, continued: comparisons, arithmetic, slices' bounds, structs.
  The operations that touch no memory, the rest: slicing, structs, min and max, comparison of structs.
  Structs, min and max, comparison of structs; and all operations that touch no memory, in one theorem.
  All operations that touch no memory, in one theorem.
  The memory: what a load reads, and what a store, a new block and an append leave.
  The operations that touch memory: loads, stores, new blocks, make.
-/
import Derived.Test.YticjcminhkgabaaGreatDoorFwA
import Derived.ChangeKeysEq
namespace Go.DI
open Go Go.RowKit

structure Loc where
  c : Nat
  o : Nat
  n : Nat

abbrev Ren := Nat → Option Loc

inductive VRel (ρ : Ren) : Value → Value → Prop
  | flat {v : Value} (h : flat1 v = true) : VRel ρ v v
  | ptr {b off : Nat} {l : Loc} (h : ρ b = some l) : VRel ρ (.pointer (some ⟨b, off, none⟩)) (.pointer (some ⟨l.c, l.o + off, none⟩))
  | slice {b off len z cap : Nat} {a' : Addr} {l : Loc} (h : ρ b = some l) (hn : (cap = 0 ∧ len = 0) ∨ (a' = ⟨l.c, l.o + off, none⟩ ∧ off + cap * z ≤ l.n)) (hl : len ≤ cap) (hm : cap ≤ maxLen) :
      VRel ρ (.slice (some ⟨b, off, none⟩) len z) (.slice (some a') len cap)
  | agg {xs ys : Array Value} (hs : xs.size = ys.size) (h : ∀ (i : Nat) (x y : Value), xs[i]? = some x → ys[i]? = some y → VRel ρ x y) (h1 : ∀ x ∈ xs.toList, oneC x = true) : VRel ρ (.agg xs) (.agg ys)
  | tuple {xs ys : Array Value} (hs : xs.size = ys.size) (h : ∀ (i : Nat) (x y : Value), xs[i]? = some x → ys[i]? = some y → VRel ρ x y) : VRel ρ (.tuple xs) (.tuple ys)
  | func {fn : Fn} {xs ys cs ds : Array Value} (hs : xs.size = ys.size) (h : ∀ (i : Nat) (x y : Value), xs[i]? = some x → ys[i]? = some y → VRel ρ x y)
      (hs2 : cs.size = ds.size) (h2 : ∀ (i : Nat) (x y : Value), cs[i]? = some x → ds[i]? = some y → VRel ρ x y) : VRel ρ (.func fn xs cs) (.func fn ys ds)
  | iface {t : TypeId} {v v' : Value} (h : VRel ρ v v') : VRel ρ (.iface t v) (.iface t v')
  | map {b : Nat} {l : Loc} (h : ρ b = some l) : VRel ρ (.map (some b)) (.map (some l.c))

def RenLe (ρ ρ' : Ren) : Prop := ∀ b l, ρ b = some l → ρ' b = some l
theorem RenLe.refl (ρ : Ren) : RenLe ρ ρ := fun _ _ h => h
theorem RenLe.trans {a b c : Ren} (h : RenLe a b) (h' : RenLe b c) : RenLe a c := fun x l hx => h' x l (h x l hx)

theorem VRel.mono {ρ ρ' : Ren} (hle : RenLe ρ ρ') {v v' : Value} (h : VRel ρ v v') : VRel ρ' v v' := by
  induction h with
  | flat h => exact .flat h
  | ptr h => exact .ptr (hle _ _ h)
  | slice h hn hl hm => exact .slice (hle _ _ h) hn hl hm
  | agg hs _ h1 ih => exact .agg hs ih h1
  | tuple hs _ ih => exact .tuple hs ih
  | func hs _ hs2 _ ih ih2 => exact .func hs ih hs2 ih2
  | iface _ ih => exact .iface ih
  | map h => exact .map (hle _ _ h)

def LRel (ρ : Ren) (xs ys : List Value) : Prop := xs.length = ys.length ∧ ∀ (i : Nat) (x y : Value), xs[i]? = some x → ys[i]? = some y → VRel ρ x y
theorem LRel.nil (ρ : Ren) : LRel ρ [] [] := ⟨rfl, by intro i x y h; simp at h⟩
theorem LRel.cons {ρ : Ren} {x y : Value} {xs ys : List Value} (h : VRel ρ x y) (hs : LRel ρ xs ys) : LRel ρ (x :: xs) (y :: ys) := by
  refine ⟨by simp [hs.1], fun i a b ha hb => ?_⟩
  cases i with
  | zero => simp at ha hb; subst ha; subst hb; exact h
  | succ i => exact hs.2 i a b (by simpa using ha) (by simpa using hb)
theorem LRel.mono {ρ ρ' : Ren} (hle : RenLe ρ ρ') {xs ys : List Value} (h : LRel ρ xs ys) : LRel ρ' xs ys := ⟨h.1, fun i x y hx hy => (h.2 i x y hx hy).mono hle⟩
theorem LRel.agg {ρ : Ren} {xs ys : List Value} (h : LRel ρ xs ys) (h1 : ∀ x ∈ xs, oneC x = true) : VRel ρ (.agg xs.toArray) (.agg ys.toArray) := .agg (by simpa using h.1) (by simpa using h.2) (by simpa using h1)
theorem LRel.tuple {ρ : Ren} {xs ys : List Value} (h : LRel ρ xs ys) : VRel ρ (.tuple xs.toArray) (.tuple ys.toArray) := .tuple (by simpa using h.1) (by simpa using h.2)
theorem LRel.of_agg {ρ : Ren} {xs ys : Array Value} (h : VRel ρ (.agg xs) (.agg ys)) : LRel ρ xs.toList ys.toList := by
  cases h with
  | flat h => simp [flat1] at h
  | agg hs h _ => exact ⟨by simpa using hs, by simpa using h⟩
theorem LRel.append {ρ : Ren} {a b c d : List Value} (h : LRel ρ a b) (h' : LRel ρ c d) : LRel ρ (a ++ c) (b ++ d) := by
  refine ⟨by simp [h.1, h'.1], fun i x y hx hy => ?_⟩
  rw [List.getElem?_append] at hx hy
  rw [← h.1] at hy
  split at hx
  · rename_i hi; rw [if_pos hi] at hy; exact h.2 _ _ _ hx hy
  · rename_i hi; rw [if_neg hi] at hy; exact h'.2 _ _ _ hx hy
theorem LRel.drop {ρ : Ren} {a b : List Value} (h : LRel ρ a b) (n : Nat) : LRel ρ (a.drop n) (b.drop n) :=
  ⟨by simp [h.1], fun i x y hx hy => h.2 (n + i) x y (by simpa using hx) (by simpa using hy)⟩
theorem LRel.take {ρ : Ren} {a b : List Value} (h : LRel ρ a b) (n : Nat) : LRel ρ (a.take n) (b.take n) := by
  refine ⟨by simp [h.1], fun i x y hx hy => ?_⟩
  rw [List.getElem?_take] at hx hy
  split at hx
  · rename_i hi; rw [if_pos hi] at hy; exact h.2 _ _ _ hx hy
  · cases hx
theorem LRel.set {ρ : Ren} {a b : List Value} (h : LRel ρ a b) (n : Nat) {x y : Value} (hv : VRel ρ x y) : LRel ρ (a.set n x) (b.set n y) := by
  refine ⟨by simp [h.1], fun i u v hx hy => ?_⟩
  rw [List.getElem?_set] at hx hy
  rw [← h.1] at hy
  split at hx
  · rename_i hi
    rw [if_pos hi] at hy
    split at hx
    · rename_i h2
      rw [if_pos h2] at hy
      simp at hx hy; subst hx; subst hy; exact hv
    · cases hx
  · rename_i hi
    rw [if_neg hi] at hy
    exact h.2 _ _ _ hx hy
theorem LRel.blit {ρ : Ren} : ∀ {vs us : List Value} {a b : List Value} (off : Nat), LRel ρ a b → LRel ρ vs us → LRel ρ (blit a off vs) (blit b off us)
  | [], [], _, _, _, h, _ => h
  | [], u :: us, _, _, _, _, h2 => by simp [LRel] at h2
  | v :: vs, [], _, _, _, _, h2 => by simp [LRel] at h2
  | v :: vs, u :: us, a, b, off, h, h2 => by
    simp only [Go.DI.blit]
    exact LRel.blit (off + 1) (h.set off (h2.2 0 v u rfl rfl)) ⟨by simpa using h2.1, fun i x y hx hy => h2.2 (i + 1) x y (by simpa using hx) (by simpa using hy)⟩
theorem LRel.get {ρ : Ren} {a b : List Value} (h : LRel ρ a b) {i : Nat} {x : Value} (hx : a[i]? = some x) : ∃ y, b[i]? = some y ∧ VRel ρ x y := by
  have hi : i < a.length := (List.getElem?_eq_some_iff.1 hx).1
  rw [h.1] at hi
  exact ⟨b[i], List.getElem?_eq_getElem hi, h.2 i x _ hx (List.getElem?_eq_getElem hi)⟩
theorem LRel.map_ {ρ : Ren} {α : Type} (f g : α → Value) : ∀ (l : List α), (∀ x ∈ l, VRel ρ (f x) (g x)) → LRel ρ (l.map f) (l.map g)
  | [], _ => LRel.nil ρ
  | x :: l, h => LRel.cons (h x (by simp)) (LRel.map_ f g l fun y hy => h y (by simp [hy]))

theorem LRel.flat (ρ : Ren) {cs : List Value} (h : cs.all flat1 = true) : LRel ρ cs cs := by
  refine ⟨rfl, fun i x y hx hy => ?_⟩
  rw [hx] at hy
  cases hy
  exact .flat (List.all_eq_true.1 h x (List.mem_of_getElem? hx))
theorem flat_one {v : Value} (h : flat1 v = true) : oneC v = true := by cases v <;> simp_all [flat1, Go.DI.oneC]
theorem VRel.flatV (ρ : Ren) {v : Value} (h : flatV v = true) : VRel ρ v v := by
  unfold Go.DI.flatV at h
  split at h
  · rename_i cs; have := LRel.agg (LRel.flat ρ h) (fun v hv => flat_one (List.all_eq_true.1 h v hv)); simpa using this
  · rename_i cs; have := LRel.tuple (LRel.flat ρ h); simpa using this
  · exact .flat h
theorem VRel.undef (ρ : Ren) : VRel ρ undef undef := LRel.tuple (LRel.nil ρ)

theorem VRel.oneC {ρ : Ren} {v v' : Value} (h : VRel ρ v v') : oneC v' = oneC v := by
  cases h <;> simp [Go.DI.oneC]
theorem vcells_rel {ρ : Ren} {v v' : Value} (h : VRel ρ v v') : LRel ρ (vcells v) v'.cells.toList := by
  cases h with
  | agg hs h _ => exact ⟨by simpa [vcells, Value.cells] using hs, by simpa [vcells, Value.cells] using h⟩
  | flat h =>
    cases v <;> simp [flat1] at h <;> exact LRel.cons (.flat (by simp [flat1, h])) (LRel.nil ρ)
  | ptr h => exact LRel.cons (.ptr h) (LRel.nil ρ)
  | slice h hn hl hm => exact LRel.cons (.slice h hn hl hm) (LRel.nil ρ)
  | tuple hs h => exact LRel.cons (.tuple hs h) (LRel.nil ρ)
  | func hs h hs2 h2 => exact LRel.cons (.func hs h hs2 h2) (LRel.nil ρ)
  | iface h => exact LRel.cons (.iface h) (LRel.nil ρ)
  | map h => exact LRel.cons (.map h) (LRel.nil ρ)

theorem vcells_one {ρ : Ren} {v v' : Value} (h : VRel ρ v v') (hn : notTup v = true) : ∀ x ∈ vcells v, oneC x = true := by
  intro x hx
  cases h with
  | agg hs h h1 => exact h1 x hx
  | flat h => cases v <;> simp [flat1, vcells] at h hx <;> subst hx <;> rfl
  | ptr h => simp [vcells] at hx; subst hx; rfl
  | slice h hn hl hm => simp [vcells] at hx; subst hx; rfl
  | tuple hs h => simp [notTup] at hn
  | func hs h hs2 h2 => simp [vcells] at hx; subst hx; rfl
  | iface h => simp [vcells] at hx; subst hx; rfl
  | map h => simp [vcells] at hx; subst hx; rfl
theorem VRel.agg_one {ρ : Ren} {xs : Array Value} {v : Value} (h : VRel ρ (.agg xs) v) : ∀ x ∈ xs.toList, Go.DI.oneC x = true := by
  cases h with
  | flat h => simp [flat1] at h
  | agg hs h h1 => exact h1

/-! inversions -/
theorem VRel.inv_int {ρ : Ren} {k : IntKind} {n : Int} {v : Value} (h : VRel ρ (.int k n) v) : v = .int k n := by cases h; rfl
theorem VRel.inv_bool {ρ : Ren} {b : Bool} {v : Value} (h : VRel ρ (.bool b) v) : v = .bool b := by cases h; rfl
theorem VRel.inv_string {ρ : Ren} {s : ByteArray} {v : Value} (h : VRel ρ (.string s) v) : v = .string s := by cases h; rfl
theorem VRel.inv_ptr {ρ : Ren} {a : Addr} {v : Value} (h : VRel ρ (.pointer (some a)) v) : ∃ l, ρ a.block = some l ∧ a.spot = none ∧ v = .pointer (some ⟨l.c, l.o + a.off, none⟩) := by
  cases h with
  | flat h => simp [flat1] at h
  | ptr h => exact ⟨_, h, rfl, rfl⟩
theorem VRel.inv_slice {ρ : Ren} {a : Addr} {len z : Nat} {v : Value} (h : VRel ρ (.slice (some a) len z) v) :
    ∃ l a' cap, ρ a.block = some l ∧ a.spot = none ∧ v = .slice (some a') len cap ∧ ((cap = 0 ∧ len = 0) ∨ (a' = ⟨l.c, l.o + a.off, none⟩ ∧ a.off + cap * z ≤ l.n)) ∧ len ≤ cap ∧ cap ≤ maxLen := by
  cases h with
  | flat h => simp [flat1] at h
  | slice h hn hl hm => exact ⟨_, _, _, h, rfl, rfl, hn, hl, hm⟩
theorem VRel.inv_agg {ρ : Ren} {xs : Array Value} {v : Value} (h : VRel ρ (.agg xs) v) : ∃ ys, v = .agg ys ∧ LRel ρ xs.toList ys.toList := by
  cases h with
  | flat h => simp [flat1] at h
  | agg hs h _ => exact ⟨_, rfl, by simpa using hs, by simpa using h⟩
theorem VRel.inv_tuple {ρ : Ren} {xs : Array Value} {v : Value} (h : VRel ρ (.tuple xs) v) : ∃ ys, v = .tuple ys ∧ LRel ρ xs.toList ys.toList := by
  cases h with
  | flat h => simp [flat1] at h
  | tuple hs h => exact ⟨_, rfl, by simpa using hs, by simpa using h⟩
theorem VRel.inv_func {ρ : Ren} {fn : Fn} {xs cs : Array Value} {v : Value} (h : VRel ρ (.func fn xs cs) v) : ∃ ys ds, v = .func fn ys ds ∧ LRel ρ xs.toList ys.toList ∧ LRel ρ cs.toList ds.toList := by
  cases h with
  | flat h => simp [flat1] at h
  | func hs h hs2 h2 => exact ⟨_, _, rfl, ⟨by simpa using hs, by simpa using h⟩, by simpa using hs2, by simpa using h2⟩
theorem VRel.inv_iface {ρ : Ren} {t : TypeId} {x v : Value} (h : VRel ρ (.iface t x) v) : ∃ y, v = .iface t y ∧ VRel ρ x y := by
  cases h with
  | flat h => simp [flat1] at h
  | iface h => exact ⟨_, rfl, h⟩
theorem VRel.inv_map {ρ : Ren} {b : Nat} {v : Value} (h : VRel ρ (.map (some b)) v) : ∃ l, ρ b = some l ∧ v = .map (some l.c) := by
  cases h with
  | flat h => simp [flat1] at h
  | map h => exact ⟨_, h, rfl⟩
theorem VRel.inv_flat {ρ : Ren} {v v' : Value} (h : VRel ρ v v') (hf : flat1 v = true) : v' = v := by
  cases h <;> first | rfl | simp [flat1] at hf

/-! slots -/
structure SRel (ρ : Ren) (nt : Nat) (σ : Slots) (a : Act) : Prop where
  size : a.tmps.size = nt
  defers : a.defers = []
  rel : ∀ t, VRel ρ (σ t) (a.tmps.getD t undef)
theorem SRel.mono {ρ ρ' : Ren} (hle : RenLe ρ ρ') {nt : Nat} {σ : Slots} {a : Act} (h : SRel ρ nt σ a) : SRel ρ' nt σ a := ⟨h.size, h.defers, fun t => (h.rel t).mono hle⟩
theorem SRel.ev {ρ : Ren} {nt : Nat} {σ : Slots} {a : Act} (h : SRel ρ nt σ a) {x : Operand} (hx : argOk x = true) : VRel ρ (ev σ x) (a.eval x) := by
  cases x with
  | tmp t => exact h.rel t
  | const v => exact VRel.flatV ρ hx
  | func f => exact .func rfl (by intro i x y h; simp at h) rfl (by intro i x y h; simp at h)
  | global g => simp [argOk] at hx
theorem SRel.put {ρ : Ren} {nt : Nat} {σ : Slots} {a : Act} (h : SRel ρ nt σ a) {d : Option Nat} (hd : d.all (fun d => decide (d < nt)) = true) {v v' : Value} (hv : VRel ρ v v') : SRel ρ nt (putD σ d v) (a.put d v') := by
  cases d with
  | none => exact h
  | some d =>
    have hd' : d < nt := by simpa using hd
    refine ⟨by simp [Act.put, h.size], h.defers, fun t => ?_⟩
    simp only [putD, upd, Act.put]
    by_cases e : t = d
    · subst e
      have : t < a.tmps.size := by rw [h.size]; exact hd'
      simpa [this] using hv
    · have := h.rel t
      simp only [Array.getD_eq_getD_getElem?] at this ⊢
      rw [Array.getElem?_setIfInBounds_ne (Ne.symm e)]
      simpa [e] using this

/-! memory -/
/-- the entries of a map -/
def ERel (ρ : Ren) (es : List (Value × Value)) (es' : List MapEntry) : Prop := es.length = es'.length ∧ ∀ (i : Nat) e e', es[i]? = some e → es'[i]? = some e' → flat1 e.1 = true ∧ e'.key = e.1 ∧ oneC e.2 = true ∧ VRel ρ e.2 e'.val
theorem ERel.mono {ρ ρ' : Ren} (hle : RenLe ρ ρ') {es : List (Value × Value)} {es' : List MapEntry} (h : ERel ρ es es') : ERel ρ' es es' :=
  ⟨h.1, fun i e e' h1 h2 => by obtain ⟨a, b, c, d⟩ := h.2 i e e' h1 h2; exact ⟨a, b, c, d.mono hle⟩⟩
theorem Mem.getM_get {m : Mem} {b : Nat} {es : List (Value × Value)} (h : m.getM b = some es) : m.get b = some ⟨[], true⟩ ∧ m.mp b = some es := by
  unfold Mem.getM at h
  split at h
  · rename_i hg; exact ⟨hg, h⟩
  · cases h
theorem Mem.getM_of {m : Mem} {b : Nat} {es : List (Value × Value)} (h1 : m.get b = some ⟨[], true⟩) (h2 : m.mp b = some es) : m.getM b = some es := by
  unfold Mem.getM; rw [h1]; exact h2
structure MRel (B : Nat) (ρ : Ren) (m : Mem) (w : World) : Prop where
  dom : ∀ b l, ρ b = some l → b < m.next
  inb : ∀ b l, ρ b = some l → l.c < w.heap.size
  live : ∀ b x, m.get b = some x → ∃ l, ρ b = some l ∧ x.cells.length ≤ l.n ∧ (∀ i v, x.cells[i]? = some v → oneC v = true ∧ ∃ v', w.cell? ⟨l.c, l.o + i, none⟩ = some v' ∧ VRel ρ v v') ∧
    (x.own = true → B ≤ l.c ∧ ∀ i, i < l.n → (w.cell? ⟨l.c, l.o + i, none⟩).isSome = true ∧ w.frozen? ⟨l.c, l.o + i, none⟩ = false)
  excl : ∀ b x b' x' l l', m.get b = some x → x.own = true → m.get b' = some x' → b ≠ b' → ρ b = some l → ρ b' = some l' → l.c ≠ l'.c
  mdom : ∀ b es, m.mp b = some es → ∃ l, ρ b = some l
  maps : ∀ b es, m.getM b = some es → ∃ l es' clock, ρ b = some l ∧ B ≤ l.c ∧ w.heap[l.c]? = some (.map es' clock) ∧ ERel ρ es es'.toList

theorem Mem.get_lt {m : Mem} {b : Nat} {x : Blk} (h : m.get b = some x) : b < m.next := by
  unfold Mem.get at h
  split at h
  · assumption
  · cases h
theorem Mem.get_put (m : Mem) (b b' : Nat) (x : Option Blk) : (m.put b x).get b' = if b' = b then (if b < m.next then x else none) else m.get b' := by
  unfold Mem.get Mem.put
  by_cases h : b' = b
  · subst h; simp
  · simp [h]
theorem Mem.zqn (m : Mem) (k b : Nat) : (m.bump k).get b = m.get b := by
  unfold Mem.get Mem.bump
  by_cases h : b < m.next
  · simp [h, Nat.lt_of_lt_of_le h (Nat.le_add_right _ _)]
  · simp [h]
theorem Mem.put_next (m : Mem) (b : Nat) (x : Option Blk) : (m.put b x).next = m.next := rfl
theorem Mem.bump_next (m : Mem) (k : Nat) : (m.bump k).next = m.next + k := rfl

theorem MRel.bump {B : Nat} {ρ : Ren} {m : Mem} {w : World} (h : MRel B ρ m w) (k : Nat) : MRel B ρ (m.bump k) w :=
  ⟨fun b l hb => Nat.lt_of_lt_of_le (h.dom b l hb) (by simp [Mem.bump_next]), h.inb, fun b x hx => h.live b x (by rwa [Mem.zqn] at hx),
   fun b x b' x' l l' h1 h2 h3 => h.excl b x b' x' l l' (by rwa [Mem.zqn] at h1) h2 (by rwa [Mem.zqn] at h3),
   h.mdom, fun b es hb => by
    obtain ⟨g1, g2⟩ := Mem.getM_get hb
    rw [Mem.zqn] at g1
    exact h.maps b es (Mem.getM_of g1 g2)⟩
/-- the world may draw -/
theorem MRel.world {B : Nat} {ρ : Ren} {m : Mem} {w w' : World} (h : MRel B ρ m w) (hh : w'.heap = w.heap) : MRel B ρ m w' := by
  have hc : ∀ a, w'.cell? a = w.cell? a := fun a => by simp [World.cell?, hh]
  have hf : ∀ a, w'.frozen? a = w.frozen? a := fun a => by simp [World.frozen?, hh]
  exact ⟨h.dom, by rw [hh]; exact h.inb, fun b x hx => by simpa only [hc, hf] using h.live b x hx, h.excl, h.mdom, fun b es hb => by rw [hh]; exact h.maps b es hb⟩

end Go.DI
namespace Go.DI
open Go Go.RowKit

def Yields (P : Program) (o : Oper) (a : Act) (w : World) (v : Value) (w' : World) : Prop :=
  (execOp a.eval o).run P w = .ok (.value v) w' ∨ ((execOp a.eval o).run P w = .ok .skip w' ∧ v = undef)

section
variable {P : Program} {o : Oper} {a : Act} {w : World}

theorem y_move {x : Operand} (hop : o.op = .move x) : Yields P o a w (a.eval x) w := .inl (by simp [execOp, hop])
theorem y_assign {x : Operand} (hop : o.op = .assign x) : Yields P o a w (a.eval x) w := .inl (by simp [execOp, hop])
theorem y_pick {c x y : Operand} {b : Bool} (hop : o.op = .pick c x y) (hc : a.eval c = .bool b) : Yields P o a w (if b then a.eval x else a.eval y) w :=
  .inl (by simp [execOp, hop, hc, asBool])
theorem y_nilck {x : Operand} (hop : o.op = .nilCheck x) (hx : isNotNil (a.eval x) = true) : Yields P o a w (a.eval x) w := by
  refine .inl ?_
  simp only [execOp, hop]
  generalize a.eval x = v at hx
  cases v <;> simp_all [isNotNil]
  · rename_i p; cases p <;> simp_all
  · rename_i fn _ _; cases fn <;> simp_all
theorem y_bin {op : BinOp} {t yt : TypeId} {x y : Operand} {v : Value} (hop : o.op = .binOp op t x y yt) (hg : (eqGuard op t x y (a.eval x) (a.eval y)).run P w = .ok () w)
    (h : (binOp op t (a.eval x) (a.eval y)).run P w = .ok v w) : Yields P o a w v w :=
  .inl (by simp [execOp, hop, hg, h])
theorem y_un {op : UnOp} {t : TypeId} {x : Operand} (hop : o.op = .unOp op t x) (hx : unOk op (a.eval x) = true) : Yields P o a w (unV op (a.eval x)) w := by
  refine .inl ?_
  simp only [execOp, hop]
  generalize a.eval x = v at hx
  cases op <;> cases v <;> simp_all [unOk, unV, Op.unary, Op.intArith]
theorem y_ext {x : Operand} {i : Nat} {vs : Array Value} (hop : o.op = .extract x i) (hx : a.eval x = .tuple vs) (hi : i < vs.size) : Yields P o a w (tupAt (a.eval x) i) w := by
  refine .inl ?_
  simp [execOp, hop, hx, Instr.extract, hi, tupAt]
theorem y_convI {s d : TypeId} {k k0 k1 : IntKind} {n : Int} {x : Operand} (hop : o.op = .convert s d x) (hs : P.underlying s = some (.int k0)) (hd : P.underlying d = some (.int k)) (hx : a.eval x = .int k1 n) :
    Yields P o a w (.int k (k.wrap n)) w := by
  refine .inl ?_
  simp [execOp, hop, hx, convert, underlying, hs, hd, Conv.intToInt]
theorem y_convId {s d : TypeId} {b : ByteArray} {x : Operand} (hop : o.op = .convert s d x) (hs : P.underlying s = some .string) (hd : P.underlying d = some .string) (hx : a.eval x = .string b) :
    Yields P o a w (.string b) w := by
  refine .inl ?_
  simp [execOp, hop, hx, convert, underlying, hs, hd]
theorem y_mkfunc {fn : Fn} {x y : Array Operand} (hop : o.op = .makeFunc fn x y) : Yields P o a w (.func fn (x.map a.eval) (y.map a.eval)) w :=
  .inl (by simp [execOp, hop, Instr.makeFunc])
theorem y_faddr {s : TypeId} {x : Operand} {i : Nat} {fs : Array Field} {f : Field} {inf : TypeInfo} {c off : Nat} (hop : o.op = .fieldAddr s x i) (hs : P.underlying s = some (.struct fs)) (hf : fs[i]? = some f)
    (hi : P.info? f.type = some inf) (hn : 0 < inf.size) (hx : a.eval x = .pointer (some ⟨c, off, none⟩)) : Yields P o a w (.pointer (some ⟨c, off + f.offset, none⟩)) w := by
  refine .inl ?_
  have : inf.size ≠ 0 := by omega
  simp [execOp, hop, hx, Instr.fieldAt, underlying, hs, hf, Instr.sureAddr, fieldPlace, sizeOf, typeInfo, hi, this, Addr.add]
theorem y_iaddr {t e : TypeId} {x i : Operand} {inf : TypeInfo} {c off len cap : Nat} {k : IntKind} {n : Int} (hop : o.op = .indexAddr t x i) (ht : P.underlying t = some (.slice e))
    (hi : P.info? e = some inf) (hx : a.eval x = .slice (some ⟨c, off, none⟩) len cap) (hn : a.eval i = .int k n) (h0 : 0 ≤ n) (h1 : n < (len : Int)) :
    Yields P o a w (.pointer (some ⟨c, off + n.toNat * inf.size, none⟩)) w := by
  refine .inl ?_
  simp [execOp, hop, hx, hn, Instr.indexAt, asIntOf, underlying, ht, sizeOf, typeInfo, hi, h0, h1, Addr.add]
theorem y_iaddrA {t e : TypeId} {x i : Operand} {inf : TypeInfo} {c off len : Nat} {k : IntKind} {n : Int} (hop : o.op = .indexAddr t x i) (ht : P.underlying t = some (.array len e))
    (hi : P.info? e = some inf) (hx : a.eval x = .pointer (some ⟨c, off, none⟩)) (hn : a.eval i = .int k n) (h0 : 0 ≤ n) (h1 : n < (len : Int)) :
    Yields P o a w (.pointer (some ⟨c, off + n.toNat * inf.size, none⟩)) w := by
  refine .inl ?_
  simp [execOp, hop, hx, hn, Instr.indexAt, asIntOf, underlying, ht, sizeOf, typeInfo, hi, h0, h1, Addr.add, Instr.sureAddr]
theorem y_idxStr {t : TypeId} {x i : Operand} {s : ByteArray} {k : IntKind} {n : Int} (hop : o.op = .index t x i) (ht : P.underlying t = some .string)
    (hx : a.eval x = .string s) (hn : a.eval i = .int k n) (h0 : 0 ≤ n) (h1 : n < (s.size : Int)) :
    Yields P o a w (.int .u8 ((s.data.toList.getD n.toNat 0).toNat : Nat)) w := by
  refine .inl ?_
  have h2 : n.toNat < s.size := by omega
  have h3 : s[n.toNat]? = some (s.data.toList.getD n.toNat 0) := by
    rw [getElem?_pos s n.toNat h2]
    have : n.toNat < s.data.size := h2
    simp only [List.getD_eq_getElem?_getD, Array.getElem?_toList, Array.getElem?_eq_getElem this, Option.getD_some]
    rfl
  simp [execOp, hop, hx, hn, Instr.index, asIntOf, underlying, ht, h0, h3]
theorem y_lenS {c : Call} {x : Operand} {t : TypeId} {s : ByteArray} (hop : o.op = .call c) (hc : c.callee = .builtin .len) (ha : c.args.toList = [x]) (hT : c.argTypes.toList = [t])
    (ht : P.underlying t = some .string) (hx : a.eval x = .string s) : Yields P o a w (.int .i64 s.size) w := by
  refine .inl ?_
  have ha' : c.args = #[x] := by rw [← Array.toArray_toList (xs := c.args), ha]
  have hT' : c.argTypes = #[t] := by rw [← Array.toArray_toList (xs := c.argTypes), hT]
  simp [execOp, hop, resolve, hc, ha', hT', invoke, builtin, Builtin.len_, underlying, ht, hx, goInt]
theorem y_lenV {c : Call} {x : Operand} {t e : TypeId} {p : Option Addr} {l cap : Nat} (hop : o.op = .call c) (hc : c.callee = .builtin .len) (ha : c.args.toList = [x]) (hT : c.argTypes.toList = [t])
    (ht : P.underlying t = some (.slice e)) (hx : a.eval x = .slice p l cap) : Yields P o a w (.int .i64 l) w := by
  refine .inl ?_
  have ha' : c.args = #[x] := by rw [← Array.toArray_toList (xs := c.args), ha]
  have hT' : c.argTypes = #[t] := by rw [← Array.toArray_toList (xs := c.argTypes), hT]
  simp [execOp, hop, resolve, hc, ha', hT', invoke, builtin, Builtin.len_, underlying, ht, hx, goInt]
end

end Go.DI
namespace Go.DI
open Go Go.RowKit

section
variable {P : Program} {w : World}

theorem run_eqIn_bool {t : TypeId} (d : Nat) (h : P.underlying t = some .bool) (a b : Bool) : (Op.equalIn (d + 1) t (.bool a) (.bool b)).run P w = .ok (a == b) w := by
  simp [Op.equalIn, run_underlying h]
theorem run_eqIn_ptr {t e : TypeId} (d : Nat) (h : P.underlying t = some (.pointer e)) (p q : Option Addr) (hpq : p = none ∨ q = none) : (Op.equalIn (d + 1) t (.pointer p) (.pointer q)).run P w = .ok (p.isNone && q.isNone) w := by
  rcases hpq with rfl | rfl
  · simp [Op.equalIn, run_underlying h]
  · cases p <;> simp [Op.equalIn, run_underlying h]
theorem run_eqIn_slice {t e : TypeId} (d : Nat) (h : P.underlying t = some (.slice e)) (p q : Option Addr) (l c l' c' : Nat) (hpq : p = none ∨ q = none) : (Op.equalIn (d + 1) t (.slice p l c) (.slice q l' c')).run P w = .ok (p.isNone && q.isNone) w := by
  rcases hpq with rfl | rfl
  · simp [Op.equalIn, run_underlying h]
  · cases p <;> simp [Op.equalIn, run_underlying h]
theorem run_eqIn_fn {t : TypeId} {as bs : Array TypeId} {vd : Bool} (d : Nat) (h : P.underlying t = some (.func as bs vd)) (x y : Value)
    (hxy : (x = .nilFunc ∧ y = .nilFunc) ∨ (x = .nilFunc ∧ ∃ a b c, y = .func a b c) ∨ (y = .nilFunc ∧ ∃ a b c, x = .func a b c)) : (Op.equalIn (d + 1) t x y).run P w = .ok (isNilV x && isNilV y) w := by
  rcases hxy with ⟨rfl, rfl⟩ | ⟨rfl, _, _, _, rfl⟩ | ⟨rfl, _, _, _, rfl⟩ <;> simp [Op.equalIn, run_underlying h, isNilV]
theorem run_equal_bool {t : TypeId} (h : P.underlying t = some .bool) (a b : Bool) : (Op.equal t (.bool a) (.bool b)).run P w = .ok (a == b) w := run_eqIn_bool 9999 h a b
theorem run_equal_ptr {t e : TypeId} (h : P.underlying t = some (.pointer e)) (p q : Option Addr) (hpq : p = none ∨ q = none) : (Op.equal t (.pointer p) (.pointer q)).run P w = .ok (p.isNone && q.isNone) w := run_eqIn_ptr 9999 h p q hpq
theorem run_equal_slice {t e : TypeId} (h : P.underlying t = some (.slice e)) (p q : Option Addr) (l c l' c' : Nat) (hpq : p = none ∨ q = none) : (Op.equal t (.slice p l c) (.slice q l' c')).run P w = .ok (p.isNone && q.isNone) w := run_eqIn_slice 9999 h p q l c l' c' hpq
theorem run_equal_fn {t : TypeId} {as bs : Array TypeId} {vd : Bool} (h : P.underlying t = some (.func as bs vd)) (x y : Value)
    (hxy : (x = .nilFunc ∧ y = .nilFunc) ∨ (x = .nilFunc ∧ ∃ a b c, y = .func a b c) ∨ (y = .nilFunc ∧ ∃ a b c, x = .func a b c)) : (Op.equal t x y).run P w = .ok (isNilV x && isNilV y) w := run_eqIn_fn 9999 h x y hxy

theorem tyC_bool {t : TypeId} (h : tyC P t = .bool) : P.underlying t = some .bool := by
  unfold tyC at h; split at h <;> first | assumption | cases h
theorem tyC_ptr {t : TypeId} (h : tyC P t = .ptr) : ∃ e, P.underlying t = some (.pointer e) := by
  unfold tyC at h; split at h <;> first | exact ⟨_, by assumption⟩ | cases h
theorem tyC_slice {t : TypeId} (h : tyC P t = .slice) : ∃ e, P.underlying t = some (.slice e) := by
  unfold tyC at h; split at h <;> first | exact ⟨_, by assumption⟩ | cases h
theorem tyC_fn {t : TypeId} (h : tyC P t = .fn) : ∃ a b c, P.underlying t = some (.func a b c) := by
  unfold tyC at h; split at h <;> first | exact ⟨_, _, _, by assumption⟩ | cases h

theorem run_guard {op : BinOp} {t : TypeId} {x y : Operand} {u v : Value} (h1 : u ≠ .nilIface) (h2 : isAggV u = false) : (eqGuard op t x y u v).run P w = .ok () w := by
  unfold eqGuard
  by_cases hop : op = .eql ∨ op = .neq
  · rcases hop with rfl | rfl <;> simp <;> cases u <;> simp_all [isAggV]
  · cases op <;> simp_all

theorem run_int {op : BinOp} {t : TypeId} {k k' : IntKind} {a b : Int} (h : intBinOk op k k' a b = true) : (binOp op t (.int k a) (.int k' b)).run P w = .ok (intBin op k a b) w := by
  cases op <;> simp_all [intBinOk, binOp, intBin, Op.intArith, Op.intDiv, Op.intBits, Op.intCmp, Op.shift] <;> first | rfl | (intro h'; omega)
theorem toList_beq (a b : ByteArray) : (a.toList == b.toList) = decide (a = b) := by
  rw [Bool.eq_iff_iff]
  simp only [ByteArray.toList_eq, beq_iff_eq, decide_eq_true_eq]
  constructor
  · intro h
    cases a; cases b
    simpa using h
  · rintro rfl; rfl
theorem run_str {op : BinOp} {t : TypeId} {a b : ByteArray} (h : strBinOk op a b = true) : (binOp op t (.string a) (.string b)).run P w = .ok (strBin op a b) w := by
  have e := toList_beq a b
  cases op <;> simp_all [strBinOk, binOp, strBin, Op.stringOp]
  omega

theorem binOp_eql {op : BinOp} (hopc : op = .eql ∨ op = .neq) {t : TypeId} {u v : Value} (hu : isI u = false) (hs : isStr u = false) (hu2 : isPtr u = true → isI v = false) {r : Bool} (hf : (∀ k a b, u ≠ .complex k a b) ∧ ∀ k a, u ≠ .float k a)
    (h : (Op.equal t u v).run P w = .ok r w) : (binOp op t u v).run P w = .ok (.bool (if op = .eql then r else !r)) w := by
  rcases hopc with rfl | rfl <;> cases u <;> simp_all [isI, isStr, binOp]

theorem run_eqV {op : BinOp} {t : TypeId} {ρ : Ren} {u v u' v' : Value} (hopc : op = .eql ∨ op = .neq) (hok : eqOk (tyC P t) u v = true) (hu : VRel ρ u u') (hv : VRel ρ v v') :
    (binOp op t u' v').run P w = .ok (binV op u v) w ∧ u' ≠ .nilIface ∧ isAggV u' = false := by
  unfold eqOk at hok
  split at hok
  · rename_i hT
    have := hu.inv_bool; subst this
    have := hv.inv_bool; subst this
    refine ⟨?_, by simp, rfl⟩
    rw [binOp_eql hopc rfl rfl (by simp [isPtr]) (by simp) (run_equal_bool (tyC_bool hT) _ _)]
    rcases hopc with rfl | rfl <;> simp [binV, eqV]
  · rename_i p hT
    obtain ⟨e, he⟩ := tyC_ptr hT
    have := hu.inv_flat rfl; subst this
    have hv2 : ∃ q, v' = .pointer q ∧ q.isNone = p.isNone := by
      cases p with
      | none => exact ⟨none, hv.inv_flat rfl, rfl⟩
      | some a => obtain ⟨l, _, _, h⟩ := hv.inv_ptr; exact ⟨_, h, rfl⟩
    obtain ⟨q, rfl, hq⟩ := hv2
    refine ⟨?_, by simp, rfl⟩
    rw [binOp_eql hopc rfl rfl (by simp [isPtr]) (by simp) (run_equal_ptr he _ _ (.inl rfl))]
    cases p <;> rcases hopc with rfl | rfl <;> simp_all [binV, eqV, isNilV]
  · rename_i p _ hT
    obtain ⟨e, he⟩ := tyC_ptr hT
    have := hv.inv_flat rfl; subst this
    have hv2 : ∃ q, u' = .pointer q ∧ q.isNone = p.isNone := by
      cases p with
      | none => exact ⟨none, hu.inv_flat rfl, rfl⟩
      | some a => obtain ⟨l, _, _, h⟩ := hu.inv_ptr; exact ⟨_, h, rfl⟩
    obtain ⟨q, rfl, hq⟩ := hv2
    refine ⟨?_, by simp, rfl⟩
    rw [binOp_eql hopc rfl rfl (by simp [isI]) (by simp) (run_equal_ptr he _ _ (.inr rfl))]
    cases p <;> rcases hopc with rfl | rfl <;> simp_all [binV, eqV, isNilV]
  · rename_i l1 c1 p l2 c2 hT
    obtain ⟨e, he⟩ := tyC_slice hT
    have hu2 : u' = .slice none l1 c1 := by cases hu with | flat h => rfl
    subst hu2
    have hv2 : ∃ q l c, v' = .slice q l c ∧ q.isNone = p.isNone := by
      cases p with
      | none => cases hv with | flat h => exact ⟨_, _, _, rfl, rfl⟩
      | some a => obtain ⟨l, a', cap, _, _, h, _⟩ := hv.inv_slice; exact ⟨_, _, _, h, rfl⟩
    obtain ⟨q, l, c, rfl, hq⟩ := hv2
    refine ⟨?_, by simp, rfl⟩
    rw [binOp_eql hopc rfl rfl (by simp [isPtr]) (by simp) (run_equal_slice he _ _ _ _ _ _ (.inl rfl))]
    cases p <;> rcases hopc with rfl | rfl <;> simp_all [binV, eqV, isNilV]
  · rename_i p l1 c1 l2 c2 _ hT
    obtain ⟨e, he⟩ := tyC_slice hT
    have hv2 : v' = .slice none l2 c2 := by cases hv with | flat h => rfl
    subst hv2
    have hu2 : ∃ q l c, u' = .slice q l c ∧ q.isNone = p.isNone := by
      cases p with
      | none => cases hu with | flat h => exact ⟨_, _, _, rfl, rfl⟩
      | some a => obtain ⟨l, a', cap, _, _, h, _⟩ := hu.inv_slice; exact ⟨_, _, _, h, rfl⟩
    obtain ⟨q, l, c, rfl, hq⟩ := hu2
    refine ⟨?_, by simp, rfl⟩
    rw [binOp_eql hopc rfl rfl (by simp [isPtr]) (by simp) (run_equal_slice he _ _ _ _ _ _ (.inr rfl))]
    cases p <;> rcases hopc with rfl | rfl <;> simp_all [binV, eqV, isNilV]
  · rename_i hT
    obtain ⟨a, b, c, he⟩ := tyC_fn hT
    have := hu.inv_flat rfl; subst this
    have := hv.inv_flat rfl; subst this
    refine ⟨?_, by simp, rfl⟩
    rw [binOp_eql hopc rfl rfl (by simp [isPtr]) (by simp) (run_equal_fn he _ _ (.inl ⟨rfl, rfl⟩))]
    rcases hopc with rfl | rfl <;> simp [binV, eqV, isNilV]
  · rename_i hT
    obtain ⟨a, b, c, he⟩ := tyC_fn hT
    have := hu.inv_flat rfl; subst this
    obtain ⟨ys, ds, rfl, _⟩ := hv.inv_func
    refine ⟨?_, by simp, rfl⟩
    rw [binOp_eql hopc rfl rfl (by simp [isPtr]) (by simp) (run_equal_fn he _ _ (.inr (.inl ⟨rfl, _, _, _, rfl⟩)))]
    rcases hopc with rfl | rfl <;> simp [binV, eqV, isNilV]
  · rename_i hT
    obtain ⟨a, b, c, he⟩ := tyC_fn hT
    have := hv.inv_flat rfl; subst this
    obtain ⟨ys, ds, rfl, _⟩ := hu.inv_func
    refine ⟨?_, by simp, rfl⟩
    rw [binOp_eql hopc rfl rfl (by simp [isPtr]) (by simp) (run_equal_fn he _ _ (.inr (.inr ⟨rfl, _, _, _, rfl⟩)))]
    rcases hopc with rfl | rfl <;> simp [binV, eqV, isNilV]
  · cases hok

theorem eqOk_not {c : TyC} {u v : Value} (h : eqOk c u v = true) : isI u = false ∧ isStr u = false := by
  unfold eqOk at h
  split at h <;> first | exact ⟨rfl, rfl⟩ | cases h

/-- the one theorem on '+', '==' .. -/
theorem y_binV {o : Oper} {a : Act} {op : BinOp} {t yt : TypeId} {x y : Operand} {ρ : Ren} {u v : Value} (hop : o.op = .binOp op t x y yt) (hx : VRel ρ u (a.eval x)) (hy : VRel ρ v (a.eval y))
    (hok : binOk op (tyC P t) u v = true) : ∃ v', Yields P o a w v' w ∧ VRel ρ (binV op u v) v' := by
  generalize hx' : a.eval x = u' at hx
  generalize hy' : a.eval y = v' at hy
  cases u with
  | int k n =>
    cases v <;> simp only [binOk] at hok
    case int k' n' =>
      have := hx.inv_int; subst this
      have := hy.inv_int; subst this
      refine ⟨intBin op k n n', y_bin hop (run_guard (by simp [hx']) (by simp [hx', isAggV])) (by rw [hx', hy']; exact run_int hok), ?_⟩
      simp only [binV]
      exact .flat (by cases op <;> rfl)
    all_goals (cases op <;> first | cases hok | (cases hc : tyC P t <;> simp [hc, eqOk] at hok))
  | string s =>
    cases v <;> simp only [binOk] at hok
    case string s' =>
      have := hx.inv_string; subst this
      have := hy.inv_string; subst this
      refine ⟨strBin op s s', y_bin hop (run_guard (by simp [hx']) (by simp [hx', isAggV])) (by rw [hx', hy']; exact run_str hok), ?_⟩
      simp only [binV]
      exact .flat (by cases op <;> simp_all [strBin, strBinOk, flat1])
    all_goals (cases op <;> first | cases hok | (cases hc : tyC P t <;> simp [hc, eqOk] at hok))
  | _ =>
    simp only [binOk] at hok
    have hopc : op = .eql ∨ op = .neq := by cases op <;> first | exact .inl rfl | exact .inr rfl | cases hok
    have hok' := hok
    rcases hopc with rfl | rfl
    · obtain ⟨h1, h2, h3⟩ := run_eqV (w := w) (.inl rfl) hok' hx hy
      exact ⟨_, y_bin hop (run_guard (by rw [hx']; exact h2) (by rw [hx']; exact h3)) (by rw [hx', hy']; exact h1), .flat (by simp [binV, flat1])⟩
    · obtain ⟨h1, h2, h3⟩ := run_eqV (w := w) (.inr rfl) hok' hx hy
      exact ⟨_, y_bin hop (run_guard (by rw [hx']; exact h2) (by rw [hx']; exact h3)) (by rw [hx', hy']; exact h1), .flat (by simp [binV, flat1])⟩
end
end Go.DI
namespace Go.DI
open Go Go.RowKit

section
variable {P : Program} {w : World} {o : Oper} {a : Act}

/-- a slice expression's bound, as the model reads it -/
def BoundIs (x : Option Value) (dflt : Nat) (n : Nat) : Prop := (x = none ∧ n = dflt) ∨ ∃ (k : IntKind) (i : Int), x = some (.int k i) ∧ 0 ≤ i ∧ i.toNat = n

theorem run_bound {k : IntKind} {i : Int} {y n : Nat} {c : BoundsCode} (h0 : 0 ≤ i) (h1 : i.toNat = n) (h2 : n ≤ y) : (Instr.sliceBound (.int k i) y c).run P w = .ok n w := by
  have : i ≤ (y : Int) := by omega
  simp [Instr.sliceBound, asIntOf, h0, this, h1]

theorem run_bounds {isS : Bool} {len cap l h : Nat} {lo hi : Option Value} (hl : BoundIs lo 0 l) (hh : BoundIs hi len h) (h1 : l ≤ h) (h2 : h ≤ cap) :
    (Instr.sliceBounds isS len cap lo hi none).run P w = .ok (l, h, cap) w := by
  rcases hl with ⟨rfl, rfl⟩ | ⟨k, i, rfl, hi0, hi1⟩ <;> rcases hh with ⟨rfl, rfl⟩ | ⟨k', i', rfl, hj0, hj1⟩
  · simp [Instr.sliceBounds]
  · simp [Instr.sliceBounds, run_bound hj0 hj1 h2]
  · simp [Instr.sliceBounds, run_bound hi0 hi1 h1]
  · simp [Instr.sliceBounds, run_bound hj0 hj1 h2, run_bound hi0 hi1 h1]

theorem y_sliceStr {t : TypeId} {x : Operand} {lo hi : Option Operand} {s : ByteArray} {l h : Nat} (hop : o.op = .slice t x lo hi none) (ht : P.underlying t = some .string) (hx : a.eval x = .string s)
    (hl : BoundIs (lo.map a.eval) 0 l) (hh : BoundIs (hi.map a.eval) s.size h) (h1 : l ≤ h) (h2 : h ≤ s.size) : Yields P o a w (.string (s.extract l h)) w := by
  refine .inl ?_
  simp [execOp, hop, hx, Instr.sliceAt, Instr.slice, run_underlying ht, run_bounds hl hh h1 h2]

theorem y_sliceS {t e : TypeId} {x : Operand} {lo hi : Option Operand} {p : Option Addr} {len cap : Nat} {inf : TypeInfo} {l h : Nat} (hop : o.op = .slice t x lo hi none) (ht : P.underlying t = some (.slice e)) (hi' : P.info? e = some inf)
    (hx : a.eval x = .slice p len cap) (hl : BoundIs (lo.map a.eval) 0 l) (hh : BoundIs (hi.map a.eval) len h) (h1 : l ≤ h) (h2 : h ≤ cap) :
    Yields P o a w (.slice (if cap = l then p else p.map (·.add (l * inf.size))) (h - l) (cap - l)) w := by
  refine .inl ?_
  simp [execOp, hop, hx, Instr.sliceAt, Instr.slice, run_underlying ht, run_bounds hl hh h1 h2, sizeOf, typeInfo, hi']

theorem y_sliceA {t e : TypeId} {x : Operand} {ad : Addr} {n : Nat} {inf : TypeInfo} (hop : o.op = .slice t x none none none) (ha : P.underlying t = some (.array n e)) (hi' : P.info? e = some inf)
    (hx : a.eval x = .pointer (some ad)) : Yields P o a w (.slice (some (if n = 0 then ad else ad.add (0 * inf.size))) (n - 0) (n - 0)) w := by
  refine .inl ?_
  have hb := run_bounds (P := P) (w := w) (isS := false) (len := n) (cap := n) (l := 0) (h := n) (lo := none) (hi := none) (.inl ⟨rfl, rfl⟩) (.inl ⟨rfl, rfl⟩) (Nat.zero_le _) (Nat.le_refl _)
  simp [execOp, hop, hx, Instr.sliceAt, Instr.sureAddr, run_underlying ha, hb, sizeOf, typeInfo, hi']

theorem run_bounds3 {isS : Bool} {len cap l h m : Nat} {lo : Option Value} {hi mx : Value} (hl : BoundIs lo 0 l) (hh : ∃ (k : IntKind) (i : Int), hi = .int k i ∧ 0 ≤ i ∧ i.toNat = h) (hm : ∃ (k : IntKind) (i : Int), mx = .int k i ∧ 0 ≤ i ∧ i.toNat = m) (h1 : l ≤ h) (h2 : h ≤ m) (h3 : m ≤ cap) :
    (Instr.sliceBounds isS len cap lo (some hi) (some mx)).run P w = .ok (l, h, m) w := by
  obtain ⟨k', i', rfl, hj0, hj1⟩ := hh
  obtain ⟨k2, i2, rfl, hm0, hm1⟩ := hm
  rcases hl with ⟨rfl, rfl⟩ | ⟨k, i, rfl, hi0, hi1⟩
  · simp [Instr.sliceBounds, run_bound hm0 hm1 h3, run_bound hj0 hj1 h2]
  · simp [Instr.sliceBounds, run_bound hm0 hm1 h3, run_bound hj0 hj1 h2, run_bound hi0 hi1 h1]
theorem y_sliceM {t e : TypeId} {x hi mx : Operand} {lo : Option Operand} {p : Option Addr} {len cap : Nat} {inf : TypeInfo} {l h m : Nat} (hop : o.op = .slice t x lo (some hi) (some mx)) (ht : P.underlying t = some (.slice e)) (hi' : P.info? e = some inf)
    (hx : a.eval x = .slice p len cap) (hl : BoundIs (lo.map a.eval) 0 l) (hh : ∃ (k : IntKind) (i : Int), a.eval hi = .int k i ∧ 0 ≤ i ∧ i.toNat = h) (hm : ∃ (k : IntKind) (i : Int), a.eval mx = .int k i ∧ 0 ≤ i ∧ i.toNat = m) (h1 : l ≤ h) (h2 : h ≤ m) (h3 : m ≤ cap) :
    Yields P o a w (.slice (if m = l then p else p.map (·.add (l * inf.size))) (h - l) (m - l)) w := by
  refine .inl ?_
  simp [execOp, hop, hx, Instr.sliceAt, Instr.slice, run_underlying ht, run_bounds3 hl hh hm h1 h2 h3, sizeOf, typeInfo, hi']

theorem boundIs_of {ρ : Ren} {nt : Nat} {σ : Slots} (hs : SRel ρ nt σ a) {x : Option Operand} (hx : optArgOk x = true) (hok : optOk σ x = true) (d : Nat) (h0 : 0 ≤ optI σ x d) : BoundIs (x.map a.eval) d (optI σ x d).toNat := by
  cases x with
  | none => exact .inl ⟨rfl, by simp [optI]⟩
  | some x =>
    have hr := hs.ev (x := x) hx
    simp only [optOk] at hok
    simp only [optI] at h0 ⊢
    cases hv : ev σ x <;> simp [hv, isI] at hok
    rw [hv] at hr
    refine .inr ⟨_, _, by simp [hr.inv_int]; exact ⟨rfl, rfl⟩, ?_, ?_⟩
    · simpa [hv, asI] using h0
    · simp [asI]

/-! structs and arrays -/
theorem foldl_blit (off : Nat) : ∀ (vs : List Value) (j : Nat) (cs : Array Value), ((vs.zipIdx j).foldl (fun cs (c, j) => cs.setIfInBounds (off + j) c) cs).toList = blit cs.toList (off + j) vs
  | [], _, _ => rfl
  | v :: vs, j, cs => by
    simp only [List.zipIdx_cons, List.foldl_cons, blit]
    rw [foldl_blit off vs (j + 1)]
    simp [Nat.add_assoc]
theorem foldl_blit' (off : Nat) (v : Value) (cs : Array Value) : (v.cells.zipIdx.foldl (fun cs (c, j) => cs.setIfInBounds (off + j) c) cs).toList = blit cs.toList off v.cells.toList := by
  have := foldl_blit off v.cells.toList 0 cs
  simp only [Nat.add_zero] at this
  rw [← this, ← Array.foldl_toList]
  simp [Array.toList_zipIdx]
theorem blit_length : ∀ (vs : List Value) (off : Nat) (cs : List Value), (blit cs off vs).length = cs.length
  | [], _, _ => rfl
  | v :: vs, off, cs => by simp only [blit]; rw [blit_length vs]; simp

theorem blit_all (p : Value → Prop) : ∀ (vs : List Value) (off : Nat) (cs : List Value), (∀ x ∈ cs, p x) → (∀ x ∈ vs, p x) → ∀ x ∈ blit cs off vs, p x
  | [], _, _, h, _ => h
  | v :: vs, off, cs, h, h2 => by
    simp only [blit]
    refine blit_all p vs _ _ (fun x hx => ?_) (fun x hx => h2 x (by simp [hx]))
    rcases List.mem_or_eq_of_mem_set hx with h3 | h3
    · exact h x h3
    · subst h3; exact h2 _ (by simp)

/-- a literal's parts, laid in -/
theorem fill_sound {ρ : Ren} {nt : Nat} {σ : Slots} (hs : SRel ρ nt σ a) (place : Nat → Option (Nat × Nat)) : ∀ (ps : List (Nat × Operand)) (qs : List (Nat × Nat × Operand)) (cs : List Value) (ds : Array Value),
    (ps.length = qs.length ∧ ∀ (i : Nat) p q, ps[i]? = some p → qs[i]? = some q → p.2 = q.2.2 ∧ argOk p.2 = true ∧ place p.1 = some (q.1, q.2.1)) →
    LRel ρ cs ds.toList → (∀ x ∈ cs, oneC x = true) → partsOk cs σ qs = true → ∃ ds' : Array Value, Instr.fill place ds (ps.map fun p => (p.1, a.eval p.2)) = some ds' ∧ LRel ρ (partsV cs σ qs) ds'.toList ∧ (∀ x ∈ partsV cs σ qs, oneC x = true)
  | [], [], cs, ds, _, hr, ho, _ => ⟨ds, rfl, hr, ho⟩
  | [], _ :: _, _, _, hpq, _, _, _ => by simp at hpq
  | _ :: _, [], _, _, hpq, _, _, _ => by simp at hpq
  | p :: ps, (q1, q2, q3) :: qs, cs, ds, hpq, hr, ho, hok => by
    obtain ⟨e1, e2, e3⟩ := hpq.2 0 p (q1, q2, q3) rfl rfl
    dsimp only at e1 e3
    simp only [partsOk, List.all_cons, Bool.and_eq_true, decide_eq_true_eq] at hok
    have hv := hs.ev (x := p.2) e2
    rw [e1] at hv
    have hc := vcells_rel hv
    have hl : (a.eval q3).cells.size = q2 := by have := hc.1; simp only [Array.length_toList] at this; rw [← this]; exact hok.1.1.2
    have hd : ds.size = cs.length := by have := hr.1; simp at this; exact this.symm
    have hr2 : LRel ρ (blit cs q1 (vcells (ev σ q3))) ((a.eval q3).cells.zipIdx.foldl (fun cs (c, j) => cs.setIfInBounds (q1 + j) c) ds).toList := by
      rw [foldl_blit']
      exact hr.blit _ hc
    have ho2 : ∀ x ∈ blit cs q1 (vcells (ev σ q3)), oneC x = true := blit_all (fun x => oneC x = true) _ _ _ ho (vcells_one hv hok.1.1.1)
    obtain ⟨ds', h1, h2, h3⟩ := fill_sound hs place ps qs _ _ ⟨by simpa using hpq.1, fun i x y hx hy => hpq.2 (i + 1) x y (by simpa using hx) (by simpa using hy)⟩ hr2 ho2 (by
      have h3 := hok.2
      simp only [partsOk, blit_length] at h3 ⊢
      exact h3)
    refine ⟨ds', ?_, by simpa only [partsV] using h2, by simpa only [partsV] using h3⟩
    simp only [List.map_cons, Instr.fill, e1, e3, hl, ne_eq, not_true_eq_false, decide_false, Bool.false_or]
    rw [if_neg (by simp; omega)]
    exact h1

theorem fieldParts_spec {fs : Array Field} : ∀ (ps : List (Nat × Operand)) (qs : List (Nat × Nat × Operand)), fieldParts P fs ps = some qs →
    ps.length = qs.length ∧ ∀ (i : Nat) p q, ps[i]? = some p → qs[i]? = some q → p.2 = q.2.2 ∧ argOk p.2 = true ∧ ∃ f inf, fs[p.1]? = some f ∧ P.info? f.type = some inf ∧ q.1 = f.offset ∧ q.2.1 = inf.size
  | [], qs, h => by simp [fieldParts] at h; subst h; simp
  | (j, x) :: ps, qs, h => by
    simp only [fieldParts] at h
    split at h
    · rename_i f hf
      split at h
      · rename_i n rs hn hrs
        split at h
        · rename_i hx
          cases h
          obtain ⟨h1, h2⟩ := fieldParts_spec ps rs hrs
          refine ⟨by simp [h1], fun i p q hp hq => ?_⟩
          cases i with
          | zero =>
            simp at hp hq
            subst hp; subst hq
            unfold tySize at hn
            cases hi : P.info? f.type with
            | none => simp [hi] at hn
            | some inf => exact ⟨rfl, hx, f, inf, hf, hi, rfl, by simpa [hi] using hn.symm⟩
          | succ i => exact h2 i p q (by simpa using hp) (by simpa using hq)
        · cases h
      · cases h
    · cases h

theorem elemParts_spec {z : Nat} : ∀ (ps : List (Nat × Operand)) (qs : List (Nat × Nat × Operand)), elemParts z ps = some qs →
    ps.length = qs.length ∧ ∀ (i : Nat) p q, ps[i]? = some p → qs[i]? = some q → p.2 = q.2.2 ∧ argOk p.2 = true ∧ q.1 = p.1 * z ∧ q.2.1 = z
  | [], qs, h => by simp [elemParts] at h; subst h; simp
  | (j, x) :: ps, qs, h => by
    simp only [elemParts] at h
    split at h
    · rename_i rs hrs
      split at h
      · rename_i hx
        cases h
        obtain ⟨h1, h2⟩ := elemParts_spec ps rs hrs
        refine ⟨by simp [h1], fun i p q hp hq => ?_⟩
        cases i with
        | zero => simp at hp hq; subst hp; subst hq; exact ⟨rfl, hx, rfl, rfl⟩
        | succ i => exact h2 i p q (by simpa using hp) (by simpa using hq)
      · cases h
    · cases h

theorem tyZero_spec {t : TypeId} {z : List Value} (h : tyZero P t = some z) : ∃ inf zv, P.info? t = some inf ∧ inf.zero = some zv ∧ zv.cells.toList = z ∧ z.all flat1 = true ∧ z.length = inf.size := by
  unfold tyZero at h
  split at h
  · rename_i inf hi
    split at h
    · rename_i zv hz
      simp only at h
      split at h
      · rename_i hc
        cases h
        simp only [Bool.and_eq_true, decide_eq_true_eq] at hc
        exact ⟨inf, zv, hi, hz, rfl, hc.1, hc.2⟩
      · cases h
    · cases h
  · cases h
theorem tySize_spec {t : TypeId} {n : Nat} (h : tySize P t = some n) : ∃ inf, P.info? t = some inf ∧ inf.size = n := by
  unfold tySize at h
  cases hi : P.info? t with
  | none => simp [hi] at h
  | some inf => exact ⟨inf, rfl, by simpa [hi] using h⟩
theorem tyAgg_spec {t : TypeId} {b : Bool} (h : tyAgg P t = some b) : (isAgg t).run P w = .ok b w := by
  unfold tyAgg at h
  unfold isAgg
  split at h <;> first | cases h | skip
  · rename_i hu; simp [run_underlying hu]
  · rename_i hu; simp [run_underlying hu]
  · rename_i d h1 h2 hu
    simp only [Sem.run_bind, run_underlying hu, Result.andThen_ok]
    rfl

theorem mapM_places (fs : List Field) (h : fs.all (fun f => (tySize P f.type).isSome) = true) :
    ∃ pl : List (Nat × Nat), (fs.mapM (m := Sem) fun (f : Field) => do pure (f.offset, ← sizeOf f.type)).run P w = .ok pl w ∧ ∀ i : Nat, pl[i]? = (fs[i]?).bind fun (f : Field) => (P.info? f.type).map fun inf => (f.offset, inf.size) := by
  induction fs with
  | nil => exact ⟨[], by simp, by simp⟩
  | cons f fs ih =>
    simp only [List.all_cons, Bool.and_eq_true] at h
    obtain ⟨pl, h1, h2⟩ := ih h.2
    obtain ⟨n, hn⟩ := Option.isSome_iff_exists.1 h.1
    obtain ⟨inf, hi, _⟩ := tySize_spec hn
    refine ⟨(f.offset, inf.size) :: pl, ?_, fun i => ?_⟩
    · simp [List.mapM_cons, sizeOf, typeInfo, hi] at h1 ⊢
      simp [h1]
    · cases i with
      | zero => simp [hi]
      | succ i => simpa using h2 i

end
end Go.DI
namespace Go.DI
open Go Go.RowKit

section
variable {P : Program} {w : World} {o : Oper} {a : Act}

theorem y_build {t : TypeId} {ps : Array (Nat × Operand)} {cells : Array Value} {inf : TypeInfo} {z : Value} {fs : Array Field} (hop : o.op = .build t ps) (hi : P.info? t = some inf) (hz : inf.zero = some z)
    (ht : P.underlying t = some (.struct fs)) (hall : fs.toList.all (fun f => (tySize P f.type).isSome) = true)
    (hf : ∀ place : Nat → Option (Nat × Nat), (∀ i, place i = (fs[i]?).bind fun (f : Field) => (P.info? f.type).map fun inf => (f.offset, inf.size)) → Instr.fill place z.cells (ps.toList.map fun p => (p.1, a.eval p.2)) = some cells) :
    Yields P o a w (.agg cells) w := by
  refine .inl ?_
  obtain ⟨pl, h1, h2⟩ := mapM_places (P := P) (w := w) fs.toList hall
  have h3 := hf (fun i => pl.toArray[i]?) (fun i => by simpa using h2 i)
  have h5 : (fs.mapM (m := Sem) fun (f : Field) => do pure (f.offset, ← sizeOf f.type)).run P w = .ok pl.toArray w := by
    rw [Array.mapM_eq_mapM_toList]
    simp only [Sem.run_map, h1]
    rfl
  simp only [execOp, hop, Instr.build, Sem.run_bind, run_underlying ht, zeroValue, typeInfo, run_program, hi, hz, Sem.run_pure, Result.andThen_ok, h5]
  have h6 : Instr.fill (fun x => pl[x]?) z.cells (List.map (fun x => (x.fst, a.eval x.snd)) ps.toList) = some cells := by simpa using h3
  simp [h6]

theorem y_field {t : TypeId} {x : Operand} {i : Nat} {fs : Array Field} {f : Field} {inf : TypeInfo} {b : Bool} {cs : Array Value} (hop : o.op = .field t x i) (ht : P.underlying t = some (.struct fs)) (hf : fs[i]? = some f)
    (hi : P.info? f.type = some inf) (hb : tyAgg P f.type = some b) (hx : a.eval x = .agg cs) (hn : f.offset + inf.size ≤ cs.size) (h1 : b = true ∨ inf.size = 1) :
    Yields P o a w (if b then .agg (cs.toList.drop f.offset |>.take inf.size).toArray else cs.toList.getD f.offset undef) w := by
  refine .inl ?_
  have h2 := tyAgg_spec (w := w) hb
  simp only [execOp, hop, hx, Instr.field, Sem.run_bind, run_underlying ht, Result.andThen_ok, hf, asAgg, Sem.run_pure, part, h2]
  cases b
  · have h3 : inf.size = 1 := by simpa using h1
    have h4 : f.offset < cs.size := by omega
    simp [h4]
  · simp only [if_true, Sem.run_bind, sizeOf, typeInfo, run_program, hi, Sem.run_pure, Result.andThen_ok]
    congr 3
    apply Array.toList_inj.1
    simp [Array.toList_extract]

theorem y_buildArr {t e : TypeId} {n : Nat} {ps : Array (Nat × Operand)} {cells : Array Value} {inf ie : TypeInfo} {z : Value} (hop : o.op = .build t ps) (hi : P.info? t = some inf) (hz : inf.zero = some z)
    (ht : P.underlying t = some (.array n e)) (he : P.info? e = some ie)
    (hf : Instr.fill (fun i => some (i * ie.size, ie.size)) z.cells (ps.toList.map fun p => (p.1, a.eval p.2)) = some cells) : Yields P o a w (.agg cells) w := by
  refine .inl ?_
  simp [execOp, hop, Instr.build, run_underlying ht, zeroValue, sizeOf, typeInfo, hi, hz, he, hf]

theorem run_minmax (mx : Bool) : ∀ (xs : List Value) (acc : Value), isI acc = true → (∀ x ∈ xs, isI x = true) →
    (xs.foldlM (m := Sem) (if mx then Builtin.max2 else Builtin.min2) acc).run P w = .ok (xs.foldl (fun acc y => if mx then maxI acc y else minI acc y) acc) w
  | [], _, _, _ => by simp
  | x :: xs, acc, h, hx => by
    have h1 : ((if mx then Builtin.max2 else Builtin.min2) acc x).run P w = .ok (if mx then maxI acc x else minI acc x) w := by
      have hx1 := hx x (by simp)
      cases acc <;> simp [isI] at h
      cases x <;> simp [isI] at hx1
      cases mx <;> simp [Builtin.max2, Builtin.min2, maxI, minI]
    have h2 : isI (if mx then maxI acc x else minI acc x) = true := by
      have hx1 := hx x (by simp)
      cases acc <;> simp [isI] at h
      cases x <;> simp [isI] at hx1
      cases mx <;> simp [maxI, minI, isI]
    simp only [List.foldlM_cons, Sem.run_bind, h1, Result.andThen_ok, List.foldl_cons]
    exact run_minmax mx xs _ h2 (fun y hy => hx y (by simp [hy]))

theorem y_minmax {c : Call} {mx : Bool} {x : Operand} {xs : List Operand} (hop : o.op = .call c) (hc : c.callee = .builtin (if mx then .max else .min)) (ha : c.args.toList = x :: xs)
    (h1 : isI (a.eval x) = true) (h2 : ∀ y ∈ xs, isI (a.eval y) = true) : Yields P o a w (xs.foldl (fun acc y => if mx then maxI acc (a.eval y) else minI acc (a.eval y)) (a.eval x)) w := by
  refine .inl ?_
  have h3 : (c.args.map a.eval).toList = a.eval x :: xs.map a.eval := by simp [ha]
  have h4 := run_minmax (P := P) (w := w) mx (xs.map a.eval) (a.eval x) h1 (by simpa using h2)
  rw [List.foldl_map] at h4
  cases mx
  · simp only [execOp, hop, resolve, hc, invoke, builtin, Sem.run_bind, Sem.run_pure, Result.andThen_ok, Bool.false_eq_true, if_false, Builtin.min_, h3]
    simp only [Bool.false_eq_true, if_false] at h4
    simp [h4]
  · simp only [execOp, hop, resolve, hc, invoke, builtin, Sem.run_bind, Sem.run_pure, Result.andThen_ok, if_true, Builtin.max_, h3]
    simp only [if_true] at h4
    simp [h4]

/-! structs compared -/
theorem cellsLike_append : ∀ (k1 k2 : List CK) (xs ys : List Value), cellsLike (k1 ++ k2) xs ys = true → cellsLike k1 (xs.take k1.length) (ys.take k1.length) = true ∧ cellsLike k2 (xs.drop k1.length) (ys.drop k1.length) = true ∧
    cellsEq xs ys = (cellsEq (xs.take k1.length) (ys.take k1.length) && cellsEq (xs.drop k1.length) (ys.drop k1.length))
  | [], k2, xs, ys, h => by simpa [cellsLike, cellsEq] using h
  | k :: k1, k2, [], ys, h => by simp [cellsLike] at h
  | k :: k1, k2, x :: xs, [], h => by simp [cellsLike] at h
  | k :: k1, k2, x :: xs, y :: ys, h => by
    simp only [List.cons_append, cellsLike, Bool.and_eq_true] at h
    obtain ⟨h1, h2, h3⟩ := cellsLike_append k1 k2 xs ys h.2
    exact ⟨by simp [cellsLike, h.1, h1], by simpa using h2, by simp [cellsEq, h3, Bool.and_assoc]⟩
theorem cellsLike_length : ∀ (ks : List CK) (xs ys : List Value), cellsLike ks xs ys = true → xs.length = ks.length ∧ ys.length = ks.length
  | [], [], [], _ => by simp
  | [], [], _ :: _, h => by simp [cellsLike] at h
  | [], _ :: _, _, h => by simp [cellsLike] at h
  | _ :: _, [], _, h => by simp [cellsLike] at h
  | _ :: _, _ :: _, [], h => by simp [cellsLike] at h
  | k :: ks, x :: xs, y :: ys, h => by
    simp only [cellsLike, Bool.and_eq_true] at h
    have := cellsLike_length ks xs ys h.2
    simp [this]

/-- the value of type t that these cells are -/
def asVal (ag : Bool) (xs : List Value) : Value := if ag then .agg xs.toArray else xs.headD undef

theorem len1 {xs : List Value} (h : xs.length = 1) : ∃ x, xs = [x] := by
  match xs, h with
  | [x], _ => exact ⟨x, rfl⟩

theorem part_run {t : TypeId} {b : Bool} {n off : Nat} {xs : List Value} (hb : tyAgg P t = some b) (hn : tySize P t = some n) (h1 : b = true ∨ n = 1) (hl : off + n ≤ xs.length) :
    (part t xs.toArray off).run P w = .ok (asVal b ((xs.drop off).take n)) w := by
  obtain ⟨inf, hi, rfl⟩ := tySize_spec hn
  simp only [part, Sem.run_bind, tyAgg_spec hb, Result.andThen_ok]
  cases b
  · have h2 : inf.size = 1 := by simpa using h1
    have h3 : off < xs.length := by omega
    simp only [Bool.false_eq_true, if_false, asVal, h2]
    simp [List.getElem?_eq_getElem h3, List.take_one, List.headD]
  · simp only [if_true, Sem.run_bind, sizeOf, typeInfo, run_program, hi, Sem.run_pure, Result.andThen_ok, asVal]
    congr 2
    apply Array.toList_inj.1
    simp

theorem eq_sound : ∀ (d D : Nat) (t : TypeId) (ks : List CK) (xs ys : List Value), eqFlat P d t = some ks → d ≤ D → cellsLike ks xs ys = true →
    ∃ b, tyAgg P t = some b ∧ tySize P t = some ks.length ∧ (b = true ∨ ks.length = 1) ∧ (Op.equalIn D t (asVal b xs) (asVal b ys)).run P w = .ok (cellsEq xs ys) w
  | 0, _, _, _, _, _, h, _, _ => by simp [eqFlat] at h
  | d + 1, 0, _, _, _, _, _, h, _ => by omega
  | d + 1, D + 1, t, ks, xs, ys, h, hD, hl => by
    obtain ⟨lx, ly⟩ := cellsLike_length ks xs ys hl
    unfold eqFlat at h
    split at h
    · rename_i n hu hn
      split at h <;> cases h
      rename_i e; subst e
      obtain ⟨x, rfl⟩ := len1 lx
      obtain ⟨y, rfl⟩ := len1 ly
      refine ⟨false, by simp [tyAgg, hu], hn, .inr rfl, ?_⟩
      cases x <;> cases y <;> simp [cellsLike, cellLike] at hl
      simp only [asVal, Bool.false_eq_true, if_false, List.headD_cons, cellsEq, cellEq, Bool.and_true]
      exact run_equalIn_bool' w D t _ _ hu
    · rename_i k n hu hn
      split at h <;> cases h
      rename_i e; subst e
      obtain ⟨x, rfl⟩ := len1 lx
      obtain ⟨y, rfl⟩ := len1 ly
      refine ⟨false, by simp [tyAgg, hu], hn, .inr rfl, ?_⟩
      cases x <;> cases y <;> simp [cellsLike, cellLike] at hl
      subst hl
      simp only [asVal, Bool.false_eq_true, if_false, List.headD_cons, cellsEq, cellEq, Bool.and_true]
      exact run_equalIn_int w D t _ _ _ _ hu
    · rename_i n hu hn
      split at h <;> cases h
      rename_i e; subst e
      obtain ⟨x, rfl⟩ := len1 lx
      obtain ⟨y, rfl⟩ := len1 ly
      refine ⟨false, by simp [tyAgg, hu], hn, .inr rfl, ?_⟩
      cases x <;> cases y <;> simp [cellsLike, cellLike] at hl
      simp only [asVal, Bool.false_eq_true, if_false, List.headD_cons, cellsEq, cellEq, Bool.and_true]
      rw [run_equalIn_string w D t _ _ hu, toList_beq]
    · rename_i fs n hu hn
      split at h
      · rename_i ks' hks
        split at h
        · rename_i hc
          cases h
          simp only [Bool.and_eq_true, decide_eq_true_eq, Bool.not_eq_true'] at hc
          obtain ⟨rfl, hst⟩ := hc
          refine ⟨true, by simp [tyAgg, hu], hn, .inl rfl, ?_⟩
          simp only [asVal, if_true]
          have hfo : P.fieldsOf t = fs := by simp [Program.fieldsOf, hu]
          rw [run_equalIn_struct w D t _ _ (by rw [hfo]; exact hu) hst, hfo]
          -- the fields, one behind the other
          have key : ∀ (fl : List Field) (off : Nat) (kr : List CK), eqFieldsW (eqFlat P d) fl off = some kr → cellsLike kr (xs.drop off) (ys.drop off) = true →
              (Op.eqFields D xs.toArray ys.toArray fl).run P w = .ok (cellsEq (xs.drop off) (ys.drop off)) w := by
            intro fl
            induction fl with
            | nil =>
              intro off kr h1 h2
              simp [eqFieldsW] at h1
              subst h1
              cases hx : xs.drop off <;> cases hy : ys.drop off <;> simp [hx, hy, cellsLike] at h2
              simp [Op.eqFields, cellsEq]
            | cons f fl ih =>
              intro off kr h1 h2
              simp only [eqFieldsW] at h1
              split at h1
              · rename_i hc
                simp only [Bool.and_eq_true, bne_iff_ne, ne_eq, beq_iff_eq] at hc
                obtain ⟨hnm, hoff⟩ := hc
                split at h1
                · rename_i k1 hk1
                  split at h1
                  · rename_i k2 hk2
                    split at h1 <;> cases h1
                    rename_i hpos
                    obtain ⟨g1, g2, g3⟩ := cellsLike_append k1 k2 _ _ h2
                    obtain ⟨b, e1, e2, e3, e4⟩ := eq_sound d D f.type k1 _ _ hk1 (by omega) g1
                    have l1 := (cellsLike_length _ _ _ h2)
                    simp only [List.length_drop, List.length_append] at l1
                    have p1 := part_run (w := w) (off := off) (xs := xs) e1 e2 e3 (by omega)
                    have p2 := part_run (w := w) (off := off) (xs := ys) e1 e2 e3 (by omega)
                    simp only [List.drop_drop] at g2 g3
                    have h3 := ih (off + k1.length) k2 hk2 g2
                    simp only [Op.eqFields, hnm, ne_eq, not_false_eq_true, if_true, Sem.run_bind, hoff, p1, p2, Result.andThen_ok, e4, g3, Sem.run_ite, Sem.run_pure, h3]
                    cases cellsEq (List.take k1.length (List.drop off xs)) (List.take k1.length (List.drop off ys)) <;> simp
                  · cases h1
                · cases h1
              · cases h1
          have := key fs.toList 0 _ hks (by simpa using hl)
          simpa using this
        · cases h
      · cases h
    · -- an array
      rename_i k e n hu hn
      split at h
      · rename_i k1 hks
        split at h
        · rename_i hc
          cases h
          simp only [Bool.and_eq_true, decide_eq_true_eq] at hc
          obtain ⟨rfl, hpos⟩ := hc
          have hlen : ∀ r : Nat, (List.replicate r k1).flatten.length = r * k1.length := by
            intro r
            induction r with
            | zero => simp
            | succ r ih => rw [List.replicate_succ, List.flatten_cons, List.length_append, ih, Nat.add_mul]; omega
          refine ⟨true, by simp [tyAgg, hu], by rw [hn, hlen], .inl rfl, ?_⟩
          simp only [asVal, if_true]
          by_cases hk0 : k = 0
          · subst hk0
            simp only [List.replicate_zero, List.flatten_nil] at hl lx ly
            have e1 : xs = [] := List.length_eq_zero_iff.1 lx
            have e2 : ys = [] := List.length_eq_zero_iff.1 ly
            subst e1 e2
            simp [Op.equalIn, run_underlying hu, cellsEq, sizeOf, typeInfo]
            cases hi : P.info? e with
            | none =>
              -- the element's type is known, as its kinds are
              exfalso
              cases d with
              | zero => simp [eqFlat] at hks
              | succ d =>
                unfold eqFlat at hks
                have : tySize P e = none := by simp [tySize, hi]
                simp [this] at hks
            | some i => simp
          · obtain ⟨kk, rfl⟩ : ∃ kk, k = kk + 1 := ⟨k - 1, by omega⟩
            have hl0 := hl
            rw [List.replicate_succ, List.flatten_cons] at hl0
            obtain ⟨g1, _, _⟩ := cellsLike_append k1 _ xs ys hl0
            obtain ⟨b0, _, e2, _, _⟩ := eq_sound d D e k1 _ _ hks (by omega) g1
            obtain ⟨inf, hi, hsz⟩ := tySize_spec e2
            have hco : P.cellsOf e = k1.length := by simp [Program.cellsOf, hi, hsz]
            rw [run_equalIn_array w D xs.toArray ys.toArray hu hi, hco, List.range_eq_range']
            have key : ∀ (r j : Nat), cellsLike (List.replicate r k1).flatten (xs.drop (j * k1.length)) (ys.drop (j * k1.length)) = true →
                (Op.eqItems D e k1.length xs.toArray ys.toArray (List.range' j r)).run P w = .ok (cellsEq (xs.drop (j * k1.length)) (ys.drop (j * k1.length))) w := by
              intro r
              induction r with
              | zero =>
                intro j h2
                simp only [List.replicate_zero, List.flatten_nil] at h2
                cases hx : xs.drop (j * k1.length) <;> cases hy : ys.drop (j * k1.length) <;> simp [hx, hy, cellsLike] at h2
                simp [Op.eqItems, cellsEq]
              | succ r ih =>
                intro j h2
                rw [List.replicate_succ, List.flatten_cons] at h2
                obtain ⟨g1, g2, g3⟩ := cellsLike_append k1 _ _ _ h2
                obtain ⟨b, e1, e2, e3, e4⟩ := eq_sound d D e k1 _ _ hks (by omega) g1
                have l1 := cellsLike_length _ _ _ h2
                simp only [List.length_drop, List.length_append] at l1
                have p1 := part_run (w := w) (off := j * k1.length) (xs := xs) e1 e2 e3 (by omega)
                have p2 := part_run (w := w) (off := j * k1.length) (xs := ys) e1 e2 e3 (by omega)
                simp only [List.drop_drop] at g2 g3
                have hj : j * k1.length + k1.length = (j + 1) * k1.length := by rw [Nat.add_mul]; omega
                rw [hj] at g2 g3
                have h3 := ih (j + 1) g2
                rw [List.range'_succ]
                simp only [Op.eqItems, Sem.run_bind, p1, p2, Result.andThen_ok, e4, g3, Sem.run_ite, Sem.run_pure, h3]
                cases cellsEq (List.take k1.length (List.drop (j * k1.length) xs)) (List.take k1.length (List.drop (j * k1.length) ys)) <;> simp
            have := key (kk + 1) 0 (by simpa using hl)
            simpa using this
        · cases h
      · cases h
    · cases h
termination_by d => d

theorem y_eqAgg {op : BinOp} {t yt : TypeId} {x y : Operand} {ks : List CK} {xs ys : Array Value} (neg : Bool) (hop : o.op = .binOp op t x y yt) (he : op = if neg then .neq else .eql) (hf : eqFlat P 8 t = some ks)
    (hg : P.eqGuardType P.depth t = false) (hT : tyC P t = .agg) (hx : a.eval x = .agg xs) (hy : a.eval y = .agg ys) (hl : cellsLike ks xs.toList ys.toList = true) :
    Yields P o a w (.bool (if neg then !cellsEq xs.toList ys.toList else cellsEq xs.toList ys.toList)) w := by
  obtain ⟨b, h1, _, _, h4⟩ := eq_sound (P := P) (w := w) 8 10000 t ks xs.toList ys.toList hf (by omega) hl
  have hb : b = true := by
    unfold tyC at hT
    unfold tyAgg at h1
    split at hT <;> first | cases hT | skip
    · rename_i hu; simp only [hu] at h1; cases h1; rfl
    · rename_i hu; simp only [hu] at h1; cases h1; rfl
  subst hb
  simp only [asVal, if_true, Array.toArray_toList] at h4
  refine y_bin hop (by rw [hx, hy]; exact run_eqGuard_agg w op t x y xs ys hg) ?_
  rw [hx, hy]
  cases neg
  · simp only [Bool.false_eq_true, if_false] at he ⊢; subst he; rw [run_eql_struct, h4]; rfl
  · simp only [if_true] at he ⊢; subst he; rw [run_neq_struct, h4]; rfl
end
end Go.DI
namespace Go.DI
open Go Go.RowKit

def IK.pure : IK → Bool
  | .alloc _ | .box _ | .bslice _ _ _ _ | .load _ _ _ | .sliceA _ _ _ | .store _ _ _ | .convBS _ | .convSB _ | .mkslice _ _ _ _ _ | .app _ _ _ _ | .call _ _ | .callv _ _ | .icall _ _ _ | .mkmap | .mlook _ _ _ _ _ | .mput _ _ _ _ => false
  | _ => true

section
variable {P : Program} {w : World} {o : Oper} {a : Act} {ρ : Ren} {nt : Nat} {σ : Slots} {m : Mem}

theorem list_rel (hs : SRel ρ nt σ a) : ∀ (xs : List Operand), xs.all argOk = true → LRel ρ (xs.map (ev σ)) (xs.map a.eval)
  | xs, h => LRel.map_ _ _ xs fun x hx => hs.ev (List.all_eq_true.1 h x hx)

theorem isI_flat {v : Value} (h : isI v = true) : flat1 v = true := by cases v <;> simp [isI] at h <;> rfl
theorem isI_rel {u v : Value} (h : VRel ρ u v) (hi : isI u = true) : v = u ∧ ∃ k n, u = .int k n := by
  cases u <;> simp [isI] at hi
  exact ⟨h.inv_int, _, _, rfl⟩

theorem minmax_rel (mx : Bool) (hs : SRel ρ nt σ a) : ∀ (xs : List Operand) (acc : Value), xs.all argOk = true → (xs.all fun y => isI (ev σ y)) = true →
    xs.foldl (fun acc y => if mx then maxI acc (a.eval y) else minI acc (a.eval y)) acc = xs.foldl (fun acc y => if mx then maxI acc (ev σ y) else minI acc (ev σ y)) acc
  | [], _, _, _ => rfl
  | x :: xs, acc, h1, h2 => by
    simp only [List.all_cons, Bool.and_eq_true] at h1 h2
    have := (isI_rel (hs.ev h1.1) h2.1).1
    simp only [List.foldl_cons, this]
    exact minmax_rel mx hs xs _ h1.2 h2.2
theorem minmax_int (mx : Bool) : ∀ (xs : List Operand) (acc : Value), isI acc = true → (xs.all fun y => isI (ev σ y)) = true →
    isI (xs.foldl (fun acc y => if mx then maxI acc (ev σ y) else minI acc (ev σ y)) acc) = true
  | [], _, h, _ => h
  | x :: xs, acc, h1, h2 => by
    simp only [List.all_cons, Bool.and_eq_true] at h2
    simp only [List.foldl_cons]
    refine minmax_int mx xs _ ?_ h2.2
    cases acc <;> simp [isI] at h1
    have h3 := h2.1
    cases hx : ev σ x <;> simp [hx, isI] at h3
    cases mx <;> simp [maxI, minI, isI]

theorem cellsLike_rel : ∀ (ks : List CK) (xs ys us vs : List Value), cellsLike ks xs ys = true → LRel ρ xs us → LRel ρ ys vs → us = xs ∧ vs = ys
  | [], [], [], us, vs, _, h1, h2 => by
    have e1 := h1.1; have e2 := h2.1
    simp at e1 e2
    exact ⟨List.length_eq_zero_iff.1 e1.symm, List.length_eq_zero_iff.1 e2.symm⟩
  | [], [], _ :: _, _, _, h, _, _ => by simp [cellsLike] at h
  | [], _ :: _, _, _, _, h, _, _ => by simp [cellsLike] at h
  | _ :: _, [], _, _, _, h, _, _ => by simp [cellsLike] at h
  | _ :: _, _ :: _, [], _, _, h, _, _ => by simp [cellsLike] at h
  | _ :: _, _ :: _, _ :: _, [], _, _, h, _ => by simp [LRel] at h
  | _ :: _, _ :: _, _ :: _, _ :: _, [], _, _, h => by simp [LRel] at h
  | k :: ks, x :: xs, y :: ys, u :: us, v :: vs, h, h1, h2 => by
    simp only [cellsLike, Bool.and_eq_true] at h
    obtain ⟨e1, e2⟩ := cellsLike_rel ks xs ys us vs h.2 ⟨by simpa using h1.1, fun i p q hp hq => h1.2 (i + 1) p q (by simpa using hp) (by simpa using hq)⟩ ⟨by simpa using h2.1, fun i p q hp hq => h2.2 (i + 1) p q (by simpa using hp) (by simpa using hq)⟩
    have r1 := h1.2 0 x u rfl rfl
    have r2 := h2.2 0 y v rfl rfl
    have hl := h.1
    have f1 : flat1 x = true ∧ flat1 y = true := by cases k <;> cases x <;> cases y <;> simp [cellLike] at hl <;> exact ⟨rfl, rfl⟩
    exact ⟨by rw [e1, r1.inv_flat f1.1], by rw [e2, r2.inv_flat f1.2]⟩

theorem eqAgg_sound {op : BinOp} {t yt : TypeId} {x y : Operand} {ks : List CK} (neg : Bool) (hop : o.op = .binOp op t x y yt) (he : op = if neg then .neq else .eql) (hf : eqFlat P 8 t = some ks)
    (hg : P.eqGuardType P.depth t = false) (hT : tyC P t = .agg) (hs : SRel ρ nt σ a) (hx : argOk x = true) (hy : argOk y = true) (hok : (IK.eqAgg neg ks x y).ok σ m = true) (id : Nat) :
    ∃ v', Yields P o a w v' w ∧ VRel ρ ((IK.eqAgg neg ks x y).val id σ m) v' := by
  simp only [IK.ok, Bool.and_eq_true] at hok
  obtain ⟨⟨h1, h2⟩, h3⟩ := hok
  have rx := hs.ev hx
  have ry := hs.ev hy
  simp only [IK.val]
  cases hu : ev σ x <;> simp only [hu, isAggV] at h1 <;> try cases h1
  cases hv : ev σ y <;> simp only [hv, isAggV] at h2 <;> try cases h2
  rename_i xs ys
  rw [hu] at rx
  rw [hv] at ry
  obtain ⟨us, e1, r1⟩ := rx.inv_agg
  obtain ⟨vs, e2, r2⟩ := ry.inv_agg
  simp only [hu, hv, vcells] at h3
  obtain ⟨g1, g2⟩ := cellsLike_rel ks _ _ _ _ h3 r1 r2
  have g1' := Array.toList_inj.1 g1
  have g2' := Array.toList_inj.1 g2
  subst g1'; subst g2'
  exact ⟨_, y_eqAgg neg hop he hf hg hT e1 e2 h3, .flat rfl⟩

theorem str_of {u v : Value} (h : VRel ρ u v) (hi : isStr u = true) : v = u ∧ ∃ s, u = .string s := by
  cases u <;> simp [isStr] at hi
  exact ⟨h.inv_string, _, rfl⟩

set_option maxHeartbeats 1000000 in
theorem pure_sound {k : IK} (hk : cKind P o = some k) (hp : k.pure = true) (hs : SRel ρ nt σ a) (hok : k.ok σ m = true) (id : Nat) :
    ∃ v', Yields P o a w v' w ∧ VRel ρ (k.val id σ m) v' := by
  rcases cKind_cases hk with hk | rfl
  rotate_left
  · rw [trap_bad] at hok; cases hok
  unfold cKind0 at hk
  split at hk
  · -- move
    rename_i x hop
    split at hk <;> cases hk
    rename_i hx
    exact ⟨_, y_move hop, hs.ev hx⟩
  · rename_i x hop
    split at hk <;> cases hk
    rename_i hx
    exact ⟨_, y_assign hop, hs.ev hx⟩
  · -- pick
    rename_i c x y hop
    split at hk <;> cases hk
    rename_i hx
    simp only [Bool.and_eq_true] at hx
    have hc := hs.ev hx.1.1
    simp only [IK.ok] at hok
    cases hv : ev σ c <;> simp [hv, isB] at hok
    rw [hv] at hc
    refine ⟨_, y_pick hop hc.inv_bool, ?_⟩
    simp only [IK.val, hv, asB]
    split
    · exact hs.ev hx.1.2
    · exact hs.ev hx.2
  · -- nilCheck
    rename_i x hop
    split at hk <;> cases hk
    rename_i hx
    have hr := hs.ev hx
    simp only [IK.ok] at hok
    refine ⟨_, y_nilck hop ?_, hr⟩
    generalize ev σ x = u at hr hok
    generalize a.eval x = v at hr
    cases hr <;> simp_all [isNotNil]
    rename_i fn _ _ _ _ _ _ _ _; cases fn <;> simp_all
  · split at hk <;> cases hk; simp [IK.pure] at hp
  · split at hk <;> cases hk; simp [IK.pure] at hp
  · -- build
    rename_i t ps hop
    split at hk
    · rename_i fs z ht hz
      split at hk
      · rename_i qs hqs
        split at hk <;> cases hk
        rename_i hall
        obtain ⟨inf, zv, hi, hzv, hzl, hfl, hlen⟩ := tyZero_spec hz
        obtain ⟨g1, g2⟩ := fieldParts_spec _ _ hqs
        simp only [IK.ok] at hok
        let place : Nat → Option (Nat × Nat) := fun i => (fs[i]?).bind fun (f : Field) => (P.info? f.type).map fun inf => (f.offset, inf.size)
        obtain ⟨ds, h1, h2, h2o⟩ := fill_sound hs place ps.toList qs z zv.cells ⟨g1, fun i p q hp' hq => by
          obtain ⟨e1, e2, f, inf', e3, e4, e5, e6⟩ := g2 i p q hp' hq
          exact ⟨e1, e2, by simp [place, e3, e4, e5, e6]⟩⟩ (by rw [hzl]; exact LRel.flat ρ hfl) (fun v hv => flat_one (List.all_eq_true.1 hfl v hv)) hok
        refine ⟨_, y_build (cells := ds) hop hi hzv ht hall (fun pl hpl => by have : pl = place := funext hpl; rw [this]; exact h1), ?_⟩
        have := h2.agg h2o
        simp only [Array.toArray_toList] at this
        exact this
      · cases hk
    · rename_i n e z ht hz
      split at hk
      · rename_i sz hsz
        split at hk <;> cases hk
        rename_i qs hqs
        obtain ⟨inf, zv, hi, hzv, hzl, hfl, hlen⟩ := tyZero_spec hz
        obtain ⟨ie, he, rfl⟩ := tySize_spec hsz
        obtain ⟨g1, g2⟩ := elemParts_spec _ _ hqs
        simp only [IK.ok] at hok
        obtain ⟨ds, h1, h2, h2o⟩ := fill_sound hs (fun i => some (i * ie.size, ie.size)) ps.toList qs z zv.cells ⟨g1, fun i p q hp' hq => by
          obtain ⟨e1, e2, e3, e4⟩ := g2 i p q hp' hq
          exact ⟨e1, e2, by simp [e3, e4]⟩⟩ (by rw [hzl]; exact LRel.flat ρ hfl) (fun v hv => flat_one (List.all_eq_true.1 hfl v hv)) hok
        refine ⟨_, y_buildArr (cells := ds) hop hi hzv ht he h1, ?_⟩
        have := h2.agg h2o
        simp only [Array.toArray_toList] at this
        exact this
      · cases hk
    · cases hk
  · repeat (split at hk <;> try cases hk)
    simp [IK.pure] at hp
  · repeat (split at hk <;> try cases hk)
    simp [IK.pure] at hp
  · repeat (split at hk <;> try cases hk)
    simp [IK.pure] at hp
  · -- binOp
    rename_i op t x y yt hop
    split at hk
    · rename_i hx
      simp only [Bool.and_eq_true] at hx
      split at hk
      · rename_i hT
        split at hk
        · rename_i ks hf
          split at hk <;> cases hk
          rename_i hg
          exact eqAgg_sound false hop rfl hf (by simpa using hg) hT hs hx.1 hx.2 hok id
        · rename_i ks hf
          split at hk <;> cases hk
          rename_i hg
          exact eqAgg_sound true hop rfl hf (by simpa using hg) hT hs hx.1 hx.2 hok id
        · cases hk
      · cases hk
        exact y_binV hop (hs.ev hx.1) (hs.ev hx.2) hok
    · cases hk
  · -- unOp
    rename_i op t x hop
    split at hk <;> cases hk
    rename_i hx
    simp only [IK.ok] at hok
    have hr := hs.ev hx
    have he : a.eval x = ev σ x := by
      cases hu : ev σ x <;> cases op <;> simp [hu, unOk] at hok <;> rw [hu] at hr <;> first | exact hr.inv_int | exact hr.inv_bool
    refine ⟨_, y_un hop (by rw [he]; exact hok), ?_⟩
    simp only [IK.val, he]
    exact .flat (by cases hu : ev σ x <;> cases op <;> simp [hu, unOk] at hok <;> simp [unV, flat1])
  · -- convert
    rename_i s d x hop
    split at hk
    · rename_i k0 k hS hD
      split at hk <;> cases hk
      rename_i hx
      simp only [IK.ok] at hok
      obtain ⟨e, k', n, hv⟩ := isI_rel (hs.ev hx) hok
      refine ⟨_, y_convI hop hS hD (by rw [e, hv]), ?_⟩
      simp only [IK.val, hv, asI]
      exact .flat rfl
    · rename_i hS hD
      split at hk <;> cases hk
      rename_i hx
      simp only [IK.ok] at hok
      obtain ⟨e, b, hv⟩ := str_of (hs.ev hx) hok
      refine ⟨_, y_convId hop hS hD (by rw [e, hv]), ?_⟩
      simp only [IK.val, hv]
      exact .flat rfl
    · repeat (split at hk <;> try cases hk)
      simp [IK.pure] at hp
    · repeat (split at hk <;> try cases hk)
      simp [IK.pure] at hp
    · cases hk
  · repeat (split at hk <;> try cases hk)
    simp [IK.pure] at hp
  · -- slice
    rename_i t x lo hi mx hop
    split at hk
    · rename_i ht
      split at hk <;> cases hk
      rename_i hc
      simp only [Bool.and_eq_true, Option.isNone_iff_eq_none] at hc
      obtain ⟨⟨⟨hx, hlo⟩, hhi⟩, rfl⟩ := hc
      simp only [IK.ok, Bool.and_eq_true, decide_eq_true_eq] at hok
      obtain ⟨⟨⟨⟨⟨h1, h2⟩, h3⟩, h4⟩, h5⟩, h6⟩ := hok
      obtain ⟨e, b, hv⟩ := str_of (hs.ev hx) h1
      simp only [hv, zqu] at h5 h6
      refine ⟨_, y_sliceStr hop ht (by rw [e, hv]) (boundIs_of hs hlo h2 0 (by simpa using h4)) (boundIs_of hs hhi h3 b.size (by omega)) (by simp; omega) (by omega), ?_⟩
      simp only [IK.val, hv, asS, zqu]
      exact .flat rfl
    · rename_i e ht
      split at hk
      · rename_i z hz
        split at hk
        · split at hk <;> cases hk
          rename_i hc
          simp only [Bool.and_eq_true] at hc
          obtain ⟨⟨hx, hlo⟩, hhi⟩ := hc
          simp only [IK.ok, Bool.and_eq_true, decide_eq_true_eq] at hok
          obtain ⟨⟨⟨⟨⟨h1, h2⟩, h3⟩, h4⟩, h5⟩, h6⟩ := hok
          obtain ⟨inf, hi', rfl⟩ := tySize_spec hz
          have hr := hs.ev hx
          simp only [IK.val]
          cases hu : ev σ x <;> simp only [hu, zqs] at h1 <;> try cases h1
          rename_i p len c
          rw [hu] at hr
          simp only [hu, zqu] at h5 h6
          cases p with
          | none =>
            simp only [Bool.and_eq_true, beq_iff_eq] at h1
            obtain ⟨rfl, rfl⟩ := h1
            have hv := hr.inv_flat rfl
            refine ⟨_, y_sliceS hop ht hi' hv (boundIs_of hs hlo h2 0 (by simpa using h4)) (boundIs_of hs hhi h3 0 (by omega)) (by simp; omega) (by omega), ?_⟩
            have e0 : (optI σ lo (0 : Nat)).toNat = 0 := by simp; omega
            have e1 : (optI σ hi (0 : Nat)).toNat = 0 := by simp; omega
            rw [e0, e1]
            simp only [zqv]
            exact .flat rfl
          | some ad =>
            simp only [Bool.and_eq_true, beq_iff_eq] at h1
            obtain ⟨l, a', cap, hl, hsp, hv, hn, hlc, hcm⟩ := hr.inv_slice
            obtain ⟨_, rfl⟩ := h1
            refine ⟨_, y_sliceS hop ht hi' hv (boundIs_of hs hlo h2 0 (by simpa using h4)) (boundIs_of hs hhi h3 len (by omega)) (by simp; omega) (by omega), ?_⟩
            simp only [zqv, zqu]
            have hz0 : optI σ lo ((0 : Nat) : Int) = optI σ lo 0 := rfl
            rw [hz0]
            generalize hL : (optI σ lo 0).toNat = L
            generalize hH : (optI σ hi (len : Int)).toNat = H
            have hLH : L ≤ H := by omega
            have hHl : H ≤ len := by omega
            by_cases hcl : cap = L
            · rw [if_pos hcl]
              exact .slice hl (.inl ⟨by omega, by omega⟩) (by omega) (by omega)
            · rw [if_neg hcl]
              rcases hn with ⟨rfl, rfl⟩ | ⟨rfl, hn⟩
              · omega
              · have ha : (⟨l.c, l.o + ad.off, none⟩ : Addr).add (L * inf.size) = ⟨l.c, l.o + (ad.off + L * inf.size), none⟩ := by
                  unfold Addr.add
                  split
                  · rename_i h0; rw [h0]; simp
                  · simp [Nat.add_assoc]
                simp only [Option.map_some, ha]
                refine .slice hl (.inr ⟨rfl, ?_⟩) (by omega) (by omega)
                have : L * inf.size + (cap - L) * inf.size = cap * inf.size := by rw [← Nat.add_mul]; congr 1; omega
                omega
        · rename_i mo
          split at hk
          · rename_i ho
            split at hk <;> cases hk
            rename_i hc
            simp only [Bool.and_eq_true] at hc
            obtain ⟨⟨⟨hx, hlo⟩, hhi⟩, hmo⟩ := hc
            simp only [IK.ok, Bool.and_eq_true, decide_eq_true_eq] at hok
            obtain ⟨⟨⟨⟨⟨⟨⟨h1, h2⟩, h3⟩, h4⟩, h5⟩, h6⟩, h7⟩, h8⟩ := hok
            obtain ⟨inf, hi', rfl⟩ := tySize_spec hz
            have hr := hs.ev hx
            simp only [IK.val]
            obtain ⟨eh, kh, ih, hih⟩ := isI_rel (hs.ev hhi) h3
            obtain ⟨em, km, im, him⟩ := isI_rel (hs.ev hmo) h4
            simp only [hih, him, asI] at h6 h7 h8 ⊢
            cases hu : ev σ x <;> simp only [hu, zqs] at h1 <;> try cases h1
            rename_i p len c
            rw [hu] at hr
            simp only [hu, zqu] at h8
            have hbl := boundIs_of hs hlo h2 0 (by simpa using h5)
            have hz0 : optI σ lo ((0 : Nat) : Int) = optI σ lo 0 := rfl
            rw [hz0] at hbl
            have hbh : ∃ (k : IntKind) (i : Int), a.eval ho = .int k i ∧ 0 ≤ i ∧ i.toNat = ih.toNat := ⟨kh, ih, by rw [eh, hih], by omega, rfl⟩
            have hbm : ∃ (k : IntKind) (i : Int), a.eval mo = .int k i ∧ 0 ≤ i ∧ i.toNat = im.toNat := ⟨km, im, by rw [em, him], by omega, rfl⟩
            cases p with
            | none =>
              simp only [Bool.and_eq_true, beq_iff_eq] at h1
              obtain ⟨rfl, rfl⟩ := h1
              have hv := hr.inv_flat rfl
              refine ⟨_, y_sliceM hop ht hi' hv hbl hbh hbm (by omega) (by omega) (by omega), ?_⟩
              have e0 : (optI σ lo 0).toNat = 0 := by omega
              have e1 : ih.toNat = 0 := by omega
              have e2 : im.toNat = 0 := by omega
              rw [e0, e1, e2]
              simp only [zqv]
              exact .flat rfl
            | some ad =>
              simp only [Bool.and_eq_true, beq_iff_eq] at h1
              obtain ⟨l, a', cap, hl, hsp, hv, hn, hlc, hcm⟩ := hr.inv_slice
              obtain ⟨_, rfl⟩ := h1
              refine ⟨_, y_sliceM hop ht hi' hv hbl hbh hbm (by omega) (by omega) (by omega), ?_⟩
              simp only [zqv]
              generalize hL : (optI σ lo 0).toNat = L
              generalize hH : ih.toNat = H
              generalize hMM : im.toNat = MM
              have hLH : L ≤ H := by omega
              have hHM : H ≤ MM := by omega
              have hMl : MM ≤ len := by omega
              by_cases hcl : MM = L
              · rw [if_pos hcl]
                exact .slice hl (.inl ⟨by omega, by omega⟩) (by omega) (by omega)
              · rw [if_neg hcl]
                rcases hn with ⟨rfl, rfl⟩ | ⟨rfl, hn⟩
                · omega
                · have ha : (⟨l.c, l.o + ad.off, none⟩ : Addr).add (L * inf.size) = ⟨l.c, l.o + (ad.off + L * inf.size), none⟩ := by
                    unfold Addr.add
                    split
                    · rename_i h0; rw [h0]; simp
                    · simp [Nat.add_assoc]
                  simp only [Option.map_some, ha]
                  refine .slice hl (.inr ⟨rfl, ?_⟩) (by omega) (by omega)
                  have h9 : L * inf.size + (MM - L) * inf.size = MM * inf.size := by rw [← Nat.add_mul]; congr 1; omega
                  have h10 : MM * inf.size ≤ cap * inf.size := Nat.mul_le_mul_right _ (by omega)
                  show ad.off + L * inf.size + (MM - L) * inf.size ≤ l.n
                  replace hn : ad.off + cap * inf.size ≤ l.n := hn
                  omega
          · cases hk
      · cases hk
    · (repeat' split at hk) <;> cases hk
      simp [IK.pure] at hp
    · cases hk
  · -- fieldAddr
    rename_i s x i hop
    split at hk
    · rename_i fs ht
      split at hk
      · rename_i f hf
        split at hk
        · rename_i n hn
          split at hk <;> cases hk
          rename_i hc
          simp only [Bool.and_eq_true, decide_eq_true_eq] at hc
          obtain ⟨inf, hi, rfl⟩ := tySize_spec hn
          simp only [IK.ok] at hok
          have hr := hs.ev hc.1
          simp only [IK.val]
          cases hu : ev σ x <;> simp only [hu, ptrPlain] at hok <;> try cases hok
          rename_i p
          rw [hu] at hr
          cases p with
          | none => cases hok
          | some ad =>
            obtain ⟨l, hl, hsp, hv⟩ := hr.inv_ptr
            refine ⟨_, y_faddr hop ht hf hi hc.2 hv, ?_⟩
            simp only [ptrAdd, Nat.add_assoc]
            exact .ptr hl
        · cases hk
      · cases hk
    · cases hk
  · -- field
    rename_i t x i hop
    split at hk
    · rename_i fs ht
      split at hk
      · rename_i f hf
        split at hk
        · rename_i b n hb hn
          split at hk <;> cases hk
          rename_i hx
          obtain ⟨inf, hi, rfl⟩ := tySize_spec hn
          simp only [IK.ok, Bool.and_eq_true, Bool.or_eq_true, decide_eq_true_eq] at hok
          have hr := hs.ev hx
          simp only [IK.val]
          cases hu : ev σ x <;> simp only [hu, fieldOk] at hok <;> try cases hok.1
          rename_i xs
          rw [hu] at hr
          obtain ⟨ys, hv, hl⟩ := hr.inv_agg
          have hsz : ys.size = xs.size := by have := hl.1; simp at this; exact this.symm
          have hok1 : f.offset + inf.size ≤ xs.size := by simpa using hok.1
          refine ⟨_, y_field hop ht hf hi hb hv (by omega) hok.2, ?_⟩
          simp only [fieldV]
          cases b
          · simp only [Bool.false_eq_true, if_false]
            have h1 : inf.size = 1 := by simpa using hok.2
            have hlt : f.offset < xs.toList.length := by simp; omega
            obtain ⟨y, hy, hxy⟩ := hl.get (List.getElem?_eq_getElem hlt)
            rw [List.getD_eq_getElem?_getD, List.getD_eq_getElem?_getD, hy, List.getElem?_eq_getElem hlt]
            exact hxy
          · simp only [if_true]
            exact ((hl.drop _).take _).agg fun x hx => hr.agg_one x (List.mem_of_mem_drop (List.mem_of_mem_take hx))
        · cases hk
      · cases hk
    · cases hk
  · -- indexAddr
    rename_i t x i hop
    split at hk
    · rename_i e ht
      split at hk
      · rename_i z hz
        split at hk <;> cases hk
        rename_i hc
        simp only [Bool.and_eq_true] at hc
        obtain ⟨inf, hi, rfl⟩ := tySize_spec hz
        simp only [IK.ok, Bool.and_eq_true, decide_eq_true_eq] at hok
        obtain ⟨⟨⟨h1, h2⟩, h3⟩, h4⟩ := hok
        obtain ⟨e2, k, n, hn⟩ := isI_rel (hs.ev hc.2) h2
        have hr := hs.ev hc.1
        simp only [IK.val]
        cases hu : ev σ x <;> simp only [hu, zqs] at h1 <;> try cases h1
        rename_i p len c
        rw [hu] at hr
        simp only [hn, asI] at h3 h4 ⊢
        simp only [hu, zqu] at h4
        cases p with
        | none =>
          simp only [Bool.and_eq_true, beq_iff_eq] at h1
          omega
        | some ad =>
          simp only [Bool.and_eq_true, beq_iff_eq] at h1
          obtain ⟨l, a', cap, hl, hsp, hv, hn', hlc, hcm⟩ := hr.inv_slice
          rcases hn' with ⟨rfl, rfl⟩ | ⟨rfl, hn'⟩
          · omega
          · refine ⟨_, y_iaddr hop ht hi hv (by rw [e2, hn]) h3 h4, ?_⟩
            simp only [zqt, Nat.add_assoc]
            exact .ptr hl
      · cases hk
    · rename_i len e ht
      split at hk
      · rename_i z hz
        split at hk <;> cases hk
        rename_i hc
        simp only [Bool.and_eq_true] at hc
        obtain ⟨inf, hi, rfl⟩ := tySize_spec hz
        simp only [IK.ok, Bool.and_eq_true, decide_eq_true_eq] at hok
        obtain ⟨⟨⟨h1, h2⟩, h3⟩, h4⟩ := hok
        obtain ⟨e2, k, n, hn⟩ := isI_rel (hs.ev hc.2) h2
        have hr := hs.ev hc.1
        simp only [IK.val]
        cases hu : ev σ x <;> simp only [hu, ptrPlain] at h1 <;> try cases h1
        rename_i p
        rw [hu] at hr
        simp only [hn, asI] at h3 h4 ⊢
        cases p with
        | none => cases h1
        | some ad =>
          obtain ⟨l, hl, hsp, hv⟩ := hr.inv_ptr
          refine ⟨_, y_iaddrA hop ht hi hv (by rw [e2, hn]) h3 h4, ?_⟩
          simp only [ptrAdd, Nat.add_assoc]
          exact .ptr hl
      · cases hk
    · cases hk
  · -- index
    rename_i t x i hop
    split at hk
    · rename_i ht
      split at hk <;> cases hk
      rename_i hc
      simp only [Bool.and_eq_true] at hc
      simp only [IK.ok, Bool.and_eq_true, decide_eq_true_eq] at hok
      obtain ⟨⟨⟨h1, h2⟩, h3⟩, h4⟩ := hok
      obtain ⟨e1, b, hv⟩ := str_of (hs.ev hc.1) h1
      obtain ⟨e2, k, n, hn⟩ := isI_rel (hs.ev hc.2) h2
      simp only [hn, asI] at h3 h4
      simp only [hv, zqu] at h4
      refine ⟨_, y_idxStr hop ht (by rw [e1, hv]) (by rw [e2, hn]) h3 h4, ?_⟩
      simp only [IK.val, hv, hn, asS, asI]
      exact .flat rfl
    · cases hk
  · -- extract
    rename_i x i hop
    split at hk <;> cases hk
    rename_i hx
    have hr := hs.ev hx
    simp only [IK.ok] at hok
    simp only [IK.val]
    cases hu : ev σ x <;> simp only [hu, tupOk] at hok <;> try cases hok
    rename_i xs
    rw [hu] at hr
    obtain ⟨ys, hv, hl⟩ := hr.inv_tuple
    have hi : i < xs.toList.length := by simpa using hok
    obtain ⟨y, hy, hxy⟩ := hl.get (List.getElem?_eq_getElem hi)
    have hi2 : i < ys.size := by have := hl.1; simp at this hi; omega
    refine ⟨_, y_ext hop hv hi2, ?_⟩
    rw [hv]
    simp only [tupAt]
    rw [List.getD_eq_getElem?_getD, List.getD_eq_getElem?_getD, hy, List.getElem?_eq_getElem hi]
    exact hxy
  · -- makeInterface
    rename_i t x hop
    split at hk
    · cases hk
    · rename_i d hni hd
      split at hk <;> cases hk
      rename_i hx
      refine ⟨.iface t (a.eval x), .inl ?_, .iface (hs.ev hx)⟩
      cases d <;> first | exact absurd rfl (hni _) | simp [execOp, hop, Instr.makeInterface, underlying, hd]
    · cases hk
  · -- typeAssert
    rename_i x t0 t ok hop
    split at hk
    · cases hk
    · rename_i d hni hd
      split at hk <;> cases hk
      rename_i hx
      simp only [Bool.and_eq_true, Bool.not_eq_true'] at hx
      obtain ⟨hx, rfl⟩ := hx
      have hr := hs.ev hx
      simp only [IK.ok] at hok
      simp only [IK.val]
      cases hu : ev σ x <;> simp only [hu, ifOk] at hok <;> try cases hok
      rename_i t' v
      have := of_decide_eq_true hok
      subst this
      rw [hu] at hr
      obtain ⟨y, hv, hy⟩ := hr.inv_iface
      refine ⟨y, .inl ?_, hy⟩
      cases d <;> first | exact absurd rfl (hni _) | simp [execOp, hop, Instr.typeAssert, underlying, hd, hv]
    · cases hk
  · repeat (split at hk <;> try cases hk)
    simp [IK.pure] at hp
  · repeat (split at hk <;> try cases hk)
    simp [IK.pure] at hp
  · repeat (split at hk <;> try cases hk)
    simp [IK.pure] at hp
  · -- makeFunc
    rename_i fn x y hop
    split at hk <;> cases hk
    rename_i hc
    simp only [Bool.and_eq_true] at hc
    refine ⟨_, y_mkfunc hop, ?_⟩
    simp only [IK.val]
    have r1 := list_rel hs _ hc.1
    have r2 := list_rel hs _ hc.2
    exact .func (by simp) (by simpa using r1.2) (by simp) (by simpa using r2.2)
  · -- call
    rename_i c hop
    unfold cCall at hk
    split at hk
    · split at hk <;> cases hk
      simp [IK.pure] at hp
    · repeat (split at hk <;> try cases hk)
      simp [IK.pure] at hp
    · repeat (split at hk <;> try cases hk)
      simp [IK.pure] at hp
    · rename_i hc
      split at hk
      · rename_i x t ha hT
        split at hk
        · rename_i ht
          split at hk <;> cases hk
          rename_i hx
          simp only [IK.ok] at hok
          obtain ⟨e, b, hv⟩ := str_of (hs.ev hx) hok
          refine ⟨_, y_lenS hop hc ha hT ht (by rw [e, hv]), ?_⟩
          simp only [IK.val, hv, zqu]
          exact .flat rfl
        · rename_i e ht
          split at hk <;> cases hk
          rename_i hx
          simp only [IK.ok] at hok
          have hr := hs.ev hx
          simp only [IK.val]
          cases hu : ev σ x <;> simp only [hu, isSl] at hok <;> try cases hok
          rename_i p len c
          rw [hu] at hr
          have hv : ∃ q cap, a.eval x = .slice q len cap := by
            cases p with
            | none =>
              refine ⟨none, c, ?_⟩
              generalize a.eval x = v at hr
              cases hr with
              | flat h => rfl
            | some ad => obtain ⟨_, _, _, _, _, h, _⟩ := hr.inv_slice; exact ⟨_, _, h⟩
          obtain ⟨q, cap, hv⟩ := hv
          exact ⟨_, y_lenV hop hc ha hT ht hv, .flat rfl⟩
        · cases hk
      · cases hk
    · repeat (split at hk <;> try cases hk)
      simp [IK.pure] at hp
    · rename_i hc
      split at hk
      · rename_i x xs ha
        split at hk <;> cases hk
        rename_i hx
        simp only [Bool.and_eq_true] at hx
        simp only [IK.ok, Bool.and_eq_true] at hok
        have h1 := isI_rel (hs.ev hx.1) hok.1
        have h2 : ∀ y ∈ xs, isI (a.eval y) = true := fun y hy => by
          have := List.all_eq_true.1 hok.2 y hy
          rw [(isI_rel (hs.ev (List.all_eq_true.1 hx.2 y hy)) this).1]; exact this
        refine ⟨_, y_minmax (mx := false) hop (by simpa using hc) ha (by rw [h1.1]; exact hok.1) h2, ?_⟩
        rw [minmax_rel false hs xs _ hx.2 hok.2, h1.1]
        simp only [IK.val]
        have h3 := minmax_int (σ := σ) false xs (ev σ x) hok.1 hok.2
        exact .flat (isI_flat h3)
      · cases hk
    · rename_i hc
      split at hk
      · rename_i x xs ha
        split at hk <;> cases hk
        rename_i hx
        simp only [Bool.and_eq_true] at hx
        simp only [IK.ok, Bool.and_eq_true] at hok
        have h1 := isI_rel (hs.ev hx.1) hok.1
        have h2 : ∀ y ∈ xs, isI (a.eval y) = true := fun y hy => by
          have := List.all_eq_true.1 hok.2 y hy
          rw [(isI_rel (hs.ev (List.all_eq_true.1 hx.2 y hy)) this).1]; exact this
        refine ⟨_, y_minmax (mx := true) hop (by simpa using hc) ha (by rw [h1.1]; exact hok.1) h2, ?_⟩
        rw [minmax_rel true hs xs _ hx.2 hok.2, h1.1]
        simp only [IK.val]
        have h3 := minmax_int (σ := σ) true xs (ev σ x) hok.1 hok.2
        exact .flat (isI_flat h3)
      · cases hk
    · cases hk
  · cases hk
end
end Go.DI
namespace Go.DI
open Go Go.RowKit

theorem oneC_eq (v : Value) : v.oneCell' = oneC v := by cases v <;> rfl

section
variable {P : Program} {w w' : World} {ρ : Ren} {m : Mem} {B : Nat}

def updR (ρ : Ren) (id : Nat) (l : Loc) : Ren := fun b => if b = id then some l else ρ b
theorem updR_le {id : Nat} {l : Loc} (h : ρ id = none) : RenLe ρ (updR ρ id l) := by
  intro b l' hb
  unfold updR
  split
  · rename_i e; rw [e, h] at hb; cases hb
  · exact hb

theorem addr_add (c o j : Nat) : (⟨c, o, none⟩ : Addr).add j = ⟨c, o + j, none⟩ := by
  unfold Addr.add; split <;> simp_all

/-- what the cells of a living block hold -/
theorem MRel.cells (hm : MRel B ρ m w) {b : Nat} {x : Blk} {l : Loc} (hg : m.get b = some x) (hl : ρ b = some l) {off n : Nat} (h : off + n ≤ x.cells.length) :
    ∃ ds : List Value, LRel ρ (cellsAt m b off n) ds ∧ ds.length = n ∧ (∀ j u, ds[j]? = some u → w.cell? ((⟨l.c, l.o + off, none⟩ : Addr).add j) = some u) ∧ (∀ u ∈ ds, u.oneCell' = true) := by
  obtain ⟨l', hl', hlen, hc, _⟩ := hm.live b x hg
  rw [hl] at hl'; cases hl'
  have key : ∀ j, j < n → ∃ v v', x.cells[off + j]? = some v ∧ oneC v = true ∧ w.cell? ⟨l.c, l.o + (off + j), none⟩ = some v' ∧ VRel ρ v v' := by
    intro j hj
    have hlt : off + j < x.cells.length := by omega
    obtain ⟨h1, v', h2, h3⟩ := hc (off + j) _ (List.getElem?_eq_getElem hlt)
    exact ⟨_, v', List.getElem?_eq_getElem hlt, h1, h2, h3⟩
  refine ⟨(List.range n).map fun j => (w.cell? ⟨l.c, l.o + (off + j), none⟩).getD undef, ⟨?_, ?_⟩, by simp, ?_, ?_⟩
  · simp [cellsAt, hg]; omega
  · intro i u v hu hv
    simp only [cellsAt, hg] at hu
    rw [List.getElem?_take] at hu
    split at hu
    · rename_i hi
      obtain ⟨v1, v2, g1, g2, g3, g4⟩ := key i hi
      rw [List.getElem?_drop, g1] at hu
      cases hu
      simp [hi, g3] at hv
      subst hv
      exact g4
    · cases hu
  · intro j u hu
    have hj : j < n := by have := (List.getElem?_eq_some_iff.1 hu).1; simpa using this
    obtain ⟨v1, v2, g1, g2, g3, g4⟩ := key j hj
    simp [hj, g3] at hu
    subst hu
    rw [addr_add, Nat.add_assoc]
    exact g3
  · intro u hu
    simp only [List.mem_map, List.mem_range] at hu
    obtain ⟨j, hj, rfl⟩ := hu
    obtain ⟨v1, v2, g1, g2, g3, g4⟩ := key j hj
    rw [g3]
    simp only [Option.getD_some, oneC_eq]
    rw [g4.oneC]; exact g2

theorem cellsAt_length {b : Nat} {x : Blk} (hg : m.get b = some x) {off n : Nat} (h : off + n ≤ x.cells.length) : (cellsAt m b off n).length = n := by
  simp [cellsAt, hg]; omega

/-- a new block of the abstract memory over cells that no living block uses -/
theorem MRel.adopt (hm : MRel B ρ m w) {id C O n : Nat} {cs : List Value} (hid : id < m.next) (hr : ρ id = none)
    (hfree : ∀ b x l, m.get b = some x → ρ b = some l → l.c ≠ C) (hsz : w.heap.size ≤ w'.heap.size) (hC : C < w'.heap.size) (hB : B ≤ C)
    (hsame : ∀ a : Addr, a.block < w.heap.size → a.block ≠ C → w'.cell? a = w.cell? a ∧ w'.frozen? a = w.frozen? a)
    (hobj : ∀ k, k < w.heap.size → k ≠ C → w'.heap[k]? = w.heap[k]?)
    (hlen : cs.length ≤ n) (hcs : ∀ i v, cs[i]? = some v → oneC v = true ∧ ∃ v', w'.cell? ⟨C, O + i, none⟩ = some v' ∧ VRel ρ v v')
    (hn : ∀ i, i < n → (w'.cell? ⟨C, O + i, none⟩).isSome = true ∧ w'.frozen? ⟨C, O + i, none⟩ = false) :
    MRel B (updR ρ id ⟨C, O, n⟩) (m.put id (some ⟨cs, true⟩)) w' := by
  have hle := updR_le (l := ⟨C, O, n⟩) hr
  refine ⟨fun b l hb => ?_, fun b l hb => ?_, fun b x hx => ?_, fun b x b' x' l l' h1 h2 h3 h4 h5 h6 => ?_, fun b es hb => ?_, fun b es hb => ?_⟩
  · unfold updR at hb
    split at hb
    · rename_i e; rw [e]; exact hid
    · exact hm.dom b l hb
  · unfold updR at hb
    split at hb
    · cases hb; exact hC
    · exact Nat.lt_of_lt_of_le (hm.inb b l hb) hsz
  · rw [Mem.get_put] at hx
    split at hx
    · rename_i e
      cases hx
      exact ⟨⟨C, O, n⟩, by simp [updR, e], hlen, fun i v hv => by obtain ⟨q1, v', q2, q3⟩ := hcs i v hv; exact ⟨q1, v', q2, q3.mono hle⟩, fun _ => ⟨hB, hn⟩⟩
    · obtain ⟨l, g1, g2, g3, g4⟩ := hm.live b x hx
      have hlb := hm.inb b l g1
      have hne := hfree b x l hx g1
      refine ⟨l, hle _ _ g1, g2, fun i v hv => ?_, fun ho => ⟨(g4 ho).1, fun i hi => ?_⟩⟩
      · obtain ⟨q1, v', q2, q3⟩ := g3 i v hv
        exact ⟨q1, v', by rw [(hsame _ hlb hne).1]; exact q2, q3.mono hle⟩
      · have := (g4 ho).2 i hi
        rw [(hsame ⟨l.c, l.o + i, none⟩ hlb hne).1, (hsame ⟨l.c, l.o + i, none⟩ hlb hne).2]; exact this
  · rw [Mem.get_put] at h1 h3
    unfold updR at h5 h6
    split at h1
    · rename_i e
      rw [if_neg (by rw [← e]; exact Ne.symm h4)] at h3
      rw [if_pos e] at h5
      rw [if_neg (by rw [← e]; exact Ne.symm h4)] at h6
      cases h5
      exact Ne.symm (hfree b' x' l' h3 h6)
    · rename_i e
      rw [if_neg e] at h5
      split at h3
      · rename_i e'
        rw [if_pos e'] at h6
        cases h6
        exact hfree b x l h1 h5
      · rename_i e'
        rw [if_neg e'] at h6
        exact hm.excl b x b' x' l l' h1 h2 h3 h4 h5 h6
  · obtain ⟨l, hl⟩ := hm.mdom b es hb
    exact ⟨l, hle _ _ hl⟩
  · obtain ⟨g1, g2⟩ := Mem.getM_get hb
    have hne : b ≠ id := fun e => by
      subst e
      obtain ⟨l, hl⟩ := hm.mdom b es g2
      rw [hr] at hl; cases hl
    rw [Mem.get_put, if_neg hne] at g1
    obtain ⟨l, es', ck, p1, p2, p3, p4⟩ := hm.maps b es (Mem.getM_of g1 g2)
    exact ⟨l, es', ck, hle _ _ p1, p2, by rw [hobj l.c (hm.inb b l p1) (hfree b _ l g1 p1)]; exact p3, p4.mono hle⟩

theorem MRel.kill (hm : MRel B ρ m w) (b : Nat) : MRel B ρ (m.put b none) w := by
  have hg : ∀ b' x, (m.put b none).get b' = some x → b' ≠ b ∧ m.get b' = some x := by
    intro b' x h
    rw [Mem.get_put] at h
    split at h
    · split at h <;> cases h
    · rename_i e; exact ⟨e, h⟩
  exact ⟨hm.dom, hm.inb, fun b' x hx => hm.live b' x (hg b' x hx).2, fun b1 x1 b2 x2 l1 l2 h1 h2 h3 => hm.excl b1 x1 b2 x2 l1 l2 (hg _ _ h1).2 h2 (hg _ _ h3).2, hm.mdom, fun b' es hb => by
    obtain ⟨g1, g2⟩ := Mem.getM_get hb
    exact hm.maps b' es (Mem.getM_of (hg _ _ g1).2 g2)⟩

theorem setCells_obj (b k : Nat) (hk : k ≠ b) : ∀ (vs : List Value) (o : Nat) (w : World), (w.setCells b o vs).heap[k]? = w.heap[k]?
  | [], _, _ => rfl
  | v :: vs, o, w => by rw [World.setCells, setCells_obj b k hk vs]; simp [World.setCell, Array.getElem?_modify, Ne.symm hk]
theorem setCells_heap (b : Nat) : ∀ (vs : List Value) (o : Nat) (w : World), (w.setCells b o vs).heap.size = w.heap.size
  | [], _, _ => rfl
  | v :: vs, o, w => by rw [World.setCells, setCells_heap b vs]; simp [World.setCell]
theorem below_setCells {B b : Nat} (hb : B ≤ b) : ∀ (vs : List Value) (o : Nat) (w : World), Below B w (w.setCells b o vs)
  | [], _, _ => Below.refl _ _
  | v :: vs, o, w => ((Below.refl B w).setCell (p := ⟨b, o, none⟩) hb v).trans (below_setCells hb vs _ _)

theorem blit_get : ∀ (vs : List Value) (off : Nat) (cs : List Value) (i : Nat), off + vs.length ≤ cs.length → (blit cs off vs)[i]? = if off ≤ i ∧ i < off + vs.length then vs[i - off]? else cs[i]?
  | [], off, cs, i, _ => by simp [blit]; intro h1 h2; omega
  | v :: vs, off, cs, i, h => by
    simp only [blit]
    simp only [List.length_cons] at h
    rw [blit_get vs (off + 1) (cs.set off v) i (by simp; omega), List.getElem?_set]
    by_cases h1 : off = i
    · subst h1
      rw [if_neg (by omega), if_pos rfl, if_pos (by omega), if_pos (by simp)]
      simp
    · by_cases h2 : off + 1 ≤ i ∧ i < off + 1 + vs.length
      · rw [if_pos h2, if_pos ⟨by omega, by simp; omega⟩, show i - off = (i - (off + 1)) + 1 by omega]
        simp
      · rw [if_neg h2, if_neg h1, if_neg (by simp; omega)]

/-- a store into a living block of the call's own -/
theorem MRel.store (hm : MRel B ρ m w) {b : Nat} {x : Blk} {l : Loc} (hg : m.get b = some x) (ho : x.own = true) (hl : ρ b = some l) {off : Nat} {cs us : List Value} (hr : LRel ρ cs us) (hone : ∀ v ∈ cs, oneC v = true)
    (h : off + cs.length ≤ x.cells.length) : MRel B ρ (m.put b (some ⟨blit x.cells off cs, x.own⟩)) (w.setCells l.c (l.o + off) us) := by
  have hb := Mem.get_lt hg
  have hlen := hr.1
  obtain ⟨l', hl', q1, q2, q3⟩ := hm.live b x hg
  rw [hl] at hl'; cases hl'
  have hother : ∀ b' x' l'', m.get b' = some x' → b' ≠ b → ρ b' = some l'' → l''.c ≠ l.c := fun b' x' l'' h1 h2 h3 => Ne.symm (hm.excl b x b' x' l l'' hg ho h1 (Ne.symm h2) hl h3)
  refine ⟨hm.dom, fun b' l' h' => by rw [setCells_heap]; exact hm.inb b' l' h', fun b' x' hx => ?_, fun b1 x1 b2 x2 l1 l2 h1 h2 h3 h4 h5 h6 => ?_, hm.mdom, fun b' es hb' => ?_⟩
  · rw [Mem.get_put] at hx
    split at hx
    · rename_i e
      cases hx
      subst e
      refine ⟨l, hl, by rw [blit_length]; exact q1, fun i v hv => ?_, fun _ => ⟨(q3 ho).1, fun i hi => ?_⟩⟩
      · rw [blit_get _ _ _ _ h] at hv
        split at hv
        · rename_i hi
          obtain ⟨u, hu, huv⟩ := hr.get hv
          refine ⟨hone v (List.mem_of_getElem? hv), u, ?_, huv⟩
          have hj : i - off < us.length := by omega
          have := World.cell?_setCells_in l.c us (l.o + off) w (fun j hj' => by
            have := ((q3 ho).2 (off + j) (by omega)).1
            rwa [← Nat.add_assoc] at this) (i - off) hj
          rw [show l.o + off + (i - off) = l.o + i by omega] at this
          rw [this]
          rw [List.getElem?_eq_getElem hj] at hu
          exact hu
        · rename_i hi
          obtain ⟨g1, v', g2, g3⟩ := q2 i v hv
          refine ⟨g1, v', ?_, g3⟩
          rw [World.cell?_setCells_out l.c us (l.o + off) w _ (fun _ _ => by show l.o + i < l.o + off ∨ l.o + off + us.length ≤ l.o + i; omega)]
          exact g2
      · have hq := (q3 ho).2 i hi
        refine ⟨?_, by rw [World.frozen?_setCells]; exact hq.2⟩
        by_cases hi2 : off ≤ i ∧ i < off + us.length
        · have := World.cell?_setCells_in l.c us (l.o + off) w (fun j hj' => by
            have := ((q3 ho).2 (off + j) (by omega)).1
            rwa [← Nat.add_assoc] at this) (i - off) (by omega)
          rw [show l.o + off + (i - off) = l.o + i by omega] at this
          rw [this]; rfl
        · rw [World.cell?_setCells_out l.c us (l.o + off) w _ (fun _ _ => by show l.o + i < l.o + off ∨ l.o + off + us.length ≤ l.o + i; omega)]
          exact hq.1
    · rename_i e
      obtain ⟨l', g1, g2, g3, g4⟩ := hm.live b' x' hx
      have hne := hother b' x' l' hx e g1
      have hc : ∀ i, (w.setCells l.c (l.o + off) us).cell? ⟨l'.c, l'.o + i, none⟩ = w.cell? ⟨l'.c, l'.o + i, none⟩ := fun i => World.cell?_setCells_out _ _ _ _ _ (fun hh _ => absurd hh hne)
      refine ⟨l', g1, g2, fun i v hv => by rw [hc]; exact g3 i v hv, fun hown => ⟨(g4 hown).1, fun i hi => by rw [hc, World.frozen?_setCells]; exact (g4 hown).2 i hi⟩⟩
  · have hget : ∀ b' x', (m.put b (some ⟨blit x.cells off cs, x.own⟩)).get b' = some x' → ∃ x'', m.get b' = some x'' ∧ x''.own = x'.own := by
      intro b' x' hx
      rw [Mem.get_put] at hx
      split at hx
      · rename_i e
        cases hx
        exact ⟨x, by rw [e]; exact hg, rfl⟩
      · exact ⟨x', hx, rfl⟩
    obtain ⟨y1, p1, p2⟩ := hget b1 x1 h1
    obtain ⟨y2, p3, p4⟩ := hget b2 x2 h3
    exact hm.excl b1 y1 b2 y2 l1 l2 p1 (by rw [p2]; exact h2) p3 h4 h5 h6
  · obtain ⟨g1, g2⟩ := Mem.getM_get hb'
    rw [Mem.get_put] at g1
    by_cases e : b' = b
    · subst e
      rw [if_pos rfl, if_pos hb] at g1
      injection g1 with g1
      have hc : x.cells = [] := by
        have := congrArg (fun y => y.cells.length) g1
        simp only [blit_length, List.length_nil] at this
        exact List.length_eq_zero_iff.1 this
      have hu : us = [] := by
        rw [hc] at h
        simp at h
        exact List.length_eq_zero_iff.1 (by rw [← hlen, h.2]; rfl)
      subst hu
      have hx : x = ⟨[], true⟩ := by cases x; simp at hc ho; rw [hc, ho]
      obtain ⟨l2, es', ck, p1, p2, p3, p4⟩ := hm.maps b' es (Mem.getM_of (by rw [hg, hx]) g2)
      exact ⟨l2, es', ck, p1, p2, p3, p4⟩
    · rw [if_neg e] at g1
      obtain ⟨l2, es', ck, p1, p2, p3, p4⟩ := hm.maps b' es (Mem.getM_of g1 g2)
      exact ⟨l2, es', ck, p1, p2, by rw [setCells_obj _ _ (hother b' _ l2 g1 e p1)]; exact p3, p4⟩

end
end Go.DI
namespace Go.DI
open Go Go.RowKit

/-- what is shown of an operation -/
def Sound (P : Program) (o : Oper) (k : IK) (a : Act) (B : Nat) (ρ : Ren) (σ : Slots) (m : Mem) (w : World) (id : Nat) : Prop :=
  ∃ v' w' ρ', Yields P o a w v' w' ∧ RenLe ρ ρ' ∧ (∀ b, b ≠ id → ρ' b = ρ b) ∧ VRel ρ' (k.val id σ m) v' ∧ MRel B ρ' (k.mem id σ m) w' ∧ Below B w w'

section
variable {P : Program} {w : World} {o : Oper} {a : Act} {ρ : Ren} {nt : Nat} {σ : Slots} {m : Mem} {B id : Nat}

theorem updR_other {l : Loc} : ∀ b, b ≠ id → updR ρ id l b = ρ b := fun b h => by simp [updR, h]

theorem MRel.newBlock (hm : MRel B ρ m w) {w1 : World} (hw : w1.heap = w.heap) (hB : B ≤ w.heap.size) (hid : id < m.next) (hr : ρ id = none) {cs : List Value} {ds : Array Value} {e : TypeId} {fr : Nat × Nat} {n : Nat}
    (hlen : cs.length ≤ n) (hn : n ≤ ds.size) (hcs : ∀ (i : Nat) v, cs[i]? = some v → oneC v = true ∧ ∃ v', ds[i]? = some v' ∧ VRel ρ v v') (hfr : ∀ i, i < n → ¬ (fr.1 ≤ i ∧ i < fr.2)) :
    MRel B (updR ρ id ⟨w.heap.size, 0, n⟩) (m.put id (some ⟨cs, true⟩)) (w1.alloc (.cells ds e fr)) := by
  have hsz : (w1.alloc (.cells ds e fr)).heap.size = w.heap.size + 1 := by show (w1.heap.push _).size = _; rw [Array.size_push, hw]
  have hnew : (w1.alloc (.cells ds e fr)).heap[w.heap.size]? = some (.cells ds e fr) := by show (w1.heap.push _)[_]? = _; rw [hw]; simp
  refine hm.adopt hid hr (fun b x l hx hl => by have := hm.inb b l hl; omega) (by omega) (by omega) hB (fun ad h1 h2 => ?_) (fun k h1 _ => by show (w1.heap.push _)[k]? = _; rw [hw, Array.getElem?_push, if_neg (by omega)]) hlen (fun i v hv => ?_) (fun i hi => ?_)
  · have : (w1.alloc (.cells ds e fr)).heap[ad.block]? = w.heap[ad.block]? := by
      show (w1.heap.push _)[_]? = _
      rw [hw, Array.getElem?_push, if_neg (by omega)]
    exact ⟨World.cell?_of_block (w := w) this, World.frozen?_of_block (w := w) this⟩
  · obtain ⟨q1, v', q2, q3⟩ := hcs i v hv
    refine ⟨q1, v', ?_, q3⟩
    simp [World.cell?, hnew, q2]
  · have hi2 : i < ds.size := by omega
    refine ⟨by simp [World.cell?, hnew, hi2], ?_⟩
    have := hfr i hi
    simp only [World.frozen?, hnew, Nat.zero_add]
    simpa using this

theorem below_alloc {w1 : World} (hw : w1.heap = w.heap) (ho : w1.os = w.os) (ht : w1.tape = w.tape) (hu : w1.output = w.output) (hB : B ≤ w.heap.size) (x : Obj) : Below B w (w1.alloc x) := by
  have : Below B w w1 := ⟨ho, ht, hu, by rw [hw]; exact Nat.le_refl _, fun k _ => by rw [hw]⟩
  exact this.alloc (by rw [hw]; exact hB) x

theorem cells_list {cs : List Value} {ds : Array Value} (h : LRel ρ cs ds.toList) (h1 : ∀ v ∈ cs, oneC v = true) : ∀ (i : Nat) v, cs[i]? = some v → oneC v = true ∧ ∃ v', ds[i]? = some v' ∧ VRel ρ v v' := by
  intro i v hv
  obtain ⟨y, hy, hxy⟩ := h.get hv
  exact ⟨h1 v (List.mem_of_getElem? hv), y, by simpa using hy, hxy⟩

theorem s_alloc {e : TypeId} {z : List Value} (hop : o.op = .alloc e) (hz : tyZero P e = some z) (hm : MRel B ρ m w) (hB : B ≤ w.heap.size) (hid : id < m.next) (hr : ρ id = none) : Sound P o (.alloc z) a B ρ σ m w id := by
  obtain ⟨inf, zv, hi, hzv, hzl, hfl, hlen⟩ := tyZero_spec hz
  refine ⟨.pointer (some ⟨w.heap.size, 0, none⟩), w.alloc (.cells zv.cells e), updR ρ id ⟨w.heap.size, 0, z.length⟩, .inl ?_, updR_le hr, updR_other, ?_, ?_, below_alloc rfl rfl rfl rfl hB _⟩
  · simp only [execOp, hop, Instr.alloc, Sem.run_bind, zeroValue, typeInfo, run_program, hi, Sem.run_pure, Result.andThen_ok, hzv, newVar, newRow]
    rfl
  · exact .ptr (off := 0) (l := ⟨w.heap.size, 0, z.length⟩) (by simp [updR])
  · refine hm.newBlock rfl hB hid hr (Nat.le_refl _) (by rw [← hzl]; simp) (cells_list (by rw [hzl]; exact LRel.flat ρ hfl) fun v hv => flat_one (List.all_eq_true.1 hfl v hv)) (fun i _ => by simp)

theorem s_box {e : TypeId} {x : Operand} (hop : o.op = .box e x) (hx : argOk x = true) (hs : SRel ρ nt σ a) (hok : (IK.box x).ok σ m = true) (hm : MRel B ρ m w) (hB : B ≤ w.heap.size) (hid : id < m.next) (hr : ρ id = none) : Sound P o (.box x) a B ρ σ m w id := by
  have hv := vcells_rel (hs.ev hx)
  have hone := vcells_one (hs.ev hx) hok
  have hl : (a.eval x).cells.size = (vcells (ev σ x)).length := by have := hv.1; simp at this; exact this.symm
  refine ⟨.pointer (some ⟨w.heap.size, 0, none⟩), w.alloc (.cells (a.eval x).cells e), updR ρ id ⟨w.heap.size, 0, (vcells (ev σ x)).length⟩, .inl ?_, updR_le hr, updR_other, ?_, ?_, below_alloc rfl rfl rfl rfl hB _⟩
  · simp only [execOp, hop, Instr.box, Sem.run_bind, newVar, newRow]
    rfl
  · exact .ptr (off := 0) (l := ⟨w.heap.size, 0, (vcells (ev σ x)).length⟩) (by simp [updR])
  · exact hm.newBlock rfl hB hid hr (Nat.le_refl _) (by omega) (cells_list hv hone) (fun i _ => by simp)

/-! loads -/
theorem addrOk_spec {v : Value} {n : Nat} (h : addrOk m v n = true) : ∃ b off x, v = .pointer (some ⟨b, off, none⟩) ∧ m.get b = some x ∧ off + n ≤ x.cells.length := by
  unfold addrOk at h
  split at h
  · rename_i ad
    simp only [Bool.and_eq_true, Option.isNone_iff_eq_none] at h
    obtain ⟨hsp, h⟩ := h
    split at h
    · rename_i x hx
      obtain ⟨b, off, sp⟩ := ad
      simp only at hsp hx h
      subst hsp
      exact ⟨b, off, x, rfl, hx, by simpa using h⟩
    · cases h
  · cases h

theorem run_loadVar {t : TypeId} {ag : Bool} {n : Nat} {ad : Addr} {ds : List Value} (hag : tyAgg P t = some ag) (hn : tySize P t = some n) (h1 : ag = true ∨ n = 1) (hl : ds.length = n) (hc : ∀ (j : Nat) u, ds[j]? = some u → w.cell? (ad.add j) = some u) :
    (loadVar t ad).run P w = .ok (if ag then .agg ds.toArray else ds.headD undef) w := by
  obtain ⟨inf, hi, rfl⟩ := tySize_spec hn
  simp only [loadVar, Sem.run_bind, tyAgg_spec hag, Result.andThen_ok]
  cases ag
  · have h2 : inf.size = 1 := by simpa using h1
    rw [h2] at hl
    obtain ⟨d, rfl⟩ := len1 hl
    have h3 := hc 0 d rfl
    have e : ad.add 0 = ad := by simp [Addr.add]
    rw [e] at h3
    simp only [Bool.false_eq_true, if_false, List.headD_cons]
    simp [Go.load, Sem.run, h3]
  · simp only [if_true, Sem.run_bind, sizeOf, typeInfo, run_program, hi, Sem.run_pure, Result.andThen_ok]
    have := run_loadCells_list (P := P) w ad ds hc
    rw [hl] at this
    simp [this]

theorem loadV_rel {ag : Bool} {n : Nat} {v v' : Value} (hm : MRel B ρ m w) (hv : VRel ρ v v') (hok : addrOk m v n = true) (h1 : ag = true ∨ n = 1) :
    ∃ (ad : Addr) (ds : List Value), v' = .pointer (some ad) ∧ ds.length = n ∧ (∀ (j : Nat) u, ds[j]? = some u → w.cell? (ad.add j) = some u) ∧ VRel ρ (loadV m ag n v) (if ag then .agg ds.toArray else ds.headD undef) := by
  obtain ⟨b, off, x, rfl, hx, hoff⟩ := addrOk_spec hok
  obtain ⟨l, hl, _, rfl⟩ := hv.inv_ptr
  obtain ⟨ds, r1, r2, r3, r4⟩ := hm.cells hx hl hoff
  refine ⟨_, ds, rfl, r2, r3, ?_⟩
  simp only [loadV]
  cases ag
  · have h2 : n = 1 := by simpa using h1
    subst h2
    obtain ⟨d, rfl⟩ := len1 r2
    simp only [Bool.false_eq_true, if_false, List.headD_cons]
    have hlen := r1.1
    simp only [List.length_cons, List.length_nil] at hlen
    obtain ⟨u, hu⟩ := len1 hlen
    rw [hu] at r1 ⊢
    exact r1.2 0 u d rfl rfl
  · refine r1.agg fun u hu => ?_
    obtain ⟨l', hl', q1, q2, q3⟩ := hm.live b x hx
    simp only [cellsAt, hx] at hu
    obtain ⟨i, hi, hiu⟩ := List.getElem_of_mem (List.mem_of_mem_drop (List.mem_of_mem_take hu))
    exact (q2 i u (by rw [List.getElem?_eq_getElem hi, hiu])).1

theorem s_load {t : TypeId} {x : Operand} {ag : Bool} {n : Nat} (hop : o.op = .load t x) (hag : tyAgg P t = some ag) (hn : tySize P t = some n) (hx : argOk x = true) (hs : SRel ρ nt σ a) (hm : MRel B ρ m w)
    (hok : (IK.load ag n x).ok σ m = true) : Sound P o (.load ag n x) a B ρ σ m w id := by
  simp only [IK.ok, Bool.and_eq_true, Bool.or_eq_true, decide_eq_true_eq] at hok
  obtain ⟨ad, ds, h1, h2, h3, h4⟩ := loadV_rel hm (hs.ev hx) hok.1 hok.2
  refine ⟨_, w, ρ, .inl ?_, RenLe.refl ρ, fun _ _ => rfl, h4, hm, Below.refl _ _⟩
  simp only [execOp, hop, h1, Instr.loadAt, Instr.sureAddr, Sem.run_bind, Sem.run_pure, Result.andThen_ok, run_loadVar hag hn hok.2 h2 h3]

theorem s_sliceA {t e : TypeId} {x : Operand} {lo hi mx : Option Operand} {n z : Nat} (hop : o.op = .slice t x lo hi mx) (ha : P.underlying t = some (.array n e)) (hz : tySize P e = some z)
    (hx : argOk x = true) (h1 : lo = none) (h2 : hi = none) (h3 : mx = none) (hs : SRel ρ nt σ a) (hm : MRel B ρ m w) (hok : (IK.sliceA z n x).ok σ m = true) : Sound P o (.sliceA z n x) a B ρ σ m w id := by
  subst h1 h2 h3
  simp only [IK.ok, Bool.and_eq_true, decide_eq_true_eq] at hok
  obtain ⟨hok, hmx⟩ := hok
  obtain ⟨b, off, y, e1, hy, hoff⟩ := addrOk_spec hok
  have hr := hs.ev hx
  rw [e1] at hr
  obtain ⟨l, hl, _, e2⟩ := hr.inv_ptr
  obtain ⟨inf, hi, rfl⟩ := tySize_spec hz
  obtain ⟨l', hl', q1, q2, q3⟩ := hm.live b y hy
  rw [hl] at hl'; cases hl'
  refine ⟨_, w, ρ, y_sliceA hop ha hi e2, RenLe.refl ρ, fun _ _ => rfl, ?_, hm, Below.refl _ _⟩
  simp only [IK.val, e1, arrSl]
  by_cases hn : n = 0
  · rw [if_pos hn]
    subst hn
    exact .slice hl (.inl ⟨rfl, rfl⟩) (Nat.le_refl _) (by omega)
  · rw [if_neg hn]
    have ha : (⟨l.c, l.o + off, none⟩ : Addr).add (0 * inf.size) = ⟨l.c, l.o + off, none⟩ := by
      unfold Addr.add
      simp
    rw [ha]
    exact .slice hl (.inr ⟨rfl, by simp only [Nat.sub_zero]; omega⟩) (Nat.le_refl _) (by omega)

theorem s_store {t : TypeId} {x v : Operand} {n : Nat} (hop : o.op = .store t x v) (hn : tySize P t = some n) (hx : argOk x = true) (hv : argOk v = true) (hs : SRel ρ nt σ a) (hm : MRel B ρ m w)
    (hok : (IK.store n x v).ok σ m = true) : Sound P o (.store n x v) a B ρ σ m w id := by
  simp only [IK.ok, Bool.and_eq_true, decide_eq_true_eq] at hok
  obtain ⟨⟨⟨h1, h2⟩, hnt⟩, h3⟩ := hok
  have hone := vcells_one (hs.ev hv) hnt
  obtain ⟨b, off, y, e1, hy, hoff⟩ := addrOk_spec h1
  have hr := hs.ev hx
  rw [e1] at hr
  obtain ⟨l, hl, _, e2⟩ := hr.inv_ptr
  have hown : y.own = true := by simpa [e1, addrOwn, hy] using h2
  have hc := vcells_rel (hs.ev hv)
  obtain ⟨inf, hi, rfl⟩ := tySize_spec hn
  have hsz : (a.eval v).cells.size = inf.size := by have := hc.1; simp at this; omega
  obtain ⟨l', hl', q1, q2, q3⟩ := hm.live b y hy
  rw [hl] at hl'; cases hl'
  have hones : ∀ u ∈ (a.eval v).cells.toList, u.oneCell' = true := by
    intro u hu
    obtain ⟨i, hi', hiu⟩ := List.getElem_of_mem hu
    have hi2 : i < (vcells (ev σ v)).length := by rw [hc.1]; exact hi'
    have := (hc.2 i _ u (List.getElem?_eq_getElem hi2) (by rw [List.getElem?_eq_getElem hi', hiu])).oneC
    rw [oneC_eq, this]
    exact hone _ (List.getElem_mem hi2)
  refine ⟨undef, w.setCells l.c (l.o + off) (a.eval v).cells.toList, ρ, .inr ⟨?_, rfl⟩, RenLe.refl ρ, fun _ _ => rfl, VRel.undef ρ, ?_, below_setCells (q3 hown).1 _ _ _⟩
  · have hst := run_storeCells_cells (P := P) l.c (l.o + off) (a.eval v).cells.toList 0 w (fun j hj => by
      have := ((q3 hown).2 (off + j) (by simp at hj; omega)).1
      rwa [← Nat.add_assoc] at this) (fun j hj => by
      have := ((q3 hown).2 (off + j) (by simp at hj; omega)).2
      rwa [← Nat.add_assoc] at this) hones
    simp only [Nat.add_zero] at hst
    simp [execOp, hop, e2, Instr.storeAt, Instr.sureAddr, storeVar, sizeOf, typeInfo, hi, hsz, hst]
  · simp only [IK.mem, e1, storeM, hy]
    exact hm.store hy hown hl hc hone (by omega)

end
end Go.DI
