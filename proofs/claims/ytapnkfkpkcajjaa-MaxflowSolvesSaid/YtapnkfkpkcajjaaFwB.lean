/-
  The relation between the abstract memory and the model's world; values; the operations that touch no memory.
-/
import Derived.Test.YtapnkfkpkcajjaaFwA
namespace Go.DI
open Go Go.RowKit

structure Loc where
  c : Nat
  o : Nat
  n : Nat

abbrev Ren := Nat → Option Loc

inductive VRel (ρ : Ren) : Value → Value → Prop
  | flat {v : Value} (h : flat1 v = true) : VRel ρ v v
  | ptr {b off : Nat} {l : Loc} (h : ρ b = some l) : VRel ρ (.pointer (some ⟨b, off, none⟩)) (.pointer (some ⟨l.c, l.o + off, none⟩))
  | slice {b off len z cap : Nat} {a' : Addr} {l : Loc} (h : ρ b = some l) (hn : (cap = 0 ∧ len = 0) ∨ (a' = ⟨l.c, l.o + off, none⟩ ∧ off + cap * z ≤ l.n)) (hl : len ≤ cap) (hm : cap ≤ maxLen) :
      VRel ρ (.slice (some ⟨b, off, none⟩) len z) (.slice (some a') len cap)
  | agg {xs ys : Array Value} (hs : xs.size = ys.size) (h : ∀ (i : Nat) (x y : Value), xs[i]? = some x → ys[i]? = some y → VRel ρ x y) (h1 : ∀ x ∈ xs.toList, oneC x = true) : VRel ρ (.agg xs) (.agg ys)
  | tuple {xs ys : Array Value} (hs : xs.size = ys.size) (h : ∀ (i : Nat) (x y : Value), xs[i]? = some x → ys[i]? = some y → VRel ρ x y) : VRel ρ (.tuple xs) (.tuple ys)
  | func {fn : Fn} {xs ys cs ds : Array Value} (hs : xs.size = ys.size) (h : ∀ (i : Nat) (x y : Value), xs[i]? = some x → ys[i]? = some y → VRel ρ x y)
      (hs2 : cs.size = ds.size) (h2 : ∀ (i : Nat) (x y : Value), cs[i]? = some x → ds[i]? = some y → VRel ρ x y) : VRel ρ (.func fn xs cs) (.func fn ys ds)

def RenLe (ρ ρ' : Ren) : Prop := ∀ b l, ρ b = some l → ρ' b = some l
theorem RenLe.refl (ρ : Ren) : RenLe ρ ρ := fun _ _ h => h
theorem RenLe.trans {a b c : Ren} (h : RenLe a b) (h' : RenLe b c) : RenLe a c := fun x l hx => h' x l (h x l hx)

theorem VRel.mono {ρ ρ' : Ren} (hle : RenLe ρ ρ') {v v' : Value} (h : VRel ρ v v') : VRel ρ' v v' := by
  induction h with
  | flat h => exact .flat h
  | ptr h => exact .ptr (hle _ _ h)
  | slice h hn hl hm => exact .slice (hle _ _ h) hn hl hm
  | agg hs _ h1 ih => exact .agg hs ih h1
  | tuple hs _ ih => exact .tuple hs ih
  | func hs _ hs2 _ ih ih2 => exact .func hs ih hs2 ih2

def LRel (ρ : Ren) (xs ys : List Value) : Prop := xs.length = ys.length ∧ ∀ (i : Nat) (x y : Value), xs[i]? = some x → ys[i]? = some y → VRel ρ x y
theorem LRel.nil (ρ : Ren) : LRel ρ [] [] := ⟨rfl, by intro i x y h; simp at h⟩
theorem LRel.cons {ρ : Ren} {x y : Value} {xs ys : List Value} (h : VRel ρ x y) (hs : LRel ρ xs ys) : LRel ρ (x :: xs) (y :: ys) := by
  refine ⟨by simp [hs.1], fun i a b ha hb => ?_⟩
  cases i with
  | zero => simp at ha hb; subst ha; subst hb; exact h
  | succ i => exact hs.2 i a b (by simpa using ha) (by simpa using hb)
theorem LRel.mono {ρ ρ' : Ren} (hle : RenLe ρ ρ') {xs ys : List Value} (h : LRel ρ xs ys) : LRel ρ' xs ys := ⟨h.1, fun i x y hx hy => (h.2 i x y hx hy).mono hle⟩
theorem LRel.agg {ρ : Ren} {xs ys : List Value} (h : LRel ρ xs ys) (h1 : ∀ x ∈ xs, oneC x = true) : VRel ρ (.agg xs.toArray) (.agg ys.toArray) := .agg (by simpa using h.1) (by simpa using h.2) (by simpa using h1)
theorem LRel.tuple {ρ : Ren} {xs ys : List Value} (h : LRel ρ xs ys) : VRel ρ (.tuple xs.toArray) (.tuple ys.toArray) := .tuple (by simpa using h.1) (by simpa using h.2)
theorem LRel.of_agg {ρ : Ren} {xs ys : Array Value} (h : VRel ρ (.agg xs) (.agg ys)) : LRel ρ xs.toList ys.toList := by
  cases h with
  | flat h => simp [flat1] at h
  | agg hs h _ => exact ⟨by simpa using hs, by simpa using h⟩
theorem LRel.append {ρ : Ren} {a b c d : List Value} (h : LRel ρ a b) (h' : LRel ρ c d) : LRel ρ (a ++ c) (b ++ d) := by
  refine ⟨by simp [h.1, h'.1], fun i x y hx hy => ?_⟩
  rw [List.getElem?_append] at hx hy
  rw [← h.1] at hy
  split at hx
  · rename_i hi; rw [if_pos hi] at hy; exact h.2 _ _ _ hx hy
  · rename_i hi; rw [if_neg hi] at hy; exact h'.2 _ _ _ hx hy
theorem LRel.drop {ρ : Ren} {a b : List Value} (h : LRel ρ a b) (n : Nat) : LRel ρ (a.drop n) (b.drop n) :=
  ⟨by simp [h.1], fun i x y hx hy => h.2 (n + i) x y (by simpa using hx) (by simpa using hy)⟩
theorem LRel.take {ρ : Ren} {a b : List Value} (h : LRel ρ a b) (n : Nat) : LRel ρ (a.take n) (b.take n) := by
  refine ⟨by simp [h.1], fun i x y hx hy => ?_⟩
  rw [List.getElem?_take] at hx hy
  split at hx
  · rename_i hi; rw [if_pos hi] at hy; exact h.2 _ _ _ hx hy
  · cases hx
theorem LRel.set {ρ : Ren} {a b : List Value} (h : LRel ρ a b) (n : Nat) {x y : Value} (hv : VRel ρ x y) : LRel ρ (a.set n x) (b.set n y) := by
  refine ⟨by simp [h.1], fun i u v hx hy => ?_⟩
  rw [List.getElem?_set] at hx hy
  rw [← h.1] at hy
  split at hx
  · rename_i hi
    rw [if_pos hi] at hy
    split at hx
    · rename_i h2
      rw [if_pos h2] at hy
      simp at hx hy; subst hx; subst hy; exact hv
    · cases hx
  · rename_i hi
    rw [if_neg hi] at hy
    exact h.2 _ _ _ hx hy
theorem LRel.blit {ρ : Ren} : ∀ {vs us : List Value} {a b : List Value} (off : Nat), LRel ρ a b → LRel ρ vs us → LRel ρ (blit a off vs) (blit b off us)
  | [], [], _, _, _, h, _ => h
  | [], u :: us, _, _, _, _, h2 => by simp [LRel] at h2
  | v :: vs, [], _, _, _, _, h2 => by simp [LRel] at h2
  | v :: vs, u :: us, a, b, off, h, h2 => by
    simp only [Go.DI.blit]
    exact LRel.blit (off + 1) (h.set off (h2.2 0 v u rfl rfl)) ⟨by simpa using h2.1, fun i x y hx hy => h2.2 (i + 1) x y (by simpa using hx) (by simpa using hy)⟩
theorem LRel.get {ρ : Ren} {a b : List Value} (h : LRel ρ a b) {i : Nat} {x : Value} (hx : a[i]? = some x) : ∃ y, b[i]? = some y ∧ VRel ρ x y := by
  have hi : i < a.length := (List.getElem?_eq_some_iff.1 hx).1
  rw [h.1] at hi
  exact ⟨b[i], List.getElem?_eq_getElem hi, h.2 i x _ hx (List.getElem?_eq_getElem hi)⟩
theorem LRel.map_ {ρ : Ren} {α : Type} (f g : α → Value) : ∀ (l : List α), (∀ x ∈ l, VRel ρ (f x) (g x)) → LRel ρ (l.map f) (l.map g)
  | [], _ => LRel.nil ρ
  | x :: l, h => LRel.cons (h x (by simp)) (LRel.map_ f g l fun y hy => h y (by simp [hy]))

theorem LRel.flat (ρ : Ren) {cs : List Value} (h : cs.all flat1 = true) : LRel ρ cs cs := by
  refine ⟨rfl, fun i x y hx hy => ?_⟩
  rw [hx] at hy
  cases hy
  exact .flat (List.all_eq_true.1 h x (List.mem_of_getElem? hx))
theorem flat_one {v : Value} (h : flat1 v = true) : oneC v = true := by cases v <;> simp_all [flat1, Go.DI.oneC]
theorem VRel.flatV (ρ : Ren) {v : Value} (h : flatV v = true) : VRel ρ v v := by
  unfold Go.DI.flatV at h
  split at h
  · rename_i cs; have := LRel.agg (LRel.flat ρ h) (fun v hv => flat_one (List.all_eq_true.1 h v hv)); simpa using this
  · rename_i cs; have := LRel.tuple (LRel.flat ρ h); simpa using this
  · exact .flat h
theorem VRel.undef (ρ : Ren) : VRel ρ undef undef := LRel.tuple (LRel.nil ρ)

theorem VRel.oneC {ρ : Ren} {v v' : Value} (h : VRel ρ v v') : oneC v' = oneC v := by
  cases h <;> simp [Go.DI.oneC]
theorem vcells_rel {ρ : Ren} {v v' : Value} (h : VRel ρ v v') : LRel ρ (vcells v) v'.cells.toList := by
  cases h with
  | agg hs h _ => exact ⟨by simpa [vcells, Value.cells] using hs, by simpa [vcells, Value.cells] using h⟩
  | flat h =>
    cases v <;> simp [flat1] at h <;> exact LRel.cons (.flat (by simp [flat1, h])) (LRel.nil ρ)
  | ptr h => exact LRel.cons (.ptr h) (LRel.nil ρ)
  | slice h hn hl hm => exact LRel.cons (.slice h hn hl hm) (LRel.nil ρ)
  | tuple hs h => exact LRel.cons (.tuple hs h) (LRel.nil ρ)
  | func hs h hs2 h2 => exact LRel.cons (.func hs h hs2 h2) (LRel.nil ρ)

theorem vcells_one {ρ : Ren} {v v' : Value} (h : VRel ρ v v') (hn : notTup v = true) : ∀ x ∈ vcells v, oneC x = true := by
  intro x hx
  cases h with
  | agg hs h h1 => exact h1 x hx
  | flat h => cases v <;> simp [flat1, vcells] at h hx <;> subst hx <;> rfl
  | ptr h => simp [vcells] at hx; subst hx; rfl
  | slice h hn hl hm => simp [vcells] at hx; subst hx; rfl
  | tuple hs h => simp [notTup] at hn
  | func hs h hs2 h2 => simp [vcells] at hx; subst hx; rfl
theorem VRel.agg_one {ρ : Ren} {xs : Array Value} {v : Value} (h : VRel ρ (.agg xs) v) : ∀ x ∈ xs.toList, Go.DI.oneC x = true := by
  cases h with
  | flat h => simp [flat1] at h
  | agg hs h h1 => exact h1

/-! inversions -/
theorem VRel.inv_int {ρ : Ren} {k : IntKind} {n : Int} {v : Value} (h : VRel ρ (.int k n) v) : v = .int k n := by cases h; rfl
theorem VRel.inv_bool {ρ : Ren} {b : Bool} {v : Value} (h : VRel ρ (.bool b) v) : v = .bool b := by cases h; rfl
theorem VRel.inv_string {ρ : Ren} {s : ByteArray} {v : Value} (h : VRel ρ (.string s) v) : v = .string s := by cases h; rfl
theorem VRel.inv_ptr {ρ : Ren} {a : Addr} {v : Value} (h : VRel ρ (.pointer (some a)) v) : ∃ l, ρ a.block = some l ∧ a.spot = none ∧ v = .pointer (some ⟨l.c, l.o + a.off, none⟩) := by
  cases h with
  | flat h => simp [flat1] at h
  | ptr h => exact ⟨_, h, rfl, rfl⟩
theorem VRel.inv_slice {ρ : Ren} {a : Addr} {len z : Nat} {v : Value} (h : VRel ρ (.slice (some a) len z) v) :
    ∃ l a' cap, ρ a.block = some l ∧ a.spot = none ∧ v = .slice (some a') len cap ∧ ((cap = 0 ∧ len = 0) ∨ (a' = ⟨l.c, l.o + a.off, none⟩ ∧ a.off + cap * z ≤ l.n)) ∧ len ≤ cap ∧ cap ≤ maxLen := by
  cases h with
  | flat h => simp [flat1] at h
  | slice h hn hl hm => exact ⟨_, _, _, h, rfl, rfl, hn, hl, hm⟩
theorem VRel.inv_agg {ρ : Ren} {xs : Array Value} {v : Value} (h : VRel ρ (.agg xs) v) : ∃ ys, v = .agg ys ∧ LRel ρ xs.toList ys.toList := by
  cases h with
  | flat h => simp [flat1] at h
  | agg hs h _ => exact ⟨_, rfl, by simpa using hs, by simpa using h⟩
theorem VRel.inv_tuple {ρ : Ren} {xs : Array Value} {v : Value} (h : VRel ρ (.tuple xs) v) : ∃ ys, v = .tuple ys ∧ LRel ρ xs.toList ys.toList := by
  cases h with
  | flat h => simp [flat1] at h
  | tuple hs h => exact ⟨_, rfl, by simpa using hs, by simpa using h⟩
theorem VRel.inv_func {ρ : Ren} {fn : Fn} {xs cs : Array Value} {v : Value} (h : VRel ρ (.func fn xs cs) v) : ∃ ys ds, v = .func fn ys ds ∧ LRel ρ xs.toList ys.toList ∧ LRel ρ cs.toList ds.toList := by
  cases h with
  | flat h => simp [flat1] at h
  | func hs h hs2 h2 => exact ⟨_, _, rfl, ⟨by simpa using hs, by simpa using h⟩, by simpa using hs2, by simpa using h2⟩
theorem VRel.inv_flat {ρ : Ren} {v v' : Value} (h : VRel ρ v v') (hf : flat1 v = true) : v' = v := by
  cases h <;> first | rfl | simp [flat1] at hf

/-! slots -/
structure SRel (ρ : Ren) (nt : Nat) (σ : Slots) (a : Act) : Prop where
  size : a.tmps.size = nt
  defers : a.defers = []
  rel : ∀ t, VRel ρ (σ t) (a.tmps.getD t undef)
theorem SRel.mono {ρ ρ' : Ren} (hle : RenLe ρ ρ') {nt : Nat} {σ : Slots} {a : Act} (h : SRel ρ nt σ a) : SRel ρ' nt σ a := ⟨h.size, h.defers, fun t => (h.rel t).mono hle⟩
theorem SRel.ev {ρ : Ren} {nt : Nat} {σ : Slots} {a : Act} (h : SRel ρ nt σ a) {x : Operand} (hx : argOk x = true) : VRel ρ (ev σ x) (a.eval x) := by
  cases x with
  | tmp t => exact h.rel t
  | const v => exact VRel.flatV ρ hx
  | func f => exact .func rfl (by intro i x y h; simp at h) rfl (by intro i x y h; simp at h)
  | global g => simp [argOk] at hx
theorem SRel.put {ρ : Ren} {nt : Nat} {σ : Slots} {a : Act} (h : SRel ρ nt σ a) {d : Option Nat} (hd : d.all (fun d => decide (d < nt)) = true) {v v' : Value} (hv : VRel ρ v v') : SRel ρ nt (putD σ d v) (a.put d v') := by
  cases d with
  | none => exact h
  | some d =>
    have hd' : d < nt := by simpa using hd
    refine ⟨by simp [Act.put, h.size], h.defers, fun t => ?_⟩
    simp only [putD, upd, Act.put]
    by_cases e : t = d
    · subst e
      have : t < a.tmps.size := by rw [h.size]; exact hd'
      simpa [this] using hv
    · have := h.rel t
      simp only [Array.getD_eq_getD_getElem?] at this ⊢
      rw [Array.getElem?_setIfInBounds_ne (Ne.symm e)]
      simpa [e] using this

/-! memory -/
structure MRel (B : Nat) (ρ : Ren) (m : Mem) (w : World) : Prop where
  dom : ∀ b l, ρ b = some l → b < m.next
  inb : ∀ b l, ρ b = some l → l.c < w.heap.size
  live : ∀ b x, m.get b = some x → ∃ l, ρ b = some l ∧ x.cells.length ≤ l.n ∧ (∀ i v, x.cells[i]? = some v → oneC v = true ∧ ∃ v', w.cell? ⟨l.c, l.o + i, none⟩ = some v' ∧ VRel ρ v v') ∧
    (x.own = true → B ≤ l.c ∧ ∀ i, i < l.n → (w.cell? ⟨l.c, l.o + i, none⟩).isSome = true ∧ w.frozen? ⟨l.c, l.o + i, none⟩ = false)
  excl : ∀ b x b' x' l l', m.get b = some x → x.own = true → m.get b' = some x' → b ≠ b' → ρ b = some l → ρ b' = some l' → l.c ≠ l'.c

theorem Mem.get_lt {m : Mem} {b : Nat} {x : Blk} (h : m.get b = some x) : b < m.next := by
  unfold Mem.get at h
  split at h
  · assumption
  · cases h
theorem Mem.get_put (m : Mem) (b b' : Nat) (x : Option Blk) : (m.put b x).get b' = if b' = b then (if b < m.next then x else none) else m.get b' := by
  unfold Mem.get Mem.put
  by_cases h : b' = b
  · subst h; simp
  · simp [h]
theorem Mem.get_bump (m : Mem) (k b : Nat) : (m.bump k).get b = m.get b := by
  unfold Mem.get Mem.bump
  by_cases h : b < m.next
  · simp [h, Nat.lt_of_lt_of_le h (Nat.le_add_right _ _)]
  · simp [h]
theorem Mem.put_next (m : Mem) (b : Nat) (x : Option Blk) : (m.put b x).next = m.next := rfl
theorem Mem.bump_next (m : Mem) (k : Nat) : (m.bump k).next = m.next + k := rfl

theorem MRel.bump {B : Nat} {ρ : Ren} {m : Mem} {w : World} (h : MRel B ρ m w) (k : Nat) : MRel B ρ (m.bump k) w :=
  ⟨fun b l hb => Nat.lt_of_lt_of_le (h.dom b l hb) (by simp [Mem.bump_next]), h.inb, fun b x hx => h.live b x (by rwa [Mem.get_bump] at hx),
   fun b x b' x' l l' h1 h2 h3 => h.excl b x b' x' l l' (by rwa [Mem.get_bump] at h1) h2 (by rwa [Mem.get_bump] at h3)⟩
/-- the world may draw -/
theorem MRel.world {B : Nat} {ρ : Ren} {m : Mem} {w w' : World} (h : MRel B ρ m w) (hh : w'.heap = w.heap) : MRel B ρ m w' := by
  have hc : ∀ a, w'.cell? a = w.cell? a := fun a => by simp [World.cell?, hh]
  have hf : ∀ a, w'.frozen? a = w.frozen? a := fun a => by simp [World.frozen?, hh]
  exact ⟨h.dom, by rw [hh]; exact h.inb, fun b x hx => by simpa only [hc, hf] using h.live b x hx, h.excl⟩

end Go.DI
