/-
  Data in memory: predicates on cells, slices of rows.
-/
import Derived.Test.YticjcminhkgabaaGreatDoorFwV
import Derived.Test.YticjcminhkgabaaGreatDoorFwZ
namespace Go.DI
open Go Go.RowKit
set_option linter.unusedSimpArgs false
set_option linter.unusedVariables false

/-- what was there is there -/
structure Sub (m m' : Mem) : Prop where
  next : m.next ≤ m'.next
  get : ∀ b x, m.get b = some x → m'.get b = some x
theorem Sub.refl (m : Mem) : Sub m m := ⟨Nat.le_refl _, fun _ _ h => h⟩
theorem Sub.trans {a b c : Mem} (h : Sub a b) (h' : Sub b c) : Sub a c := ⟨Nat.le_trans h.next h'.next, fun x y hx => h'.get x y (h.get x y hx)⟩
theorem Part.sub {p m : Mem} (h : Part p m) : Sub p m := ⟨Nat.le_of_eq h.next, h.get⟩
theorem Sub.bump (m : Mem) (k : Nat) : Sub m (m.bump k) := ⟨by simp, fun b x h => by rw [zqn (get_lt h), h]⟩
theorem Sub.put {m : Mem} {b : Nat} {x : Option Blk} (h : m.get b = none) : Sub m (m.put b x) := ⟨Nat.le_refl _, fun c y hc => by
  rw [zqm (fun he => by subst he; rw [h] at hc; cases hc), hc]⟩
theorem get_none {m : Mem} {b : Nat} (h : m.next ≤ b) : m.get b = none := by simp [Mem.get]; omega

/-- a predicate on the z cells of a row -/
structure Rp (α : Type) where
  z : Nat
  R : Mem → List Value → α → Prop
  len : ∀ m cs x, R m cs x → cs.length = z
  mono : ∀ m m' cs x, Sub m m' → R m cs x → R m' cs x

/-- a slice of rows -/
def Rp.S {α : Type} (r : Rp α) (m : Mem) (v : Value) (l : List α) : Prop :=
  (v = .slice none 0 0 ∧ l = []) ∨ ∃ b o cs w, v = .slice (some ⟨b, o, none⟩) l.length r.z ∧ m.get b = some ⟨cs, w⟩ ∧ o + l.length * r.z ≤ cs.length ∧
    ∀ (i : Nat) x, l[i]? = some x → r.R m ((cs.drop (o + i * r.z)).take r.z) x
section
variable {α : Type} {r : Rp α} {m m' : Mem} {v : Value} {l : List α}
theorem Rp.S.mono (h : r.S m v l) (hs : Sub m m') : r.S m' v l := by
  rcases h with h | ⟨b, o, cs, w, h1, h2, h3, h4⟩
  · exact .inl h
  · exact .inr ⟨b, o, cs, w, h1, hs.get _ _ h2, h3, fun i x hx => r.mono _ _ _ _ hs (h4 i x hx)⟩
theorem Rp.S.nil : r.S m (.slice none 0 0) [] := .inl ⟨rfl, rfl⟩
theorem Rp.S.len (h : r.S m v l) : zqu v = l.length ∧ isSl v = true ∧ zqs r.z v = true ∧ zqr v = l.length := by
  rcases h with ⟨rfl, rfl⟩ | ⟨b, o, cs, w, rfl, _⟩
  · exact ⟨rfl, rfl, rfl, rfl⟩
  · exact ⟨rfl, rfl, by simp, rfl⟩
/-- the row at a place: its address is good, its cells are those of the element -/
theorem Rp.S.at_ (h : r.S m v l) {i : Nat} {x : α} (hx : l[i]? = some x) : ∃ b o cs w, zqt v r.z (i : Int) = .pointer (some ⟨b, o, none⟩) ∧ m.get b = some ⟨cs, w⟩ ∧ o + r.z ≤ cs.length ∧ r.R m ((cs.drop o).take r.z) x := by
  rcases h with ⟨rfl, rfl⟩ | ⟨b, o, cs, w, rfl, h2, h3, h4⟩
  · simp at hx
  · have hi := (List.getElem?_eq_some_iff.1 hx).1
    refine ⟨b, o + i * r.z, cs, w, by simp [zqt], h2, ?_, h4 i x hx⟩
    have : (i + 1) * r.z ≤ l.length * r.z := Nat.mul_le_mul_right _ hi
    rw [Nat.add_mul] at this
    omega
theorem Rp.S.sub (h : r.S m v l) {k n : Nat} (hk : k ≤ n) (hn : n ≤ l.length) : r.S m (zqv v r.z k n) ((l.take n).drop k) := by
  rcases h with ⟨rfl, rfl⟩ | ⟨b, o, cs, w, rfl, h2, h3, h4⟩
  · exact .inl ⟨rfl, by simp⟩
  · have e : ((l.take n).drop k).length = n - k := by simp; omega
    have h5 : n * r.z ≤ l.length * r.z := Nat.mul_le_mul_right _ hn
    have h6 : k * r.z + (n - k) * r.z = n * r.z := by rw [← Nat.add_mul]; congr 1; omega
    refine .inr ⟨b, o + k * r.z, cs, w, by rw [e]; rfl, h2, by rw [e]; omega, fun i x hx => ?_⟩
    rw [List.getElem?_drop, List.getElem?_take] at hx
    split at hx
    · have := h4 _ x hx
      rw [show o + k * r.z + i * r.z = o + (k + i) * r.z by rw [Nat.add_mul]; omega]
      exact this
    · cases hx
/-- cells of a row of a list of rows -/
theorem flatten_row {rows : List (List Value)} {z : Nat} (hz : ∀ x ∈ rows, x.length = z) : ∀ {i : Nat} {y : List Value}, rows[i]? = some y → (rows.flatten.drop (i * z)).take z = y := by
  induction rows with
  | nil => intro i y h; simp at h
  | cons x rows ih =>
    intro i y h
    have hx := hz x (by simp)
    cases i with
    | zero =>
      simp at h; subst h
      simp [List.take_append_of_le_length (Nat.le_of_eq hx.symm), List.take_of_length_le (Nat.le_of_eq hx)]
    | succ i =>
      rw [List.flatten_cons, Nat.add_mul, Nat.one_mul, Nat.add_comm, ← List.drop_drop, ← hx, List.drop_left, hx]
      exact ih (fun y hy => hz y (by simp [hy])) (by simpa using h)
theorem flatten_len {rows : List (List Value)} {z : Nat} (hz : ∀ x ∈ rows, x.length = z) : rows.flatten.length = rows.length * z := by
  induction rows with
  | nil => simp
  | cons x rows ih => rw [List.flatten_cons, List.length_append, hz x (by simp), ih (fun y hy => hz y (by simp [hy])), List.length_cons, Nat.add_mul]; omega
/-- rows that stand in a part p of the memory -/
structure Rp.L (r : Rp α) (p : Mem) (rows : List (List Value)) (l : List α) : Prop where
  len : rows.length = l.length
  all : ∀ (i : Nat) y x, rows[i]? = some y → l[i]? = some x → r.R p y x
variable {p : Mem} {rows : List (List Value)}
theorem Rp.L.mono (h : r.L p rows l) {p' : Mem} (hs : Sub p p') : r.L p' rows l := ⟨h.len, fun i y x hy hx => r.mono _ _ _ _ hs (h.all i y x hy hx)⟩
theorem Rp.L.nil : r.L p [] [] := ⟨rfl, fun i y x h => by simp at h⟩
theorem Rp.L.snoc (h : r.L p rows l) {y : List Value} {x : α} (hx : r.R p y x) : r.L p (rows ++ [y]) (l ++ [x]) := by
  refine ⟨by simp [h.len], fun i y' x' hy' hx' => ?_⟩
  by_cases hi : i < rows.length
  · rw [List.getElem?_append_left hi] at hy'
    rw [List.getElem?_append_left (by rw [← h.len]; exact hi)] at hx'
    exact h.all i _ _ hy' hx'
  · by_cases he : i = rows.length
    · subst he
      rw [List.getElem?_append_right (Nat.le_refl _)] at hy'
      rw [List.getElem?_append_right (by rw [h.len]; exact Nat.le_refl _), h.len] at hx'
      simp at hy' hx'; subst hy' hx'; exact hx
    · rw [List.getElem?_eq_none (by simp; omega)] at hy'; cases hy'
theorem Rp.L.app (h : r.L p rows l) {rows' : List (List Value)} {l' : List α} (h' : r.L p rows' l') : r.L p (rows ++ rows') (l ++ l') := by
  refine ⟨by simp [h.len, h'.len], fun i y' x' hy' hx' => ?_⟩
  by_cases hi : i < rows.length
  · rw [List.getElem?_append_left hi] at hy'
    rw [List.getElem?_append_left (by rw [← h.len]; exact hi)] at hx'
    exact h.all i _ _ hy' hx'
  · rw [List.getElem?_append_right (by omega)] at hy'
    rw [List.getElem?_append_right (by rw [← h.len]; omega), ← h.len] at hx'
    exact h'.all _ _ _ hy' hx'
theorem Rp.L.lens (h : r.L p rows l) : ∀ y ∈ rows, y.length = r.z := fun y hy => by
  obtain ⟨i, hi, rfl⟩ := List.getElem_of_mem hy
  have hl : i < l.length := by rw [← h.len]; exact hi
  exact r.len _ _ _ (h.all i _ _ (List.getElem?_eq_getElem hi) (List.getElem?_eq_getElem hl))
theorem Rp.L.flen (h : r.L p rows l) : rows.flatten.length = l.length * r.z := by rw [flatten_len h.lens, h.len]
/-- a block of such rows is a slice -/
theorem Rp.L.slice (h : r.L p rows l) (hp : Sub p m) {b : Nat} {w : Bool} (hb : m.get b = some ⟨rows.flatten, w⟩) : r.S m (.slice (some ⟨b, 0, none⟩) l.length r.z) l := by
  refine .inr ⟨b, 0, _, w, rfl, hb, by rw [h.flen]; omega, fun i x hx => ?_⟩
  have hi := (List.getElem?_eq_some_iff.1 hx).1
  rw [Nat.zero_add, flatten_row h.lens (y := rows[i]'(by rw [h.len]; exact hi)) (by simp)]
  exact r.mono _ _ _ _ hp (h.all i _ _ (by simp) hx)
/-- a slice's cells -/
theorem rows_of {cs : List Value} {z : Nat} : ∀ (n o : Nat), o + n * z ≤ cs.length → ∃ rows : List (List Value), rows.length = n ∧ rows.flatten = (cs.drop o).take (n * z) ∧ ∀ i, i < n → rows[i]? = some ((cs.drop (o + i * z)).take z)
  | 0, o, _ => ⟨[], rfl, by simp, fun i hi => by omega⟩
  | n + 1, o, h => by
    rw [Nat.add_mul] at h
    obtain ⟨rows, h1, h2, h3⟩ := rows_of (cs := cs) (z := z) n (o + z) (by omega)
    refine ⟨(cs.drop o).take z :: rows, by simp [h1], ?_, fun i hi => ?_⟩
    · rw [List.flatten_cons, h2, Nat.add_mul, Nat.one_mul, Nat.add_comm (n * z) z, List.take_add, List.drop_drop]
    · cases i with
      | zero => simp
      | succ i =>
        rw [List.getElem?_cons_succ, h3 i (by omega)]
        congr 3; rw [Nat.add_mul]; omega
theorem Rp.S.cells (h : r.S m v l) : sliceOk m r.z v = true ∧ ∃ rows, sliceCells m r.z v = rows.flatten ∧ r.L m rows l := by
  rcases h with ⟨rfl, rfl⟩ | ⟨b, o, cs, w, rfl, h2, h3, h4⟩
  · exact ⟨rfl, [], rfl, .nil⟩
  · refine ⟨by simp [h2]; omega, ?_⟩
    obtain ⟨rows, e1, e2, e3⟩ := rows_of l.length o h3
    refine ⟨rows, by simp [h2, e2], e1, fun i y x hy hx => ?_⟩
    rw [e3 i (List.getElem?_eq_some_iff.1 hx).1] at hy
    cases hy
    exact h4 i x hx
end

/-- a slice of one's own: nil, or the whole of a block -/
def Own (m : Mem) (z : Nat) (v : Value) (rows : List (List Value)) (b : Nat) : Prop :=
  (v = .slice none 0 0 ∧ rows = []) ∨ (v = .slice (some ⟨b, 0, none⟩) rows.length z ∧ m.get b = some ⟨rows.flatten, true⟩)

/-! predicates of cells -/
def Rp.int (k : IntKind) : Rp Int := ⟨1, fun _ cs n => cs = [.int k n], fun _ _ _ h => by rw [h]; rfl, fun _ _ _ _ _ h => h⟩
def Rp.bool : Rp Bool := ⟨1, fun _ cs n => cs = [.bool n], fun _ _ _ h => by rw [h]; rfl, fun _ _ _ _ _ h => h⟩
def Rp.str : Rp ByteArray := ⟨1, fun _ cs n => cs = [.string n], fun _ _ _ h => by rw [h]; rfl, fun _ _ _ _ _ h => h⟩
def Rp.list {α : Type} (r : Rp α) : Rp (List α) := ⟨1, fun m cs l => ∃ v, cs = [v] ∧ r.S m v l, fun _ _ _ ⟨_, h, _⟩ => by rw [h]; rfl, fun _ _ _ _ hs ⟨v, h, h'⟩ => ⟨v, h, h'.mono hs⟩⟩
/-- another reading of the same cells -/
def Rp.map {α β : Type} (r : Rp α) (f : α → β) : Rp β := ⟨r.z, fun m cs y => ∃ x, f x = y ∧ r.R m cs x, fun _ _ _ ⟨_, _, h⟩ => r.len _ _ _ h, fun _ _ _ _ hs ⟨x, h, h'⟩ => ⟨x, h, r.mono _ _ _ _ hs h'⟩⟩
theorem Rp.S.to {α β : Type} {r : Rp α} {q : Rp β} {m : Mem} {v : Value} {l : List α} (f : α → β) (h : r.S m v l) (hz : r.z = q.z) (hf : ∀ cs x, x ∈ l → r.R m cs x → q.R m cs (f x)) : q.S m v (l.map f) := by
  rcases h with ⟨rfl, rfl⟩ | ⟨b, o, cs, w, rfl, h2, h3, h4⟩
  · exact .inl ⟨rfl, rfl⟩
  · refine .inr ⟨b, o, cs, w, by simp [hz], h2, by simp [← hz]; exact h3, fun i y hy => ?_⟩
    rw [List.getElem?_map, Option.map_eq_some_iff] at hy
    obtain ⟨x, hx, rfl⟩ := hy
    rw [← hz]
    exact hf _ x (List.mem_of_getElem? hx) (h4 i x hx)
theorem Abs.toS {e : Sh} {β : Type} {q : Rp β} {m : Mem} {cs : List Value} {l : List e.D} (f : e.D → β) (h : Abs m (.slice e) cs l) (hz : e.cells = q.z) (hf : ∀ cs x, Abs m e cs x → q.R m cs (f x)) : ∃ v, cs = [v] ∧ q.S m v (l.map f) := by
  rcases h with ⟨rfl, h⟩ | ⟨b, rows, h1, h2, h3, h4, h5⟩
  · have : l = [] := h
    subst this
    exact ⟨_, rfl, .inl ⟨rfl, rfl⟩⟩
  · have hL : q.L m rows (l.map f) := by
      refine ⟨by simp [h4], fun i y x hy hx => ?_⟩
      rw [List.getElem?_map, Option.map_eq_some_iff] at hx
      obtain ⟨d, hd, rfl⟩ := hx
      exact hf _ _ (h5 i y d hy hd)
    refine ⟨_, h1, ?_⟩
    have := hL.slice (Sub.refl m) h2
    rw [List.length_map] at this
    rw [hz]; exact this
end Go.DI
