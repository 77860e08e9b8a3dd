/-
  Laws of failures, in plain Lean: valid laws.
-/
import Derived.Test.YtkpifdkccdndcaaGreatFrA
namespace Go.Big
set_option linter.unusedSimpArgs false
set_option linter.unusedVariables false

def gb (l : List Bool) (i : Nat) : Bool := l.getD i false
theorem gb_some {l : List Bool} {i : Nat} {b : Bool} (h : l[i]? = some b) : gb l i = b := by unfold gb; rw [List.getD_eq_getElem?_getD, h]; rfl
theorem gb_get {l : List Bool} {i : Nat} (h : i < l.length) : l[i]? = some (gb l i) := by rw [gb_some (List.getElem?_eq_getElem h), List.getElem?_eq_getElem h]
theorem gb_set {l : List Bool} {i j : Nat} {b : Bool} (h : i < l.length) : gb (l.set i b) j = if j = i then b else gb l j := by
  unfold gb
  simp only [List.getD_eq_getElem?_getD, List.getElem?_set]
  by_cases hj : i = j
  · subst hj; simp [h]
  · rw [if_neg hj, if_neg (fun e => hj e.symm)]

/-- one element, by a row: what can be reached from it -/
def innerB (row : List Bool) (i : Nat) : List Nat → List Bool → List Bool
  | [], R => R
  | k :: ks, R => innerB row i ks (R.set i (gb R i || (gb row k && gb R k)))
/-- a round -/
def roundB (E : List Bool) (Rt : List (List Bool)) (n : Nat) : List Nat → List Bool → List Bool
  | [], R => R
  | i :: is, R => roundB E Rt n is (innerB (Rt.getD i []) i (List.range n) (R.set i (gb R i || gb E i)))
def iterB (E : List Bool) (Rt : List (List Bool)) (n : Nat) : Nat → List Bool
  | 0 => List.replicate n false
  | k + 1 => roundB E Rt n (List.range n) (iterB E Rt n k)
def leB (R S : List Bool) : Prop := R.length = S.length ∧ ∀ i, gb R i = true → gb S i = true
theorem leB.refl (R : List Bool) : leB R R := ⟨rfl, fun _ h => h⟩
theorem leB.trans {R S T : List Bool} (h : leB R S) (h' : leB S T) : leB R T := ⟨h.1.trans h'.1, fun i hi => h'.2 i (h.2 i hi)⟩
theorem leB_set {R : List Bool} {i : Nat} {b : Bool} (h : gb R i = true → b = true) : leB R (R.set i b) := by
  refine ⟨by simp, fun j hj => ?_⟩
  by_cases hi : i < R.length
  · rw [gb_set hi]
    split
    · rename_i e; subst e; exact h hj
    · exact hj
  · rw [List.set_eq_of_length_le (by omega)]; exact hj
theorem inner_le {row : List Bool} {i : Nat} : ∀ (ks : List Nat) (R : List Bool), leB R (innerB row i ks R)
  | [], R => leB.refl R
  | k :: ks, R => (leB_set (fun h => by rw [h]; rfl)).trans (inner_le ks _)
theorem round_le {E : List Bool} {Rt : List (List Bool)} {n : Nat} : ∀ (is : List Nat) (R : List Bool), leB R (roundB E Rt n is R)
  | [], R => leB.refl R
  | i :: is, R => ((leB_set (fun h => by rw [h]; rfl)).trans (inner_le _ _)).trans (round_le is _)
theorem inner_len {row : List Bool} {i : Nat} (ks : List Nat) (R : List Bool) : (innerB row i ks R).length = R.length := (inner_le ks R).1.symm
theorem round_len {E : List Bool} {Rt : List (List Bool)} {n : Nat} (is : List Nat) (R : List Bool) : (roundB E Rt n is R).length = R.length := (round_le is R).1.symm
theorem iter_len {E : List Bool} {Rt : List (List Bool)} {n : Nat} : ∀ k, (iterB E Rt n k).length = n
  | 0 => by simp [iterB]
  | k + 1 => by rw [iterB, round_len, iter_len k]
def cntB (R : List Bool) : Nat := R.countP (fun b => b)
theorem cnt_le {R : List Bool} : cntB R ≤ R.length := List.countP_le_length
theorem leB_cnt : ∀ {R S : List Bool}, leB R S → cntB R ≤ cntB S ∧ (cntB R = cntB S → R = S)
  | [], S, h => by
    have : S = [] := List.length_eq_zero_iff.1 h.1.symm
    subst this; exact ⟨Nat.le_refl _, fun _ => rfl⟩
  | r :: R, [], h => absurd h.1 (by simp)
  | r :: R, s :: S, h => by
    have h0 : r = true → s = true := h.2 0
    have h1 : leB R S := ⟨by have := h.1; simpa using this, fun i hi => h.2 (i + 1) hi⟩
    obtain ⟨a, b⟩ := leB_cnt h1
    cases r with
    | false =>
      cases s with
      | false => exact ⟨by simpa [cntB] using a, fun e => by rw [b (by simpa [cntB] using e)]⟩
      | true => exact ⟨by simp [cntB] at a ⊢; omega, fun e => by simp [cntB] at a e; omega⟩
    | true =>
      rw [h0 rfl]
      exact ⟨by simp [cntB] at a ⊢; omega, fun e => by rw [b (by simp [cntB] at e ⊢; omega)]⟩
theorem cnt_full {R : List Bool} (h : cntB R = R.length) : ∀ i, i < R.length → gb R i = true := by
  intro i hi
  unfold cntB at h
  rw [List.countP_eq_length] at h
  have := h R[i] (List.getElem_mem hi)
  rw [gb_some (List.getElem?_eq_getElem hi)]
  exact this
theorem iter_fix {E : List Bool} {Rt : List (List Bool)} {n : Nat} : ∀ k, iterB E Rt n (k + 1) = iterB E Rt n k ∨ k + 1 ≤ cntB (iterB E Rt n (k + 1))
  | 0 => by
    have h := leB_cnt (round_le (E := E) (Rt := Rt) (n := n) (List.range n) (iterB E Rt n 0))
    by_cases e : cntB (iterB E Rt n 0) = cntB (iterB E Rt n 1)
    · exact .inl (h.2 e).symm
    · exact .inr (by have := h.1; simp only [iterB] at e this ⊢; omega)
  | k + 1 => by
    have h := leB_cnt (round_le (E := E) (Rt := Rt) (n := n) (List.range n) (iterB E Rt n (k + 1)))
    rcases iter_fix (E := E) (Rt := Rt) (n := n) k with h1 | h1
    · left
      show roundB E Rt n (List.range n) (iterB E Rt n (k + 1)) = roundB E Rt n (List.range n) (iterB E Rt n k)
      rw [h1]
    · by_cases e : cntB (iterB E Rt n (k + 1)) = cntB (iterB E Rt n (k + 2))
      · exact .inl (h.2 e).symm
      · exact .inr (by have := h.1; simp only [iterB] at e this h1 ⊢; omega)
/-- one more round changes nothing -/
theorem iter_last {E : List Bool} {Rt : List (List Bool)} {n : Nat} : iterB E Rt n (n + 1) = iterB E Rt n n := by
  rcases iter_fix (E := E) (Rt := Rt) (n := n) n with h | h
  · exact h
  · have := cnt_le (R := iterB E Rt n (n + 1))
    rw [iter_len] at this
    omega
def endsB (E : List Bool) (Rt : List (List Bool)) (n : Nat) : Bool := (iterB E Rt n n).all fun b => b
def aboves (l : List Fr) : List Bool := l.map fun x => decide (0 < x.n)
/-- at least 0, with numbers of at most 32 binary digits in lowest terms -/
def Fr.small (x : Fr) : Bool := x.ok && (!(lowF x).neg && (decide ((lowF x).n < 4294967296) && decide ((lowF x).d < 4294967296)))
theorem small_ok {x : Fr} (h : x.small = true) : x.ok = true := by simp [Fr.small] at h; exact h.1
def rowOk (n i : Nat) (row : List Fr) : Bool := decide (row.length = n) && (row.all Fr.small && !gb (aboves row) i)
def rowsOk (n : Nat) : Nat → List (List Fr) → Bool
  | _, [] => true
  | i, row :: l => rowOk n i row && rowsOk n (i + 1) l
theorem rowsOk_get {n : Nat} : ∀ {l : List (List Fr)} {i j : Nat} {row : List Fr}, rowsOk n i l = true → l[j]? = some row → rowOk n (i + j) row = true
  | [], _, _, _, _, h => by simp at h
  | r :: l, i, 0, row, h, h' => by
    simp at h'; subst h'
    simp only [rowsOk, Bool.and_eq_true] at h
    exact h.1
  | r :: l, i, j + 1, row, h, h' => by
    simp only [rowsOk, Bool.and_eq_true] at h
    have := rowsOk_get (j := j) h.2 (by simpa using h')
    rw [show i + (j + 1) = i + 1 + j by omega]; exact this
/-- a valid law -/
def okLaw (s : List Fr) (rs : List (List Fr)) (e : List Fr) : Bool :=
  decide (1 ≤ s.length) && decide (s.length ≤ 4) && decide (e.length = s.length) && decide (rs.length = s.length) && s.all Fr.small && e.all Fr.small &&
  rowsOk s.length 0 rs &&
  decide ((sumE .nil s).1 = 0) && decide (ordF (sumE .nil s).2 .one = 0) && endsB (aboves e) (rs.map aboves) s.length
end Go.Big
