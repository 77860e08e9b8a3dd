/-
  How many elements of two lists of rows differ.
-/
import Derived.Test.YticjcminhkgabaaGreatDoorTvR
namespace Go.Big
/-- places at which two rows differ -/
def difN : List Int → List Int → Nat
  | x :: l, y :: k => (if x = y then 0 else 1) + difN l k
  | _, _ => 0
theorem difN_le : ∀ {a b : List Int}, difN a b ≤ a.length
  | [], _ => Nat.le_refl _
  | _ :: _, [] => Nat.zero_le _
  | x :: l, y :: k => by
    have := difN_le (a := l) (b := k)
    simp only [difN, List.length_cons]
    split <;> omega
theorem difN_self : ∀ {a : List Int}, difN a a = 0
  | [] => rfl
  | x :: l => by simp [difN, difN_self (a := l)]
theorem difN_comm : ∀ {a b : List Int}, difN a b = difN b a
  | [], [] => rfl
  | [], _ :: _ => rfl
  | _ :: _, [] => rfl
  | x :: l, y :: k => by
    simp only [difN]
    rw [difN_comm (a := l) (b := k)]
    by_cases h : x = y
    · rw [if_pos h, if_pos h.symm]
    · rw [if_neg h, if_neg (Ne.symm h)]
theorem difN_take : ∀ {a b : List Int} {i : Nat} {x y : Int}, a[i]? = some x → b[i]? = some y → difN (a.take (i + 1)) (b.take (i + 1)) = difN (a.take i) (b.take i) + if x = y then 0 else 1
  | u :: a, v :: b, 0, x, y, h1, h2 => by
    simp at h1 h2; subst h1; subst h2
    simp [difN]
  | u :: a, v :: b, i + 1, x, y, h1, h2 => by
    have := difN_take (a := a) (b := b) (i := i) (by simpa using h1) (by simpa using h2)
    simp only [List.take_succ_cons, difN]
    rw [this]; omega
  | [], _, i, x, y, h, _ => by simp at h
  | _ :: _, [], i, x, y, _, h => by simp at h
/-- of all rows -/
def totN : List (List Int) → List (List Int) → Nat
  | r :: a, s :: b => difN r s + totN a b
  | _, _ => 0
theorem totN_le : ∀ {a b : List (List Int)} {M : Nat}, (∀ r ∈ a, r.length ≤ M) → totN a b ≤ a.length * M
  | [], _, M, _ => Nat.zero_le _
  | _ :: _, [], M, _ => Nat.zero_le _
  | r :: a, s :: b, M, h => by
    have h1 := totN_le (a := a) (b := b) (M := M) fun x hx => h x (by simp [hx])
    have h2 := difN_le (a := r) (b := s)
    have h3 := h r (by simp)
    simp only [totN, List.length_cons, Nat.add_mul, Nat.one_mul]
    omega
theorem totN_self : ∀ {a : List (List Int)}, totN a a = 0
  | [] => rfl
  | x :: l => by simp [totN, totN_self (a := l), difN_self]
theorem totN_comm : ∀ {a b : List (List Int)}, totN a b = totN b a
  | [], [] => rfl
  | [], _ :: _ => rfl
  | _ :: _, [] => rfl
  | x :: l, y :: k => by simp only [totN]; rw [totN_comm (a := l) (b := k), difN_comm]
theorem totN_take : ∀ {a b : List (List Int)} {i : Nat} {r s : List Int}, a[i]? = some r → b[i]? = some s → totN (a.take (i + 1)) (b.take (i + 1)) = totN (a.take i) (b.take i) + difN r s
  | u :: a, v :: b, 0, x, y, h1, h2 => by
    simp at h1 h2; subst h1; subst h2
    simp [totN]
  | u :: a, v :: b, i + 1, x, y, h1, h2 => by
    have := totN_take (a := a) (b := b) (i := i) (by simpa using h1) (by simpa using h2)
    simp only [List.take_succ_cons, totN]
    rw [this]; omega
  | [], _, i, x, y, h, _ => by simp at h
  | _ :: _, [], i, x, y, _, h => by simp at h
/-- rows of one length each -/
def alike : List (List Int) → List (List Int) → Bool
  | [], [] => true
  | r :: a, s :: b => decide (r.length = s.length) && alike a b
  | _, _ => false
theorem alike_len : ∀ {a b : List (List Int)}, a.length ≠ b.length → alike a b = false
  | [], [], h => absurd rfl h
  | [], _ :: _, _ => rfl
  | _ :: _, [], _ => rfl
  | r :: a, s :: b, h => by
    simp only [alike]
    rw [alike_len (a := a) (b := b) (by simpa using h), Bool.and_false]
theorem alike_at : ∀ {a b : List (List Int)} {i : Nat} {r s : List Int}, a[i]? = some r → b[i]? = some s → r.length ≠ s.length → alike a b = false
  | u :: a, v :: b, 0, x, y, h1, h2, h3 => by simp at h1 h2; subst h1; subst h2; simp [alike, h3]
  | u :: a, v :: b, i + 1, x, y, h1, h2, h3 => by
    simp only [alike]
    rw [alike_at (a := a) (b := b) (i := i) (by simpa using h1) (by simpa using h2) h3, Bool.and_false]
  | [], _, i, x, y, h, _, _ => by simp at h
  | _ :: _, [], i, x, y, _, h, _ => by simp at h
theorem alike_all : ∀ {a b : List (List Int)}, a.length = b.length → (∀ (i : Nat) r s, a[i]? = some r → b[i]? = some s → r.length = s.length) → alike a b = true
  | [], [], _, _ => rfl
  | [], _ :: _, h, _ => by simp at h
  | _ :: _, [], h, _ => by simp at h
  | u :: a, v :: b, h, hp => by
    simp only [alike]
    rw [alike_all (by simpa using h) fun i x y h1 h2 => hp (i + 1) x y (by simpa using h1) (by simpa using h2), hp 0 u v rfl rfl]; simp
theorem alike_comm : ∀ {a b : List (List Int)}, alike a b = alike b a
  | [], [] => rfl
  | [], _ :: _ => rfl
  | _ :: _, [] => rfl
  | r :: a, s :: b => by
    simp only [alike]
    rw [alike_comm (a := a) (b := b)]
    congr 1
    exact decide_eq_decide.2 ⟨Eq.symm, Eq.symm⟩
/-- what 'Moved' answers -/
def movI (a b : List (List Int)) : Int := if alike a b then totN a b else -1
theorem movI_self {a : List (List Int)} : movI a a = 0 := by
  unfold movI
  rw [alike_all rfl fun i r s h1 h2 => by rw [h1] at h2; cases h2; rfl, totN_self]; rfl
theorem movI_comm {a b : List (List Int)} : movI a b = movI b a := by
  unfold movI
  rw [alike_comm, totN_comm]
end Go.Big
