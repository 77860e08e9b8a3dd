/-
  Numbers as lists of limbs of 32 bits, in plain Lean.
  Rounds of the loops over limbs, in plain Lean: sums, differences, products, short division, shifts.
  Long division over limbs, in plain Lean: one limb of the quotient, the whole, and shifting back.
  The canonical limbs of a number; comparing from the top, in plain Lean.
  The scaled numbers of long division, in plain Lean.
-/
import Derived.Test.YtkpifdkccdndcaaGreatFwZ
namespace Go.Big
set_option linter.unusedSimpArgs false
set_option linter.unusedVariables false

def val : List Int → Int
  | [] => 0
  | x :: xs => x + 4294967296 * val xs
def pw : Nat → Int
  | 0 => 1
  | n + 1 => 4294967296 * pw n
def OkL (l : List Int) : Prop := ∀ x ∈ l, 0 ≤ x ∧ x < 4294967296
def nlen : List Int → Nat
  | [] => 0
  | x :: xs => if nlen xs = 0 then (if x = 0 then 0 else 1) else nlen xs + 1
/-- canonical -/
def Can (l : List Int) : Prop := OkL l ∧ nlen l = l.length

theorem pw_pos : ∀ n, 0 < pw n
  | 0 => by simp [pw]
  | n + 1 => by have := pw_pos n; simp only [pw]; omega
theorem pw_add : ∀ a b, pw (a + b) = pw a * pw b
  | 0, b => by simp [pw]
  | a + 1, b => by
    have := pw_add a b
    rw [show a + 1 + b = (a + b) + 1 by omega]
    simp only [pw, this, Int.mul_assoc]
theorem val_append : ∀ a b : List Int, val (a ++ b) = val a + pw a.length * val b
  | [], b => by simp [val, pw]
  | x :: a, b => by
    have := val_append a b
    simp only [List.cons_append, val, this, List.length_cons, pw]; grind
theorem OkL.tail {x : Int} {l : List Int} (h : OkL (x :: l)) : OkL l := fun y hy => h y (by simp [hy])
theorem OkL.app {a b : List Int} (h : OkL a) (h' : OkL b) : OkL (a ++ b) := fun x hx => by
  rcases List.mem_append.1 hx with hx | hx
  · exact h x hx
  · exact h' x hx
theorem OkL.take {l : List Int} (h : OkL l) (n : Nat) : OkL (l.take n) := fun x hx => h x (List.mem_of_mem_take hx)
theorem OkL.drop {l : List Int} (h : OkL l) (n : Nat) : OkL (l.drop n) := fun x hx => h x (List.mem_of_mem_drop hx)
theorem OkL.set {l : List Int} (h : OkL l) (i : Nat) {y : Int} (hy : 0 ≤ y ∧ y < 4294967296) : OkL (l.set i y) := fun x hx => by
  rcases List.mem_or_eq_of_mem_set hx with hx | rfl
  · exact h x hx
  · exact hy
theorem OkL.get {l : List Int} (h : OkL l) {i : Nat} {x : Int} (hx : l[i]? = some x) : 0 ≤ x ∧ x < 4294967296 := h x (List.mem_of_getElem? hx)
theorem OkL.zeros (n : Nat) : OkL (List.replicate n 0) := fun x hx => by
  rw [List.mem_replicate] at hx; omega
theorem val_zeros : ∀ n, val (List.replicate n 0) = 0
  | 0 => rfl
  | n + 1 => by simp [List.replicate_succ, val, val_zeros n]
theorem val_bd : ∀ {l : List Int}, OkL l → 0 ≤ val l ∧ val l < pw l.length
  | [], _ => by simp [val, pw]
  | x :: l, h => by
    have := val_bd h.tail
    have hx := h x (by simp)
    simp only [val, List.length_cons, pw]; omega
theorem val_set : ∀ {l : List Int} {i : Nat} {x : Int} (y : Int), l[i]? = some x → val (l.set i y) = val l + pw i * (y - x)
  | [], _, _, _, h => by simp at h
  | z :: l, 0, x, y, h => by simp at h; subst h; simp [val, pw]; omega
  | z :: l, i + 1, x, y, h => by
    have := @val_set l i x y (by simpa using h)
    simp only [List.set_cons_succ, val, this, pw]; grind
theorem take_succ_val {l : List Int} {i : Nat} {x : Int} (h : l[i]? = some x) : val (l.take (i + 1)) = val (l.take i) + pw i * x := by
  have hi := (List.getElem?_eq_some_iff.1 h).1
  rw [List.take_add_one, h, val_append]
  simp [val]
  rw [Nat.min_eq_left (by omega)]
theorem val_split (l : List Int) (i : Nat) (h : i ≤ l.length) : val l = val (l.take i) + pw i * val (l.drop i) := by
  have := val_append (l.take i) (l.drop i)
  rw [List.take_append_drop] at this
  rw [this, List.length_take, Nat.min_eq_left h]
theorem drop_val {l : List Int} {i : Nat} {x : Int} (h : l[i]? = some x) : val (l.drop i) = x + 4294967296 * val (l.drop (i + 1)) := by
  obtain ⟨h1, rfl⟩ := List.getElem?_eq_some_iff.1 h
  rw [List.drop_eq_getElem_cons h1]; rfl

theorem nlen_le : ∀ l, nlen l ≤ l.length
  | [] => by simp [nlen]
  | x :: l => by have := nlen_le l; simp only [nlen, List.length_cons]; split <;> (try split) <;> omega
theorem nlen_hi : ∀ {l : List Int} {i : Nat} {x : Int}, nlen l ≤ i → l[i]? = some x → x = 0
  | [], _, _, _, h => by simp at h
  | z :: l, 0, x, h0, h => by
    simp at h; subst h
    simp only [nlen] at h0
    split at h0
    · split at h0
      · assumption
      · omega
    · omega
  | z :: l, i + 1, x, h0, h => by
    refine @nlen_hi l i x ?_ (by simpa using h)
    simp only [nlen] at h0
    split at h0 <;> omega
theorem nlen_top : ∀ {l : List Int} {n : Nat} {x : Int}, nlen l = n + 1 → l[n]? = some x → x ≠ 0
  | [], _, _, h, _ => by simp [nlen] at h
  | z :: l, 0, x, h, hx => by
    simp at hx; subst hx
    simp only [nlen] at h
    split at h
    · split at h
      · omega
      · assumption
    · omega
  | z :: l, n + 1, x, h, hx => by
    simp only [nlen] at h
    split at h
    · split at h <;> omega
    · exact @nlen_top l n x (by omega) (by simpa using hx)
theorem nlen_of {l : List Int} {n : Nat} (h1 : ∀ (i : Nat) (x : Int), n ≤ i → l[i]? = some x → x = 0) (h2 : ∀ (x : Int), 0 < n → l[n - 1]? = some x → x ≠ 0) (h3 : n ≤ l.length) : nlen l = n := by
  by_cases h : nlen l < n
  · have hl : n - 1 < l.length := by omega
    exact absurd (nlen_hi (l := l) (i := n - 1) (x := l[n - 1]) (by omega) (by simp [hl])) (h2 _ (by omega) (by simp [hl]))
  · by_cases h' : n < nlen l
    · have hl := nlen_le l
      have hl2 : nlen l - 1 < l.length := by omega
      exact absurd (h1 (nlen l - 1) (l[nlen l - 1]) (by omega) (by simp [hl2])) (nlen_top (l := l) (n := nlen l - 1) (by omega) (by simp [hl2]))
    · omega
theorem val_zero_of {l : List Int} (h : ∀ (i : Nat) (x : Int), l[i]? = some x → x = 0) : val l = 0 := by
  induction l with
  | nil => rfl
  | cons z l ih =>
    have h0 := h 0 z rfl
    have := ih (fun i x hx => h (i + 1) x (by simpa using hx))
    simp [val, h0, this]
theorem val_take_nlen (l : List Int) : val (l.take (nlen l)) = val l := by
  have h1 := val_split l (nlen l) (nlen_le l)
  have h2 : val (l.drop (nlen l)) = 0 := val_zero_of fun i x hx => by
    rw [List.getElem?_drop] at hx
    exact nlen_hi (by omega) hx
  rw [h1, h2]; simp
theorem nlen_take (l : List Int) : nlen (l.take (nlen l)) = nlen l := by
  refine nlen_of (fun i x hi hx => ?_) (fun x h0 hx => ?_) (by have := nlen_le l; simp; omega)
  · have := (List.getElem?_eq_some_iff.1 hx).1
    simp at this; omega
  · rw [List.getElem?_take, if_pos (by omega)] at hx
    exact nlen_top (n := nlen l - 1) (by omega) hx
theorem can_take {l : List Int} (h : OkL l) : Can (l.take (nlen l)) := ⟨h.take _, by rw [nlen_take]; have := nlen_le l; simp; omega⟩
theorem Can.nil : Can [] := ⟨by simp [OkL], rfl⟩
theorem Can.top {l : List Int} (h : Can l) {n : Nat} {x : Int} (hn : l.length = n + 1) (hx : l[n]? = some x) : x ≠ 0 := nlen_top (by rw [h.2, hn]) hx
theorem Can.lo {l : List Int} (h : Can l) {n : Nat} (hn : l.length = n + 1) : pw n ≤ val l := by
  obtain ⟨x, hx⟩ : ∃ x, l[n]? = some x := ⟨l[n]'(by omega), by simp [hn]⟩
  have h1 := h.top hn hx
  have h2 := h.1.get hx
  have h3 := take_succ_val hx
  rw [List.take_of_length_le (by omega)] at h3
  have h4 := val_bd (h.1.take n)
  have h5 := pw_pos n
  have : pw n * 1 ≤ pw n * x := Int.mul_le_mul_of_nonneg_left (by omega) (by omega)
  omega
theorem pw_mono {a b : Nat} (h : a ≤ b) : pw a ≤ pw b := by
  obtain ⟨c, rfl⟩ : ∃ c, b = a + c := ⟨b - a, by omega⟩
  rw [pw_add]
  have h1 := pw_pos a
  have h2 := pw_pos c
  have : pw a * 1 ≤ pw a * pw c := Int.mul_le_mul_of_nonneg_left (by omega) (by omega)
  omega
theorem Can.len_lt {a b : List Int} (ha : OkL a) (hb : Can b) (h : a.length < b.length) : val a < val b := by
  obtain ⟨n, hn⟩ : ∃ n, b.length = n + 1 := ⟨b.length - 1, by omega⟩
  have h1 := hb.lo hn
  have h2 := (val_bd ha).2
  have h3 := pw_mono (show a.length ≤ n by omega)
  omega
theorem Can.ext : ∀ {a b : List Int}, Can a → Can b → val a = val b → a = b := by
  intro a b ha hb h
  have hl : a.length = b.length := by
    by_cases h1 : a.length < b.length
    · have := Can.len_lt ha.1 hb h1; omega
    · by_cases h2 : b.length < a.length
      · have := Can.len_lt hb.1 ha h2; omega
      · omega
  have main : ∀ (a b : List Int), OkL a → OkL b → a.length = b.length → val a = val b → a = b := by
    intro a
    induction a with
    | nil => intro b _ _ hl _; simp at hl; exact (List.eq_nil_of_length_eq_zero hl.symm).symm
    | cons x a ih =>
      intro b ha hb hl h
      cases b with
      | nil => simp at hl
      | cons y b =>
        have hx := ha x (by simp)
        have hy := hb y (by simp)
        simp only [val] at h
        have h1 : x = y := by omega
        have h2 : val a = val b := by omega
        rw [h1, ih b ha.tail hb.tail (by simpa using hl) h2]
  exact main a b ha.1 hb.1 hl h
theorem Can.zero {l : List Int} (h : Can l) : val l = 0 ↔ l = [] := by
  refine ⟨fun hv => h.ext .nil hv, fun hl => by subst hl; rfl⟩
theorem Can.pos {l : List Int} (h : Can l) (hn : l ≠ []) : 0 < val l := by
  have h1 := (val_bd h.1).1
  have h2 := mt h.zero.1 hn
  omega
/-- numbers of one length, equal above i, of which the limbs at i differ -/
theorem val_lt_at {a b : List Int} (ha : OkL a) (hb : OkL b) {i : Nat} {x y : Int} (hl : a.length = b.length) (hx : a[i]? = some x) (hy : b[i]? = some y) (hd : a.drop (i + 1) = b.drop (i + 1)) (h : x < y) : val a < val b := by
  have ia := (List.getElem?_eq_some_iff.1 hx).1
  rw [val_split a i (by omega), val_split b i (by omega), drop_val hx, drop_val hy, hd]
  have h1 := (val_bd (ha.take i)).2
  have h2 := (val_bd (hb.take i)).1
  rw [List.length_take, Nat.min_eq_left (by omega)] at h1
  have h3 : pw i * (x + 4294967296 * val (b.drop (i + 1))) + pw i ≤ pw i * (y + 4294967296 * val (b.drop (i + 1))) := by
    have := Int.mul_le_mul_of_nonneg_left (show x + 4294967296 * val (b.drop (i + 1)) + 1 ≤ y + 4294967296 * val (b.drop (i + 1)) by omega) (show 0 ≤ pw i by have := pw_pos i; omega)
    rw [Int.mul_add, Int.mul_one] at this
    exact this
  omega

/-! long division: the guess at one limb of the quotient -/
section
variable {top next P vl u2 u1 u0 ul V U g : Int}
theorem guess_high (hP : 0 < P) (hvl : 0 ≤ vl) (hV : V = (top * 4294967296 + next) * P + vl) (hU : U = ((u2 * 4294967296 + u1) * 4294967296 + u0) * P + ul) (hul : ul < P) (hg0 : 0 ≤ g)
    (h : (u2 * 4294967296 + u1 - g * top) * 4294967296 + u0 < g * next) : U < g * V := by
  have h1 : (u2 * 4294967296 + u1) * 4294967296 + u0 + 1 ≤ g * (top * 4294967296 + next) := by grind
  have h2 : ((u2 * 4294967296 + u1) * 4294967296 + u0 + 1) * P ≤ g * (top * 4294967296 + next) * P := Int.mul_le_mul_of_nonneg_right h1 (by omega)
  have h3 : 0 ≤ g * vl := Int.mul_nonneg hg0 hvl
  have h4 : g * V = g * (top * 4294967296 + next) * P + g * vl := by subst hV; grind
  have h5 : ((u2 * 4294967296 + u1) * 4294967296 + u0 + 1) * P = ((u2 * 4294967296 + u1) * 4294967296 + u0) * P + P := by grind
  omega
theorem guess_low (hP : 0 < P) (hvl : 0 ≤ vl) (hvl2 : vl < P) (hV : V = (top * 4294967296 + next) * P + vl) (hU : U = ((u2 * 4294967296 + u1) * 4294967296 + u0) * P + ul) (hul : 0 ≤ ul) (hg0 : 0 ≤ g) (hg : g < 4294967296) (ht : 1 ≤ top) (hn : 0 ≤ next)
    (h : g * next ≤ (u2 * 4294967296 + u1 - g * top) * 4294967296 + u0) : (g - 1) * V ≤ U := by
  have h1 : g * (top * 4294967296 + next) ≤ (u2 * 4294967296 + u1) * 4294967296 + u0 := by grind
  have h2 : g * (top * 4294967296 + next) * P ≤ ((u2 * 4294967296 + u1) * 4294967296 + u0) * P := Int.mul_le_mul_of_nonneg_right h1 (by omega)
  have h3 : g * vl ≤ 4294967296 * P := Int.mul_le_mul (by omega) (by omega) (by omega) (by omega)
  have h4 : g * V = g * (top * 4294967296 + next) * P + g * vl := by subst hV; grind
  have h6 : 4294967296 * P ≤ (top * 4294967296 + next) * P := Int.mul_le_mul_of_nonneg_right (by omega) (by omega)
  have h7 : (g - 1) * V = g * V - V := by grind
  omega
end
theorem div_of {U V q r : Int} (h : U = q * V + r) (h0 : 0 ≤ r) (h1 : r < V) : U / V = q ∧ U % V = r := by
  have hV : 0 < V := by omega
  constructor
  · rw [h, Int.add_comm, Int.add_mul_ediv_right _ _ (by omega), Int.ediv_eq_zero_of_lt h0 h1]; omega
  · rw [h, Int.add_comm, Int.add_mul_emod_self_right, Int.emod_eq_of_lt h0 h1]
theorem quot_bounds {U V g : Int} (hV : 0 < V) (h1 : g * V ≤ U) (h2 : U < (g + 1) * V) : U / V = g ∧ U % V = U - g * V :=
  div_of (by omega) (by omega) (by have : (g + 1) * V = g * V + V := by grind
                                   omega)
end Go.Big
namespace Go.Big
set_option linter.unusedSimpArgs false
set_option linter.unusedVariables false

def gd (l : List Int) (i : Nat) : Int := l.getD i 0
theorem gd_some {l : List Int} {i : Nat} {x : Int} (h : l[i]? = some x) : gd l i = x := by unfold gd; rw [List.getD_eq_getElem?_getD, h]; rfl
theorem gd_none {l : List Int} {i : Nat} (h : l.length ≤ i) : gd l i = 0 := by unfold gd; rw [List.getD_eq_getElem?_getD, List.getElem?_eq_none h]; rfl
theorem gd_bd {l : List Int} (h : OkL l) (i : Nat) : 0 ≤ gd l i ∧ gd l i < 4294967296 := by
  by_cases hi : i < l.length
  · rw [gd_some (List.getElem?_eq_getElem hi)]; exact h _ (List.getElem_mem hi)
  · rw [gd_none (by omega)]; omega
theorem take_val (l : List Int) (i : Nat) : val (l.take (i + 1)) = val (l.take i) + pw i * gd l i := by
  by_cases hi : i < l.length
  · rw [gd_some (List.getElem?_eq_getElem hi)]; exact take_succ_val (List.getElem?_eq_getElem hi)
  · rw [gd_none (by omega), List.take_of_length_le (by omega), List.take_of_length_le (by omega)]; simp
theorem set_take_val {o : List Int} {i : Nat} (v : Int) (h : i < o.length) : val ((o.set i v).take (i + 1)) = val (o.take i) + pw i * v := by
  rw [take_val, gd_some (x := v) (by simp [h])]
  rw [List.take_set_of_le (Nat.le_refl i)]
theorem drop_gd (l : List Int) (i : Nat) : val (l.drop i) = gd l i + 4294967296 * val (l.drop (i + 1)) := by
  by_cases hi : i < l.length
  · rw [gd_some (List.getElem?_eq_getElem hi)]; exact drop_val (List.getElem?_eq_getElem hi)
  · rw [gd_none (by omega), List.drop_of_length_le (by omega), List.drop_of_length_le (by omega)]; simp [val]
theorem split_div {t B : Int} (hB : 0 < B) : t % B + B * (t / B) = t := by have := Int.emod_add_mul_ediv t B; omega

/-- a round of a sum -/
theorem add_round {o a b : List Int} {i : Nat} {c t : Int} (h : val (o.take i) + c * pw i = val (a.take i) + val (b.take i)) (ht : t = c + gd a i + gd b i) (hi : i < o.length) :
    val ((o.set i (t % 4294967296)).take (i + 1)) + (t / 4294967296) * pw (i + 1) = val (a.take (i + 1)) + val (b.take (i + 1)) := by
  rw [set_take_val _ hi, take_val a, take_val b]
  have := split_div (t := t) (B := 4294967296) (by omega)
  simp only [pw]
  grind
/-- a round of a sum that is appended -/
theorem add_round2 {o a b : List Int} {i : Nat} {c t : Int} (h : val o + c * pw i = val (a.take i) + val (b.take i)) (ht : t = c + gd a i + gd b i) (hi : o.length = i) :
    val (o ++ [t % 4294967296]) + (t / 4294967296) * pw (i + 1) = val (a.take (i + 1)) + val (b.take (i + 1)) := by
  rw [val_append, hi, take_val a, take_val b]
  have := split_div (t := t) (B := 4294967296) (by omega)
  simp only [pw, val]
  grind
/-- a round of a difference -/
theorem sub_round {o a b : List Int} {i : Nat} {c t : Int} (h : val (o.take i) - c * pw i = val (a.take i) - val (b.take i)) (ht : t = gd a i - c - gd b i) (hi : i < o.length) :
    val ((o.set i (t % 4294967296)).take (i + 1)) - (-(t / 4294967296)) * pw (i + 1) = val (a.take (i + 1)) - val (b.take (i + 1)) := by
  rw [set_take_val _ hi, take_val a, take_val b]
  have := split_div (t := t) (B := 4294967296) (by omega)
  simp only [pw]
  grind
theorem sub_round2 {o a b : List Int} {i : Nat} {c t : Int} (h : val o - c * pw i = val (a.take i) - val (b.take i)) (ht : t = gd a i - c - gd b i) (hi : o.length = i) :
    val (o ++ [t % 4294967296]) - (-(t / 4294967296)) * pw (i + 1) = val (a.take (i + 1)) - val (b.take (i + 1)) := by
  rw [val_append, hi, take_val a, take_val b]
  have := split_div (t := t) (B := 4294967296) (by omega)
  simp only [pw, val]
  grind
/-- a round of the inner loop of a product: limb x times b, added to o from place i on -/
theorem mul_inner {o o0 b : List Int} {i j : Nat} {x c t z : Int} (h : val o + c * pw (i + j) = val o0 + pw i * (x * val (b.take j))) (hz : o[i + j]? = some z) (ht : t = c + x * gd b j + z) :
    val (o.set (i + j) (t % 4294967296)) + (t / 4294967296) * pw (i + (j + 1)) = val o0 + pw i * (x * val (b.take (j + 1))) := by
  rw [val_set _ hz, take_val b]
  have := split_div (t := t) (B := 4294967296) (by omega)
  rw [show i + (j + 1) = (i + j) + 1 by omega]
  simp only [pw]
  rw [pw_add] at *
  grind
/-- a round of a short division, from the top -/
theorem short_round {q a : List Int} {i : Nat} {d rest t : Int} (hd : 0 < d) (h : val (a.drop (i + 1)) = val (q.drop (i + 1)) * d + rest) (ht : t = rest * 4294967296 + gd a i) (hi : i < q.length) :
    val (a.drop i) = val ((q.set i (t / d)).drop i) * d + t % d := by
  rw [drop_gd a i, drop_gd (q.set i (t / d)) i, gd_some (l := q.set i (t / d)) (x := t / d) (by simp [hi])]
  rw [List.drop_set_of_lt (by omega)]
  have := split_div (t := t) (B := d) hd
  grind
/-- a round of a shift upwards by s bits (S = 2^s) -/
theorem up_round {o a : List Int} {i : Nat} {S c t : Int} (h : val (o.take i) + c * pw i = val (a.take i) * S) (ht : t = c + gd a i * S) (hi : i < o.length) :
    val ((o.set i (t % 4294967296)).take (i + 1)) + (t / 4294967296) * pw (i + 1) = val (a.take (i + 1)) * S := by
  rw [set_take_val _ hi, take_val a]
  have := split_div (t := t) (B := 4294967296) (by omega)
  simp only [pw]
  grind
/-- a round of 'subtract': f times v is taken from u -/
theorem subt_round {u u' v : List Int} {i : Nat} {f c b c1 d b' : Int} (h : val (u'.take i) = val (u.take i) - f * val (v.take i) + (c + b) * pw i) (hc : c1 = c + f * gd v i) (hd : d = gd u i - c1 % 4294967296 - b) (hb : d % 4294967296 = d + 4294967296 * b') (hi : i < u'.length) :
    val ((u'.set i (d % 4294967296)).take (i + 1)) = val (u.take (i + 1)) - f * val (v.take (i + 1)) + (c1 / 4294967296 + b') * pw (i + 1) := by
  rw [set_take_val _ hi, take_val u, take_val v]
  have := split_div (t := c1) (B := 4294967296) (by omega)
  simp only [pw]
  grind
theorem take_full {l : List Int} {n : Nat} (h : l.length = n) : l.take n = l := List.take_of_length_le (by omega)
/-- what one limb of the quotient leaves -/
theorem divstep {U V W P g k : Int} (hV : 0 < V) (hP : V ≤ P) (hU : 0 ≤ U) (h1 : (g - 1) * V ≤ U) (h2 : U < g * V) (hk : k = 0 ∨ k = 1) (hW : W = U - g * V + P + V - k * P) (h3 : 0 ≤ W) (h4 : W < P) : W = U - (g - 1) * V := by
  have e : (g - 1) * V = g * V - V := by grind
  rcases hk with rfl | rfl
  · omega
  · omega
end Go.Big
namespace Go.Big
set_option linter.unusedSimpArgs false
set_option linter.unusedVariables false

theorem gd_take {l : List Int} {i n : Nat} (h : i < n) : gd (l.take n) i = gd l i := by
  unfold gd; simp only [List.getD_eq_getElem?_getD, List.getElem?_take, if_pos h]
theorem gd_drop {l : List Int} {i n : Nat} : gd (l.drop n) i = gd l (n + i) := by
  unfold gd; simp only [List.getD_eq_getElem?_getD, List.getElem?_drop]
theorem top2 {v : List Int} {n : Nat} (hl : v.length = n + 2) : val v = (gd v (n + 1) * 4294967296 + gd v n) * pw n + val (v.take n) := by
  have h1 := val_split v n (by omega)
  have h2 := drop_gd v n
  have h3 := drop_gd v (n + 1)
  have h4 : val (v.drop (n + 1 + 1)) = 0 := by rw [List.drop_of_length_le (by omega)]; rfl
  rw [h4] at h3
  grind
theorem top3 {u : List Int} {n : Nat} (hl : u.length = n + 3) : val u = ((gd u (n + 2) * 4294967296 + gd u (n + 1)) * 4294967296 + gd u n) * pw n + val (u.take n) := by
  have h1 := val_split u n (by omega)
  have h2 := drop_gd u n
  have h3 := drop_gd u (n + 1)
  have h4 := drop_gd u (n + 1 + 1)
  have h5 : val (u.drop (n + 1 + 1 + 1)) = 0 := by rw [List.drop_of_length_le (by omega)]; rfl
  rw [h5] at h4
  grind
/-- the state of long division before limb j of the quotient -/
structure LD (A V : Int) (n : Nat) (u q : List Int) (j : Nat) : Prop where
  okU : OkL u
  okQ : OkL q
  len : u.length = q.length + n
  hi : ∀ i x, j + n ≤ i → u[i]? = some x → x = 0
  low : val ((u.drop j).take n) < V
  eq : A = val (q.drop j) * pw j * V + val u
theorem take_split (l : List Int) (n : Nat) : val (l.take (n + 1)) = gd l 0 + 4294967296 * val ((l.drop 1).take n) := by
  cases l with
  | nil => simp [gd, val]
  | cons x l => simp [gd, val]
/-- the number under the divisor -/
theorem LD.under {A V : Int} {n : Nat} {u q : List Int} {j : Nat} (h : LD A V n u q (j + 1)) : 0 ≤ val ((u.drop j).take (n + 1)) ∧ val ((u.drop j).take (n + 1)) < V * 4294967296 := by
  have h1 := take_split (u.drop j) n
  rw [gd_drop, List.drop_drop] at h1
  simp only [Nat.add_zero] at h1
  have h2 := gd_bd h.okU j
  have h3 := h.low
  have h4 := (val_bd ((h.okU.drop (j + 1)).take n)).1
  have h5 := (val_bd ((h.okU.drop j).take (n + 1))).1
  omega
theorem LD.step {A V : Int} {n : Nat} {u q : List Int} {j : Nat} (h : LD A V n u q (j + 1)) (hj : j < q.length) {w : List Int} (hwl : w.length = n + 1) (hw : OkL w) {g : Int} (hg : 0 ≤ g ∧ g < 4294967296) (hwv : val w = val ((u.drop j).take (n + 1)) - g * V) (hwV : val w < V) (hVp : V ≤ pw n) :
    LD A V n (u.take j ++ w ++ u.drop (j + n + 1)) (q.set j g) j := by
  have hl := h.len
  have hul : (u.take j).length = j := by simp; omega
  have htop : gd w n = 0 := by
    have h1 := take_val w n
    rw [List.take_of_length_le (by omega)] at h1
    have h2 := (val_bd (hw.take n)).1
    have h3 := gd_bd hw n
    have h4 := pw_pos n
    by_cases h0 : gd w n = 0
    · exact h0
    · have : pw n * 1 ≤ pw n * gd w n := Int.mul_le_mul_of_nonneg_left (by omega) (by omega)
      omega
  refine ⟨(h.okU.take j).app hw |>.app (h.okU.drop _), h.okQ.set j hg, by simp; omega, fun i x hi hx => ?_, ?_, ?_⟩
  · by_cases h1 : i < j + n + 1
    · obtain rfl : i = j + n := by omega
      rw [List.getElem?_append_left (by simp; omega), List.getElem?_append_right (by omega), hul] at hx
      rw [show j + n - j = n by omega] at hx
      rw [gd_some hx] at htop; exact htop
    · rw [List.getElem?_append_right (by simp; omega)] at hx
      rw [List.getElem?_drop] at hx
      refine h.hi _ x (by simp; omega) hx
  · have e : ((u.take j ++ w ++ u.drop (j + n + 1)).drop j).take n = w.take n := by
      rw [List.append_assoc, List.drop_append, List.drop_of_length_le (by omega), hul]
      simp only [List.nil_append, Nat.sub_self, List.drop_zero]
      rw [List.take_append_of_le_length (by omega)]
    rw [e]
    have h1 := take_val w n
    rw [List.take_of_length_le (l := w) (by omega), htop] at h1
    simp at h1
    omega
  · have hu := val_split u j (by omega)
    have hu2 := val_append ((u.drop j).take (n + 1)) ((u.drop j).drop (n + 1))
    rw [List.take_append_drop, List.drop_drop] at hu2
    have hlen : ((u.drop j).take (n + 1)).length = n + 1 := by simp; omega
    rw [hlen] at hu2
    have hn1 := val_append (u.take j ++ w) (u.drop (j + n + 1))
    have hn2 := val_append (u.take j) w
    rw [hul] at hn2
    have hul2 : (u.take j ++ w).length = j + (n + 1) := by rw [List.length_append, hul, hwl]
    rw [hul2] at hn1
    have hq := drop_gd (q.set j g) j
    have e9 : (q.set j g).drop (j + 1) = q.drop (j + 1) := List.drop_set_of_lt (by omega)
    rw [gd_some (l := q.set j g) (x := g) (by simp [hj]), e9] at hq
    have he := h.eq
    have hp := pw_add j (n + 1)
    have hpj : pw (j + 1) = 4294967296 * pw j := rfl
    rw [show j + n + 1 = j + (n + 1) by omega] at hn1
    rw [show j + n + 1 = j + (n + 1) by omega, hn1, hn2, hwv, hp, hq, he, hu, hu2, hpj]
    generalize val (u.take j) = x1
    generalize val ((u.drop j).take (n + 1)) = x2
    generalize val (u.drop (j + (n + 1))) = x3
    generalize val (q.drop (j + 1)) = x4
    generalize pw j = p1
    generalize pw (n + 1) = p2
    grind
theorem LD.done {A V : Int} {n : Nat} {u q : List Int} (h : LD A V n u q 0) (hV : 0 < V) : A / V = val q ∧ A % V = val (u.take n) ∧ val u = val (u.take n) := by
  have h1 := h.eq
  have h2 := h.low
  rw [List.drop_zero] at h1 h2
  have h3 := val_split u n (by have := h.len; omega)
  have h4 : val (u.drop n) = 0 := val_zero_of fun i x hx => by
    rw [List.getElem?_drop] at hx
    exact h.hi _ x (by omega) hx
  rw [h4] at h3
  have h5 := (val_bd (h.okU.take n)).1
  have h6 : A = val q * V + val (u.take n) := by simp only [pw] at h1; rw [h1]; grind
  obtain ⟨g1, g2⟩ := div_of h6 h5 h2
  exact ⟨g1, g2, by omega⟩
/-- a round of a shift downwards by s bits (S = 2^s, S K = 2^32) -/
theorem down_round {r u : List Int} {i : Nat} {S K : Int} (hS : 0 < S) (hSK : S * K = 4294967296) (h : S * val (r.take i) = val (u.take i) - gd u 0 % S + (gd u i % S) * pw i) (hi : i < r.length) (hu : OkL u) :
    S * val ((r.set i (((gd u (i + 1) * 4294967296 + gd u i) / S) % 4294967296)).take (i + 1)) = val (u.take (i + 1)) - gd u 0 % S + (gd u (i + 1) % S) * pw (i + 1) := by
  rw [set_take_val _ hi, take_val u]
  have hK : 0 < K := by
    by_cases h : 0 < K
    · exact h
    · have : S * K ≤ 0 := Int.mul_nonpos_of_nonneg_of_nonpos (by omega) (by omega)
      omega
  have b1 := gd_bd hu i
  have b2 := gd_bd hu (i + 1)
  have e1 := split_div (t := gd u i) (B := S) hS
  have e2 := split_div (t := gd u (i + 1)) (B := S) hS
  have m1 := Int.emod_nonneg (gd u i) (show S ≠ 0 by omega)
  have m2 := Int.emod_lt_of_pos (gd u i) hS
  have m3 := Int.emod_nonneg (gd u (i + 1)) (show S ≠ 0 by omega)
  have m4 := Int.emod_lt_of_pos (gd u (i + 1)) hS
  have d0 : 0 ≤ gd u i / S := Int.ediv_nonneg (by omega) (by omega)
  -- the quotient
  have q1 : (gd u (i + 1) * 4294967296 + gd u i) / S = gd u (i + 1) * K + gd u i / S := by
    have : gd u (i + 1) * 4294967296 + gd u i = (gd u (i + 1) * K + gd u i / S) * S + gd u i % S := by rw [← hSK]; grind
    exact (div_of this m1 m2).1
  have hd : gd u i / S < K := by
    by_cases h9 : gd u i / S < K
    · exact h9
    · have : S * K ≤ S * (gd u i / S) := Int.mul_le_mul_of_nonneg_left (by omega) (by omega)
      omega
  have q2 : (gd u (i + 1) * K + gd u i / S) % 4294967296 = (gd u (i + 1) % S) * K + gd u i / S := by
    have e3 : gd u (i + 1) * K + gd u i / S = (gd u (i + 1) / S) * 4294967296 + ((gd u (i + 1) % S) * K + gd u i / S) := by rw [← hSK]; grind
    have l1 : 0 ≤ (gd u (i + 1) % S) * K := Int.mul_nonneg m3 (by omega)
    have l2 : (gd u (i + 1) % S) * K + K ≤ S * K := by
      have := Int.mul_le_mul_of_nonneg_right (show gd u (i + 1) % S + 1 ≤ S by omega) (show 0 ≤ K by omega)
      rw [Int.add_mul, Int.one_mul] at this; exact this
    exact (div_of e3 (by omega) (by omega)).2
  rw [q1, q2]
  simp only [pw]
  grind
end Go.Big
namespace Go.Big
set_option linter.unusedSimpArgs false
set_option linter.unusedVariables false

def digs (n : Int) : List Int := if h : n ≤ 0 then [] else (n % 4294967296) :: digs (n / 4294967296)
termination_by n.toNat
decreasing_by omega
theorem digs_zero {n : Int} (h : n ≤ 0) : digs n = [] := by rw [digs]; simp [h]
theorem digs_pos {n : Int} (h : 0 < n) : digs n = (n % 4294967296) :: digs (n / 4294967296) := by rw [digs]; simp; omega
theorem Can.tail {x : Int} {l : List Int} (h : Can (x :: l)) : Can l ∧ 0 < x + 4294967296 * val l := by
  have h1 := h.2
  have hx := h.1 x (by simp)
  have h3 := (val_bd h.1.tail).1
  simp only [nlen, List.length_cons] at h1
  by_cases h0 : nlen l = 0
  · rw [if_pos h0] at h1
    split at h1
    · omega
    · exact ⟨⟨h.1.tail, by omega⟩, by omega⟩
  · rw [if_neg h0] at h1
    have hc : Can l := ⟨h.1.tail, by omega⟩
    obtain ⟨n, hn⟩ : ∃ n, l.length = n + 1 := ⟨l.length - 1, by omega⟩
    have := hc.lo hn
    have := pw_pos n
    exact ⟨hc, by omega⟩
theorem digs_can : ∀ {l : List Int}, Can l → digs (val l) = l
  | [], _ => digs_zero (by simp [val])
  | x :: l, h => by
    obtain ⟨h1, h2⟩ := h.tail
    have hx := h.1 x (by simp)
    rw [digs_pos (by simp only [val]; omega)]
    have e1 : val (x :: l) % 4294967296 = x := by simp only [val]; omega
    have e2 : val (x :: l) / 4294967296 = val l := by simp only [val]; omega
    rw [e1, e2, digs_can h1]
theorem digs_spec : ∀ (k : Nat) (n : Int), n.toNat ≤ k → 0 ≤ n → Can (digs n) ∧ val (digs n) = n
  | 0, n, h, h0 => by rw [digs_zero (by omega)]; exact ⟨Can.nil, by simp [val]; omega⟩
  | k + 1, n, h, h0 => by
    by_cases hn : n ≤ 0
    · rw [digs_zero hn]; exact ⟨Can.nil, by simp [val]; omega⟩
    · obtain ⟨g1, g2⟩ := digs_spec k (n / 4294967296) (by omega) (by omega)
      rw [digs_pos (by omega)]
      refine ⟨⟨?_, ?_⟩, by simp only [val, g2]; omega⟩
      · intro x hx
        rcases List.mem_cons.1 hx with rfl | hx
        · omega
        · exact g1.1 x hx
      · simp only [nlen, List.length_cons, g1.2]
        by_cases h9 : (digs (n / 4294967296)).length = 0
        · have : digs (n / 4294967296) = [] := List.length_eq_zero_iff.1 h9
          rw [this] at g2
          simp only [val] at g2
          rw [if_pos h9, if_neg (by omega), h9]
        · rw [if_neg h9]
theorem can_digs (n : Int) : Can (digs n) := by
  by_cases h : 0 ≤ n
  · exact (digs_spec _ n (Nat.le_refl _) h).1
  · rw [digs_zero (by omega)]; exact Can.nil
theorem val_digs {n : Int} (h : 0 ≤ n) : val (digs n) = n := (digs_spec _ n (Nat.le_refl _) h).2
theorem take_nlen_digs {l : List Int} (h : OkL l) : l.take (nlen l) = digs (val l) := by
  rw [← val_take_nlen l, digs_can (can_take h)]
theorem nlen_digs {l : List Int} (h : OkL l) : (digs (val l)).length = nlen l := by
  rw [← take_nlen_digs h, List.length_take, Nat.min_eq_left (nlen_le l)]
theorem pw_le {a b : Nat} (h : a ≤ b) : pw a ≤ pw b := by
  obtain ⟨c, rfl⟩ := Nat.exists_eq_add_of_le h
  rw [pw_add]
  have h1 := pw_pos a
  have h2 := pw_pos c
  have : pw a * 1 ≤ pw a * pw c := Int.mul_le_mul_of_nonneg_left (by omega) (by omega)
  omega
theorem val_hi {l : List Int} (h : OkL l) : val l < pw (nlen l) := by
  have h1 := val_bd (h.take (nlen l))
  rw [val_take_nlen, List.length_take, Nat.min_eq_left (nlen_le l)] at h1
  exact h1.2
theorem val_lo {l : List Int} (h : OkL l) {n : Nat} (hn : nlen l = n + 1) : pw n ≤ val l := by
  have := (can_take h).lo (n := n) (by rw [List.length_take, Nat.min_eq_left (nlen_le l), hn])
  rwa [val_take_nlen] at this
theorem nlen_le_iff {l : List Int} (h : OkL l) (n : Nat) : nlen l ≤ n ↔ val l < pw n := by
  constructor
  · intro h1
    have := val_hi h
    have := pw_le h1
    omega
  · intro h1
    by_cases h2 : nlen l ≤ n
    · exact h2
    · have := val_lo h (n := nlen l - 1) (by omega)
      have := pw_le (show n ≤ nlen l - 1 by omega)
      omega
theorem val_lt_of_nlen {a b : List Int} (ha : OkL a) (hb : OkL b) (h : nlen a < nlen b) : val a < val b := by
  have h1 := val_hi ha
  have h2 := val_lo hb (n := nlen b - 1) (by omega)
  have h3 := pw_le (show nlen a ≤ nlen b - 1 by omega)
  omega
def cmpI (a b : Int) : Int := if a < b then -1 else if b < a then 1 else 0
theorem drop_nlen (l : List Int) : val (l.drop (nlen l)) = 0 := val_zero_of fun i x hx => by
  rw [List.getElem?_drop] at hx
  exact nlen_hi (by omega) hx
theorem cmp_lt {a b : List Int} (ha : OkL a) (hb : OkL b) {i : Nat} (h : val (a.drop (i + 1)) = val (b.drop (i + 1))) (hi : gd a i < gd b i) (hla : i ≤ a.length) (hlb : i ≤ b.length) : val a < val b := by
  have h1 := val_split a i hla
  have h2 := val_split b i hlb
  have h3 := drop_gd a i
  have h4 := drop_gd b i
  have h5 := val_bd (ha.take i)
  have h6 := val_bd (hb.take i)
  have h7 : pw (a.take i).length ≤ pw i := pw_le (by simp; omega)
  have h8 : pw i * (val (a.drop i) + 1) ≤ pw i * val (b.drop i) := Int.mul_le_mul_of_nonneg_left (by omega) (by have := pw_pos i; omega)
  rw [Int.mul_add] at h8
  omega
theorem val_inj {a b : List Int} (ha : Can a) (hb : Can b) (h : val a = val b) : a = b := by rw [← digs_can ha, ← digs_can hb, h]
end Go.Big
namespace Go.Big
set_option linter.unusedSimpArgs false
set_option linter.unusedVariables false

/-- the greatest limb stands above the others -/
theorem top1 {l : List Int} {n : Nat} (hl : l.length = n + 1) : val l = gd l n * pw n + val (l.take n) := by
  have h1 := val_split l n (by omega)
  have h2 := drop_gd l n
  have h3 : val (l.drop (n + 1)) = 0 := by rw [List.drop_of_length_le (by omega)]; rfl
  rw [h3] at h2
  rw [h1, h2]; grind
/-- a divisor that is scaled so that its greatest limb has its highest bit -/
theorem scaled {b o : List Int} {n : Nat} {S K : Int} (hb : OkL b) (hl : b.length = n + 1) (hS : 0 < S) (hSK : S * K = 4294967296) (h1 : 2147483648 ≤ gd b n * S) (h2 : gd b n * S < 4294967296) (ho : OkL o) (hlo : o.length = n + 2) (hv : val o = val b * S) :
    val (o.take (n + 1)) = val b * S ∧ 2147483648 ≤ gd (o.take (n + 1)) n ∧ pw n * S ≤ val b * S := by
  have hx := gd_bd hb n
  have hp := pw_pos n
  have t := top1 hl
  have bd := val_bd (hb.take n)
  rw [List.length_take, Nat.min_eq_left (by omega)] at bd
  have hK : gd b n + 1 ≤ K := by
    by_cases h : gd b n + 1 ≤ K
    · exact h
    · have : S * K ≤ S * gd b n := Int.mul_le_mul_of_nonneg_left (by omega) (by omega)
      rw [Int.mul_comm S (gd b n)] at this
      omega
  have e1 : (gd b n + 1) * S ≤ 4294967296 := by
    have := Int.mul_le_mul_of_nonneg_left hK (show 0 ≤ S by omega)
    rw [hSK, Int.mul_comm] at this; exact this
  have e2 : val b < (gd b n + 1) * pw n := by rw [t]; grind
  have e3 : val b * S < 4294967296 * pw n := by
    have a1 : val b * S < (gd b n + 1) * pw n * S := Int.mul_lt_mul_of_pos_right e2 hS
    have a2 : (gd b n + 1) * S * pw n ≤ 4294967296 * pw n := Int.mul_le_mul_of_nonneg_right e1 (by omega)
    have a3 : (gd b n + 1) * pw n * S = (gd b n + 1) * S * pw n := by grind
    omega
  have to := top1 (l := o) (n := n + 1) (by omega)
  have bo := val_bd (ho.take (n + 1))
  rw [List.length_take, Nat.min_eq_left (by omega)] at bo
  have g0 := gd_bd ho (n + 1)
  have hpn : pw (n + 1) = 4294967296 * pw n := rfl
  have z0 : gd o (n + 1) = 0 := by
    by_cases h : gd o (n + 1) = 0
    · exact h
    · have : 1 * pw (n + 1) ≤ gd o (n + 1) * pw (n + 1) := Int.mul_le_mul_of_nonneg_right (by omega) (by omega)
      omega
  have v0 : val (o.take (n + 1)) = val b * S := by rw [z0] at to; omega
  have hgb : 1 ≤ gd b n := by
    by_cases h : 1 ≤ gd b n
    · exact h
    · have : gd b n = 0 := by omega
      rw [this] at h1; omega
  refine ⟨v0, ?_, ?_⟩
  · have t2 := top1 (l := o.take (n + 1)) (n := n) (by simp; omega)
    have b2 := val_bd ((ho.take (n + 1)).take n)
    rw [List.length_take, List.length_take, Nat.min_eq_left (by omega)] at b2
    have a1 : gd b n * pw n ≤ val b := by omega
    have a2 : gd b n * pw n * S ≤ val b * S := Int.mul_le_mul_of_nonneg_right a1 (by omega)
    have a3 : gd b n * pw n * S = gd b n * S * pw n := by grind
    have a4 : 2147483648 * pw n ≤ gd b n * S * pw n := Int.mul_le_mul_of_nonneg_right h1 (by omega)
    by_cases h : 2147483648 ≤ gd (o.take (n + 1)) n
    · exact h
    · have : gd (o.take (n + 1)) n * pw n ≤ 2147483647 * pw n := Int.mul_le_mul_of_nonneg_right (by omega) (by omega)
      omega
  · have a1 : 1 * pw n ≤ gd b n * pw n := Int.mul_le_mul_of_nonneg_right hgb (by omega)
    exact Int.mul_le_mul_of_nonneg_right (by omega) (by omega)
/-- where long division begins -/
theorem LD.start {A V : Int} {n na k : Nat} {u : List Int} {a S : Int} (hu : OkL u) (hul : u.length = k + (n + 1)) (hk : na + 1 = k + (n + 1)) (hA : val u = A) (hAS : A = a * S) (ha : a < pw na) (hS : 0 < S) (hV : pw n * S ≤ V) :
    LD A V (n + 1) u (List.replicate k 0) k := by
  refine ⟨hu, OkL.zeros k, by simp; omega, fun i x hi hx => ?_, ?_, ?_⟩
  · have := (List.getElem?_eq_some_iff.1 hx).1; omega
  · rw [List.take_of_length_le (by simp; omega)]
    have h1 := val_split u k (by omega)
    have h2 := (val_bd (hu.take k)).1
    have h3 : pw na = pw k * pw n := by rw [← pw_add]; congr 1; omega
    have h4 : a * S < pw na * S := Int.mul_lt_mul_of_pos_right ha hS
    have hp := pw_pos k
    by_cases h : val (u.drop k) < V
    · exact h
    · have h5 : pw k * (pw n * S) ≤ pw k * val (u.drop k) := Int.mul_le_mul_of_nonneg_left (by omega) (by omega)
      have h6 : pw k * (pw n * S) = pw na * S := by rw [h3]; grind
      omega
  · rw [List.drop_of_length_le (by simp), hA]; simp [val]
/-- the guess at the start -/
theorem guess_start {top next P vl u2 u1 u0 ul V U : Int} (hP : 0 < P) (hvl : 0 ≤ vl) (hV : V = (top * 4294967296 + next) * P + vl) (hU : U = ((u2 * 4294967296 + u1) * 4294967296 + u0) * P + ul) (hul : ul < P) (ht : 0 < top) (hn : 0 ≤ next) (hu0 : u0 < 4294967296) (hH : 0 ≤ u2 * 4294967296 + u1) :
    U < ((u2 * 4294967296 + u1) / top + 1) * V := by
  obtain ⟨g, hg⟩ : ∃ g, g = (u2 * 4294967296 + u1) / top := ⟨_, rfl⟩
  have g0 : 0 ≤ g := by rw [hg]; exact Int.ediv_nonneg hH (by omega)
  have h1 : u2 * 4294967296 + u1 < (g + 1) * top := by
    have a1 := Int.emod_add_mul_ediv (u2 * 4294967296 + u1) top
    have a2 := Int.emod_lt_of_pos (u2 * 4294967296 + u1) ht
    rw [← hg] at a1
    have : (g + 1) * top = top * g + top := by grind
    omega
  rw [← hg]
  have h2 : ((u2 * 4294967296 + u1) * 4294967296 + u0 + 1) * P ≤ ((g + 1) * top * 4294967296) * P := Int.mul_le_mul_of_nonneg_right (by omega) (by omega)
  have h3 : 0 ≤ (g + 1) * next * P := Int.mul_nonneg (Int.mul_nonneg (by omega) hn) (by omega)
  have h4 : 0 ≤ (g + 1) * vl := Int.mul_nonneg (by omega) hvl
  have h5 : (g + 1) * V = (g + 1) * top * 4294967296 * P + (g + 1) * next * P + (g + 1) * vl := by rw [hV]; grind
  have h6 : ((u2 * 4294967296 + u1) * 4294967296 + u0 + 1) * P = ((u2 * 4294967296 + u1) * 4294967296 + u0) * P + P := by grind
  omega
theorem top_le {top next P vl u2 u1 u0 ul V U : Int} (hP : 0 < P) (hvl : vl < P) (hV : V = (top * 4294967296 + next) * P + vl) (hU : U = ((u2 * 4294967296 + u1) * 4294967296 + u0) * P + ul) (hul : 0 ≤ ul) (hn : next < 4294967296) (h0 : 0 ≤ u0) (h1 : 0 ≤ u1) (h : U < V * 4294967296) : u2 ≤ top := by
  by_cases hc : u2 ≤ top
  · exact hc
  · have a1 : (top * 4294967296 + next + 1) * P ≤ ((top + 1) * 4294967296) * P := Int.mul_le_mul_of_nonneg_right (by omega) (by omega)
    have a2 : (top * 4294967296 + next + 1) * P = (top * 4294967296 + next) * P + P := by grind
    have a3 : ((top + 1) * 4294967296 * 4294967296) * P ≤ ((u2 * 4294967296 + u1) * 4294967296 + u0) * P := Int.mul_le_mul_of_nonneg_right (by omega) (by omega)
    have a4 : ((top + 1) * 4294967296 * 4294967296) * P = ((top + 1) * 4294967296) * P * 4294967296 := by grind
    omega
end Go.Big
