/-
  Fractions, in plain Lean: sign, numerator, denominator.
-/
import Derived.Test.YtkpifdkccdndcaaGreatNtFK
namespace Go.Big
set_option linter.unusedSimpArgs false
set_option linter.unusedVariables false

structure Fr where
  neg : Bool
  n : Int
  d : Int
  deriving DecidableEq
def Fr.zero : Fr := ⟨false, 0, 0⟩
def Fr.one : Fr := ⟨false, 1, 1⟩
def Fr.nil : Fr := ⟨false, 0, 1⟩
/-- numbers of at most 128 limbs -/
def Fr.fits (x : Fr) : Bool := decide (x.n < pw 128) && decide (x.d < pw 128)
/-- a valid fraction -/
def Fr.ok (x : Fr) : Bool := decide (0 < x.d) && decide (x.d < pw 128) && decide (x.n < pw 128)
def lowF (x : Fr) : Fr := ⟨x.neg && decide (0 < x.n), x.n / gcdI x.n x.d, x.d / gcdI x.n x.d⟩
def addF (x y : Fr) : Fr :=
  if x.neg = y.neg then ⟨x.neg, x.n * y.d + y.n * x.d, x.d * y.d⟩
  else if y.n * x.d ≤ x.n * y.d then ⟨x.neg, x.n * y.d - y.n * x.d, x.d * y.d⟩ else ⟨y.neg, y.n * x.d - x.n * y.d, x.d * y.d⟩
def ordF (x y : Fr) : Int :=
  if x.neg && decide (x.n ≠ 0) then (if y.neg && decide (y.n ≠ 0) then cmpI (y.n * x.d) (x.n * y.d) else -1)
  else if y.neg && decide (y.n ≠ 0) then 1 else cmpI (x.n * y.d) (y.n * x.d)
def sizeE (x : Fr) : Int × Fr := if x.fits then (0, x) else (2, .zero)
def reduceE (x : Fr) : Int × Fr := if x.ok then sizeE (lowF x) else (1, .zero)
def addE (x y : Fr) : Int × Fr := if x.ok && y.ok then sizeE (lowF (addF x y)) else (1, .zero)
def sumE : Fr → List Fr → Int × Fr
  | s, [] => (0, s)
  | s, x :: l => if (addE s x).1 = 0 then sumE (addE s x).2 l else ((addE s x).1, .zero)

theorem mul_pw {a b : Int} {i j : Nat} (ha : 0 ≤ a) (hb : 0 ≤ b) (h1 : a < pw i) (h2 : b < pw j) : a * b < pw (i + j) := by
  rw [pw_add]
  have h3 : a * b ≤ a * pw j := Int.mul_le_mul_of_nonneg_left (by omega) ha
  have h4 : a * pw j < pw i * pw j := Int.mul_lt_mul_of_pos_right h1 (pw_pos j)
  omega
theorem gcdI_pos {a b : Int} (hb : 0 < b) : 0 < gcdI a b := by
  unfold gcdI
  have := Nat.gcd_pos_of_pos_right a.toNat (show 0 < b.toNat by omega)
  omega
theorem gcdI_le {a b : Int} (hb : 0 < b) : gcdI a b ≤ b := by
  unfold gcdI
  have := Nat.gcd_le_right a.toNat (show 0 < b.toNat by omega)
  omega
theorem gcdI_dvd_left {a b : Int} (ha : 0 ≤ a) : gcdI a b ∣ a := by
  unfold gcdI
  have := Nat.gcd_dvd_left a.toNat b.toNat
  have h := Int.ofNat_dvd.2 this
  rwa [Int.toNat_of_nonneg ha] at h
theorem gcdI_dvd_right {a b : Int} (hb : 0 ≤ b) : gcdI a b ∣ b := by
  unfold gcdI
  have := Nat.gcd_dvd_right a.toNat b.toNat
  have h := Int.ofNat_dvd.2 this
  rwa [Int.toNat_of_nonneg hb] at h
theorem div_pos_of_dvd {g b : Int} (hg : 0 < g) (hb : 0 < b) (h : g ∣ b) : 0 < b / g := by
  obtain ⟨c, rfl⟩ := h
  rw [Int.mul_ediv_cancel_left _ (by omega)]
  by_cases hc : 0 < c
  · exact hc
  · have : g * c ≤ 0 := Int.mul_nonpos_of_nonneg_of_nonpos (by omega) (by omega)
    omega
section
variable {x : Fr}
theorem lowF_n (hn : 0 ≤ x.n) (hd : 0 < x.d) : 0 ≤ (lowF x).n ∧ (lowF x).n ≤ x.n := by
  have g := gcdI_pos (a := x.n) hd
  exact ⟨Int.ediv_nonneg hn (by omega), Int.ediv_le_self _ hn⟩
theorem lowF_d (hd : 0 < x.d) : 0 < (lowF x).d ∧ (lowF x).d ≤ x.d := by
  have g := gcdI_pos (a := x.n) hd
  exact ⟨div_pos_of_dvd g hd (gcdI_dvd_right (by omega)), Int.ediv_le_self _ (by omega)⟩
theorem lowF_pos (hn : 0 ≤ x.n) (hd : 0 < x.d) : 0 < (lowF x).n ↔ 0 < x.n := by
  have g := gcdI_pos (a := x.n) hd
  refine ⟨fun h => by have := (lowF_n hn hd).2; omega, fun h => div_pos_of_dvd g h (gcdI_dvd_left hn)⟩
theorem Fr.ok_iff : x.ok = true ↔ 0 < x.d ∧ x.d < pw 128 ∧ x.n < pw 128 := by simp [Fr.ok, and_assoc]
theorem Fr.fits_iff : x.fits = true ↔ x.n < pw 128 ∧ x.d < pw 128 := by simp [Fr.fits]
theorem lowF_fits (hx : x.ok = true) (hn : 0 ≤ x.n) : (lowF x).fits = true := by
  obtain ⟨h1, h2, h3⟩ := Fr.ok_iff.1 hx
  have := (lowF_n hn h1).2
  have := (lowF_d h1).2
  exact Fr.fits_iff.2 ⟨by omega, by omega⟩
theorem reduceE_ok (hx : x.ok = true) (hn : 0 ≤ x.n) : reduceE x = (0, lowF x) := by simp [reduceE, hx, sizeE, lowF_fits hx hn]
theorem reduceE_bad (hx : ¬ x.ok = true) : reduceE x = (1, .zero) := by simp [reduceE, hx]
end
theorem nbits_128 {n : Int} : nbits n ≤ 4096 ↔ n < pw 128 := by
  have := nbits_le 4096 n
  rw [pw_two]; exact this
theorem nbits_1 {n : Int} : nbits n ≤ 1 ↔ n ≤ 1 := by
  have := nbits_le 1 n
  simp at this
  omega
theorem nbits_0 {n : Int} : nbits n ≤ 0 ↔ n ≤ 0 := by
  have := nbits_le 0 n
  simp at this
  omega
theorem nbits_32 {n : Int} : nbits n ≤ 32 ↔ n < 4294967296 := by
  have := nbits_le 32 n
  simp at this
  omega
theorem cmpI_neg (a b : Int) : cmpI b a = -cmpI a b := by unfold cmpI; split <;> (try split) <;> (try split) <;> omega
end Go.Big
