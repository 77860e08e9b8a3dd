/-
  The lexer's classes of bytes: what each function answers.
-/
import Derived.Test.YtaoijkldbipplaaIr
namespace Go.Proofs.Ytaoijkldbipplaa
open Go Go.DI
set_option linter.unusedSimpArgs false
set_option linter.unusedVariables false

def isLetter (n : Int) : Bool := (decide (97 ≤ n) && decide (n ≤ 122)) || (decide (65 ≤ n) && decide (n ≤ 90))
def isDigit (n : Int) : Bool := decide (48 ≤ n) && decide (n ≤ 57)
def isInner (n : Int) : Bool := isLetter n || isDigit n || decide (n = 45) || decide (n = 46)
def isSpace (n : Int) : Bool := decide (n = 32) || decide (n = 9) || decide (n = 10) || decide (n = 13)
def isSign (n : Int) : Bool := decide (n = 123) || decide (n = 125) || decide (n = 59) || decide (n = 44) || decide (n = 43) || decide (n = 47)

theorem letter_ret (n : Int) (m : Mem) : Ret Try.prog 24 [.int .u8 n] m (.bool (isLetter n)) m := by
  apply Ret.of_wp
  rw [call24 (by simp)]
  by_cases h1 : 97 ≤ n <;> by_cases h2 : n ≤ 122 <;> by_cases h3 : 65 ≤ n <;> by_cases h4 : n ≤ 90 <;> simp [ir24_b, isLetter, h1, h2, h3, h4]
@[simp] theorem letter_wp (n : Int) (m : Mem) (Φ : Value → Mem → Prop) : WPCall Try.prog 24 [.int .u8 n] m Φ = Φ (.bool (isLetter n)) m := (letter_ret n m).wp
theorem digit_ret (n : Int) (m : Mem) : Ret Try.prog 29 [.int .u8 n] m (.bool (isDigit n)) m := by
  apply Ret.of_wp
  rw [call29 (by simp)]
  by_cases h1 : 48 ≤ n <;> by_cases h2 : n ≤ 57 <;> simp [ir29_b, isDigit, h1, h2]
@[simp] theorem digit_wp (n : Int) (m : Mem) (Φ : Value → Mem → Prop) : WPCall Try.prog 29 [.int .u8 n] m Φ = Φ (.bool (isDigit n)) m := (digit_ret n m).wp
theorem inner_ret (n : Int) (m : Mem) : Ret Try.prog 25 [.int .u8 n] m (.bool (isInner n)) m := by
  apply Ret.of_wp
  rw [call25 (by simp)]
  by_cases h1 : isLetter n = true
  · simp [ir25_b, isInner, h1]
  by_cases h2 : isDigit n = true
  · simp [ir25_b, isInner, h1, h2]
  by_cases h3 : n = 45
  · subst h3; simp [ir25_b, isInner, isLetter, isDigit]
  by_cases h4 : n = 46
  · subst h4; simp [ir25_b, isInner, isLetter, isDigit]
  simp [ir25_b, isInner, h1, h2, h3, h4]
@[simp] theorem inner_wp (n : Int) (m : Mem) (Φ : Value → Mem → Prop) : WPCall Try.prog 25 [.int .u8 n] m Φ = Φ (.bool (isInner n)) m := (inner_ret n m).wp
theorem space_ret (n : Int) (m : Mem) : Ret Try.prog 26 [.int .u8 n] m (.bool (isSpace n)) m := by
  apply Ret.of_wp
  rw [call26 (by simp)]
  by_cases h1 : n = 32 <;> by_cases h2 : n = 9 <;> by_cases h3 : n = 10 <;> by_cases h4 : n = 13 <;> simp [ir26_b, isSpace, h1, h2, h3, h4]
@[simp] theorem space_wp (n : Int) (m : Mem) (Φ : Value → Mem → Prop) : WPCall Try.prog 26 [.int .u8 n] m Φ = Φ (.bool (isSpace n)) m := (space_ret n m).wp
theorem sign_ret (n : Int) (m : Mem) : Ret Try.prog 30 [.int .u8 n] m (.bool (isSign n)) m := by
  apply Ret.of_wp
  rw [call30 (by simp)]
  by_cases h1 : n = 123
  · simp [ir30_b, isSign, h1]
  by_cases h2 : n = 125
  · simp [ir30_b, isSign, h1, h2]
  by_cases h3 : n = 59
  · simp [ir30_b, isSign, h1, h2, h3]
  by_cases h4 : n = 44
  · simp [ir30_b, isSign, h1, h2, h3, h4]
  by_cases h5 : n = 43
  · simp [ir30_b, isSign, h1, h2, h3, h4, h5]
  by_cases h6 : n = 47 <;> simp [ir30_b, isSign, h1, h2, h3, h4, h5, h6]
@[simp] theorem sign_wp (n : Int) (m : Mem) (Φ : Value → Mem → Prop) : WPCall Try.prog 30 [.int .u8 n] m Φ = Φ (.bool (isSign n)) m := (sign_ret n m).wp
/-- the comment's class -/
theorem notNl_ret (n : Int) (m : Mem) : Ret Try.prog 28 [.int .u8 n] m (.bool (!decide (n = 10))) m := by
  apply Ret.of_wp
  rw [call28 (by simp)]
  by_cases h1 : n = 10 <;> simp [ir28_b, h1]

/-! the reference's -/
theorem rspace_ret (n : Int) (m : Mem) : Ret Try.prog 19 [.int .u8 n] m (.bool (isSpace n)) m := by
  apply Ret.of_wp
  rw [call19 (by simp)]
  by_cases h1 : n = 32 <;> by_cases h2 : n = 9 <;> by_cases h3 : n = 10 <;> by_cases h4 : n = 13 <;> simp [ir19_b, isSpace, h1, h2, h3, h4]
@[simp] theorem rspace_wp (n : Int) (m : Mem) (Φ : Value → Mem → Prop) : WPCall Try.prog 19 [.int .u8 n] m Φ = Φ (.bool (isSpace n)) m := (rspace_ret n m).wp
theorem rletter_ret (n : Int) (m : Mem) : Ret Try.prog 20 [.int .u8 n] m (.bool (isLetter n)) m := by
  apply Ret.of_wp
  rw [call20 (by simp)]
  by_cases h1 : 97 ≤ n <;> by_cases h2 : n ≤ 122 <;> by_cases h3 : 65 ≤ n <;> by_cases h4 : n ≤ 90 <;> simp [ir20_b, isLetter, h1, h2, h3, h4]
@[simp] theorem rletter_wp (n : Int) (m : Mem) (Φ : Value → Mem → Prop) : WPCall Try.prog 20 [.int .u8 n] m Φ = Φ (.bool (isLetter n)) m := (rletter_ret n m).wp
theorem rdigit_ret (n : Int) (m : Mem) : Ret Try.prog 22 [.int .u8 n] m (.bool (isDigit n)) m := by
  apply Ret.of_wp
  rw [call22 (by simp)]
  by_cases h1 : 48 ≤ n <;> by_cases h2 : n ≤ 57 <;> simp [ir22_b, isDigit, h1, h2]
@[simp] theorem rdigit_wp (n : Int) (m : Mem) (Φ : Value → Mem → Prop) : WPCall Try.prog 22 [.int .u8 n] m Φ = Φ (.bool (isDigit n)) m := (rdigit_ret n m).wp
theorem rinner_ret (n : Int) (m : Mem) : Ret Try.prog 21 [.int .u8 n] m (.bool (isInner n)) m := by
  apply Ret.of_wp
  rw [call21 (by simp)]
  by_cases h1 : isLetter n = true
  · simp [ir21_b, isInner, h1]
  by_cases h2 : isDigit n = true
  · simp [ir21_b, isInner, h1, h2]
  by_cases h3 : n = 45
  · subst h3; simp [ir21_b, isInner, isLetter, isDigit]
  by_cases h4 : n = 46
  · subst h4; simp [ir21_b, isInner, isLetter, isDigit]
  simp [ir21_b, isInner, h1, h2, h3, h4]
@[simp] theorem rinner_wp (n : Int) (m : Mem) (Φ : Value → Mem → Prop) : WPCall Try.prog 21 [.int .u8 n] m Φ = Φ (.bool (isInner n)) m := (rinner_ret n m).wp
theorem rsign_ret (n : Int) (m : Mem) : Ret Try.prog 23 [.int .u8 n] m (.bool (isSign n)) m := by
  apply Ret.of_wp
  rw [call23 (by simp)]
  by_cases h1 : n = 123
  · simp [ir23_b, isSign, h1]
  by_cases h2 : n = 125
  · simp [ir23_b, isSign, h1, h2]
  by_cases h3 : n = 59
  · simp [ir23_b, isSign, h1, h2, h3]
  by_cases h4 : n = 44
  · simp [ir23_b, isSign, h1, h2, h3, h4]
  by_cases h5 : n = 43
  · simp [ir23_b, isSign, h1, h2, h3, h4, h5]
  by_cases h6 : n = 47 <;> simp [ir23_b, isSign, h1, h2, h3, h4, h5, h6]
@[simp] theorem rsign_wp (n : Int) (m : Mem) (Φ : Value → Mem → Prop) : WPCall Try.prog 23 [.int .u8 n] m Φ = Φ (.bool (isSign n)) m := (rsign_ret n m).wp

end Go.Proofs.Ytaoijkldbipplaa
