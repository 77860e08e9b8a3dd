/-
  'IsName', of the program and of the reference.
-/
import Derived.Test.YtkpifdkccdndcaaGreatFlAF
import Derived.Test.YtkpifdkccdndcaaGreatIrL
namespace Go.Proofs.YtkpifdkccdndcaaGreat
open Go Go.DI Go.Big
set_option linter.unusedSimpArgs false
set_option linter.unusedVariables false
def isLetter (n : Int) : Bool := (decide (97 ≤ n) && decide (n ≤ 122)) || (decide (65 ≤ n) && decide (n ≤ 90))
def isDigit (n : Int) : Bool := decide (48 ≤ n) && decide (n ≤ 57)
def isInner (n : Int) : Bool := isLetter n || isDigit n || decide (n = 45) || decide (n = 46)
def rowN (p : Int → Bool) (T : ByteArray) : Nat → Nat → Nat
  | 0, _ => 0
  | n + 1, i => if p (byI T i) = true then rowN p T n (i + 1) + 1 else 0
theorem lenOfV_str {T : ByteArray} : zqu (.string T) = T.size := rfl
/-- a name -/
def nm (T : ByteArray) : Prop := 0 < T.size ∧ T.size ≤ 16 ∧ isLetter (byI T 0) = true ∧ rowN isInner T T.size 0 = T.size
open Classical in
noncomputable def nmB (T : ByteArray) : Bool := decide (nm T)
theorem nmB_true {T : ByteArray} (h : nm T) : nmB T = true := by simp [nmB, h]
theorem nmB_false {T : ByteArray} (h : ¬ nm T) : nmB T = false := by simp [nmB, h]
theorem empty_of_size {T : ByteArray} (h : T.size = 0) : T = ⟨#[]⟩ := by
  apply ByteArray.ext; exact Array.eq_empty_of_size_eq_zero h

theorem letter_wp (n : Int) (m : Mem) (Φ : Value → Mem → Prop) : WPCall Tryz.prog 147 [.int .u8 n] m Φ = Φ (.bool (isLetter n)) m := by
  refine (Ret.of_wp ?_).wp
  rw [call147 (by simp)]
  by_cases h1 : 97 ≤ n <;> by_cases h2 : n ≤ 122 <;> by_cases h3 : 65 ≤ n <;> by_cases h4 : n ≤ 90 <;> simp (disch := first | omega | (simp only [zqp, zqq]; omega)) [ir147_b, ir147_k1, isLetter, h1, h2, h3, h4, zqa, zqb, zqc, zqd, zqe, zqf, zqg, zqh, zqi, zqj, zqk, u64b, u32b, zql, zqm, zqn, zqo, -zqu, -isSl, -zqs, -zqt, -zqv, -zqr]
theorem digit_wp (n : Int) (m : Mem) (Φ : Value → Mem → Prop) : WPCall Tryz.prog 166 [.int .u8 n] m Φ = Φ (.bool (isDigit n)) m := by
  refine (Ret.of_wp ?_).wp
  rw [call166 (by simp)]
  by_cases h1 : 48 ≤ n <;> by_cases h2 : n ≤ 57 <;> simp (disch := first | omega | (simp only [zqp, zqq]; omega)) [ir166_b, ir166_k1, isDigit, h1, h2, zqa, zqb, zqc, zqd, zqe, zqf, zqg, zqh, zqi, zqj, zqk, u64b, u32b, zql, zqm, zqn, zqo, -zqu, -isSl, -zqs, -zqt, -zqv, -zqr]
theorem inner_wp (n : Int) (m : Mem) (Φ : Value → Mem → Prop) : WPCall Tryz.prog 148 [.int .u8 n] m Φ = Φ (.bool (isInner n)) m := by
  refine (Ret.of_wp ?_).wp
  rw [call148 (by simp)]
  by_cases h1 : isLetter n = true
  · simp (disch := first | omega | (simp only [zqp, zqq]; omega)) [ir148_b, ir148_k1, letter_wp, digit_wp, isInner, h1, zqa, zqb, zqc, zqd, zqe, zqf, zqg, zqh, zqi, zqj, zqk, u64b, u32b, zql, zqm, zqn, zqo, -zqu, -isSl, -zqs, -zqt, -zqv, -zqr]
  by_cases h2 : isDigit n = true
  · simp (disch := first | omega | (simp only [zqp, zqq]; omega)) [ir148_b, ir148_k1, letter_wp, digit_wp, isInner, h1, h2, zqa, zqb, zqc, zqd, zqe, zqf, zqg, zqh, zqi, zqj, zqk, u64b, u32b, zql, zqm, zqn, zqo, -zqu, -isSl, -zqs, -zqt, -zqv, -zqr]
  by_cases h3 : n = 45
  · subst h3; simp (disch := first | omega | (simp only [zqp, zqq]; omega)) [ir148_b, ir148_k1, letter_wp, digit_wp, isInner, isLetter, isDigit, zqa, zqb, zqc, zqd, zqe, zqf, zqg, zqh, zqi, zqj, zqk, u64b, u32b, zql, zqm, zqn, zqo, -zqu, -isSl, -zqs, -zqt, -zqv, -zqr]
  by_cases h4 : n = 46
  · subst h4; simp (disch := first | omega | (simp only [zqp, zqq]; omega)) [ir148_b, ir148_k1, letter_wp, digit_wp, isInner, isLetter, isDigit, zqa, zqb, zqc, zqd, zqe, zqf, zqg, zqh, zqi, zqj, zqk, u64b, u32b, zql, zqm, zqn, zqo, -zqu, -isSl, -zqs, -zqt, -zqv, -zqr]
  simp (disch := first | omega | (simp only [zqp, zqq]; omega)) [ir148_b, ir148_k1, letter_wp, digit_wp, isInner, h1, h2, h3, h4, zqa, zqb, zqc, zqd, zqe, zqf, zqg, zqh, zqi, zqj, zqk, u64b, u32b, zql, zqm, zqn, zqo, -zqu, -isSl, -zqs, -zqt, -zqv, -zqr]
theorem name_loop {T : ByteArray} (hT : T.size ≤ 16) {Q : IExit → Slots → Mem → Prop} : ∀ (r i : Nat) (m : Mem) (σ : Slots), i + r = T.size → σ 0 = .string T → σ 3 = I i →
    (rowN isInner T r i = r → ∀ σ', Q (.exit 0) σ' m) → (rowN isInner T r i ≠ r → ∀ σ', σ' 2 = .bool false → Q .ret σ' m) → WP Tryz.prog (.loop ir112_l0) σ m Q
  | 0, i, m, σ, hi, s0, s3, q1, q2 => by
    refine wp_round fun J hJ => ?_
    have : ¬ (i : Int) < T.size := by omega
    simp (disch := first | omega | (simp only [zqp, zqq]; omega)) [ir112_l0, ir112_k1, ir112_k2, ir112_k3, ir112_k4, lenOfV_str, s0, s3, this, zqa, zqb, zqc, zqd, zqe, zqf, zqg, zqh, zqi, zqj, zqk, u64b, u32b, zql, zqm, zqn, zqo, -zqu, -isSl, -zqs, -zqt, -zqv, -zqr]
    exact q1 rfl _
  | r + 1, i, m, σ, hi, s0, s3, q1, q2 => by
    refine wp_round fun J hJ => ?_
    have h1 : (i : Int) < T.size := by omega
    have w1 : IntKind.i64.wrap ((i : Int) + 1) = (i : Int) + 1 := i64_id (by omega) (by omega)
    by_cases hb : isInner (byI T i) = true
    · simp (disch := first | omega | (simp only [zqp, zqq]; omega)) [ir112_l0, ir112_k1, ir112_k2, ir112_k3, ir112_k4, lenOfV_str, inner_wp, s0, s3, h1, hb, w1, zqa, zqb, zqc, zqd, zqe, zqf, zqg, zqh, zqi, zqj, zqk, u64b, u32b, zql, zqm, zqn, zqo, -zqu, -isSl, -zqs, -zqt, -zqv, -zqr]
      refine hJ _ _ (name_loop hT r (i + 1) _ _ (by omega) (by simp [s0]) (by simp) (fun h => q1 (by simp [rowN, hb, h])) (fun h => q2 (by simp [rowN, hb]; exact h)))
    · have hb' : isInner (byI T i) = false := by simpa using hb
      simp (disch := first | omega | (simp only [zqp, zqq]; omega)) [ir112_l0, ir112_k1, ir112_k2, ir112_k3, ir112_k4, lenOfV_str, inner_wp, s0, s3, h1, hb', zqa, zqb, zqc, zqd, zqe, zqf, zqg, zqh, zqi, zqj, zqk, u64b, u32b, zql, zqm, zqn, zqo, -zqu, -isSl, -zqs, -zqt, -zqv, -zqr]
      exact q2 (by simp [rowN, hb']) _ (by simp)
theorem name_wp (T : ByteArray) (m : Mem) (Φ : Value → Mem → Prop) : WPCall Tryz.prog 112 [.string T] m Φ = Φ (.bool (nmB T)) m := by
  refine (Ret.of_wp ?_).wp
  rw [call112 (by simp)]
  by_cases h0 : T.size = 0
  · have e := empty_of_size h0
    have h0' : (T.size : Int) < 1 := by omega
    have hn : ¬ nm T := fun h => by have := h.1; omega
    simp (disch := first | omega | (simp only [zqp, zqq]; omega)) [ir112_b, ir112_k1, ir112_k2, ir112_k3, ir112_k4, lenOfV_str, letter_wp, e, nmB_false hn, zqa, zqb, zqc, zqd, zqe, zqf, zqg, zqh, zqi, zqj, zqk, u64b, u32b, zql, zqm, zqn, zqo, -zqu, -isSl, -zqs, -zqt, -zqv, -zqr]
    rw [← e, nmB_false hn]
  · have e : ¬ T = ⟨#[]⟩ := fun h => h0 (by rw [h]; rfl)
    have h0' : (0 : Int) < T.size := by omega
    have h0'' : ¬ (T.size : Int) < 1 := by omega
    have hp : 0 < T.size := by omega
    by_cases h1 : 16 < T.size
    · have h1' : (16 : Int) < T.size := by omega
      have hn : ¬ nm T := fun h => by have := h.2.1; omega
      simp (disch := first | omega | (simp only [zqp, zqq]; omega)) [ir112_b, ir112_k1, ir112_k2, ir112_k3, ir112_k4, lenOfV_str, letter_wp, e, h0'', h1', nmB_false hn, zqa, zqb, zqc, zqd, zqe, zqf, zqg, zqh, zqi, zqj, zqk, u64b, u32b, zql, zqm, zqn, zqo, -zqu, -isSl, -zqs, -zqt, -zqv, -zqr]
    · have h1' : ¬ (16 : Int) < T.size := by omega
      by_cases h2 : isLetter (byI T 0) = true
      · simp (disch := first | omega | (simp only [zqp, zqq]; omega)) [ir112_b, ir112_k1, ir112_k2, ir112_k3, ir112_k4, lenOfV_str, letter_wp, e, h0', h0'', hp, h1', h2, zqa, zqb, zqc, zqd, zqe, zqf, zqg, zqh, zqi, zqj, zqk, u64b, u32b, zql, zqm, zqn, zqo, -zqu, -isSl, -zqs, -zqt, -zqv, -zqr]
        refine name_loop (T := T) (by omega) T.size 0 _ _ (by omega) (by simp) (by simp) (fun h σ' => ?_) (fun h σ' g => ?_)
        · simp (disch := first | omega | (simp only [zqp, zqq]; omega)) [nmB_true ⟨by omega, by omega, h2, h⟩, ir112_b, ir112_k1, ir112_k2, ir112_k3, ir112_k4, zqa, zqb, zqc, zqd, zqe, zqf, zqg, zqh, zqi, zqj, zqk, u64b, u32b, zql, zqm, zqn, zqo, -zqu, -isSl, -zqs, -zqt, -zqv, -zqr]
        · have hn : ¬ nm T := fun h' => h h'.2.2.2
          simp (disch := first | omega | (simp only [zqp, zqq]; omega)) [g, nmB_false hn, ir112_b, ir112_k1, ir112_k2, ir112_k3, ir112_k4, zqa, zqb, zqc, zqd, zqe, zqf, zqg, zqh, zqi, zqj, zqk, u64b, u32b, zql, zqm, zqn, zqo, -zqu, -isSl, -zqs, -zqt, -zqv, -zqr]
      · have hn : ¬ nm T := fun h' => h2 h'.2.2.1
        have h2' : isLetter (byI T 0) = false := by simpa using h2
        simp (disch := first | omega | (simp only [zqp, zqq]; omega)) [ir112_b, ir112_k1, ir112_k2, ir112_k3, ir112_k4, lenOfV_str, letter_wp, e, h0', h0'', hp, h1', h2', nmB_false hn, zqa, zqb, zqc, zqd, zqe, zqf, zqg, zqh, zqi, zqj, zqk, u64b, u32b, zql, zqm, zqn, zqo, -zqu, -isSl, -zqs, -zqt, -zqv, -zqr]

theorem rletter_wp (n : Int) (m : Mem) (Φ : Value → Mem → Prop) : WPCall Tryz.prog 104 [.int .u8 n] m Φ = Φ (.bool (isLetter n)) m := by
  refine (Ret.of_wp ?_).wp
  rw [call104 (by simp)]
  by_cases h1 : 97 ≤ n <;> by_cases h2 : n ≤ 122 <;> by_cases h3 : 65 ≤ n <;> by_cases h4 : n ≤ 90 <;> simp (disch := first | omega | (simp only [zqp, zqq]; omega)) [ir104_b, ir104_k1, isLetter, h1, h2, h3, h4, zqa, zqb, zqc, zqd, zqe, zqf, zqg, zqh, zqi, zqj, zqk, u64b, u32b, zql, zqm, zqn, zqo, -zqu, -isSl, -zqs, -zqt, -zqv, -zqr]
theorem rdigit_wp (n : Int) (m : Mem) (Φ : Value → Mem → Prop) : WPCall Tryz.prog 144 [.int .u8 n] m Φ = Φ (.bool (isDigit n)) m := by
  refine (Ret.of_wp ?_).wp
  rw [call144 (by simp)]
  by_cases h1 : 48 ≤ n <;> by_cases h2 : n ≤ 57 <;> simp (disch := first | omega | (simp only [zqp, zqq]; omega)) [ir144_b, ir144_k1, isDigit, h1, h2, zqa, zqb, zqc, zqd, zqe, zqf, zqg, zqh, zqi, zqj, zqk, u64b, u32b, zql, zqm, zqn, zqo, -zqu, -isSl, -zqs, -zqt, -zqv, -zqr]
theorem rinner_wp (n : Int) (m : Mem) (Φ : Value → Mem → Prop) : WPCall Tryz.prog 105 [.int .u8 n] m Φ = Φ (.bool (isInner n)) m := by
  refine (Ret.of_wp ?_).wp
  rw [call105 (by simp)]
  by_cases h1 : isLetter n = true
  · simp (disch := first | omega | (simp only [zqp, zqq]; omega)) [ir105_b, ir105_k1, rletter_wp, rdigit_wp, isInner, h1, zqa, zqb, zqc, zqd, zqe, zqf, zqg, zqh, zqi, zqj, zqk, u64b, u32b, zql, zqm, zqn, zqo, -zqu, -isSl, -zqs, -zqt, -zqv, -zqr]
  by_cases h2 : isDigit n = true
  · simp (disch := first | omega | (simp only [zqp, zqq]; omega)) [ir105_b, ir105_k1, rletter_wp, rdigit_wp, isInner, h1, h2, zqa, zqb, zqc, zqd, zqe, zqf, zqg, zqh, zqi, zqj, zqk, u64b, u32b, zql, zqm, zqn, zqo, -zqu, -isSl, -zqs, -zqt, -zqv, -zqr]
  by_cases h3 : n = 45
  · subst h3; simp (disch := first | omega | (simp only [zqp, zqq]; omega)) [ir105_b, ir105_k1, rletter_wp, rdigit_wp, isInner, isLetter, isDigit, zqa, zqb, zqc, zqd, zqe, zqf, zqg, zqh, zqi, zqj, zqk, u64b, u32b, zql, zqm, zqn, zqo, -zqu, -isSl, -zqs, -zqt, -zqv, -zqr]
  by_cases h4 : n = 46
  · subst h4; simp (disch := first | omega | (simp only [zqp, zqq]; omega)) [ir105_b, ir105_k1, rletter_wp, rdigit_wp, isInner, isLetter, isDigit, zqa, zqb, zqc, zqd, zqe, zqf, zqg, zqh, zqi, zqj, zqk, u64b, u32b, zql, zqm, zqn, zqo, -zqu, -isSl, -zqs, -zqt, -zqv, -zqr]
  simp (disch := first | omega | (simp only [zqp, zqq]; omega)) [ir105_b, ir105_k1, rletter_wp, rdigit_wp, isInner, h1, h2, h3, h4, zqa, zqb, zqc, zqd, zqe, zqf, zqg, zqh, zqi, zqj, zqk, u64b, u32b, zql, zqm, zqn, zqo, -zqu, -isSl, -zqs, -zqt, -zqv, -zqr]
theorem rname_loop {T : ByteArray} (hT : T.size ≤ 16) {Q : IExit → Slots → Mem → Prop} : ∀ (r i : Nat) (m : Mem) (σ : Slots), i + r = T.size → σ 0 = .string T → σ 3 = I i →
    (rowN isInner T r i = r → ∀ σ', Q (.exit 0) σ' m) → (rowN isInner T r i ≠ r → ∀ σ', σ' 2 = .bool false → Q .ret σ' m) → WP Tryz.prog (.loop ir49_l0) σ m Q
  | 0, i, m, σ, hi, s0, s3, q1, q2 => by
    refine wp_round fun J hJ => ?_
    have : ¬ (i : Int) < T.size := by omega
    simp (disch := first | omega | (simp only [zqp, zqq]; omega)) [ir49_l0, ir49_k1, ir49_k2, ir49_k3, ir49_k4, lenOfV_str, s0, s3, this, zqa, zqb, zqc, zqd, zqe, zqf, zqg, zqh, zqi, zqj, zqk, u64b, u32b, zql, zqm, zqn, zqo, -zqu, -isSl, -zqs, -zqt, -zqv, -zqr]
    exact q1 rfl _
  | r + 1, i, m, σ, hi, s0, s3, q1, q2 => by
    refine wp_round fun J hJ => ?_
    have h1 : (i : Int) < T.size := by omega
    have w1 : IntKind.i64.wrap ((i : Int) + 1) = (i : Int) + 1 := i64_id (by omega) (by omega)
    by_cases hb : isInner (byI T i) = true
    · simp (disch := first | omega | (simp only [zqp, zqq]; omega)) [ir49_l0, ir49_k1, ir49_k2, ir49_k3, ir49_k4, lenOfV_str, rinner_wp, s0, s3, h1, hb, w1, zqa, zqb, zqc, zqd, zqe, zqf, zqg, zqh, zqi, zqj, zqk, u64b, u32b, zql, zqm, zqn, zqo, -zqu, -isSl, -zqs, -zqt, -zqv, -zqr]
      refine hJ _ _ (rname_loop hT r (i + 1) _ _ (by omega) (by simp [s0]) (by simp) (fun h => q1 (by simp [rowN, hb, h])) (fun h => q2 (by simp [rowN, hb]; exact h)))
    · have hb' : isInner (byI T i) = false := by simpa using hb
      simp (disch := first | omega | (simp only [zqp, zqq]; omega)) [ir49_l0, ir49_k1, ir49_k2, ir49_k3, ir49_k4, lenOfV_str, rinner_wp, s0, s3, h1, hb', zqa, zqb, zqc, zqd, zqe, zqf, zqg, zqh, zqi, zqj, zqk, u64b, u32b, zql, zqm, zqn, zqo, -zqu, -isSl, -zqs, -zqt, -zqv, -zqr]
      exact q2 (by simp [rowN, hb']) _ (by simp)
theorem rname_wp (T : ByteArray) (m : Mem) (Φ : Value → Mem → Prop) : WPCall Tryz.prog 49 [.string T] m Φ = Φ (.bool (nmB T)) m := by
  refine (Ret.of_wp ?_).wp
  rw [call49 (by simp)]
  by_cases h0 : T.size = 0
  · have e := empty_of_size h0
    have h0' : (T.size : Int) < 1 := by omega
    have hn : ¬ nm T := fun h => by have := h.1; omega
    simp (disch := first | omega | (simp only [zqp, zqq]; omega)) [ir49_b, ir49_k1, ir49_k2, ir49_k3, ir49_k4, lenOfV_str, rletter_wp, h0', nmB_false hn, zqa, zqb, zqc, zqd, zqe, zqf, zqg, zqh, zqi, zqj, zqk, u64b, u32b, zql, zqm, zqn, zqo, -zqu, -isSl, -zqs, -zqt, -zqv, -zqr]
    
  · have e : ¬ T = ⟨#[]⟩ := fun h => h0 (by rw [h]; rfl)
    have h0' : (0 : Int) < T.size := by omega
    have h0'' : ¬ (T.size : Int) < 1 := by omega
    have hp : 0 < T.size := by omega
    by_cases h1 : 16 < T.size
    · have h1' : (16 : Int) < T.size := by omega
      have hn : ¬ nm T := fun h => by have := h.2.1; omega
      simp (disch := first | omega | (simp only [zqp, zqq]; omega)) [ir49_b, ir49_k1, ir49_k2, ir49_k3, ir49_k4, lenOfV_str, rletter_wp, e, h0'', h1', nmB_false hn, zqa, zqb, zqc, zqd, zqe, zqf, zqg, zqh, zqi, zqj, zqk, u64b, u32b, zql, zqm, zqn, zqo, -zqu, -isSl, -zqs, -zqt, -zqv, -zqr]
    · have h1' : ¬ (16 : Int) < T.size := by omega
      by_cases h2 : isLetter (byI T 0) = true
      · simp (disch := first | omega | (simp only [zqp, zqq]; omega)) [ir49_b, ir49_k1, ir49_k2, ir49_k3, ir49_k4, lenOfV_str, rletter_wp, e, h0', h0'', hp, h1', h2, zqa, zqb, zqc, zqd, zqe, zqf, zqg, zqh, zqi, zqj, zqk, u64b, u32b, zql, zqm, zqn, zqo, -zqu, -isSl, -zqs, -zqt, -zqv, -zqr]
        refine rname_loop (T := T) (by omega) T.size 0 _ _ (by omega) (by simp) (by simp) (fun h σ' => ?_) (fun h σ' g => ?_)
        · simp (disch := first | omega | (simp only [zqp, zqq]; omega)) [nmB_true ⟨by omega, by omega, h2, h⟩, ir49_b, ir49_k1, ir49_k2, ir49_k3, ir49_k4, zqa, zqb, zqc, zqd, zqe, zqf, zqg, zqh, zqi, zqj, zqk, u64b, u32b, zql, zqm, zqn, zqo, -zqu, -isSl, -zqs, -zqt, -zqv, -zqr]
        · have hn : ¬ nm T := fun h' => h h'.2.2.2
          simp (disch := first | omega | (simp only [zqp, zqq]; omega)) [g, nmB_false hn, ir49_b, ir49_k1, ir49_k2, ir49_k3, ir49_k4, zqa, zqb, zqc, zqd, zqe, zqf, zqg, zqh, zqi, zqj, zqk, u64b, u32b, zql, zqm, zqn, zqo, -zqu, -isSl, -zqs, -zqt, -zqv, -zqr]
      · have hn : ¬ nm T := fun h' => h2 h'.2.2.1
        have h2' : isLetter (byI T 0) = false := by simpa using h2
        simp (disch := first | omega | (simp only [zqp, zqq]; omega)) [ir49_b, ir49_k1, ir49_k2, ir49_k3, ir49_k4, lenOfV_str, rletter_wp, e, h0', h0'', hp, h1', h2', nmB_false hn, zqa, zqb, zqc, zqd, zqe, zqf, zqg, zqh, zqi, zqj, zqk, u64b, u32b, zql, zqm, zqn, zqo, -zqu, -isSl, -zqs, -zqt, -zqv, -zqr]
end Go.Proofs.YtkpifdkccdndcaaGreat
