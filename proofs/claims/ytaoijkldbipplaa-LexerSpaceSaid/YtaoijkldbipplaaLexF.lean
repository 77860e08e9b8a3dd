/-
  The comparison of two rows of tokens, and the check that a scan is awake.
-/
import Derived.Test.YtaoijkldbipplaaLexE
namespace Go.Proofs.Ytaoijkldbipplaa
open Go Go.DI
set_option linter.unusedSimpArgs false
set_option linter.unusedVariables false

theorem cells4_at {ts : List Tk} {t : Tk} : ∀ {i : Nat}, ts[i]? = some t → ((cells4 ts).drop (i * 4)).take 4 = tokCells t := by
  induction ts with
  | nil => intro i h; simp at h
  | cons u us ih =>
    intro i h
    cases i with
    | zero => simp at h; subst h; simp [cells4, tokCells]
    | succ i =>
      simp at h
      have := ih h
      rw [show (i + 1) * 4 = i * 4 + 4 by omega]
      simpa [cells4, tokCells] using this
theorem tok_cellsEq {t : Tk} : cellsEq (tokCells t) (tokCells t) = true := by simp [tokCells]
theorem tok_like {t : Tk} : cellsLike [.int, .str, .int, .int] (tokCells t) (tokCells t) = true := by simp [tokCells]

theorem same_loop {ts : List Tk} {x y : Nat → Prop} {m : Mem} {v w : Value} (h1 : TokSl m x v ts) (h2 : TokSl m y w ts) (hlen : ts.length < 100000000) {Q : IExit → Slots → Mem → Prop} : ∀ (r i : Nat) (σ : Slots), i + r = ts.length → σ 0 = v → σ 1 = w → σ 5 = .int .i64 i → (∀ σ', Q (.exit 0) σ' m) → WP Try.prog (.loop ir11_l0) σ m Q
  | 0, i, σ, hi, s0, s1, s5, hQ => by
    refine wp_round fun J hJ => ?_
    have hl : lenOfV v = ts.length := by rcases h1 with ⟨rfl, rfl⟩ | ⟨a, _, rfl, _⟩ <;> rfl
    have hs : isSl v = true := by rcases h1 with ⟨rfl, rfl⟩ | ⟨a, _, rfl, _⟩ <;> rfl
    have : ¬ (i : Int) < ts.length := by omega
    rcases h1 with ⟨rfl, rfl⟩ | ⟨a, _, rfl, _⟩
    · simp [ir11_l0, s0, s1, s5]; exact hQ _
    · simp [ir11_l0, s0, s1, s5, this]; exact hQ _
  | r + 1, i, σ, hi, s0, s1, s5, hQ => by
    refine wp_round fun J hJ => ?_
    have hlt : (i : Int) < ts.length := by omega
    have w1 : IntKind.i64.wrap ((i : Int) + 1) = (i : Int) + 1 := i64_id (by omega) (by omega)
    obtain ⟨t, ht⟩ : ∃ t, ts[i]? = some t := ⟨ts[i]'(by omega), by simp⟩
    have hc := cells4_at ht
    have hb : i * 4 + 4 ≤ ts.length * 4 := by omega
    rcases id h1 with ⟨rfl, _⟩ | ⟨a, _, hv, ga⟩
    · simp at hi
    rcases id h2 with ⟨rfl, _⟩ | ⟨b, _, hw, gb⟩
    · simp at hi
    have q1 : cellsEq (tokCells t) (tokCells t) = true := tok_cellsEq
    have q2 : cellsLike [.int, .str, .int, .int] (tokCells t) (tokCells t) = true := tok_like
    rw [hv] at s0
    rw [hw] at s1
    simp [ir11_l0, s0, s1, s5, hlt, ga, gb, hc, hb, w1, q1, q2, -cellsEq, -cellsLike]
    exact hJ _ _ (same_loop h1 h2 hlen r (i + 1) _ (by omega) (by simp [s0, hv]) (by simp [s1, hw]) (by simp) hQ)

theorem same_ret {ts : List Tk} {x y : Nat → Prop} {m : Mem} {v w : Value} (h1 : TokSl m x v ts) (h2 : TokSl m y w ts) (hlen : ts.length < 100000000) : Ret Try.prog 11 [v, w] m (.bool true) m := by
  apply Ret.of_wp
  rw [call11 (by simp)]
  have l1 : lenOfV v = ts.length := by rcases h1 with ⟨rfl, rfl⟩ | ⟨a, _, rfl, _⟩ <;> rfl
  have l2 : lenOfV w = ts.length := by rcases h2 with ⟨rfl, rfl⟩ | ⟨a, _, rfl, _⟩ <;> rfl
  have s1 : isSl v = true := by rcases h1 with ⟨rfl, rfl⟩ | ⟨a, _, rfl, _⟩ <;> rfl
  have s2 : isSl w = true := by rcases h2 with ⟨rfl, rfl⟩ | ⟨a, _, rfl, _⟩ <;> rfl
  simp [ir11_b, l1, l2, s1, s2, -lenOfV, -isSl]
  refine same_loop h1 h2 hlen ts.length 0 _ (by omega) (by simp) (by simp) (by simp) fun σ' => ?_
  simp

def aw : ByteArray := ⟨#[97, 45, 49, 32, 49, 47, 50, 59, 32, 35, 32, 120]⟩
theorem aw_lex : Lex aw 0 1 1 (.ok [⟨1, ⟨#[97, 45, 49]⟩, 1, 1⟩, ⟨2, aw.extract 4 5, 1, 5⟩, ⟨3, aw.extract 5 6, 1, 6⟩, ⟨2, aw.extract 6 7, 1, 7⟩, ⟨3, aw.extract 7 8, 1, 8⟩, ⟨4, .empty, 1, 13⟩]) := by
  have h := Lex.name (T := aw) (i := 0) (l := 1) (c := 1) (k := 3) (by decide) rfl rfl (by decide)
    (.sp (by decide) (by decide) rfl
    (.num (k := 1) (by decide) rfl rfl (by decide)
    (.sign (by decide) rfl
    (.num (k := 1) (by decide) rfl rfl (by decide)
    (.sign (by decide) rfl
    (.sp (by decide) (by decide) rfl
    (.com (k := 3) (by decide) rfl rfl (.done rfl))))))))
  exact h
theorem awake_wp (m : Mem) : WPCall Try.prog 8 [] m fun r m' => r = .bool true ∧ m.next ≤ m'.next ∧ ∀ a, a < m.next → m'.get a = m.get a := by
  rw [call8 (by simp)]
  have h := scan_wp (T := aw) (by decide) (o := _) (by unfold Scans; rw [if_neg (by decide)]; exact aw_lex) (m.bump 9)
  have e : (⟨#[97, 45, 49, 32, 49, 47, 50, 59, 32, 35, 32, 120]⟩ : ByteArray) = aw := rfl
  simp [ir8_b, e]
  refine h.mono fun r m' hp => ?_
  obtain ⟨k1, k2, v, rfl, hv⟩ := hp
  simp only [next_put, next_bump] at k1 k2
  rcases hv with ⟨h0, _⟩ | ⟨a, ha, rfl, ga⟩
  · cases h0
  simp only [next_put, next_bump] at ha
  have hla := get_lt ga
  simp (disch := first | omega | (simp only [next_put, next_bump]; omega)) [get_put_self, get_put_ne, ga, cells4, tokCells]
  exact ⟨by omega, fun a ha => by simp (disch := first | omega | (simp only [next_put, next_bump]; omega)) only [get_put_ne]; rw [k2 a (by omega)]; exact get_bump ha⟩
end Go.Proofs.Ytaoijkldbipplaa
