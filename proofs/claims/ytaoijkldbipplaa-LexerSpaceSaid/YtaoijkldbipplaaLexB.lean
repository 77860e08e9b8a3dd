/-
  The scanner's steps.
-/
import Derived.Test.YtaoijkldbipplaaLexA
import Derived.Test.YtaoijkldbipplaaFwY
namespace Go.Proofs.Ytaoijkldbipplaa
open Go Go.DI
set_option linter.unusedSimpArgs false
set_option linter.unusedVariables false

/-- the scanner's cells -/
def sc (T : ByteArray) (i : Nat) (l c : Int) : Blk := ⟨[.string T, .int .i64 (i : Int), .int .i64 l, .int .i64 c], true⟩
@[simp] theorem sc_cells {T : ByteArray} {i : Nat} {l c : Int} : (sc T i l c).cells = [.string T, .int .i64 (i : Int), .int .i64 l, .int .i64 c] := rfl
@[simp] theorem sc_own {T : ByteArray} {i : Nat} {l c : Int} : (sc T i l c).own = true := rfl
abbrev ptr (b : Nat) : Value := .pointer (some ⟨b, 0, none⟩)

theorem next_ret {T : ByteArray} {i : Nat} {l c : Int} {b : Nat} {m : Mem} (h : m.get b = some (sc T i l c)) (hi : i < T.size) (hT : T.size < 1000000000) (hl : 0 ≤ l ∧ l < 1000000000) (hc : 0 ≤ c ∧ c < 1000000000) :
    Ret Try.prog 15 [ptr b] m (.tuple #[]) (m.put b (some (if byI T i = 10 then sc T (i + 1) (l + 1) 1 else sc T (i + 1) l (c + 1)))) := by
  have hb := get_lt h
  have w1 : IntKind.i64.wrap (l + 1) = l + 1 := i64_id (by omega) (by omega)
  have w2 : IntKind.i64.wrap (c + 1) = c + 1 := i64_id (by omega) (by omega)
  have w3 : IntKind.i64.wrap ((i : Int) + 1) = (i : Int) + 1 := i64_id (by omega) (by omega)
  have w4 : IntKind.i64.wrap 1 = 1 := i64_id (by omega) (by omega)
  apply Ret.of_wp
  rw [call15 (by simp)]
  by_cases h1 : byI T i = 10 <;>
    simp (disch := first | omega | (simp only [next_put, next_bump]; omega)) [ir15_b, ptr, h, hi, sc, h1, get_put_self, put_put, w1, w2, w3, w4]

/-- a function value of the program -/
def fnV (f : Nat) : Value := .func (.func f) #[] #[]
/-- what a class of bytes is -/
def IsCls (f : Nat) (p : Int → Bool) : Prop := (∀ n m, Ret Try.prog f [.int .u8 n] m (.bool (p n)) m) ∧ p 10 = false

/-- the length of the row of a class from i on, at most n -/
def rowN (p : Int → Bool) (T : ByteArray) : Nat → Nat → Nat
  | 0, _ => 0
  | n + 1, i => if p (byI T i) = true then rowN p T n (i + 1) + 1 else 0

theorem rowN_le {p : Int → Bool} {T : ByteArray} : ∀ {n i : Nat}, rowN p T n i ≤ n
  | 0, _ => Nat.le_refl _
  | n + 1, i => by
    unfold rowN; split
    · have := @rowN_le p T n (i + 1); omega
    · omega

theorem row_loop {p : Int → Bool} {f : Nat} (hp : IsCls f p) {T : ByteArray} (hT : T.size < 100000000) {b : Nat} {Q : IExit → Slots → Mem → Prop} : ∀ (n i : Nat) (l c : Int) (m : Mem) (σ : Slots), T.size - i = n → i ≤ T.size → m.get b = some (sc T i l c) → 0 ≤ l ∧ l < 100000000 → 0 ≤ c ∧ c + n < 1000000000 → σ 0 = ptr b → σ 1 = fnV f →
    (∀ σ' m', σ' 0 = ptr b → σ' 5 = σ 5 → m' = m.put b (some (sc T (i + rowN p T n i) l (c + rowN p T n i))) → Q (.exit 0) σ' m') → WP Try.prog (.loop ir27_l0) σ m Q
  | 0, i, l, c, m, σ, hn, hi, h, hl, hc, h0, h1, hQ => by
    refine wp_round fun J hJ => ?_
    have : ¬ (i : Int) < T.size := by omega
    simp [ir27_l0, h0, h, this]
    refine hQ _ _ h0 rfl ?_
    simp [rowN, put_same h]
  | n + 1, i, l, c, m, σ, hn, hi, h, hl, hc, h0, h1, hQ => by
    refine wp_round fun J hJ => ?_
    have ht : (i : Int) < T.size := by omega
    have hw : ∀ n m Φ, WPCall Try.prog f [.int .u8 n] m Φ = Φ (.bool (p n)) m := fun n m Φ => (hp.1 n m).wp
    by_cases hb : p (byI T i) = true
    · have h10 : byI T i ≠ 10 := fun h => by rw [h, hp.2] at hb; cases hb
      have hN : ∀ Φ, WPCall Try.prog 15 [ptr b] m Φ = Φ (.tuple #[]) (m.put b (some (sc T (i + 1) l (c + 1)))) := fun Φ => by
        have := (next_ret h (by omega) (by omega) (by omega) (by omega)).wp (Φ := Φ)
        rw [if_neg h10] at this; exact this
      simp [ir27_l0, h0, h1, h, ht, fnV, hw, hb, hN]
      refine hJ _ _ (row_loop hp hT n (i + 1) l (c + 1) _ _ (by omega) (by omega) (get_put_self (get_lt h)) hl (by omega) (by simp [h0]) (by simp [h1, fnV]) fun σ' m' q0 q5 q => ?_)
      refine hQ _ _ q0 (by rw [q5]; simp) ?_
      rw [q, put_put]
      simp only [rowN, if_pos hb]
      congr 3
      · omega
      · omega
    · simp [ir27_l0, h0, h1, h, ht, fnV, hw, hb]
      refine hQ _ _ h0 rfl ?_
      simp [rowN, hb, put_same h]
theorem row_ret {p : Int → Bool} {f : Nat} (hp : IsCls f p) {T : ByteArray} (hT : T.size < 100000000) {b i k : Nat} {l c : Int} {m : Mem} (h : m.get b = some (sc T i l c)) (hi : i ≤ T.size) (hl : 0 ≤ l ∧ l < 100000000) (hc : 0 ≤ c ∧ c < 100000000) (hk : k = rowN p T (T.size - i) i) :
    Ret Try.prog 27 [ptr b, fnV f] m (.string (T.extract i (i + k))) (m.put b (some (sc T (i + k) l (c + k)))) := by
  apply Ret.of_wp
  rw [call27 (by simp)]
  have hle : i + k ≤ T.size := by have := @rowN_le p T (T.size - i) i; omega
  have e1 : (i : Int) ≤ i + k := by omega
  have e2 : (i : Int) + k ≤ T.size := by omega
  simp [ir27_b, h]
  refine row_loop hp hT (T.size - i) i l c _ _ rfl hi h hl (by omega) (by simp) (by simp) fun σ' m' q0 q5 q => ?_
  rw [← hk] at q
  subst q
  simp [q0, q5, get_put_self (get_lt h)]
  have e3 : ((i : Int) + k).toNat = i + k := by omega
  rw [e3]; exact ⟨⟨e1, e2⟩, rfl⟩

/-- what a text is read as -/
structure Tk where
  kind : Int
  text : ByteArray
  line : Int
  col : Int
inductive Out where
  | ok (ts : List Tk)
  | err (e l c : Int)
def Out.pre (acc : List Tk) : Out → Out
  | .ok ts => .ok (acc ++ ts)
  | .err e l c => .err e l c
def notNl (n : Int) : Bool := !decide (n = 10)
/-- the row's length -/
def rw1 (p : Int → Bool) (T : ByteArray) (i : Nat) : Nat := rowN p T (T.size - i) i

inductive Lex (T : ByteArray) : Nat → Int → Int → Out → Prop where
  | done {i l c} : i = T.size → Lex T i l c (.ok [⟨4, .empty, l, c⟩])
  | nl {i l c o} : i < T.size → byI T i = 10 → Lex T (i + 1) (l + 1) 1 o → Lex T i l c o
  | sp {i l c o} : i < T.size → byI T i ≠ 10 → isSpace (byI T i) = true → Lex T (i + 1) l (c + 1) o → Lex T i l c o
  | com {i l c o k} : i < T.size → byI T i = 35 → k = rw1 notNl T i → Lex T (i + k) l (c + k) o → Lex T i l c o
  | name {i l c o k} : i < T.size → isLetter (byI T i) = true → k = rw1 isInner T i → k ≤ 16 → Lex T (i + k) l (c + k) o → Lex T i l c (o.pre [⟨1, T.extract i (i + k), l, c⟩])
  | nameX {i l c k} : i < T.size → isLetter (byI T i) = true → k = rw1 isInner T i → 16 < k → Lex T i l c (.err 2 l c)
  | num {i l c o k} : i < T.size → isDigit (byI T i) = true → k = rw1 isDigit T i → k ≤ 40 → Lex T (i + k) l (c + k) o → Lex T i l c (o.pre [⟨2, T.extract i (i + k), l, c⟩])
  | numX {i l c k} : i < T.size → isDigit (byI T i) = true → k = rw1 isDigit T i → 40 < k → Lex T i l c (.err 2 l c)
  | sign {i l c o} : i < T.size → isSign (byI T i) = true → Lex T (i + 1) l (c + 1) o → Lex T i l c (o.pre [⟨3, T.extract i (i + 1), l, c⟩])
  | bad {i l c} : i < T.size → isSpace (byI T i) = false → byI T i ≠ 35 → isLetter (byI T i) = false → isDigit (byI T i) = false → isSign (byI T i) = false → Lex T i l c (.err 6 l c)

theorem letter_not {n : Int} (h : isLetter n = true) : isSpace n = false ∧ n ≠ 35 ∧ n ≠ 10 := by
  simp [isLetter] at h; simp [isSpace]; omega
theorem digit_not {n : Int} (h : isDigit n = true) : isSpace n = false ∧ n ≠ 35 ∧ n ≠ 10 ∧ isLetter n = false := by
  simp [isDigit] at h; simp [isSpace, isLetter]; omega
theorem sign_not {n : Int} (h : isSign n = true) : isSpace n = false ∧ n ≠ 35 ∧ n ≠ 10 ∧ isLetter n = false ∧ isDigit n = false := by
  simp [isSign] at h; simp [isSpace, isLetter, isDigit]; omega
theorem letter_inner {n : Int} (h : isLetter n = true) : isInner n = true := by simp [isInner, h]
theorem rw1_pos {p : Int → Bool} {T : ByteArray} {i : Nat} (hi : i < T.size) (h : p (byI T i) = true) : 0 < rw1 p T i := by
  unfold rw1
  obtain ⟨n, hn⟩ : ∃ n, T.size - i = n + 1 := ⟨T.size - i - 1, by omega⟩
  rw [hn]; simp [rowN, h]
theorem rw1_le {p : Int → Bool} {T : ByteArray} {i : Nat} : rw1 p T i ≤ T.size - i := rowN_le

theorem lex_total {T : ByteArray} : ∀ (n i : Nat) (l c : Int), T.size - i ≤ n → i ≤ T.size → ∃ o, Lex T i l c o
  | 0, i, l, c, hn, hi => ⟨_, .done (by omega)⟩
  | n + 1, i, l, c, hn, hi => by
    by_cases h0 : i = T.size
    · exact ⟨_, .done h0⟩
    have hi : i < T.size := by omega
    by_cases h1 : byI T i = 10
    · obtain ⟨o, ho⟩ := lex_total (T := T) n (i + 1) (l + 1) 1 (by omega) (by omega)
      exact ⟨o, .nl hi h1 ho⟩
    by_cases h2 : isSpace (byI T i) = true
    · obtain ⟨o, ho⟩ := lex_total (T := T) n (i + 1) l (c + 1) (by omega) (by omega)
      exact ⟨o, .sp hi h1 h2 ho⟩
    by_cases h3 : byI T i = 35
    · have p1 := @rw1_pos notNl T i hi (by rw [h3]; rfl)
      have p2 := @rw1_le notNl T i
      obtain ⟨o, ho⟩ := lex_total (T := T) n (i + rw1 notNl T i) l (c + rw1 notNl T i) (by omega) (by omega)
      exact ⟨o, .com hi h3 rfl ho⟩
    by_cases h4 : isLetter (byI T i) = true
    · have p1 := @rw1_pos isInner T i hi (letter_inner h4)
      have p2 := @rw1_le isInner T i
      by_cases hk : rw1 isInner T i ≤ 16
      · obtain ⟨o, ho⟩ := lex_total (T := T) n (i + rw1 isInner T i) l (c + rw1 isInner T i) (by omega) (by omega)
        exact ⟨_, .name hi h4 rfl hk ho⟩
      · exact ⟨_, .nameX hi h4 rfl (by omega)⟩
    by_cases h5 : isDigit (byI T i) = true
    · have p1 := @rw1_pos isDigit T i hi h5
      have p2 := @rw1_le isDigit T i
      by_cases hk : rw1 isDigit T i ≤ 40
      · obtain ⟨o, ho⟩ := lex_total (T := T) n (i + rw1 isDigit T i) l (c + rw1 isDigit T i) (by omega) (by omega)
        exact ⟨_, .num hi h5 rfl hk ho⟩
      · exact ⟨_, .numX hi h5 rfl (by omega)⟩
    by_cases h6 : isSign (byI T i) = true
    · obtain ⟨o, ho⟩ := lex_total (T := T) n (i + 1) l (c + 1) (by omega) (by omega)
      exact ⟨_, .sign hi h6 ho⟩
    exact ⟨_, .bad hi (by simpa using h2) h3 (by simpa using h4) (by simpa using h5) (by simpa using h6)⟩

theorem cls_inner : IsCls 25 isInner := ⟨inner_ret, rfl⟩
theorem cls_digit : IsCls 29 isDigit := ⟨digit_ret, rfl⟩
theorem cls_notNl : IsCls 28 notNl := ⟨notNl_ret, rfl⟩

/-- 'blank' stands before what is no blank -/
def NonBlank (T : ByteArray) (i : Nat) : Prop := i = T.size ∨ (i < T.size ∧ isSpace (byI T i) = false ∧ byI T i ≠ 35)
theorem blank_loop {T : ByteArray} (hT : T.size < 10000000) {b : Nat} {Q : IExit → Slots → Mem → Prop} {i : Nat} {l c : Int} {o : Out} (hL : Lex T i l c o) : ∀ (m : Mem) (σ : Slots), m.get b = some (sc T i l c) → i ≤ T.size → 1 ≤ l ∧ l ≤ i + 1 → 1 ≤ c ∧ c ≤ i + 1 → σ 0 = ptr b →
    (∀ e σ' m' i' l' c', e = .ret ∨ e = .exit 0 → m' = m.put b (some (sc T i' l' c')) → i ≤ i' → i' ≤ T.size → 1 ≤ l' ∧ l' ≤ i' + 1 → 1 ≤ c' ∧ c' ≤ i' + 1 → NonBlank T i' → Lex T i' l' c' o → Q e σ' m') → WP Try.prog (.loop ir16_l0) σ m Q := by
  have stop : ∀ {i : Nat} {l c : Int} {o : Out}, Lex T i l c o → i < T.size → isSpace (byI T i) = false → byI T i ≠ 35 → ∀ (m : Mem) (σ : Slots), m.get b = some (sc T i l c) → i ≤ T.size → 1 ≤ l ∧ l ≤ i + 1 → 1 ≤ c ∧ c ≤ i + 1 → σ 0 = ptr b →
    (∀ e σ' m' i' l' c', e = .ret ∨ e = .exit 0 → m' = m.put b (some (sc T i' l' c')) → i ≤ i' → i' ≤ T.size → 1 ≤ l' ∧ l' ≤ i' + 1 → 1 ≤ c' ∧ c' ≤ i' + 1 → NonBlank T i' → Lex T i' l' c' o → Q e σ' m') → WP Try.prog (.loop ir16_l0) σ m Q := by
    intro i l c o hL hi h1 h2 m σ h hi' hl hc h0 hQ
    refine wp_round fun J hJ => ?_
    have hi'' : (i : Int) < T.size := by omega
    simp [ir16_l0, h0, h, hi'', h1, h2]
    exact hQ _ _ _ i l c (.inl rfl) (put_same h).symm (Nat.le_refl _) hi' hl hc (.inr ⟨hi, h1, h2⟩) hL
  induction hL with
  | done hi =>
    intro m σ h hi' hl hc h0 hQ
    refine wp_round fun J hJ => ?_
    simp [ir16_l0, h0, h, hi]
    exact hQ _ _ _ _ _ _ (.inr rfl) (put_same h).symm (Nat.le_refl _) hi' hl hc (.inl hi) (.done hi)
  | @nl i l c o hi h1 hL ih =>
    intro m σ h hi' hl hc h0 hQ
    refine wp_round fun J hJ => ?_
    have hi'' : (i : Int) < T.size := by omega
    have hN : ∀ Φ, WPCall Try.prog 15 [ptr b] m Φ = Φ (.tuple #[]) (m.put b (some (sc T (i + 1) (l + 1) 1))) := fun Φ => by
      have := (next_ret h (by omega) (by omega) (by omega) (by omega)).wp (Φ := Φ)
      rw [if_pos h1] at this; exact this
    have hs : isSpace 10 = true := rfl
    simp [ir16_l0, h0, h, hi'', h1, hs, hN]
    refine hJ _ _ (ih _ _ (get_put_self (get_lt h)) (by omega) (by omega) (by omega) (by simp [h0]) fun e σ' m' i' l' c' q1 q2 q3 q4 q5 q6 q7 q8 => hQ e σ' m' i' l' c' q1 ?_ (by omega) q4 q5 q6 q7 q8)
    rw [q2, put_put]
  | @sp i l c o hi h1 h2 hL ih =>
    intro m σ h hi' hl hc h0 hQ
    refine wp_round fun J hJ => ?_
    have hi'' : (i : Int) < T.size := by omega
    have hN : ∀ Φ, WPCall Try.prog 15 [ptr b] m Φ = Φ (.tuple #[]) (m.put b (some (sc T (i + 1) l (c + 1)))) := fun Φ => by
      have := (next_ret h (by omega) (by omega) (by omega) (by omega)).wp (Φ := Φ)
      rw [if_neg h1] at this; exact this
    simp [ir16_l0, h0, h, hi'', h2, hN]
    refine hJ _ _ (ih _ _ (get_put_self (get_lt h)) (by omega) (by omega) (by omega) (by simp [h0]) fun e σ' m' i' l' c' q1 q2 q3 q4 q5 q6 q7 q8 => hQ e σ' m' i' l' c' q1 ?_ (by omega) q4 q5 q6 q7 q8)
    rw [q2, put_put]
  | @com i l c o k hi h1 hk hL ih =>
    intro m σ h hi' hl hc h0 hQ
    refine wp_round fun J hJ => ?_
    have hi'' : (i : Int) < T.size := by omega
    have hle := @rw1_le notNl T i
    rw [← hk] at hle
    have hN : ∀ Φ, WPCall Try.prog 27 [ptr b, fnV 28] m Φ = Φ (.string (T.extract i (i + k))) (m.put b (some (sc T (i + k) l (c + k)))) := fun Φ =>
      (row_ret cls_notNl (by omega) h (by omega) (by omega) (by omega) hk).wp
    have hs : isSpace 35 = false := rfl
    simp only [fnV] at hN
    simp [ir16_l0, h0, h, hi'', h1, hs, hN]
    refine hJ _ _ (ih _ _ (get_put_self (get_lt h)) (by omega) (by omega) (by omega) (by simp [h0]) fun e σ' m' i' l' c' q1 q2 q3 q4 q5 q6 q7 q8 => hQ e σ' m' i' l' c' q1 ?_ (by omega) q4 q5 q6 q7 q8)
    rw [q2, put_put]
  | name hi h1 hk hk2 hL ih => exact stop (.name hi h1 hk hk2 hL) hi (letter_not h1).1 (letter_not h1).2.1
  | nameX hi h1 hk hk2 => exact stop (.nameX hi h1 hk hk2) hi (letter_not h1).1 (letter_not h1).2.1
  | num hi h1 hk hk2 hL ih => exact stop (.num hi h1 hk hk2 hL) hi (digit_not h1).1 (digit_not h1).2.1
  | numX hi h1 hk hk2 => exact stop (.numX hi h1 hk hk2) hi (digit_not h1).1 (digit_not h1).2.1
  | sign hi h1 hL ih => exact stop (.sign hi h1 hL) hi (sign_not h1).1 (sign_not h1).2.1
  | bad hi h1 h2 h3 h4 h5 => exact stop (.bad hi h1 h2 h3 h4 h5) hi h1 h2
theorem blank_wp {T : ByteArray} (hT : T.size < 10000000) {b i : Nat} {l c : Int} {o : Out} (hL : Lex T i l c o) {m : Mem} (h : m.get b = some (sc T i l c)) (hi : i ≤ T.size) (hl : 1 ≤ l ∧ l ≤ i + 1) (hc : 1 ≤ c ∧ c ≤ i + 1) :
    ∃ (i' : Nat) (l' c' : Int), i ≤ i' ∧ i' ≤ T.size ∧ (1 ≤ l' ∧ l' ≤ (i' : Int) + 1) ∧ (1 ≤ c' ∧ c' ≤ (i' : Int) + 1) ∧ NonBlank T i' ∧ Lex T i' l' c' o ∧ Ret Try.prog 16 [ptr b] m (.tuple #[]) (m.put b (some (sc T i' l' c'))) := by
  have : WPCall Try.prog 16 [ptr b] m fun r m' => r = .tuple #[] ∧ ∃ (i' : Nat) (l' c' : Int), i ≤ i' ∧ i' ≤ T.size ∧ (1 ≤ l' ∧ l' ≤ (i' : Int) + 1) ∧ (1 ≤ c' ∧ c' ≤ (i' : Int) + 1) ∧ NonBlank T i' ∧ Lex T i' l' c' o ∧ m' = m.put b (some (sc T i' l' c')) := by
    rw [call16 (by simp)]
    simp only [ir16_b, wp_block']
    refine blank_loop hT hL m _ h hi hl hc (by simp) fun e σ' m' i' l' c' q1 q2 q3 q4 q5 q6 q7 q8 => ?_
    rcases q1 with rfl | rfl
    · rw [blockK_ret]; exact ⟨rfl, rfl, i', l', c', q3, q4, q5, q6, q7, q8, q2⟩
    · rw [blockK_exit, if_pos rfl]; exact ⟨rfl, rfl, i', l', c', q3, q4, q5, q6, q7, q8, q2⟩
  obtain ⟨r, m', hr, rfl, i', l', c', q3, q4, q5, q6, q7, q8, rfl⟩ := this.ret
  exact ⟨i', l', c', q3, q4, q5, q6, q7, q8, hr⟩
end Go.Proofs.Ytaoijkldbipplaa
