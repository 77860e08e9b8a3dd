/-
  The scanner's token, and the whole scan.
-/
import Derived.Test.YtaoijkldbipplaaLexB
namespace Go.Proofs.Ytaoijkldbipplaa
open Go Go.DI
set_option linter.unusedSimpArgs false
set_option linter.unusedVariables false

def tokCells (t : Tk) : List Value := [.int .i64 t.kind, .string t.text, .int .i64 t.line, .int .i64 t.col]
def tokV (t : Tk) : Value := .agg (tokCells t).toArray

structure Keeps (b : Nat) (m m' : Mem) : Prop where
  next : m.next ≤ m'.next
  get : ∀ a, a < m.next → a ≠ b → m'.get a = m.get a

def TokPost (T : ByteArray) (b : Nat) (m : Mem) (i : Nat) (l c : Int) (o : Out) (r : Value) (m' : Mem) : Prop :=
  Keeps b m m' ∧ ∃ (t : Tk) (e : Int), r = .tuple #[tokV t, .int .i64 e] ∧ t.line = l ∧ t.col = c ∧
    ((e = 0 ∧ t.kind = 4 ∧ o = .ok [t]) ∨
     (e = 0 ∧ t.kind ≠ 4 ∧ ∃ (k : Nat) (o' : Out), 0 < k ∧ i + k ≤ T.size ∧ o = o'.pre [t] ∧ Lex T (i + k) l (c + k) o' ∧ m'.get b = some (sc T (i + k) l (c + k))) ∨
     (e ≠ 0 ∧ o = .err e l c))

theorem byte_extract {T : ByteArray} {i : Nat} (hi : i < T.size) : toBytes [.int .u8 (byI T i)] = T.extract i (i + 1) := by
  have hi' : i < T.data.size := hi
  apply ByteArray.ext
  apply Array.ext'
  have e : T.data.toList.drop i = T.data[i] :: T.data.toList.drop (i + 1) := by
    rw [List.drop_eq_getElem_cons (by simpa using hi')]; simp
  simp [toBytes, byI, e]
  rw [Array.getElem?_eq_getElem hi']; rfl

theorem token_wp {T : ByteArray} (hT : T.size < 10000000) {b i : Nat} {l c : Int} {o : Out} (hL : Lex T i l c o) {m : Mem} (h : m.get b = some (sc T i l c)) (hi : i ≤ T.size) (hl : 1 ≤ l ∧ l ≤ i + 1) (hc : 1 ≤ c ∧ c ≤ i + 1) (hnb : NonBlank T i) :
    WPCall Try.prog 17 [ptr b] m (TokPost T b m i l c o) := by
  have hb := get_lt h
  rw [call17 (by simp)]
  cases hL with
  | done h0 =>
    simp (disch := first | omega | (simp only [next_put, next_bump]; omega)) [ir17_b, h, h0, get_put_self, get_put_ne, get_bump, put_put]
    refine ⟨⟨by simp only [next_put, next_bump]; omega, fun a ha hne => by simp (disch := first | omega | (simp only [next_put, next_bump]; omega)) only [get_put_ne, get_bump]⟩, _, _, rfl, rfl, rfl, .inl ⟨rfl, rfl, rfl⟩⟩
  | nl h0 h1 _ => exfalso; rcases hnb with h | ⟨h, h2, h3⟩; omega; rw [h1] at h2; cases h2
  | sp h0 h1 h2 _ => exfalso; rcases hnb with h | ⟨h, h3, h4⟩; omega; rw [h2] at h3; cases h3
  | com h0 h1 h2 _ => exfalso; rcases hnb with h | ⟨h, h3, h4⟩; omega; exact h4 h1
  | @name _ _ _ o k h0 h1 h2 h3 h4 =>
    have h0' : ¬ (i : Int) = T.size := by omega
    have h0'' : (i : Int) < T.size := by omega
    have p1 := rw1_pos h0 (letter_inner h1)
    have p2 := @rw1_le isInner T i
    rw [← h2] at p1 p2
    have hN : ∀ m1 Φ, m1.get b = some (sc T i l c) → WPCall Try.prog 27 [ptr b, fnV 25] m1 Φ = Φ (.string (T.extract i (i + k))) (m1.put b (some (sc T (i + k) l (c + k)))) := fun m1 Φ h =>
      (row_ret cls_inner (by omega) h (by omega) (by omega) (by omega) h2).wp
    simp only [fnV] at hN
    have hz : ¬ (16 : Int) < k := by omega
    simp (disch := first | omega | (simp only [next_put, next_bump]; omega) | (simp (disch := first | omega | (simp only [next_put, next_bump]; omega)) only [get_put_self, get_put_ne, get_bump, h])) [ir17_b, h, h0', h0'', h1, hN, hz, get_put_self, get_put_ne, get_bump, put_put]
    refine ⟨⟨by simp only [next_put, next_bump]; omega, fun a ha hne => by simp (disch := first | omega | (simp only [next_put, next_bump]; omega)) only [get_put_ne, get_bump]⟩, ⟨1, T.extract i (i + k), l, c⟩, _, rfl, rfl, rfl, .inr (.inl ⟨rfl, by simp, k, o, by omega, by omega, rfl, h4, ?_⟩)⟩
    simp (disch := first | omega | (simp only [next_put, next_bump]; omega)) only [get_put_self, get_put_ne]
  | @nameX _ _ _ k h0 h1 h2 h3 =>
    have h0' : ¬ (i : Int) = T.size := by omega
    have h0'' : (i : Int) < T.size := by omega
    have p1 := rw1_pos h0 (letter_inner h1)
    have p2 := @rw1_le isInner T i
    rw [← h2] at p1 p2
    have hN : ∀ m1 Φ, m1.get b = some (sc T i l c) → WPCall Try.prog 27 [ptr b, fnV 25] m1 Φ = Φ (.string (T.extract i (i + k))) (m1.put b (some (sc T (i + k) l (c + k)))) := fun m1 Φ h =>
      (row_ret cls_inner (by omega) h (by omega) (by omega) (by omega) h2).wp
    simp only [fnV] at hN
    have hz : (16 : Int) < k := by omega
    simp (disch := first | omega | (simp only [next_put, next_bump]; omega) | (simp (disch := first | omega | (simp only [next_put, next_bump]; omega)) only [get_put_self, get_put_ne, get_bump, h])) [ir17_b, h, h0', h0'', h1, hN, hz, get_put_self, get_put_ne, get_bump, put_put]
    refine ⟨⟨by simp only [next_put, next_bump]; omega, fun a ha hne => by simp (disch := first | omega | (simp only [next_put, next_bump]; omega)) only [get_put_ne, get_bump]⟩, ⟨1, T.extract i (i + k), l, c⟩, _, rfl, rfl, rfl, .inr (.inr ⟨by decide, rfl⟩)⟩
  | @num _ _ _ o k h0 h1 h2 h3 h4 =>
    have h0' : ¬ (i : Int) = T.size := by omega
    have h0'' : (i : Int) < T.size := by omega
    have p1 := rw1_pos h0 (h1)
    have p2 := @rw1_le isDigit T i
    rw [← h2] at p1 p2
    obtain ⟨g1, g2, g3, g4⟩ := digit_not h1
    have hN : ∀ m1 Φ, m1.get b = some (sc T i l c) → WPCall Try.prog 27 [ptr b, fnV 29] m1 Φ = Φ (.string (T.extract i (i + k))) (m1.put b (some (sc T (i + k) l (c + k)))) := fun m1 Φ h =>
      (row_ret cls_digit (by omega) h (by omega) (by omega) (by omega) h2).wp
    simp only [fnV] at hN
    have hz : ¬ (40 : Int) < k := by omega
    simp (disch := first | omega | (simp only [next_put, next_bump]; omega) | (simp (disch := first | omega | (simp only [next_put, next_bump]; omega)) only [get_put_self, get_put_ne, get_bump, h])) [ir17_b, h, h0', h0'', h1, hN, hz, g4, get_put_self, get_put_ne, get_bump, put_put]
    refine ⟨⟨by simp only [next_put, next_bump]; omega, fun a ha hne => by simp (disch := first | omega | (simp only [next_put, next_bump]; omega)) only [get_put_ne, get_bump]⟩, ⟨2, T.extract i (i + k), l, c⟩, _, rfl, rfl, rfl, .inr (.inl ⟨rfl, by simp, k, o, by omega, by omega, rfl, h4, ?_⟩)⟩
    simp (disch := first | omega | (simp only [next_put, next_bump]; omega)) only [get_put_self, get_put_ne]
  | @numX _ _ _ k h0 h1 h2 h3 =>
    have h0' : ¬ (i : Int) = T.size := by omega
    have h0'' : (i : Int) < T.size := by omega
    have p1 := rw1_pos h0 (h1)
    have p2 := @rw1_le isDigit T i
    rw [← h2] at p1 p2
    obtain ⟨g1, g2, g3, g4⟩ := digit_not h1
    have hN : ∀ m1 Φ, m1.get b = some (sc T i l c) → WPCall Try.prog 27 [ptr b, fnV 29] m1 Φ = Φ (.string (T.extract i (i + k))) (m1.put b (some (sc T (i + k) l (c + k)))) := fun m1 Φ h =>
      (row_ret cls_digit (by omega) h (by omega) (by omega) (by omega) h2).wp
    simp only [fnV] at hN
    have hz : (40 : Int) < k := by omega
    simp (disch := first | omega | (simp only [next_put, next_bump]; omega) | (simp (disch := first | omega | (simp only [next_put, next_bump]; omega)) only [get_put_self, get_put_ne, get_bump, h])) [ir17_b, h, h0', h0'', h1, hN, hz, g4, get_put_self, get_put_ne, get_bump, put_put]
    refine ⟨⟨by simp only [next_put, next_bump]; omega, fun a ha hne => by simp (disch := first | omega | (simp only [next_put, next_bump]; omega)) only [get_put_ne, get_bump]⟩, ⟨2, T.extract i (i + k), l, c⟩, _, rfl, rfl, rfl, .inr (.inr ⟨by decide, rfl⟩)⟩
  | @sign _ _ _ o h0 h1 h4 =>
    have h0' : ¬ (i : Int) = T.size := by omega
    have h0'' : (i : Int) < T.size := by omega
    obtain ⟨g1, g2, g3, g4, g5⟩ := sign_not h1
    have hN : ∀ m1 Φ, m1.get b = some (sc T i l c) → WPCall Try.prog 15 [ptr b] m1 Φ = Φ (.tuple #[]) (m1.put b (some (sc T (i + 1) l (c + 1)))) := fun m1 Φ h => by
      have := (next_ret h (by omega) (by omega) (by omega) (by omega)).wp (Φ := Φ)
      rw [if_neg g3] at this; exact this
    simp (disch := first | omega | (simp only [next_put, next_bump]; omega) | (simp (disch := first | omega | (simp only [next_put, next_bump]; omega)) only [get_put_self, get_put_ne, get_bump, h])) [ir17_b, h, h0', h0'', h1, g4, g5, hN, ckOk, byte_extract h0, get_put_self, get_put_ne, get_bump, put_put]
    refine ⟨⟨by simp only [next_put, next_bump]; omega, fun a ha hne => by simp (disch := first | omega | (simp only [next_put, next_bump]; omega)) only [get_put_ne, get_bump]⟩, ⟨3, T.extract i (i + 1), l, c⟩, _, rfl, rfl, rfl, .inr (.inl ⟨rfl, by simp, 1, o, by omega, by omega, rfl, h4, ?_⟩)⟩
    simp (disch := first | omega | (simp only [next_put, next_bump]; omega)) only [get_put_self, get_put_ne, get_bump]
    rfl
  | bad h0 h1 h2 h3 h4 h5 =>
    have h0' : ¬ (i : Int) = T.size := by omega
    have h0'' : (i : Int) < T.size := by omega
    simp (disch := first | omega | (simp only [next_put, next_bump]; omega)) [ir17_b, h, h0', h0'', h3, h4, h5, get_put_self, get_put_ne, get_bump, put_put]
    refine ⟨⟨by simp only [next_put, next_bump]; omega, fun a ha hne => by simp (disch := first | omega | (simp only [next_put, next_bump]; omega)) only [get_put_ne, get_bump]⟩, ⟨0, .empty, l, c⟩, _, rfl, rfl, rfl, .inr (.inr ⟨by decide, rfl⟩)⟩

def cells4 (ts : List Tk) : List Value := ts.flatMap tokCells
@[simp] theorem cells4_length {ts : List Tk} : (cells4 ts).length = ts.length * 4 := by
  induction ts with
  | nil => rfl
  | cons t ts ih => simp only [cells4, List.flatMap_cons, List.length_append, List.length_cons] at ih ⊢; rw [ih]; simp [tokCells]; omega
@[simp] theorem cells4_take {ts : List Tk} : (cells4 ts).take (ts.length * 4) = cells4 ts := List.take_of_length_le (by simp)
theorem cells4_append {a b : List Tk} : cells4 (a ++ b) = cells4 a ++ cells4 b := by simp [cells4]
theorem Out.pre_pre {a b : List Tk} {o : Out} : (o.pre b).pre a = o.pre (a ++ b) := by cases o <;> simp [Out.pre]

/-- a slice of tokens -/
def TokSl (m : Mem) (x : Nat → Prop) (v : Value) (ts : List Tk) : Prop :=
  (ts = [] ∧ v = .slice none 0 0) ∨ ∃ a, x a ∧ v = .slice (some ⟨a, 0, none⟩) ts.length 4 ∧ m.get a = some ⟨cells4 ts, true⟩

def ScanQ (m0 : Mem) (b4 : Nat) (o : Out) (σ' : Slots) (m' : Mem) : Prop :=
  match o with
  | .ok ts => TokSl m' (fun a => m0.next ≤ a) (σ' 2) ts ∧ σ' 3 = .int .i64 0 ∧ m'.get b4 = some ⟨[.int .i64 0, .int .i64 0], true⟩
  | .err e l c => σ' 2 = .slice none 0 0 ∧ σ' 3 = .int .i64 e ∧ m'.get b4 = some ⟨[.int .i64 l, .int .i64 c], true⟩

theorem scan_loop {T : ByteArray} (hT : T.size < 10000000) {m0 : Mem} {b b4 : Nat} (h04 : m0.next ≤ b4) (h0b : m0.next ≤ b) (h4b : b4 ≠ b) {Q : IExit → Slots → Mem → Prop} : ∀ (n i : Nat) (l c : Int) (o : Out) (acc : List Tk) (m : Mem) (σ : Slots) (x y : Value), T.size - i = n → i ≤ T.size → Lex T i l c o → m.get b = some (sc T i l c) → m.get b4 = some ⟨[x, y], true⟩ → 1 ≤ l ∧ l ≤ i + 1 → 1 ≤ c ∧ c ≤ i + 1 → acc.length ≤ i → σ 5 = ptr b → σ 4 = ptr b4 → TokSl m (fun a => m0.next ≤ a ∧ a ≠ b ∧ a ≠ b4) (σ 6) acc → m0.next ≤ m.next →
    (∀ σ' m', σ' 4 = ptr b4 → ScanQ m0 b4 (o.pre acc) σ' m' → m.next ≤ m'.next → (∀ a, a < m0.next → m'.get a = m.get a) → Q .ret σ' m') → WP Try.prog (.loop ir9_l1) σ m Q := by
  intro n
  induction n using Nat.strongRecOn with
  | _ n ih =>
    intro i l c o acc m σ x y hn hi hL h h4 hl hc hacc s5 s4 s6 hm0 hQ
    refine wp_round fun J hJ => ?_
    obtain ⟨i', l', c', q1, q2, q3, q4, q5, q6, hr⟩ := blank_wp hT hL h hi hl hc
    have hB : ∀ Φ, WPCall Try.prog 16 [ptr b] m Φ = Φ (.tuple #[]) (m.put b (some (sc T i' l' c'))) := fun Φ => hr.wp
    have hlt := get_lt h
    have hlt4 := get_lt h4
    simp [ir9_l1, s5, hB]
    have hg : ((m.put b (some (sc T i' l' c'))).bump 8).get b = some (sc T i' l' c') := by simp (disch := first | omega | (simp only [next_put, next_bump]; omega)) only [get_put_self, get_bump]
    refine (token_wp hT q6 hg q2 q3 q4 q5).mono fun r m2 hpost => ?_
    obtain ⟨⟨k1, k2⟩, ⟨kd, tx, ln, cl⟩, e, rfl, e1, e2, hpost⟩ := hpost
    simp only at e1 e2
    subst e1 e2
    simp only [next_put, next_bump] at k1 k2
    have h42 : m2.get b4 = some ⟨[x, y], true⟩ := by
      rw [k2 b4 (by omega) h4b]; simp (disch := first | omega | (simp only [next_put, next_bump]; omega)) only [get_put_ne, get_bump, h4]
    have hold : ∀ a, a < m0.next → m2.get a = m.get a := fun a ha => by
      rw [k2 a (by omega) (by omega)]; simp (disch := first | omega | (simp only [next_put, next_bump]; omega)) only [get_put_ne, get_bump]
    simp only at hpost
    rcases hpost with ⟨rfl, e3, rfl⟩ | ⟨rfl, e3, k, o', e4, e5, rfl, e7, e8⟩ | ⟨e3, rfl⟩
    · subst e3
      rcases s6 with ⟨rfl, s6⟩ | ⟨a, ⟨ha, hab, hab4⟩, s6, hga⟩
      · simp (disch := first | omega | (simp only [next_put, next_bump]; omega)) [tokV, tokCells, get_put_self, get_put_ne, get_bump, put_put, h42, s4, s6] 
        refine hQ _ _ (by simp [s4]) ⟨.inr ⟨m2.next + 3, by omega, by simp, ?_⟩, by simp, by simp (disch := first | omega | (simp only [next_put, next_bump]; omega)) only [get_put_self]⟩ (by simp only [next_put, next_bump]; omega) fun a ha => ?_
        · simp (disch := first | omega | (simp only [next_put, next_bump]; omega)) [get_put_self, get_put_ne, cells4_append]; simp [cells4, tokCells]
        · simp (disch := first | omega | (simp only [next_put, next_bump]; omega)) only [get_put_ne, get_bump]; exact hold a ha
      · have hlta := get_lt hga
        have hga2 : m2.get a = some ⟨cells4 acc, true⟩ := by
          rw [k2 a (by omega) hab]; simp (disch := first | omega | (simp only [next_put, next_bump]; omega)) only [get_put_ne, get_bump, hga]
        simp (disch := first | omega | (simp only [next_put, next_bump]; omega)) [tokV, tokCells, get_put_self, get_put_ne, get_bump, put_put, h42, s4, s6, hga2]
        refine ⟨⟨by omega, by omega⟩, ?_⟩
        refine hQ _ _ (by simp [s4]) ⟨.inr ⟨m2.next + 3, by omega, by simp, ?_⟩, by simp, by simp (disch := first | omega | (simp only [next_put, next_bump]; omega)) only [get_put_self]⟩ (by simp only [next_put, next_bump]; omega) fun a ha => ?_
        · simp (disch := first | omega | (simp only [next_put, next_bump]; omega)) [get_put_self, get_put_ne, cells4_append]; simp [cells4, tokCells]
        · simp (disch := first | omega | (simp only [next_put, next_bump]; omega)) only [get_put_ne, get_bump]; exact hold a ha
    · rcases s6 with ⟨rfl, s6⟩ | ⟨a, ⟨ha, hab, hab4⟩, s6, hga⟩
      · simp (disch := first | omega | (simp only [next_put, next_bump]; omega)) [tokV, tokCells, get_put_self, get_put_ne, get_bump, put_put, h42, e3, s4, s6]
        refine hJ _ _ (ih (T.size - (i' + k)) (by omega) (i' + k) ln (cl + k) o' ([] ++ [⟨kd, tx, ln, cl⟩]) _ _ x y rfl e5 e7 ?_ ?_ (by omega) (by omega) ?_ (by simp [s5]) (by simp [s4]) (.inr ⟨m2.next + 3, ⟨by omega, by have := get_lt e8; omega, by have := get_lt h42; omega⟩, by simp, ?_⟩) (by simp only [next_put, next_bump]; omega) fun σ' m' g1 g2 g3 g4 => hQ σ' m' g1 (by rw [Out.pre_pre]; exact g2) (by simp only [next_put, next_bump] at g3; omega) fun a ha => ?_)
        · have := get_lt e8
          simp (disch := first | omega | (simp only [next_put, next_bump]; omega)) only [get_put_ne, get_bump, e8]
        · have := get_lt h42
          simp (disch := first | omega | (simp only [next_put, next_bump]; omega)) only [get_put_ne, get_bump, h42]
        · simp; omega
        · simp (disch := first | omega | (simp only [next_put, next_bump]; omega)) [get_put_self, get_put_ne, cells4_append]; simp [cells4, tokCells]
        · rw [g4 a ha]; simp (disch := first | omega | (simp only [next_put, next_bump]; omega)) only [get_put_ne, get_bump]; exact hold a ha
      · have hlta := get_lt hga
        have hga2 : m2.get a = some ⟨cells4 acc, true⟩ := by
          rw [k2 a (by omega) hab]; simp (disch := first | omega | (simp only [next_put, next_bump]; omega)) only [get_put_ne, get_bump, hga]
        simp (disch := first | omega | (simp only [next_put, next_bump]; omega)) [tokV, tokCells, get_put_self, get_put_ne, get_bump, put_put, h42, e3, s4, s6, hga2]
        refine ⟨⟨by omega, by omega⟩, ?_⟩
        refine hJ _ _ (ih (T.size - (i' + k)) (by omega) (i' + k) ln (cl + k) o' (acc ++ [⟨kd, tx, ln, cl⟩]) _ _ x y rfl e5 e7 ?_ ?_ (by omega) (by omega) ?_ (by simp [s5]) (by simp [s4]) (.inr ⟨m2.next + 3, ⟨by omega, by have := get_lt e8; omega, by have := get_lt h42; omega⟩, by simp, ?_⟩) (by simp only [next_put, next_bump]; omega) fun σ' m' g1 g2 g3 g4 => hQ σ' m' g1 (by rw [Out.pre_pre]; exact g2) (by simp only [next_put, next_bump] at g3; omega) fun a ha => ?_)
        · have := get_lt e8
          simp (disch := first | omega | (simp only [next_put, next_bump]; omega)) only [get_put_ne, get_bump, e8]
        · have := get_lt h42
          simp (disch := first | omega | (simp only [next_put, next_bump]; omega)) only [get_put_ne, get_bump, h42]
        · simp; omega
        · simp (disch := first | omega | (simp only [next_put, next_bump]; omega)) [get_put_self, get_put_ne, cells4_append]; simp [cells4, tokCells]
        · rw [g4 a ha]; simp (disch := first | omega | (simp only [next_put, next_bump]; omega)) only [get_put_ne, get_bump]; exact hold a ha
    · simp (disch := first | omega | (simp only [next_put, next_bump]; omega)) [tokV, tokCells, get_put_self, get_put_ne, get_bump, put_put, h42, e3, s4]
      refine hQ _ _ (by simp [s4]) ⟨by simp, by simp, by simp (disch := first | omega | (simp only [next_put, next_bump]; omega)) only [get_put_self]⟩ (by simp only [next_put, next_bump]; omega) fun a ha => by
        simp (disch := first | omega | (simp only [next_put, next_bump]; omega)) only [get_put_ne, get_bump]; exact hold a ha

/-- the position behind k bytes -/
def posN (T : ByteArray) : Nat → Nat → Int → Int → Int × Int
  | 0, _, l, c => (l, c)
  | k + 1, i, l, c => if byI T i = 10 then posN T k (i + 1) (l + 1) 1 else posN T k (i + 1) l (c + 1)
def Scans (T : ByteArray) (o : Out) : Prop := if 8000 < T.size then o = .err 2 (posN T 8000 0 1 1).1 (posN T 8000 0 1 1).2 else Lex T 0 1 1 o

theorem over_loop {T : ByteArray} (hT : T.size < 10000000) (h8 : 8000 < T.size) {b : Nat} {Q : IExit → Slots → Mem → Prop} : ∀ (k i : Nat) (l c : Int) (m : Mem) (σ : Slots), i + k = 8000 → m.get b = some (sc T i l c) → 1 ≤ l ∧ l ≤ i + 1 → 1 ≤ c ∧ c ≤ i + 1 → σ 5 = ptr b →
    (∀ σ' m', σ' 5 = ptr b → σ' 4 = σ 4 → m' = m.put b (some (sc T 8000 (posN T k i l c).1 (posN T k i l c).2)) → Q (.exit 0) σ' m') → WP Try.prog (.loop ir9_l0) σ m Q
  | 0, i, l, c, m, σ, hk, h, hl, hc, h5, hQ => by
    refine wp_round fun J hJ => ?_
    have : ¬ (i : Int) < 8000 := by omega
    simp [ir9_l0, h5, h, this]
    have hi : i = 8000 := by omega
    subst hi
    exact hQ _ _ (by simp [h5]) (by simp) (by simp [posN, put_same h])
  | k + 1, i, l, c, m, σ, hk, h, hl, hc, h5, hQ => by
    refine wp_round fun J hJ => ?_
    have : (i : Int) < 8000 := by omega
    have hN : ∀ Φ, WPCall Try.prog 15 [ptr b] m Φ = Φ (.tuple #[]) (m.put b (some (if byI T i = 10 then sc T (i + 1) (l + 1) 1 else sc T (i + 1) l (c + 1)))) := fun Φ => (next_ret h (by omega) (by omega) (by omega) (by omega)).wp
    simp [ir9_l0, h5, h, this, hN]
    by_cases h1 : byI T i = 10
    · simp only [if_pos h1]
      refine hJ _ _ (over_loop hT h8 k (i + 1) (l + 1) 1 _ _ (by omega) (get_put_self (get_lt h)) (by omega) (by omega) (by simp [h5]) fun σ' m' g1 g2 g3 => hQ _ _ g1 (by rw [g2]; simp) (by rw [g3, put_put]; simp [posN, h1]))
    · simp only [if_neg h1]
      refine hJ _ _ (over_loop hT h8 k (i + 1) l (c + 1) _ _ (by omega) (get_put_self (get_lt h)) (by omega) (by omega) (by simp [h5]) fun σ' m' g1 g2 g3 => hQ _ _ g1 (by rw [g2]; simp) (by rw [g3, put_put]; simp [posN, h1]))

def ScanPost (m : Mem) (o : Out) (r : Value) (m' : Mem) : Prop :=
  m.next ≤ m'.next ∧ (∀ a, a < m.next → m'.get a = m.get a) ∧ match o with
    | .ok ts => ∃ v, r = .tuple #[v, .int .i64 0, .agg #[.int .i64 0, .int .i64 0]] ∧ TokSl m' (fun a => m.next ≤ a) v ts
    | .err e l c => r = .tuple #[.slice none 0 0, .int .i64 e, .agg #[.int .i64 l, .int .i64 c]]

theorem scan_wp {T : ByteArray} (hT : T.size < 10000000) {o : Out} (hS : Scans T o) (m : Mem) : WPCall Try.prog 9 [.string T] m (ScanPost m o) := by
  rw [call9 (by simp)]
  unfold Scans at hS
  by_cases h8 : 8000 < T.size
  · rw [if_pos h8] at hS
    subst hS
    have h8' : (8000 : Int) < T.size := by omega
    simp (disch := first | omega | (simp only [next_put, next_bump]; omega)) [ir9_b, h8', get_put_self, get_put_ne, get_bump, put_put]
    refine over_loop (b := m.next + 3 + 3) hT h8 8000 0 1 1 _ _ rfl ?_ (by omega) (by omega) (by simp) fun σ' m' g1 g2 g3 => ?_
    · simp (disch := first | omega | (simp only [next_put, next_bump]; omega)) [get_put_self]; rfl
    subst g3
    simp at g2
    simp (disch := first | omega | (simp only [next_put, next_bump]; omega)) [g1, g2, get_put_self, get_put_ne, get_bump, put_put]
    refine ⟨by simp only [next_put, next_bump]; omega, fun a ha => by simp (disch := first | omega | (simp only [next_put, next_bump]; omega)) only [get_put_ne, get_bump], rfl⟩
  · rw [if_neg h8] at hS
    have h8' : ¬ (8000 : Int) < T.size := by omega
    simp (disch := first | omega | (simp only [next_put, next_bump]; omega)) [ir9_b, h8', get_put_self, get_put_ne, get_bump, put_put]
    refine scan_loop (m0 := m) (b := m.next + 3 + 3) (b4 := m.next + 2) hT (by omega) (by omega) (by omega) _ 0 1 1 o [] _ _ (.int .i64 0) (.int .i64 0) rfl (by omega) hS ?_ ?_ (by omega) (by omega) (by simp) (by simp) (by simp) (.inl ⟨rfl, by simp⟩) (by simp only [next_put, next_bump]; omega) fun σ' m' g1 g2 g3 g4 => ?_
    · simp (disch := first | omega | (simp only [next_put, next_bump]; omega)) [get_put_self]; rfl
    · simp (disch := first | omega | (simp only [next_put, next_bump]; omega)) [get_put_self, get_put_ne, get_bump]
    have hold : ∀ a, a < m.next → m'.get a = m.get a := fun a ha => by
      rw [g4 a ha]; simp (disch := first | omega | (simp only [next_put, next_bump]; omega)) only [get_put_ne, get_bump]
    simp only [next_put, next_bump] at g3
    cases o with
    | ok ts =>
      obtain ⟨f1, f2, f3⟩ := g2
      simp [g1, f2, f3]
      exact ⟨by omega, hold, _, rfl, f1⟩
    | err e l c =>
      obtain ⟨f1, f2, f3⟩ := g2
      simp [g1, f1, f2, f3]
      exact ⟨by omega, hold, rfl⟩
end Go.Proofs.Ytaoijkldbipplaa
