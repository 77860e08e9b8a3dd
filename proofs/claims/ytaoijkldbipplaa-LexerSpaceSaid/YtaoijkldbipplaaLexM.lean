/-
  'LexerSpace', the plain law: tokens with blanks between them are read again.
-/
import Derived.Test.YtaoijkldbipplaaLexK
import Derived.Test.YtaoijkldbipplaaFwZ
namespace Go.Proofs.Ytaoijkldbipplaa
open Go Go.DI
set_option linter.unusedSimpArgs false
set_option linter.unusedVariables false

abbrev bs (s : ByteArray) : List UInt8 := s.data.toList
def bI (b : UInt8) : Int := (b.toNat : Nat)
def At (J : ByteArray) (i : Nat) (l : List UInt8) : Prop := i ≤ J.size ∧ (bs J).drop i = l
theorem bs_len {J : ByteArray} : (bs J).length = J.size := by simp [bs]
theorem At.len {J : ByteArray} {i : Nat} {l : List UInt8} (h : At J i l) : J.size - i = l.length := by rw [← h.2, List.length_drop, bs_len]
theorem At.head {J : ByteArray} {i : Nat} {b : UInt8} {l : List UInt8} (h : At J i (b :: l)) : i < J.size ∧ byI J i = bI b ∧ At J (i + 1) l := by
  have h1 := h.len
  have h2 := h.1
  simp at h1
  have hi : i < J.size := by omega
  have hi' : i < (bs J).length := by rw [bs_len]; exact hi
  have h3 := h.2
  rw [List.drop_eq_getElem_cons hi'] at h3
  injection h3 with h3 h4
  refine ⟨hi, ?_, by omega, h4⟩
  unfold byI bI
  rw [← h3]
  simp [bs, List.getD_eq_getElem?_getD]
  rw [Array.getElem?_eq_getElem (by simpa [bs] using hi')]; rfl
theorem At.skip {J : ByteArray} : ∀ {u : List UInt8} {i : Nat} {l : List UInt8}, At J i (u ++ l) → At J (i + u.length) l
  | [], i, l, h => by simpa using h
  | b :: u, i, l, h => by
    have := h.head.2.2.skip
    rw [List.length_cons, show i + (u.length + 1) = i + 1 + u.length by omega]; exact this
theorem rowN_at {p : Int → Bool} {J : ByteArray} : ∀ {u v : List UInt8} {n i : Nat}, At J i (u ++ v) → n = (u ++ v).length → (∀ b ∈ u, p (bI b) = true) → (v = [] ∨ ∃ c w, v = c :: w ∧ p (bI c) = false) → rowN p J n i = u.length
  | [], v, n, i, h, hn, hu, hv => by
    rcases hv with rfl | ⟨c, w, rfl, hc⟩
    · simp at hn; subst hn; rfl
    · obtain ⟨h1, h2, h3⟩ := At.head (by simpa using h)
      simp at hn; subst hn
      simp [rowN, h2, hc]
  | b :: u, v, n, i, h, hn, hu, hv => by
    obtain ⟨h1, h2, h3⟩ := At.head (by simpa using h)
    simp at hn
    obtain rfl : n = (u ++ v).length + 1 := by simp; omega
    have := rowN_at (p := p) h3 rfl (fun x hx => hu x (by simp [hx])) hv
    simp only [rowN, h2, hu b (by simp), if_true, this, List.length_cons]
theorem rw1_at {p : Int → Bool} {J : ByteArray} {u v : List UInt8} {i : Nat} (h : At J i (u ++ v)) (hu : ∀ b ∈ u, p (bI b) = true) (hv : v = [] ∨ ∃ c w, v = c :: w ∧ p (bI c) = false) : u.length = rw1 p J i := by
  unfold rw1; rw [h.len]; exact (rowN_at h rfl hu hv).symm
theorem ext_at {J t : ByteArray} {u v : List UInt8} {i : Nat} (h : At J i (u ++ v)) (ht : bs t = u) : J.extract i (i + u.length) = t := by
  apply ByteArray.ext
  apply Array.ext'
  have : (bs J).drop i = u ++ v := h.2
  simp [bs] at this ht ⊢
  rw [this]; simp [ht]

/-- from here on the text is read, with an answer that keeps Q, wherever the place is taken to be -/
def Ex (J : ByteArray) (Q : Out → Prop) (i : Nat) : Prop := ∀ l c, ∃ o, Lex J i l c o ∧ Q o
section
variable {J : ByteArray} {Q : Out → Prop} {i : Nat}
theorem ex_nl {r : List UInt8} (h : At J i (10 :: r)) (hE : Ex J Q (i + 1)) : Ex J Q i := fun l c => by
  obtain ⟨o, h1, h2⟩ := hE (l + 1) 1
  exact ⟨o, .nl h.head.1 h.head.2.1 h1, h2⟩
theorem ex_sp {b : UInt8} {r : List UInt8} (h : At J i (b :: r)) (hb : bI b ≠ 10) (hs : isSpace (bI b) = true) (hE : Ex J Q (i + 1)) : Ex J Q i := fun l c => by
  obtain ⟨o, h1, h2⟩ := hE l (c + 1)
  exact ⟨o, .sp h.head.1 (by rw [h.head.2.1]; exact hb) (by rw [h.head.2.1]; exact hs) h1, h2⟩
theorem ex_com {u r : List UInt8} (h : At J i ((35 :: u) ++ 10 :: r)) (hu : ∀ b ∈ u, notNl (bI b) = true) (hE : Ex J Q (i + (35 :: u).length)) : Ex J Q i := fun l c => by
  have hk : (35 :: u).length = rw1 notNl J i := rw1_at h (fun b hb => by
    rcases List.mem_cons.1 hb with rfl | hb
    · rfl
    · exact hu b hb) (.inr ⟨10, r, rfl, rfl⟩)
  obtain ⟨o, h1, h2⟩ := hE l (c + (35 :: u).length)
  have h' : At J i (35 :: (u ++ 10 :: r)) := h
  exact ⟨o, .com h'.head.1 h'.head.2.1 hk h1, h2⟩
end
def gaps : List (List UInt8) := [[32], [10], [9, 13, 32], [35, 120, 59, 121, 123, 10], [32, 35, 32, 49, 47, 50, 10, 10]]
theorem ex_gap {J : ByteArray} {Q : Out → Prop} {i : Nat} {g r : List UInt8} (hg : g ∈ gaps) (h : At J i (g ++ r)) (hE : Ex J Q (i + g.length)) : Ex J Q i := by
  simp only [gaps, List.mem_cons, List.not_mem_nil, or_false] at hg
  rcases hg with rfl | rfl | rfl | rfl | rfl
  · exact ex_sp h (by decide) (by decide) hE
  · exact ex_nl h hE
  · exact ex_sp h (by decide) (by decide) (ex_sp h.head.2.2 (by decide) (by decide) (ex_sp h.head.2.2.head.2.2 (by decide) (by decide) hE))
  · have h1 : At J i ((35 :: [120, 59, 121, 123]) ++ 10 :: r) := h
    exact ex_com h1 (by decide) (ex_nl h1.skip hE)
  · have h2 : At J (i + 1) ((35 :: [32, 49, 47, 50]) ++ 10 :: (10 :: r)) := h.head.2.2
    exact ex_sp h (by decide) (by decide) (ex_com h2 (by decide) (ex_nl h2.skip (ex_nl h2.skip.head.2.2 hE)))
theorem gap_head {g : List UInt8} (hg : g ∈ gaps) : ∃ c w, g = c :: w ∧ isInner (bI c) = false ∧ isDigit (bI c) = false := by
  simp only [gaps, List.mem_cons, List.not_mem_nil, or_false] at hg
  rcases hg with rfl | rfl | rfl | rfl | rfl <;> exact ⟨_, _, rfl, by decide, by decide⟩
theorem gap_len {g : List UInt8} (hg : g ∈ gaps) : g.length ≤ 8 := by
  simp only [gaps, List.mem_cons, List.not_mem_nil, or_false] at hg
  rcases hg with rfl | rfl | rfl | rfl | rfl <;> decide

def Good (t : Tk) : Prop :=
  (t.kind = 1 ∧ ∃ b u, bs t.text = b :: u ∧ isLetter (bI b) = true ∧ (∀ x ∈ b :: u, isInner (bI x) = true) ∧ (b :: u).length ≤ 16) ∨
  (t.kind = 2 ∧ ∃ b u, bs t.text = b :: u ∧ (∀ x ∈ b :: u, isDigit (bI x) = true) ∧ (b :: u).length ≤ 40) ∨
  (t.kind = 3 ∧ ∃ b, bs t.text = [b] ∧ isSign (bI b) = true)
theorem Good.len {t : Tk} (h : Good t) : t.text.size ≤ 40 := by
  rw [← bs_len]
  rcases h with ⟨_, b, u, h1, _, _, h2⟩ | ⟨_, b, u, h1, _, h2⟩ | ⟨_, b, h1, _⟩ <;> rw [h1]
  · omega
  · exact h2
  · simp
theorem bs_extract {T : ByteArray} {i k : Nat} : bs (T.extract i (i + k)) = ((bs T).drop i).take k := by
  simp [bs]
theorem rowN_mem {p : Int → Bool} {T : ByteArray} : ∀ {n i k : Nat}, k = rowN p T n i → n ≤ T.size - i → ∀ x ∈ ((bs T).drop i).take k, p (bI x) = true := by
  intro n i k hk hn x hx
  obtain ⟨q, hq, rfl⟩ := List.getElem_of_mem hx
  simp at hq
  have := rowN_all (p := p) (T := T) (n := n) (i := i) (q := q) (by omega)
  rw [← this]
  congr 1
  unfold bI byI
  have hq2 : i + q < (bs T).length := by rw [bs_len]; omega
  simp [bs, List.getD_eq_getElem?_getD]
  rw [Array.getElem?_eq_getElem (by simpa [bs] using hq2)]; rfl
theorem take_cons {T : ByteArray} {i k : Nat} (hi : i < T.size) (hk : 0 < k) : ∃ b u, ((bs T).drop i).take k = b :: u ∧ byI T i = bI b := by
  have hi' : i < (bs T).length := by rw [bs_len]; exact hi
  obtain ⟨k, rfl⟩ : ∃ j, k = j + 1 := ⟨k - 1, by omega⟩
  rw [List.drop_eq_getElem_cons hi']
  refine ⟨_, _, rfl, ?_⟩
  unfold byI bI
  simp [bs, List.getD_eq_getElem?_getD]
  rw [Array.getElem?_eq_getElem (by simpa [bs] using hi')]; rfl

/-- the tokens that a text is read as -/
theorem lex_good {T : ByteArray} {i : Nat} {l c : Int} {o : Out} (hL : Lex T i l c o) : ∀ ts, o = .ok ts → i ≤ T.size → ∃ ts0 e, ts = ts0 ++ [e] ∧ e.kind = 4 ∧ e.text = .empty ∧ ∀ t ∈ ts0, Good t := by
  induction hL with
  | done h => intro ts h; cases h; exact fun _ => ⟨[], _, rfl, rfl, rfl, by simp⟩
  | nl h0 h1 hL ih => intro ts ho hi; exact ih ts ho (by omega)
  | sp h0 h1 h2 hL ih => intro ts ho hi; exact ih ts ho (by omega)
  | @com i l c o k h0 h1 hk hL ih =>
    intro ts ho hi
    have p2 := @rw1_le notNl T i
    rw [← hk] at p2
    exact ih ts ho (by omega)
  | @name i l c o k h0 h1 hk hk2 hL ih =>
    intro ts ho hi
    obtain ⟨us, rfl, rfl⟩ := pre_ok ho
    have p1 := rw1_pos h0 (letter_inner h1)
    have p2 := @rw1_le isInner T i
    rw [← hk] at p1 p2
    obtain ⟨ts0, e, rfl, e1, e2, e3⟩ := ih us rfl (by omega)
    obtain ⟨b, u, q1, q2⟩ := take_cons h0 p1
    refine ⟨_ :: ts0, e, rfl, e1, e2, fun t ht => ?_⟩
    rcases List.mem_cons.1 ht with rfl | ht
    · refine .inl ⟨rfl, b, u, by rw [bs_extract, q1], by rw [← q2]; exact h1, ?_, ?_⟩
      · rw [← q1]; exact rowN_mem hk (Nat.le_refl _)
      · rw [← q1]; simp; omega
    · exact e3 t ht
  | nameX => intro ts h; cases h
  | @num i l c o k h0 h1 hk hk2 hL ih =>
    intro ts ho hi
    obtain ⟨us, rfl, rfl⟩ := pre_ok ho
    have p1 := rw1_pos h0 h1
    have p2 := @rw1_le isDigit T i
    rw [← hk] at p1 p2
    obtain ⟨ts0, e, rfl, e1, e2, e3⟩ := ih us rfl (by omega)
    obtain ⟨b, u, q1, q2⟩ := take_cons h0 p1
    refine ⟨_ :: ts0, e, rfl, e1, e2, fun t ht => ?_⟩
    rcases List.mem_cons.1 ht with rfl | ht
    · refine .inr (.inl ⟨rfl, b, u, by rw [bs_extract, q1], ?_, ?_⟩)
      · rw [← q1]; exact rowN_mem hk (Nat.le_refl _)
      · rw [← q1]; simp; omega
    · exact e3 t ht
  | numX => intro ts h; cases h
  | @sign i l c o h0 h1 hL ih =>
    intro ts ho hi
    obtain ⟨us, rfl, rfl⟩ := pre_ok ho
    obtain ⟨ts0, e, rfl, e1, e2, e3⟩ := ih us rfl (by omega)
    obtain ⟨b, u, q1, q2⟩ := take_cons h0 (k := 1) (by omega)
    refine ⟨_ :: ts0, e, rfl, e1, e2, fun t ht => ?_⟩
    rcases List.mem_cons.1 ht with rfl | ht
    · refine .inr (.inr ⟨rfl, b, ?_, by rw [← q2]; exact h1⟩)
      have : (((bs T).drop i).take 1).length ≤ 1 := by rw [List.length_take]; omega
      rw [q1] at this
      rw [bs_extract, q1]
      simp at this; rw [this]
    · exact e3 t ht
  | bad => intro ts h; cases h

def kt (t : Tk) : Int × ByteArray := (t.kind, t.text)
def joinL : List (List UInt8) → List Tk → List UInt8
  | g :: gs, t :: ts => g ++ bs t.text ++ joinL gs ts
  | _, _ => []
theorem ex_good {J : ByteArray} {i : Nat} {t : Tk} {r : List UInt8} {K : List (Int × ByteArray)} (ht : Good t) (h : At J i (bs t.text ++ r)) (hr : ∃ c w, r = c :: w ∧ isInner (bI c) = false ∧ isDigit (bI c) = false)
    (hE : Ex J (fun o => ∃ ts, o = .ok ts ∧ ts.map kt = K) (i + (bs t.text).length)) : Ex J (fun o => ∃ ts, o = .ok ts ∧ ts.map kt = kt t :: K) i := by
  obtain ⟨c0, w0, rfl, r1, r2⟩ := hr
  intro l c
  rcases ht with ⟨hk, b, u, hu, g1, g2, g3⟩ | ⟨hk, b, u, hu, g2, g3⟩ | ⟨hk, b, hu, g1⟩
  · obtain ⟨o, h1, ts, rfl, h2⟩ := hE l (c + (bs t.text).length)
    have hkk := rw1_at (p := isInner) h (by rw [hu]; exact g2) (.inr ⟨c0, w0, rfl, r1⟩)
    have hh := h; rw [hu] at hh
    have he := ext_at h rfl
    refine ⟨_, .name hh.head.1 (by rw [hh.head.2.1]; exact g1) hkk (by rw [hu]; exact g3) h1, _, rfl, ?_⟩
    rw [List.cons_append, List.nil_append, List.map_cons, h2]; simp only [kt, he, hk]
  · obtain ⟨o, h1, ts, rfl, h2⟩ := hE l (c + (bs t.text).length)
    have hkk := rw1_at (p := isDigit) h (by rw [hu]; exact g2) (.inr ⟨c0, w0, rfl, r2⟩)
    have hh := h; rw [hu] at hh
    have he := ext_at h rfl
    refine ⟨_, .num hh.head.1 (by rw [hh.head.2.1]; exact g2 b (by simp)) hkk (by rw [hu]; exact g3) h1, _, rfl, ?_⟩
    rw [List.cons_append, List.nil_append, List.map_cons, h2]; simp only [kt, he, hk]
  · have e1 : (bs t.text).length = 1 := by rw [hu]; rfl
    rw [e1] at hE
    obtain ⟨o, h1, ts, rfl, h2⟩ := hE l (c + 1)
    have hh := h; rw [hu] at hh
    have he := ext_at h rfl
    rw [e1] at he
    refine ⟨_, .sign hh.head.1 (by rw [hh.head.2.1]; exact g1) h1, _, rfl, ?_⟩
    rw [List.cons_append, List.nil_append, List.map_cons, h2]; simp only [kt, he, hk]
theorem relex {J : ByteArray} {e : Tk} (he : e.kind = 4) (he2 : e.text = .empty) : ∀ (ts0 : List Tk) (gs : List (List UInt8)) (i : Nat), (∀ t ∈ ts0, Good t) → (∀ g ∈ gs, g ∈ gaps) → gs.length = ts0.length + 1 → At J i (joinL gs (ts0 ++ [e])) →
    Ex J (fun o => ∃ ts, o = .ok ts ∧ ts.map kt = (ts0 ++ [e]).map kt) i
  | [], gs, i, ht, hg, hl, h => by
    match gs, hl with
    | [g], _ =>
      simp only [joinL, List.nil_append, List.append_nil, he2] at h
      refine ex_gap (hg g (by simp)) h fun l c => ⟨_, .done ?_, _, rfl, ?_⟩
      · have := h.len; have := h.1; simp at *; omega
      · simp [kt, he, he2]
  | t :: ts0, gs, i, ht, hg, hl, h => by
    match gs, hl with
    | g :: g2 :: gs, hl =>
      simp only [joinL, List.cons_append, List.append_assoc] at h
      refine ex_gap (hg g (by simp)) h ?_
      have h2 := h.skip
      obtain ⟨c, w, hc, c1, c2⟩ := gap_head (hg g2 (by simp))
      have hne : ∃ x xs, ts0 ++ [e] = x :: xs := by cases ts0 with
        | nil => exact ⟨_, _, rfl⟩
        | cons a b => exact ⟨_, _, rfl⟩
      obtain ⟨x, xs, hx⟩ := hne
      have := ex_good (ht t (by simp)) h2 (by rw [hx]; simp only [joinL]; rw [hc]; exact ⟨c, _, rfl, c1, c2⟩)
        (relex he he2 ts0 (g2 :: gs) _ (fun t h => ht t (by simp [h])) (fun g h => hg g (by simp [h])) (by simpa using hl) h2.skip)
      simpa using this
end Go.Proofs.Ytaoijkldbipplaa
