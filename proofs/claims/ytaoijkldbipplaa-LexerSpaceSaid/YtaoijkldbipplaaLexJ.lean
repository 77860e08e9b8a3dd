/-
  'LexerPlaces'.
-/
import Derived.Test.YtaoijkldbipplaaLexI
namespace Go.Proofs.Ytaoijkldbipplaa
open Go Go.DI
set_option linter.unusedSimpArgs false
set_option linter.unusedVariables false

theorem cells4_get {ts : List Tk} {t : Tk} {i j : Nat} (h : ts[i]? = some t) (hj : j < 4) : (cells4 ts)[i * 4 + j]? = (tokCells t)[j]? := by
  have := cells4_at h
  rw [← this, List.getElem?_take, if_pos hj, List.getElem?_drop]

theorem head_td {l : List Value} {k : Nat} : (List.take 1 (List.drop k l)).head? = l[k]? := by
  cases h : l.drop k with
  | nil => rw [List.drop_eq_nil_iff] at h; rw [List.getElem?_eq_none h]; rfl
  | cons x xs => simp; rw [← List.head?_drop, h]; rfl
theorem lex_pos {T : ByteArray} {i : Nat} {l c : Int} {o : Out} (hL : Lex T i l c o) : ∀ t ts, o = .ok (t :: ts) → l < t.line ∨ (l = t.line ∧ c ≤ t.col) := by
  induction hL with
  | done h => intro t ts h; cases h; right; simp
  | nl h0 h1 hL ih => intro t ts h; have := ih t ts h; omega
  | sp h0 h1 h2 hL ih => intro t ts h; have := ih t ts h; omega
  | com h0 h1 hk hL ih => intro t ts h; have := ih t ts h; omega
  | name h0 h1 hk hk2 hL ih => intro t ts h; obtain ⟨us, rfl, e⟩ := pre_ok h; cases e; right; simp
  | nameX => intro t ts h; cases h
  | num h0 h1 hk hk2 hL ih => intro t ts h; obtain ⟨us, rfl, e⟩ := pre_ok h; cases e; right; simp
  | numX => intro t ts h; cases h
  | sign h0 h1 hL ih => intro t ts h; obtain ⟨us, rfl, e⟩ := pre_ok h; cases e; right; simp
  | bad => intro t ts h; cases h

/-- the walker's state -/
structure Pl (T : ByteArray) (a i n : Nat) (at' : Nat) (l c : Int) (cm : Bool) (σ : Slots) : Prop where
  s0 : σ 0 = .string T
  s3 : σ 3 = .slice (some ⟨a, 0, none⟩) n 4
  s6 : σ 6 = .int .i64 l
  s7 : σ 7 = .int .i64 c
  s8 : σ 8 = .int .i64 at'
  s9 : σ 9 = .bool cm
  s10 : σ 10 = .int .i64 i

set_option maxRecDepth 20000 in
theorem pl_round {T : ByteArray} (hT : T.size < 10000000) {a i at' : Nat} {ts : List Tk} {t : Tk} (ht : ts[i]? = some t) {l c : Int} {cm : Bool} {σ : Slots} {m : Mem} (hP : Pl T a i ts.length at' l c cm σ) (hg : m.get a = some ⟨cells4 ts, true⟩) (hlt : l < t.line ∨ (l = t.line ∧ c < t.col)) (hat : at' < T.size) (hl : 1 ≤ l ∧ l ≤ at' + 1) (hc : 1 ≤ c ∧ c ≤ at' + 1)
    (hok : (decide (byI T at' = 35) || (cm && !decide (byI T at' = 10))) = true ∨ isSpace (byI T at') = true) {Q : IExit → Slots → Mem → Prop}
    (h : ∀ σ', Pl T a i ts.length (at' + 1) (if byI T at' = 10 then l + 1 else l) (if byI T at' = 10 then 1 else c + 1) (decide (byI T at' = 35) || (cm && !decide (byI T at' = 10))) σ' → WP Try.prog (.loop ir4_l0) σ' m Q) : WP Try.prog (.loop ir4_l0) σ m Q := by
  obtain ⟨s0, s3, s6, s7, s8, s9, s10⟩ := hP
  refine wp_round fun J hJ => ?_
  have hi : i < ts.length := by
    rw [List.getElem?_eq_some_iff] at ht; exact ht.1
  have c2 := cells4_get ht (j := 2) (by omega)
  have c3 := cells4_get ht (j := 3) (by omega)
  simp [tokCells] at c2 c3
  have hi' : (i : Int) < ts.length := by omega
  have hb : i * 4 + 4 ≤ ts.length * 4 := by omega
  have hb1 : i * 4 + 3 ≤ ts.length * 4 := by omega
  have hat' : ¬ (at' : Int) ≥ T.size := by omega
  have hat2 : (at' : Int) < T.size := by omega
  have hat3 : ¬ (T.size : Int) ≤ at' := by omega
  have hat4 : ¬ T.size ≤ at' := by omega
  have w1 : IntKind.i64.wrap (l + 1) = l + 1 := i64_id (by omega) (by omega)
  have w2 : IntKind.i64.wrap (c + 1) = c + 1 := i64_id (by omega) (by omega)
  have w3 : IntKind.i64.wrap ((at' : Int) + 1) = (at' : Int) + 1 := i64_id (by omega) (by omega)
  have hll' : l < t.line ∨ (¬ l < t.line ∧ l = t.line ∧ c < t.col) := by omega
  generalize hB : byI T at' = B at *
  have hcase : B = 35 ∨ B = 10 ∨ (B ≠ 35 ∧ B ≠ 10 ∧ cm = true) ∨ (cm = false ∧ (B = 32 ∨ B = 9 ∨ B = 13)) := by
    simp [isSpace] at hok
    cases cm <;> simp at hok ⊢ <;> omega
  rcases hll' with hll | ⟨hll, rfl, hcc⟩
  · rcases hcase with rfl | rfl | ⟨b1, b2, rfl⟩ | ⟨rfl, rfl | rfl | rfl⟩
    · cases cm
      · simp [ir4_l0, s0, s3, s6, s7, s8, s9, s10, hg, hi, hi', hb, hb1, c2, c3, head_td, hll, hat, hat2, hat3, hat4, w1, w2, w3, hB]
        exact hJ _ _ (h _ ⟨by simp [s0], by simp [s3], by simp [s6], by simp [s7], by simp, by simp [s9], by simp [s10]⟩)
      · simp [ir4_l0, s0, s3, s6, s7, s8, s9, s10, hg, hi, hi', hb, hb1, c2, c3, head_td, hll, hat, hat2, hat3, hat4, w1, w2, w3, hB]
        exact hJ _ _ (h _ ⟨by simp [s0], by simp [s3], by simp [s6], by simp [s7], by simp, by simp [s9], by simp [s10]⟩)
    · cases cm
      · simp [ir4_l0, s0, s3, s6, s7, s8, s9, s10, hg, hi, hi', hb, hb1, c2, c3, head_td, hll, hat, hat2, hat3, hat4, w1, w2, w3, hB]
        exact hJ _ _ (h _ ⟨by simp [s0], by simp [s3], by simp [s6], by simp [s7], by simp, by simp [s9], by simp [s10]⟩)
      · simp [ir4_l0, s0, s3, s6, s7, s8, s9, s10, hg, hi, hi', hb, hb1, c2, c3, head_td, hll, hat, hat2, hat3, hat4, w1, w2, w3, hB]
        exact hJ _ _ (h _ ⟨by simp [s0], by simp [s3], by simp [s6], by simp [s7], by simp, by simp [s9], by simp [s10]⟩)
    · simp [ir4_l0, s0, s3, s6, s7, s8, s9, s10, hg, hi, hi', hb, hb1, c2, c3, head_td, hll, hat, hat2, hat3, hat4, w1, w2, w3, hB, b1, b2]
      exact hJ _ _ (h _ ⟨by simp [s0], by simp [s3], by simp [s6, b2], by simp [s7, b2], by simp, by simp [s9, b1, b2], by simp [s10]⟩)
    · simp [ir4_l0, s0, s3, s6, s7, s8, s9, s10, hg, hi, hi', hb, hb1, c2, c3, head_td, hll, hat, hat2, hat3, hat4, w1, w2, w3, hB]
      exact hJ _ _ (h _ ⟨by simp [s0], by simp [s3], by simp [s6], by simp [s7], by simp, by simp [s9], by simp [s10]⟩)
    · simp [ir4_l0, s0, s3, s6, s7, s8, s9, s10, hg, hi, hi', hb, hb1, c2, c3, head_td, hll, hat, hat2, hat3, hat4, w1, w2, w3, hB]
      exact hJ _ _ (h _ ⟨by simp [s0], by simp [s3], by simp [s6], by simp [s7], by simp, by simp [s9], by simp [s10]⟩)
    · simp [ir4_l0, s0, s3, s6, s7, s8, s9, s10, hg, hi, hi', hb, hb1, c2, c3, head_td, hll, hat, hat2, hat3, hat4, w1, w2, w3, hB]
      exact hJ _ _ (h _ ⟨by simp [s0], by simp [s3], by simp [s6], by simp [s7], by simp, by simp [s9], by simp [s10]⟩)
  · rcases hcase with rfl | rfl | ⟨b1, b2, rfl⟩ | ⟨rfl, rfl | rfl | rfl⟩
    · cases cm
      · simp [ir4_l0, s0, s3, s6, s7, s8, s9, s10, hg, hi, hi', hb, hb1, c2, c3, head_td, hcc, hat, hat2, hat3, hat4, w1, w2, w3, hB]
        exact hJ _ _ (h _ ⟨by simp [s0], by simp [s3], by simp [s6], by simp [s7], by simp, by simp [s9], by simp [s10]⟩)
      · simp [ir4_l0, s0, s3, s6, s7, s8, s9, s10, hg, hi, hi', hb, hb1, c2, c3, head_td, hcc, hat, hat2, hat3, hat4, w1, w2, w3, hB]
        exact hJ _ _ (h _ ⟨by simp [s0], by simp [s3], by simp [s6], by simp [s7], by simp, by simp [s9], by simp [s10]⟩)
    · cases cm
      · simp [ir4_l0, s0, s3, s6, s7, s8, s9, s10, hg, hi, hi', hb, hb1, c2, c3, head_td, hcc, hat, hat2, hat3, hat4, w1, w2, w3, hB]
        exact hJ _ _ (h _ ⟨by simp [s0], by simp [s3], by simp [s6], by simp [s7], by simp, by simp [s9], by simp [s10]⟩)
      · simp [ir4_l0, s0, s3, s6, s7, s8, s9, s10, hg, hi, hi', hb, hb1, c2, c3, head_td, hcc, hat, hat2, hat3, hat4, w1, w2, w3, hB]
        exact hJ _ _ (h _ ⟨by simp [s0], by simp [s3], by simp [s6], by simp [s7], by simp, by simp [s9], by simp [s10]⟩)
    · simp [ir4_l0, s0, s3, s6, s7, s8, s9, s10, hg, hi, hi', hb, hb1, c2, c3, head_td, hcc, hat, hat2, hat3, hat4, w1, w2, w3, hB, b1, b2]
      exact hJ _ _ (h _ ⟨by simp [s0], by simp [s3], by simp [s6, b2], by simp [s7, b2], by simp, by simp [s9, b1, b2], by simp [s10]⟩)
    · simp [ir4_l0, s0, s3, s6, s7, s8, s9, s10, hg, hi, hi', hb, hb1, c2, c3, head_td, hcc, hat, hat2, hat3, hat4, w1, w2, w3, hB]
      exact hJ _ _ (h _ ⟨by simp [s0], by simp [s3], by simp [s6], by simp [s7], by simp, by simp [s9], by simp [s10]⟩)
    · simp [ir4_l0, s0, s3, s6, s7, s8, s9, s10, hg, hi, hi', hb, hb1, c2, c3, head_td, hcc, hat, hat2, hat3, hat4, w1, w2, w3, hB]
      exact hJ _ _ (h _ ⟨by simp [s0], by simp [s3], by simp [s6], by simp [s7], by simp, by simp [s9], by simp [s10]⟩)
    · simp [ir4_l0, s0, s3, s6, s7, s8, s9, s10, hg, hi, hi', hb, hb1, c2, c3, head_td, hcc, hat, hat2, hat3, hat4, w1, w2, w3, hB]
      exact hJ _ _ (h _ ⟨by simp [s0], by simp [s3], by simp [s6], by simp [s7], by simp, by simp [s9], by simp [s10]⟩)

theorem rowN_all {p : Int → Bool} {T : ByteArray} : ∀ {n i q : Nat}, q < rowN p T n i → p (byI T (i + q)) = true
  | 0, i, q, h => by simp [rowN] at h
  | n + 1, i, q, h => by
    by_cases hb : p (byI T i) = true
    · simp [rowN, hb] at h
      cases q with
      | zero => exact hb
      | succ q => have := @rowN_all p T n (i + 1) q (by omega); rw [show i + (q + 1) = i + 1 + q by omega]; exact this
    · simp [rowN, hb] at h
theorem rowN_end {p : Int → Bool} {T : ByteArray} : ∀ {n i : Nat}, rowN p T n i = n ∨ p (byI T (i + rowN p T n i)) = false
  | 0, i => .inl rfl
  | n + 1, i => by
    by_cases hb : p (byI T i) = true
    · rcases @rowN_end p T n (i + 1) with h | h
      · left; simp [rowN, hb, h]
      · right; simp only [rowN, hb, if_true]; rw [show i + (rowN p T n (i + 1) + 1) = i + 1 + rowN p T n (i + 1) by omega]; exact h
    · right; simp [rowN, hb]

theorem pl_stop {T : ByteArray} (hT : T.size < 10000000) {a i at' : Nat} {ts : List Tk} {t : Tk} (ht : ts[i]? = some t) {cm : Bool} {σ : Slots} {m : Mem} (hP : Pl T a i ts.length at' t.line t.col cm σ) (hg : m.get a = some ⟨cells4 ts, true⟩) {Q : IExit → Slots → Mem → Prop}
    (h : ∀ σ', Pl T a i ts.length at' t.line t.col cm σ' → Q (.exit 2) σ' m) : WP Try.prog (.loop ir4_l0) σ m Q := by
  obtain ⟨s0, s3, s6, s7, s8, s9, s10⟩ := hP
  refine wp_round fun J hJ => ?_
  have hi : i < ts.length := by
    rw [List.getElem?_eq_some_iff] at ht; exact ht.1
  have c2 := cells4_get ht (j := 2) (by omega)
  have c3 := cells4_get ht (j := 3) (by omega)
  simp [tokCells] at c2 c3
  have hi' : (i : Int) < ts.length := by omega
  have hb : i * 4 + 4 ≤ ts.length * 4 := by omega
  have hb1 : i * 4 + 3 ≤ ts.length * 4 := by omega
  simp [ir4_l0, s0, s3, s6, s7, s8, s9, s10, hg, hi, hi', hb, hb1, c2, c3, head_td]
  exact h _ ⟨by simp [s0], by simp [s3], by simp [s6], by simp [s7], by simp [s8], by simp [s9], by simp [s10]⟩

theorem com_run {T : ByteArray} (hT : T.size < 10000000) {a i : Nat} {ts : List Tk} {t : Tk} (ht : ts[i]? = some t) {l : Int} {m : Mem} (hg : m.get a = some ⟨cells4 ts, true⟩) {Q : IExit → Slots → Mem → Prop} : ∀ (r at' : Nat) (c : Int) (cm : Bool) (σ : Slots), (∀ q, q < r → byI T (at' + q) ≠ 10) → at' + r ≤ T.size → (cm = true ∨ (0 < r ∧ byI T at' = 35)) → (l < t.line ∨ (l = t.line ∧ c + r ≤ t.col)) → 1 ≤ l ∧ l ≤ at' + 1 → 1 ≤ c ∧ c ≤ at' + 1 → Pl T a i ts.length at' l c cm σ →
    (∀ σ', Pl T a i ts.length (at' + r) l (c + r) true σ' → WP Try.prog (.loop ir4_l0) σ' m Q) → WP Try.prog (.loop ir4_l0) σ m Q
  | 0, at', c, cm, σ, hq, hs, hcm, hp, hl, hc, hP, h => by
    have : cm = true := by rcases hcm with h | ⟨h, _⟩; exact h; omega
    subst this
    exact h σ (by simpa using hP)
  | r + 1, at', c, cm, σ, hq, hs, hcm, hp, hl, hc, hP, h => by
    have h10 : byI T at' ≠ 10 := hq 0 (by omega)
    have hf : (decide (byI T at' = 35) || (cm && !decide (byI T at' = 10))) = true := by
      rcases hcm with h1 | ⟨_, h1⟩ <;> simp [h1, h10]
    refine pl_round hT ht hP hg (by omega) (by omega) hl hc (.inl hf) fun σ' hP' => ?_
    rw [if_neg h10, if_neg h10, hf] at hP'
    refine com_run hT ht hg r (at' + 1) (c + 1) true σ' (fun q hq' => ?_) (by omega) (.inl rfl) (by omega) (by omega) (by omega) hP' fun σ'' hP'' => h σ'' ?_
    · have := hq (q + 1) (by omega); rw [show at' + 1 + q = at' + (q + 1) by omega]; exact this
    · rw [show at' + (r + 1) = at' + 1 + r by omega, show c + ((r + 1 : Nat) : Int) = c + 1 + r by omega]; exact hP''

theorem pl_loop {T : ByteArray} (hT : T.size < 10000000) {a i : Nat} {ts : List Tk} {t : Tk} (ht : ts[i]? = some t) {m : Mem} (hg : m.get a = some ⟨cells4 ts, true⟩) {Q : IExit → Slots → Mem → Prop} {j : Nat} {l c : Int} {o : Out} (hL : Lex T j l c o) : ∀ (rest : List Tk) (cm : Bool) (σ : Slots), o = .ok (t :: rest) → j ≤ T.size → (cm = true → j = T.size ∨ byI T j = 10) → 1 ≤ l ∧ l ≤ j + 1 → 1 ≤ c ∧ c ≤ j + 1 → Pl T a i ts.length j l c cm σ →
    (∀ σ' j' cm', Pl T a i ts.length j' t.line t.col cm' σ' → (1 ≤ t.line ∧ t.line ≤ j' + 1) → (1 ≤ t.col ∧ t.col ≤ j' + 1) → NonBlank T j' → j' ≤ T.size → (cm' = true → j' = T.size) → Lex T j' t.line t.col (.ok (t :: rest)) → Q (.exit 2) σ' m) → WP Try.prog (.loop ir4_l0) σ m Q := by
  induction hL with
  | @done j l c h0 =>
    intro rest cm σ ho hj hcm hl hc hP h
    cases ho
    exact pl_stop hT ht hP hg fun σ' hP' => h σ' _ cm hP' hl hc (.inl h0) hj (fun _ => h0) (.done h0)
  | @nl j l c o h0 h1 hL ih =>
    intro rest cm σ ho hj hcm hl hc hP h
    have hp := lex_pos hL t rest ho
    refine pl_round hT ht hP hg (by omega) h0 hl hc (.inr (by rw [h1]; rfl)) fun σ' hP' => ?_
    rw [if_pos h1, if_pos h1, show (decide (byI T j = 35) || (cm && !decide (byI T j = 10))) = false by simp [h1]] at hP'
    exact ih rest false σ' ho (by omega) (fun h => by cases h) (by omega) (by omega) hP' h
  | @sp j l c o h0 h1 h2 hL ih =>
    intro rest cm σ ho hj hcm hl hc hP h
    have hp := lex_pos hL t rest ho
    have hcf : cm = false := by
      cases cm with
      | false => rfl
      | true => rcases hcm rfl with h | h
                · omega
                · exact absurd h h1
    subst hcf
    have h35 : byI T j ≠ 35 := fun h => by rw [h] at h2; cases h2
    refine pl_round hT ht hP hg (by omega) h0 hl hc (.inr h2) fun σ' hP' => ?_
    rw [if_neg h1, if_neg h1, show (decide (byI T j = 35) || (false && !decide (byI T j = 10))) = false by simp [h35]] at hP'
    exact ih rest false σ' ho (by omega) (fun h => by cases h) (by omega) (by omega) hP' h
  | @com j l c o k h0 h1 hk hL ih =>
    intro rest cm σ ho hj hcm hl hc hP h
    have hp := lex_pos hL t rest ho
    have p1 := rw1_pos (p := notNl) h0 (by rw [h1]; rfl)
    have p2 := @rw1_le notNl T j
    rw [← hk] at p1 p2
    refine com_run hT ht hg k j c cm σ (fun q hq => ?_) (by omega) (.inr ⟨p1, h1⟩) (by omega) hl hc hP fun σ' hP' => ?_
    · have := @rowN_all notNl T (T.size - j) j q (by rw [hk] at hq; exact hq)
      intro h10; rw [h10] at this; cases this
    · refine ih rest true σ' ho (by omega) (fun _ => ?_) (by omega) (by omega) hP' h
      rcases @rowN_end notNl T (T.size - j) j with e | e
      · left; rw [hk]; unfold rw1; omega
      · right
        have e2 : notNl (byI T (j + k)) = false := by rw [hk]; exact e
        simpa [notNl] using e2
  | @name j l c o k h0 h1 hk hk2 hL ih =>
    intro rest cm σ ho hj hcm hl hc hP h
    have hL' := Lex.name (c := c) (l := l) h0 h1 hk hk2 hL
    obtain ⟨n1, n2, n3⟩ := letter_not h1
    rw [ho] at hL'
    obtain ⟨us, rfl, e⟩ := pre_ok ho
    cases e
    have hcf : cm = false := by
      cases cm with
      | false => rfl
      | true => rcases hcm rfl with h | h
                · omega
                · exact absurd h n3
    subst hcf
    exact pl_stop hT ht hP hg fun σ' hP' => h σ' _ false hP' hl hc (.inr ⟨h0, n1, n2⟩) hj (fun h => by cases h) hL'
  | nameX => intro rest cm σ ho; cases ho
  | @num j l c o k h0 h1 hk hk2 hL ih =>
    intro rest cm σ ho hj hcm hl hc hP h
    have hL' := Lex.num (c := c) (l := l) h0 h1 hk hk2 hL
    obtain ⟨n1, n2, n3, n4⟩ := digit_not h1
    rw [ho] at hL'
    obtain ⟨us, rfl, e⟩ := pre_ok ho
    cases e
    have hcf : cm = false := by
      cases cm with
      | false => rfl
      | true => rcases hcm rfl with h | h
                · omega
                · exact absurd h n3
    subst hcf
    exact pl_stop hT ht hP hg fun σ' hP' => h σ' _ false hP' hl hc (.inr ⟨h0, n1, n2⟩) hj (fun h => by cases h) hL'
  | numX => intro rest cm σ ho; cases ho
  | @sign j l c o h0 h1 hL ih =>
    intro rest cm σ ho hj hcm hl hc hP h
    have hL' := Lex.sign (c := c) (l := l) h0 h1 hL
    obtain ⟨n1, n2, n3, n4, n5⟩ := sign_not h1
    rw [ho] at hL'
    obtain ⟨us, rfl, e⟩ := pre_ok ho
    cases e
    have hcf : cm = false := by
      cases cm with
      | false => rfl
      | true => rcases hcm rfl with h | h
                · omega
                · exact absurd h n3
    subst hcf
    exact pl_stop hT ht hP hg fun σ' hP' => h σ' _ false hP' hl hc (.inr ⟨h0, n1, n2⟩) hj (fun h => by cases h) hL'
  | bad => intro rest cm σ ho; cases ho
end Go.Proofs.Ytaoijkldbipplaa
