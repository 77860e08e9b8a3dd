/-
  The reference's scan.
-/
import Derived.Test.YtaoijkldbipplaaLexC
namespace Go.Proofs.Ytaoijkldbipplaa
open Go Go.DI
set_option linter.unusedSimpArgs false
set_option linter.unusedVariables false

theorem inner0_loop {T : ByteArray} (hT : T.size < 10000000) {Q : IExit → Slots → Mem → Prop} : ∀ (r i n : Nat) (m : Mem) (σ : Slots), T.size - (i + n) = r → i + n ≤ T.size → σ 0 = .string T → σ 8 = .int .i64 (i : Int) → σ 11 = .int .i64 (n : Int) →
    (∀ σ', (∀ t, t < 11 → σ' t = σ t) → σ' 11 = .int .i64 ((n + rowN notNl T r (i + n) : Nat) : Int) → Q (.exit 3) σ' m) → WP Try.prog (.loop ir10_l0) σ m Q
  | 0, i, n, m, σ, hr, hi, h0, h8, h11, hQ => by
    refine wp_round fun J hJ => ?_
    have w1 : IntKind.i64.wrap ((i : Int) + n) = (i : Int) + n := i64_id (by omega) (by omega)
    have h1 : ¬ (i : Int) + n < T.size := by omega
    simp [ir10_l0, h0, h8, h11, w1, h1]
    refine hQ _ (fun t ht => ?_) (by simp [h11, rowN])
    simp only [upd_apply]
    repeat (rw [if_neg (by omega)])
  | r + 1, i, n, m, σ, hr, hi, h0, h8, h11, hQ => by
    refine wp_round fun J hJ => ?_
    have w1 : IntKind.i64.wrap ((i : Int) + n) = (i : Int) + n := i64_id (by omega) (by omega)
    have w2 : IntKind.i64.wrap ((n : Int) + 1) = (n : Int) + 1 := i64_id (by omega) (by omega)
    have h1 : (i : Int) + n < T.size := by omega
    have h2 : (0 : Int) ≤ (i : Int) + n := by omega
    have e1 : ((i : Int) + n).toNat = i + n := by omega
    by_cases hb : byI T (i + n) ≠ 10
    · simp [ir10_l0, h0, h8, h11, w1, w2, h1, h2, e1, hb]
      refine hJ _ _ (inner0_loop hT r i (n + 1) _ _ (by omega) (by omega) (by simp [h0]) (by simp [h8]) (by simp) fun σ' g1 g2 => hQ σ' (fun t ht => ?_) ?_)
      · rw [g1 t ht]
        simp only [upd_apply]
        repeat (rw [if_neg (by omega)])
      · have hp : notNl (byI T (i + n)) = true := by simpa [notNl] using hb
        have e2 : n + 1 + rowN notNl T r (i + (n + 1)) = n + rowN notNl T (r + 1) (i + n) := by
          simp only [rowN, hp, if_true]; rw [show i + (n + 1) = i + n + 1 by omega]; omega
        rw [g2, e2]
    · have hp : notNl (byI T (i + n)) = false := by simpa [notNl] using hb
      have hb' := hb
      have hb : byI T (i + n) = 10 := by omega
      simp [ir10_l0, h0, h8, h11, w1, h1, h2, e1, hb]
      refine hQ _ (fun t ht => ?_) (by simp [h11, rowN, hp])
      simp only [upd_apply]
      repeat (rw [if_neg (by omega)])
theorem inner1_loop {T : ByteArray} (hT : T.size < 10000000) {Q : IExit → Slots → Mem → Prop} : ∀ (r i n : Nat) (m : Mem) (σ : Slots), T.size - (i + n) = r → i + n ≤ T.size → σ 0 = .string T → σ 8 = .int .i64 (i : Int) → σ 11 = .int .i64 (n : Int) →
    (∀ σ', (∀ t, t < 11 → σ' t = σ t) → σ' 11 = .int .i64 ((n + rowN isInner T r (i + n) : Nat) : Int) → Q (.exit 5) σ' m) → WP Try.prog (.loop ir10_l1) σ m Q
  | 0, i, n, m, σ, hr, hi, h0, h8, h11, hQ => by
    refine wp_round fun J hJ => ?_
    have w1 : IntKind.i64.wrap ((i : Int) + n) = (i : Int) + n := i64_id (by omega) (by omega)
    have h1 : ¬ (i : Int) + n < T.size := by omega
    simp [ir10_l1, h0, h8, h11, w1, h1]
    refine hQ _ (fun t ht => ?_) (by simp [h11, rowN])
    simp only [upd_apply]
    repeat (rw [if_neg (by omega)])
  | r + 1, i, n, m, σ, hr, hi, h0, h8, h11, hQ => by
    refine wp_round fun J hJ => ?_
    have w1 : IntKind.i64.wrap ((i : Int) + n) = (i : Int) + n := i64_id (by omega) (by omega)
    have w2 : IntKind.i64.wrap ((n : Int) + 1) = (n : Int) + 1 := i64_id (by omega) (by omega)
    have h1 : (i : Int) + n < T.size := by omega
    have h2 : (0 : Int) ≤ (i : Int) + n := by omega
    have e1 : ((i : Int) + n).toNat = i + n := by omega
    by_cases hb : isInner (byI T (i + n)) = true
    · simp [ir10_l1, h0, h8, h11, w1, w2, h1, h2, e1, hb]
      refine hJ _ _ (inner1_loop hT r i (n + 1) _ _ (by omega) (by omega) (by simp [h0]) (by simp [h8]) (by simp) fun σ' g1 g2 => hQ σ' (fun t ht => ?_) ?_)
      · rw [g1 t ht]
        simp only [upd_apply]
        repeat (rw [if_neg (by omega)])
      · have hp : isInner (byI T (i + n)) = true := by simpa [notNl] using hb
        have e2 : n + 1 + rowN isInner T r (i + (n + 1)) = n + rowN isInner T (r + 1) (i + n) := by
          simp only [rowN, hp, if_true]; rw [show i + (n + 1) = i + n + 1 by omega]; omega
        rw [g2, e2]
    · have hp : isInner (byI T (i + n)) = false := by simpa [notNl] using hb
      have hb' := hb
      simp [ir10_l1, h0, h8, h11, w1, h1, h2, e1, hb]
      refine hQ _ (fun t ht => ?_) (by simp [h11, rowN, hp])
      simp only [upd_apply]
      repeat (rw [if_neg (by omega)])
theorem inner2_loop {T : ByteArray} (hT : T.size < 10000000) {Q : IExit → Slots → Mem → Prop} : ∀ (r i n : Nat) (m : Mem) (σ : Slots), T.size - (i + n) = r → i + n ≤ T.size → σ 0 = .string T → σ 8 = .int .i64 (i : Int) → σ 11 = .int .i64 (n : Int) →
    (∀ σ', (∀ t, t < 11 → σ' t = σ t) → σ' 11 = .int .i64 ((n + rowN isDigit T r (i + n) : Nat) : Int) → Q (.exit 7) σ' m) → WP Try.prog (.loop ir10_l2) σ m Q
  | 0, i, n, m, σ, hr, hi, h0, h8, h11, hQ => by
    refine wp_round fun J hJ => ?_
    have w1 : IntKind.i64.wrap ((i : Int) + n) = (i : Int) + n := i64_id (by omega) (by omega)
    have h1 : ¬ (i : Int) + n < T.size := by omega
    simp [ir10_l2, h0, h8, h11, w1, h1]
    refine hQ _ (fun t ht => ?_) (by simp [h11, rowN])
    simp only [upd_apply]
    repeat (rw [if_neg (by omega)])
  | r + 1, i, n, m, σ, hr, hi, h0, h8, h11, hQ => by
    refine wp_round fun J hJ => ?_
    have w1 : IntKind.i64.wrap ((i : Int) + n) = (i : Int) + n := i64_id (by omega) (by omega)
    have w2 : IntKind.i64.wrap ((n : Int) + 1) = (n : Int) + 1 := i64_id (by omega) (by omega)
    have h1 : (i : Int) + n < T.size := by omega
    have h2 : (0 : Int) ≤ (i : Int) + n := by omega
    have e1 : ((i : Int) + n).toNat = i + n := by omega
    by_cases hb : isDigit (byI T (i + n)) = true
    · simp [ir10_l2, h0, h8, h11, w1, w2, h1, h2, e1, hb]
      refine hJ _ _ (inner2_loop hT r i (n + 1) _ _ (by omega) (by omega) (by simp [h0]) (by simp [h8]) (by simp) fun σ' g1 g2 => hQ σ' (fun t ht => ?_) ?_)
      · rw [g1 t ht]
        simp only [upd_apply]
        repeat (rw [if_neg (by omega)])
      · have hp : isDigit (byI T (i + n)) = true := by simpa [notNl] using hb
        have e2 : n + 1 + rowN isDigit T r (i + (n + 1)) = n + rowN isDigit T (r + 1) (i + n) := by
          simp only [rowN, hp, if_true]; rw [show i + (n + 1) = i + n + 1 by omega]; omega
        rw [g2, e2]
    · have hp : isDigit (byI T (i + n)) = false := by simpa [notNl] using hb
      have hb' := hb
      simp [ir10_l2, h0, h8, h11, w1, h1, h2, e1, hb]
      refine hQ _ (fun t ht => ?_) (by simp [h11, rowN, hp])
      simp only [upd_apply]
      repeat (rw [if_neg (by omega)])

theorem TokSl.mono {m m' : Mem} {x x' : Nat → Prop} {v : Value} {ts : List Tk} (h : TokSl m x v ts) (hx : ∀ a z, x a → m.get a = some z → x' a ∧ m'.get a = some z) : TokSl m' x' v ts := by
  rcases h with h | ⟨a, ha, hv, hg⟩
  · exact .inl h
  · exact .inr ⟨a, (hx a _ ha hg).1, hv, (hx a _ ha hg).2⟩

theorem rw1_succ {p : Int → Bool} {T : ByteArray} {i : Nat} (hi : i < T.size) (h : p (byI T i) = true) : rw1 p T i = 1 + rowN p T (T.size - (i + 1)) (i + 1) := by
  unfold rw1
  obtain ⟨n, hn⟩ : ∃ n, T.size - i = n + 1 := ⟨T.size - i - 1, by omega⟩
  rw [hn, show T.size - (i + 1) = n by omega]; simp [rowN, h]; omega
def RefEnd (T : ByteArray) (m0 : Mem) (b4 : Nat) (o : Out) (e : IExit) (σ' : Slots) (m' : Mem) : Prop :=
  match o with
  | .ok ts => e = .exit 0 ∧ σ' 0 = .string T ∧ σ' 4 = ptr b4 ∧ ∃ acc l c, ts = acc ++ [⟨4, .empty, l, c⟩] ∧ TokSl m' (fun a => m0.next ≤ a ∧ a ≠ b4) (σ' 5) acc ∧ σ' 6 = .int .i64 l ∧ σ' 7 = .int .i64 (T.size + 1 - c) ∧ (1 ≤ l ∧ l ≤ T.size + 1) ∧ (1 ≤ c ∧ c ≤ T.size + 1) ∧ acc.length ≤ T.size ∧ ∃ x y, m'.get b4 = some ⟨[x, y], true⟩
  | .err ec l c => e = .ret ∧ σ' 4 = ptr b4 ∧ σ' 2 = .slice none 0 0 ∧ σ' 3 = .int .i64 ec ∧ m'.get b4 = some ⟨[.int .i64 l, .int .i64 c], true⟩

theorem ref_loop {T : ByteArray} (hT : T.size < 10000000) {m0 : Mem} {b4 : Nat} (h04 : m0.next ≤ b4) {i : Nat} {l c : Int} {o : Out} (hL : Lex T i l c o) : ∀ {Q : IExit → Slots → Mem → Prop} (acc : List Tk) (m : Mem) (σ : Slots) (x y : Value), i ≤ T.size → m.get b4 = some ⟨[x, y], true⟩ → 1 ≤ l ∧ l ≤ i + 1 → 1 ≤ c ∧ c ≤ i + 1 → acc.length ≤ i → σ 0 = .string T → σ 4 = ptr b4 → TokSl m (fun a => m0.next ≤ a ∧ a ≠ b4) (σ 5) acc → σ 6 = .int .i64 l → σ 7 = .int .i64 (i + 1 - c) → σ 8 = .int .i64 i → m0.next ≤ m.next →
    (∀ e σ' m', RefEnd T m0 b4 (o.pre acc) e σ' m' → m.next ≤ m'.next → (∀ a, a < m0.next → m'.get a = m.get a) → Q e σ' m') → WP Try.prog (.loop ir10_l3) σ m Q := by
  induction hL with
  | @done i l c h0 =>
    intro Q acc m σ x y hi h4 hl hc hacc s0 s4 s5 s6 s7 s8 hm0 hQ
    refine wp_round fun J hJ => ?_
    simp [ir10_l3, s0, s8, h0]
    exact hQ _ _ _ ⟨rfl, by simp [s0], by simp [s4], acc, l, c, rfl, by simpa using s5, by simp [s6], by simp [s7, h0], by omega, by omega, by omega, x, y, h4⟩ (Nat.le_refl _) fun a ha => rfl
  | @nl i l c o h0 h1 hL ih =>
    intro Q acc m σ x y hi h4 hl hc hacc s0 s4 s5 s6 s7 s8 hm0 hQ
    have hlt4 := get_lt h4
    refine wp_round fun J hJ => ?_
    have h0' : (i : Int) < T.size := by omega
    have w1 : IntKind.i64.wrap ((i : Int) - ((i : Int) + 1 - c)) = c - 1 := by rw [i64_id (by omega) (by omega)]; omega
    have w2 : IntKind.i64.wrap (c - 1 + 1) = c := by rw [i64_id (by omega) (by omega)]; omega
    have w3 : IntKind.i64.wrap c = c := by rw [i64_id (by omega) (by omega)]
    have w4 : IntKind.i64.wrap (l + 1) = l + 1 := by rw [i64_id (by omega) (by omega)]
    have w5 : IntKind.i64.wrap ((i : Int) + 1) = (i : Int) + 1 := by rw [i64_id (by omega) (by omega)]
    simp (disch := first | omega | (simp only [next_put, next_bump]; omega)) [ir10_l3, s0, s4, s6, s7, s8, h0, h0', h1, w1, w2, w3, w4, w5, get_put_self, get_put_ne, get_bump, put_put]
    refine hJ _ _ (ih acc _ _ x y (by omega) ?_ (by omega) (by omega) (by omega) (by simp [s0]) (by simp [s4]) ?_ (by simp) (by simp) (by simp) (by simp only [next_put, next_bump]; omega) fun e σ' m' g1 g2 g3 => hQ e σ' m' g1 (by simp only [next_put, next_bump] at g2; omega) fun a ha => ?_)
    · simp (disch := first | omega | (simp only [next_put, next_bump]; omega)) only [get_put_ne, get_bump, h4]
    · refine TokSl.mono (by simpa using s5) fun a z hx hz => ⟨hx, ?_⟩
      have := get_lt hz
      simp (disch := first | omega | (simp only [next_put, next_bump]; omega)) only [get_put_ne, get_bump, hz]
    · rw [g3 a ha]; simp (disch := first | omega | (simp only [next_put, next_bump]; omega)) only [get_put_ne, get_bump]
  | @sp i l c o h0 h1 h2 hL ih =>
    intro Q acc m σ x y hi h4 hl hc hacc s0 s4 s5 s6 s7 s8 hm0 hQ
    have hlt4 := get_lt h4
    refine wp_round fun J hJ => ?_
    have h0' : (i : Int) < T.size := by omega
    have w1 : IntKind.i64.wrap ((i : Int) - ((i : Int) + 1 - c)) = c - 1 := by rw [i64_id (by omega) (by omega)]; omega
    have w2 : IntKind.i64.wrap (c - 1 + 1) = c := by rw [i64_id (by omega) (by omega)]; omega
    have w3 : IntKind.i64.wrap c = c := by rw [i64_id (by omega) (by omega)]
    have w4 : IntKind.i64.wrap (l + 1) = l + 1 := by rw [i64_id (by omega) (by omega)]
    have w5 : IntKind.i64.wrap ((i : Int) + 1) = (i : Int) + 1 := by rw [i64_id (by omega) (by omega)]
    simp (disch := first | omega | (simp only [next_put, next_bump]; omega)) [ir10_l3, s0, s4, s6, s7, s8, h0, h0', w1, w2, w3, w4, w5, get_put_self, get_put_ne, get_bump, put_put, h1, h2]
    refine hJ _ _ (ih acc _ _ x y (by omega) ?_ (by omega) (by omega) (by omega) (by simp [s0, s4, s6, s7, s8]) (by simp [s0, s4, s6, s7, s8]) ?_ (by simp [s0, s4, s6, s7, s8]) (by simp [s0, s4, s6, s7, s8]; omega) (by simp [s0, s4, s6, s7, s8]) (by simp only [next_put, next_bump]; omega) fun e σ' m' g1 g2 g3 => hQ e σ' m' g1 (by simp only [next_put, next_bump] at g2; omega) fun a ha => ?_)
    · simp (disch := first | omega | (simp only [next_put, next_bump]; omega)) only [get_put_ne, get_bump, h4]
    · refine TokSl.mono (by simpa [s0, s4, s6, s7, s8] using s5) fun a z hx hz => ⟨hx, ?_⟩
      have := get_lt hz
      simp (disch := first | omega | (simp only [next_put, next_bump]; omega)) only [get_put_ne, get_bump, hz]
    · rw [g3 a ha]; simp (disch := first | omega | (simp only [next_put, next_bump]; omega)) only [get_put_ne, get_bump]
  | @com i l c o k h0 h1 hk hL ih =>
    intro Q acc m σ x y hi h4 hl hc hacc s0 s4 s5 s6 s7 s8 hm0 hQ
    have hlt4 := get_lt h4
    refine wp_round fun J hJ => ?_
    have h0' : (i : Int) < T.size := by omega
    have w1 : IntKind.i64.wrap ((i : Int) - ((i : Int) + 1 - c)) = c - 1 := by rw [i64_id (by omega) (by omega)]; omega
    have w2 : IntKind.i64.wrap (c - 1 + 1) = c := by rw [i64_id (by omega) (by omega)]; omega
    have w3 : IntKind.i64.wrap c = c := by rw [i64_id (by omega) (by omega)]
    have w4 : IntKind.i64.wrap (l + 1) = l + 1 := by rw [i64_id (by omega) (by omega)]
    have w5 : IntKind.i64.wrap ((i : Int) + 1) = (i : Int) + 1 := by rw [i64_id (by omega) (by omega)]
    have hsp : isSpace 35 = false := rfl
    simp (disch := first | omega | (simp only [next_put, next_bump]; omega)) [ir10_l3, s0, s4, s6, s7, s8, h0, h0', w1, w2, w3, w4, w5, get_put_self, get_put_ne, get_bump, put_put, h1, hsp]
    refine inner0_loop hT (T.size - (i + 1)) i 1 _ _ rfl (by omega) (by simp [s0]) (by simp [s8]) (by simp) fun σ' g g11 => ?_
    have g0 : σ' 0 = .string T := (g 0 (by omega)).trans (by simp [s0])
    have g4 : σ' 4 = ptr b4 := (g 4 (by omega)).trans (by simp [s4])
    have g5 : σ' 5 = σ 5 := (g 5 (by omega)).trans (by simp)
    have g6 : σ' 6 = .int .i64 l := (g 6 (by omega)).trans (by simp [s6])
    have g7 : σ' 7 = .int .i64 (i + 1 - c) := (g 7 (by omega)).trans (by simp [s7])
    have g8 : σ' 8 = .int .i64 i := (g 8 (by omega)).trans (by simp [s8])
    have g10 : σ' 10 = .pointer (some ⟨m.next + 6, 0, none⟩) := (g 10 (by omega)).trans (by simp)
    have hkl := @rw1_le notNl T i
    rw [show (1 + rowN notNl T (T.size - (i + 1)) (i + 1) : Nat) = k by rw [hk, rw1_succ h0 (by rw [h1]; rfl)]] at g11
    rw [← hk] at hkl
    have hk0 : 0 < k := by rw [hk]; exact rw1_pos h0 (by rw [h1]; rfl)
    have w6 : IntKind.i64.wrap ((i : Int) + k) = (i : Int) + k := i64_id (by omega) (by omega)
    simp (disch := first | omega | (simp only [next_put, next_bump]; omega)) [g8, g11, w6]
    refine hJ _ _ (ih acc _ _ x y (by omega) ?_ (by omega) (by omega) (by omega) (by simp [g0, g4, g5, g6, g7, g8]) (by simp [g0, g4, g5, g6, g7, g8]) ?_ (by simp [g0, g4, g5, g6, g7, g8]) (by simp [g0, g4, g5, g6, g7, g8]; omega) (by simp [g0, g4, g5, g6, g7, g8]) (by simp only [next_put, next_bump]; omega) fun e σ' m' g1 g2 g3 => hQ e σ' m' g1 (by simp only [next_put, next_bump] at g2; omega) fun a ha => ?_)
    · simp (disch := first | omega | (simp only [next_put, next_bump]; omega)) only [get_put_ne, get_bump, h4]
    · refine TokSl.mono (by simpa [g0, g4, g5, g6, g7, g8] using s5) fun a z hx hz => ⟨hx, ?_⟩
      have := get_lt hz
      simp (disch := first | omega | (simp only [next_put, next_bump]; omega)) only [get_put_ne, get_bump, hz]
    · rw [g3 a ha]; simp (disch := first | omega | (simp only [next_put, next_bump]; omega)) only [get_put_ne, get_bump]
  | @name i l c o k h0 h1 hk hk2 hL ih =>
    intro Q acc m σ x y hi h4 hl hc hacc s0 s4 s5 s6 s7 s8 hm0 hQ
    have hlt4 := get_lt h4
    refine wp_round fun J hJ => ?_
    have h0' : (i : Int) < T.size := by omega
    have w1 : IntKind.i64.wrap ((i : Int) - ((i : Int) + 1 - c)) = c - 1 := by rw [i64_id (by omega) (by omega)]; omega
    have w2 : IntKind.i64.wrap (c - 1 + 1) = c := by rw [i64_id (by omega) (by omega)]; omega
    have w3 : IntKind.i64.wrap c = c := by rw [i64_id (by omega) (by omega)]
    have w4 : IntKind.i64.wrap (l + 1) = l + 1 := by rw [i64_id (by omega) (by omega)]
    have w5 : IntKind.i64.wrap ((i : Int) + 1) = (i : Int) + 1 := by rw [i64_id (by omega) (by omega)]
    obtain ⟨t1, t2, t3⟩ := letter_not h1
    simp (disch := first | omega | (simp only [next_put, next_bump]; omega)) [ir10_l3, s0, s4, s6, s7, s8, h0, h0', w1, w2, w3, w4, w5, get_put_self, get_put_ne, get_bump, put_put, h1, t1, t2, t3]
    refine inner1_loop hT (T.size - (i + 1)) i 1 _ _ rfl (by omega) (by simp [s0]) (by simp [s8]) (by simp) fun σ' g g11 => ?_
    have g0 : σ' 0 = .string T := (g 0 (by omega)).trans (by simp [s0])
    have g4 : σ' 4 = ptr b4 := (g 4 (by omega)).trans (by simp [s4])
    have g5 : σ' 5 = σ 5 := (g 5 (by omega)).trans (by simp)
    have g6 : σ' 6 = .int .i64 l := (g 6 (by omega)).trans (by simp [s6])
    have g7 : σ' 7 = .int .i64 (i + 1 - c) := (g 7 (by omega)).trans (by simp [s7])
    have g8 : σ' 8 = .int .i64 i := (g 8 (by omega)).trans (by simp [s8])
    have g10 : σ' 10 = .pointer (some ⟨m.next + 6, 0, none⟩) := (g 10 (by omega)).trans (by simp)
    have hkl := @rw1_le isInner T i
    rw [show (1 + rowN isInner T (T.size - (i + 1)) (i + 1) : Nat) = k by rw [hk, rw1_succ h0 (letter_inner h1)]] at g11
    rw [← hk] at hkl
    have hk0 : 0 < k := by rw [hk]; exact rw1_pos h0 (letter_inner h1)
    have w6 : IntKind.i64.wrap ((i : Int) + k) = (i : Int) + k := i64_id (by omega) (by omega)
    have hz : ¬ (16 : Int) < k := by omega
    have e1 : ((i : Int) + k).toNat = i + k := by omega
    have e2 : (i : Int) ≤ i + k ∧ (i : Int) + k ≤ T.size := by omega
    rw [← g5] at s5
    rcases s5 with ⟨rfl, s5⟩ | ⟨a, ⟨ha, hab4⟩, s5, hga⟩
    · simp (disch := first | omega | (simp only [next_put, next_bump]; omega)) [g0, g4, g6, g7, g8, g10, g11, w6, hz, e1, e2, get_put_self, get_put_ne, get_bump, put_put, s5]
      refine hJ _ _ (ih ([] ++ [⟨1, T.extract i (i + k), l, c⟩]) _ _ x y (by omega) ?_ (by omega) (by omega) (by simp <;> omega) (by simp [g0, g4, g6, g7, g8, g10, g11]) (by simp [g0, g4, g6, g7, g8, g10, g11]) (.inr ⟨m.next + 8 + 10, ⟨by omega, by omega⟩, by simp, ?_⟩) (by simp [g0, g4, g6, g7, g8, g10, g11]) (by simp [g0, g4, g6, g7, g8, g10, g11]; omega) (by simp [g0, g4, g6, g7, g8, g10, g11]) (by simp only [next_put, next_bump]; omega) fun e σ' m' g1 g2 g3 => hQ e σ' m' (by rw [Out.pre_pre]; exact g1) (by simp only [next_put, next_bump] at g2; omega) fun a ha => ?_)
      · simp (disch := first | omega | (simp only [next_put, next_bump]; omega)) only [get_put_ne, get_bump, h4]
      · simp (disch := first | omega | (simp only [next_put, next_bump]; omega)) [get_put_self, get_put_ne, cells4_append]; simp [cells4, tokCells]
      · rw [g3 a ha]; simp (disch := first | omega | (simp only [next_put, next_bump]; omega)) only [get_put_ne, get_bump]
    · have hlta := get_lt hga
      simp (disch := first | omega | (simp only [next_put, next_bump]; omega)) [g0, g4, g6, g7, g8, g10, g11, w6, hz, e1, e2, get_put_self, get_put_ne, get_bump, put_put, s5, hga]
      refine ⟨⟨by omega, by omega⟩, ?_⟩
      refine hJ _ _ (ih (acc ++ [⟨1, T.extract i (i + k), l, c⟩]) _ _ x y (by omega) ?_ (by omega) (by omega) (by simp <;> omega) (by simp [g0, g4, g6, g7, g8, g10, g11]) (by simp [g0, g4, g6, g7, g8, g10, g11]) (.inr ⟨m.next + 8 + 10, ⟨by omega, by omega⟩, by simp, ?_⟩) (by simp [g0, g4, g6, g7, g8, g10, g11]) (by simp [g0, g4, g6, g7, g8, g10, g11]; omega) (by simp [g0, g4, g6, g7, g8, g10, g11]) (by simp only [next_put, next_bump]; omega) fun e σ' m' g1 g2 g3 => hQ e σ' m' (by rw [Out.pre_pre]; exact g1) (by simp only [next_put, next_bump] at g2; omega) fun a ha => ?_)
      · simp (disch := first | omega | (simp only [next_put, next_bump]; omega)) only [get_put_ne, get_bump, h4]
      · simp (disch := first | omega | (simp only [next_put, next_bump]; omega)) [get_put_self, get_put_ne, cells4_append]; simp [cells4, tokCells]
      · rw [g3 a ha]; simp (disch := first | omega | (simp only [next_put, next_bump]; omega)) only [get_put_ne, get_bump]
  | @nameX i l c k h0 h1 hk hk2 =>
    intro Q acc m σ x y hi h4 hl hc hacc s0 s4 s5 s6 s7 s8 hm0 hQ
    have hlt4 := get_lt h4
    refine wp_round fun J hJ => ?_
    have h0' : (i : Int) < T.size := by omega
    have w1 : IntKind.i64.wrap ((i : Int) - ((i : Int) + 1 - c)) = c - 1 := by rw [i64_id (by omega) (by omega)]; omega
    have w2 : IntKind.i64.wrap (c - 1 + 1) = c := by rw [i64_id (by omega) (by omega)]; omega
    have w3 : IntKind.i64.wrap c = c := by rw [i64_id (by omega) (by omega)]
    have w4 : IntKind.i64.wrap (l + 1) = l + 1 := by rw [i64_id (by omega) (by omega)]
    have w5 : IntKind.i64.wrap ((i : Int) + 1) = (i : Int) + 1 := by rw [i64_id (by omega) (by omega)]
    obtain ⟨t1, t2, t3⟩ := letter_not h1
    simp (disch := first | omega | (simp only [next_put, next_bump]; omega)) [ir10_l3, s0, s4, s6, s7, s8, h0, h0', w1, w2, w3, w4, w5, get_put_self, get_put_ne, get_bump, put_put, h1, t1, t2, t3]
    refine inner1_loop hT (T.size - (i + 1)) i 1 _ _ rfl (by omega) (by simp [s0]) (by simp [s8]) (by simp) fun σ' g g11 => ?_
    have g0 : σ' 0 = .string T := (g 0 (by omega)).trans (by simp [s0])
    have g4 : σ' 4 = ptr b4 := (g 4 (by omega)).trans (by simp [s4])
    have g5 : σ' 5 = σ 5 := (g 5 (by omega)).trans (by simp)
    have g6 : σ' 6 = .int .i64 l := (g 6 (by omega)).trans (by simp [s6])
    have g7 : σ' 7 = .int .i64 (i + 1 - c) := (g 7 (by omega)).trans (by simp [s7])
    have g8 : σ' 8 = .int .i64 i := (g 8 (by omega)).trans (by simp [s8])
    have g10 : σ' 10 = .pointer (some ⟨m.next + 6, 0, none⟩) := (g 10 (by omega)).trans (by simp)
    have hkl := @rw1_le isInner T i
    rw [show (1 + rowN isInner T (T.size - (i + 1)) (i + 1) : Nat) = k by rw [hk, rw1_succ h0 (letter_inner h1)]] at g11
    rw [← hk] at hkl
    have hk0 : 0 < k := by rw [hk]; exact rw1_pos h0 (letter_inner h1)
    have w6 : IntKind.i64.wrap ((i : Int) + k) = (i : Int) + k := i64_id (by omega) (by omega)
    have hz : (16 : Int) < k := by omega
    have h4' := h4
    simp (disch := first | omega | (simp only [next_put, next_bump]; omega)) [g4, g10, g11, w6, hz, h4, get_put_self, get_put_ne, get_bump, put_put]
    refine hQ _ _ _ ⟨rfl, by simp [g4], by simp, by simp, by simp (disch := first | omega | (simp only [next_put, next_bump]; omega)) only [get_put_self]⟩ (by simp only [next_put, next_bump]; omega) fun a ha => ?_
    simp (disch := first | omega | (simp only [next_put, next_bump]; omega)) only [get_put_ne, get_bump]
  | @num i l c o k h0 h1 hk hk2 hL ih =>
    intro Q acc m σ x y hi h4 hl hc hacc s0 s4 s5 s6 s7 s8 hm0 hQ
    have hlt4 := get_lt h4
    refine wp_round fun J hJ => ?_
    have h0' : (i : Int) < T.size := by omega
    have w1 : IntKind.i64.wrap ((i : Int) - ((i : Int) + 1 - c)) = c - 1 := by rw [i64_id (by omega) (by omega)]; omega
    have w2 : IntKind.i64.wrap (c - 1 + 1) = c := by rw [i64_id (by omega) (by omega)]; omega
    have w3 : IntKind.i64.wrap c = c := by rw [i64_id (by omega) (by omega)]
    have w4 : IntKind.i64.wrap (l + 1) = l + 1 := by rw [i64_id (by omega) (by omega)]
    have w5 : IntKind.i64.wrap ((i : Int) + 1) = (i : Int) + 1 := by rw [i64_id (by omega) (by omega)]
    obtain ⟨t1, t2, t3, t4⟩ := digit_not h1
    simp (disch := first | omega | (simp only [next_put, next_bump]; omega)) [ir10_l3, s0, s4, s6, s7, s8, h0, h0', w1, w2, w3, w4, w5, get_put_self, get_put_ne, get_bump, put_put, h1, t1, t2, t3, t4]
    refine inner2_loop hT (T.size - (i + 1)) i 1 _ _ rfl (by omega) (by simp [s0]) (by simp [s8]) (by simp) fun σ' g g11 => ?_
    have g0 : σ' 0 = .string T := (g 0 (by omega)).trans (by simp [s0])
    have g4 : σ' 4 = ptr b4 := (g 4 (by omega)).trans (by simp [s4])
    have g5 : σ' 5 = σ 5 := (g 5 (by omega)).trans (by simp)
    have g6 : σ' 6 = .int .i64 l := (g 6 (by omega)).trans (by simp [s6])
    have g7 : σ' 7 = .int .i64 (i + 1 - c) := (g 7 (by omega)).trans (by simp [s7])
    have g8 : σ' 8 = .int .i64 i := (g 8 (by omega)).trans (by simp [s8])
    have g10 : σ' 10 = .pointer (some ⟨m.next + 6, 0, none⟩) := (g 10 (by omega)).trans (by simp)
    have hkl := @rw1_le isDigit T i
    rw [show (1 + rowN isDigit T (T.size - (i + 1)) (i + 1) : Nat) = k by rw [hk, rw1_succ h0 (h1)]] at g11
    rw [← hk] at hkl
    have hk0 : 0 < k := by rw [hk]; exact rw1_pos h0 (h1)
    have w6 : IntKind.i64.wrap ((i : Int) + k) = (i : Int) + k := i64_id (by omega) (by omega)
    have hz : ¬ (40 : Int) < k := by omega
    have e1 : ((i : Int) + k).toNat = i + k := by omega
    have e2 : (i : Int) ≤ i + k ∧ (i : Int) + k ≤ T.size := by omega
    rw [← g5] at s5
    rcases s5 with ⟨rfl, s5⟩ | ⟨a, ⟨ha, hab4⟩, s5, hga⟩
    · simp (disch := first | omega | (simp only [next_put, next_bump]; omega)) [g0, g4, g6, g7, g8, g10, g11, w6, hz, e1, e2, get_put_self, get_put_ne, get_bump, put_put, s5]
      refine hJ _ _ (ih ([] ++ [⟨2, T.extract i (i + k), l, c⟩]) _ _ x y (by omega) ?_ (by omega) (by omega) (by simp <;> omega) (by simp [g0, g4, g6, g7, g8, g10, g11]) (by simp [g0, g4, g6, g7, g8, g10, g11]) (.inr ⟨m.next + 8 + 10, ⟨by omega, by omega⟩, by simp, ?_⟩) (by simp [g0, g4, g6, g7, g8, g10, g11]) (by simp [g0, g4, g6, g7, g8, g10, g11]; omega) (by simp [g0, g4, g6, g7, g8, g10, g11]) (by simp only [next_put, next_bump]; omega) fun e σ' m' g1 g2 g3 => hQ e σ' m' (by rw [Out.pre_pre]; exact g1) (by simp only [next_put, next_bump] at g2; omega) fun a ha => ?_)
      · simp (disch := first | omega | (simp only [next_put, next_bump]; omega)) only [get_put_ne, get_bump, h4]
      · simp (disch := first | omega | (simp only [next_put, next_bump]; omega)) [get_put_self, get_put_ne, cells4_append]; simp [cells4, tokCells]
      · rw [g3 a ha]; simp (disch := first | omega | (simp only [next_put, next_bump]; omega)) only [get_put_ne, get_bump]
    · have hlta := get_lt hga
      simp (disch := first | omega | (simp only [next_put, next_bump]; omega)) [g0, g4, g6, g7, g8, g10, g11, w6, hz, e1, e2, get_put_self, get_put_ne, get_bump, put_put, s5, hga]
      refine ⟨⟨by omega, by omega⟩, ?_⟩
      refine hJ _ _ (ih (acc ++ [⟨2, T.extract i (i + k), l, c⟩]) _ _ x y (by omega) ?_ (by omega) (by omega) (by simp <;> omega) (by simp [g0, g4, g6, g7, g8, g10, g11]) (by simp [g0, g4, g6, g7, g8, g10, g11]) (.inr ⟨m.next + 8 + 10, ⟨by omega, by omega⟩, by simp, ?_⟩) (by simp [g0, g4, g6, g7, g8, g10, g11]) (by simp [g0, g4, g6, g7, g8, g10, g11]; omega) (by simp [g0, g4, g6, g7, g8, g10, g11]) (by simp only [next_put, next_bump]; omega) fun e σ' m' g1 g2 g3 => hQ e σ' m' (by rw [Out.pre_pre]; exact g1) (by simp only [next_put, next_bump] at g2; omega) fun a ha => ?_)
      · simp (disch := first | omega | (simp only [next_put, next_bump]; omega)) only [get_put_ne, get_bump, h4]
      · simp (disch := first | omega | (simp only [next_put, next_bump]; omega)) [get_put_self, get_put_ne, cells4_append]; simp [cells4, tokCells]
      · rw [g3 a ha]; simp (disch := first | omega | (simp only [next_put, next_bump]; omega)) only [get_put_ne, get_bump]
  | @numX i l c k h0 h1 hk hk2 =>
    intro Q acc m σ x y hi h4 hl hc hacc s0 s4 s5 s6 s7 s8 hm0 hQ
    have hlt4 := get_lt h4
    refine wp_round fun J hJ => ?_
    have h0' : (i : Int) < T.size := by omega
    have w1 : IntKind.i64.wrap ((i : Int) - ((i : Int) + 1 - c)) = c - 1 := by rw [i64_id (by omega) (by omega)]; omega
    have w2 : IntKind.i64.wrap (c - 1 + 1) = c := by rw [i64_id (by omega) (by omega)]; omega
    have w3 : IntKind.i64.wrap c = c := by rw [i64_id (by omega) (by omega)]
    have w4 : IntKind.i64.wrap (l + 1) = l + 1 := by rw [i64_id (by omega) (by omega)]
    have w5 : IntKind.i64.wrap ((i : Int) + 1) = (i : Int) + 1 := by rw [i64_id (by omega) (by omega)]
    obtain ⟨t1, t2, t3, t4⟩ := digit_not h1
    simp (disch := first | omega | (simp only [next_put, next_bump]; omega)) [ir10_l3, s0, s4, s6, s7, s8, h0, h0', w1, w2, w3, w4, w5, get_put_self, get_put_ne, get_bump, put_put, h1, t1, t2, t3, t4]
    refine inner2_loop hT (T.size - (i + 1)) i 1 _ _ rfl (by omega) (by simp [s0]) (by simp [s8]) (by simp) fun σ' g g11 => ?_
    have g0 : σ' 0 = .string T := (g 0 (by omega)).trans (by simp [s0])
    have g4 : σ' 4 = ptr b4 := (g 4 (by omega)).trans (by simp [s4])
    have g5 : σ' 5 = σ 5 := (g 5 (by omega)).trans (by simp)
    have g6 : σ' 6 = .int .i64 l := (g 6 (by omega)).trans (by simp [s6])
    have g7 : σ' 7 = .int .i64 (i + 1 - c) := (g 7 (by omega)).trans (by simp [s7])
    have g8 : σ' 8 = .int .i64 i := (g 8 (by omega)).trans (by simp [s8])
    have g10 : σ' 10 = .pointer (some ⟨m.next + 6, 0, none⟩) := (g 10 (by omega)).trans (by simp)
    have hkl := @rw1_le isDigit T i
    rw [show (1 + rowN isDigit T (T.size - (i + 1)) (i + 1) : Nat) = k by rw [hk, rw1_succ h0 (h1)]] at g11
    rw [← hk] at hkl
    have hk0 : 0 < k := by rw [hk]; exact rw1_pos h0 (h1)
    have w6 : IntKind.i64.wrap ((i : Int) + k) = (i : Int) + k := i64_id (by omega) (by omega)
    have hz : (40 : Int) < k := by omega
    have h4' := h4
    simp (disch := first | omega | (simp only [next_put, next_bump]; omega)) [g4, g10, g11, w6, hz, h4, get_put_self, get_put_ne, get_bump, put_put]
    refine hQ _ _ _ ⟨rfl, by simp [g4], by simp, by simp, by simp (disch := first | omega | (simp only [next_put, next_bump]; omega)) only [get_put_self]⟩ (by simp only [next_put, next_bump]; omega) fun a ha => ?_
    simp (disch := first | omega | (simp only [next_put, next_bump]; omega)) only [get_put_ne, get_bump]
  | @sign i l c o h0 h1 hL ih =>
    intro Q acc m σ x y hi h4 hl hc hacc s0 s4 s5 s6 s7 s8 hm0 hQ
    have hlt4 := get_lt h4
    refine wp_round fun J hJ => ?_
    have h0' : (i : Int) < T.size := by omega
    have w1 : IntKind.i64.wrap ((i : Int) - ((i : Int) + 1 - c)) = c - 1 := by rw [i64_id (by omega) (by omega)]; omega
    have w2 : IntKind.i64.wrap (c - 1 + 1) = c := by rw [i64_id (by omega) (by omega)]; omega
    have w3 : IntKind.i64.wrap c = c := by rw [i64_id (by omega) (by omega)]
    have w4 : IntKind.i64.wrap (l + 1) = l + 1 := by rw [i64_id (by omega) (by omega)]
    have w5 : IntKind.i64.wrap ((i : Int) + 1) = (i : Int) + 1 := by rw [i64_id (by omega) (by omega)]
    obtain ⟨t1, t2, t3, t4, t5⟩ := sign_not h1
    have e1 : ((i : Int) + 1).toNat = i + 1 := by omega
    have e2 : (i : Int) ≤ i + 1 ∧ (i : Int) + 1 ≤ T.size := by omega
    rcases s5 with ⟨rfl, s5⟩ | ⟨a, ⟨ha, hab4⟩, s5, hga⟩
    · simp (disch := first | omega | (simp only [next_put, next_bump]; omega)) [ir10_l3, s0, s4, s6, s7, s8, h0, h0', w1, w2, w3, w4, w5, get_put_self, get_put_ne, get_bump, put_put, h1, t1, t2, t3, t4, t5, e1, e2, s5]
      refine hJ _ _ (ih ([] ++ [⟨3, T.extract i (i + 1), l, c⟩]) _ _ x y (by omega) ?_ (by omega) (by omega) (by simp <;> omega) (by simp [s0, s4, s6, s7, s8]) (by simp [s0, s4, s6, s7, s8]) (.inr ⟨m.next + 8 + 9, ⟨by omega, by omega⟩, by simp, ?_⟩) (by simp [s0, s4, s6, s7, s8]) (by simp [s0, s4, s6, s7, s8]; omega) (by simp [s0, s4, s6, s7, s8]) (by simp only [next_put, next_bump]; omega) fun e σ' m' g1 g2 g3 => hQ e σ' m' (by rw [Out.pre_pre]; exact g1) (by simp only [next_put, next_bump] at g2; omega) fun a ha => ?_)
      · simp (disch := first | omega | (simp only [next_put, next_bump]; omega)) only [get_put_ne, get_bump, h4]
      · simp (disch := first | omega | (simp only [next_put, next_bump]; omega)) [get_put_self, get_put_ne, cells4_append]; simp [cells4, tokCells]
      · rw [g3 a ha]; simp (disch := first | omega | (simp only [next_put, next_bump]; omega)) only [get_put_ne, get_bump]
    · have hlta := get_lt hga
      simp (disch := first | omega | (simp only [next_put, next_bump]; omega)) [ir10_l3, s0, s4, s6, s7, s8, h0, h0', w1, w2, w3, w4, w5, get_put_self, get_put_ne, get_bump, put_put, h1, t1, t2, t3, t4, t5, e1, e2, s5, hga]
      refine ⟨⟨by omega, by omega⟩, ?_⟩
      refine hJ _ _ (ih (acc ++ [⟨3, T.extract i (i + 1), l, c⟩]) _ _ x y (by omega) ?_ (by omega) (by omega) (by simp <;> omega) (by simp [s0, s4, s6, s7, s8]) (by simp [s0, s4, s6, s7, s8]) (.inr ⟨m.next + 8 + 9, ⟨by omega, by omega⟩, by simp, ?_⟩) (by simp [s0, s4, s6, s7, s8]) (by simp [s0, s4, s6, s7, s8]; omega) (by simp [s0, s4, s6, s7, s8]) (by simp only [next_put, next_bump]; omega) fun e σ' m' g1 g2 g3 => hQ e σ' m' (by rw [Out.pre_pre]; exact g1) (by simp only [next_put, next_bump] at g2; omega) fun a ha => ?_)
      · simp (disch := first | omega | (simp only [next_put, next_bump]; omega)) only [get_put_ne, get_bump, h4]
      · simp (disch := first | omega | (simp only [next_put, next_bump]; omega)) [get_put_self, get_put_ne, cells4_append]; simp [cells4, tokCells]
      · rw [g3 a ha]; simp (disch := first | omega | (simp only [next_put, next_bump]; omega)) only [get_put_ne, get_bump]
  | @bad i l c h0 h1 h2 h3 h4 h5 =>
    intro Q acc m σ x y hi hb4 hl hc hacc s0 s4 s5 s6 s7 s8 hm0 hQ
    have hlt4 := get_lt hb4
    refine wp_round fun J hJ => ?_
    have h0' : (i : Int) < T.size := by omega
    have w1 : IntKind.i64.wrap ((i : Int) - ((i : Int) + 1 - c)) = c - 1 := by rw [i64_id (by omega) (by omega)]; omega
    have w2 : IntKind.i64.wrap (c - 1 + 1) = c := by rw [i64_id (by omega) (by omega)]; omega
    have w3 : IntKind.i64.wrap c = c := by rw [i64_id (by omega) (by omega)]
    have w4 : IntKind.i64.wrap (l + 1) = l + 1 := by rw [i64_id (by omega) (by omega)]
    have w5 : IntKind.i64.wrap ((i : Int) + 1) = (i : Int) + 1 := by rw [i64_id (by omega) (by omega)]
    have t : byI T i ≠ 10 := fun h => by rw [h] at h1; cases h1
    simp (disch := first | omega | (simp only [next_put, next_bump]; omega)) [ir10_l3, s0, s4, s6, s7, s8, h0, h0', w1, w2, w3, w4, w5, get_put_self, get_put_ne, get_bump, put_put, h1, h2, h3, h4, h5, t, hb4]
    refine hQ _ _ _ ⟨rfl, by simp [s4], by simp, by simp, by simp (disch := first | omega | (simp only [next_put, next_bump]; omega)) only [get_put_self]⟩ (by simp only [next_put, next_bump]; omega) fun a ha => ?_
    simp (disch := first | omega | (simp only [next_put, next_bump]; omega)) only [get_put_ne, get_bump]

end Go.Proofs.Ytaoijkldbipplaa
