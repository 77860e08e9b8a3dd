/-
  The heap of mincost: 'up' and 'down' permute; container/heap's Push and Pop.
-/
import Derived.Test.YtapnkfkpkcajjaaMcA
namespace Go.Proofs.Ytapnkfkpkcajjaa
open Go Go.DI Go.Nets
set_option linter.unusedSimpArgs false
set_option linter.unusedVariables false

/-- the queue's stops were permuted in their place -/
def PPost (m : Mem) (q b : Nat) (l : List Stop) (m' : Mem) : Prop := ∃ l', l'.Perm l ∧ Qu m' q b l' ∧ KeepQ m m' q b b
theorem KeepQ.refl {m : Mem} {q b : Nat} : KeepQ m m q b b := ⟨Nat.le_refl _, fun _ _ _ _ => rfl, .inl rfl⟩
theorem KeepQ.trans {m m' m'' : Mem} {q b : Nat} (h : KeepQ m m' q b b) (h' : KeepQ m' m'' q b b) : KeepQ m m'' q b b :=
  ⟨Nat.le_trans h.next h'.next, fun c h1 h2 h3 => by rw [h'.get c (Nat.lt_of_lt_of_le h1 h.next) h2 h3, h.get c h1 h2 h3], .inl rfl⟩
theorem PPost.refl {m : Mem} {q b : Nat} {l : List Stop} (h : Qu m q b l) : PPost m q b l m := ⟨l, .refl _, h, .refl⟩
theorem PPost.trans {m m' m'' : Mem} {q b : Nat} {l l' : List Stop} (hp : l'.Perm l) (hk : KeepQ m m' q b b) (h : PPost m' q b l' m'') : PPost m q b l m'' := by
  obtain ⟨l2, h1, h2, h3⟩ := h
  exact ⟨l2, h1.trans hp, h2, hk.trans h3⟩

theorem lessI {m : Mem} {q b : Nat} {l : List Stop} (h : Qu m q b l) {i j : Nat} {x y : Stop} (hi : l[i]? = some x) (hj : l[j]? = some y) (Φ : Value → Mem → Prop) :
    icallW Try.prog [(77, 75, some (false, 1))] (.iface 77 (ptr q)) [I i, I j] m Φ = Φ (.bool (decide (x.2 < y.2))) m := by
  obtain ⟨hq, ⟨r, hb⟩, hne⟩ := h
  simp [hq, addrOk, loadV, cellsAt, less_wp hb hi hj]
theorem swapI {m : Mem} {q b : Nat} {l : List Stop} (h : Qu m q b l) {i j : Nat} (hi : i < l.length) (hj : j < l.length) (Φ : Value → Mem → Prop) (hΦ : ∀ m' l', l'.Perm l → l'.length = l.length → Qu m' q b l' → KeepQ m m' q b b → Φ (.tuple #[]) m') :
    icallW Try.prog [(77, 78, some (false, 1))] (.iface 77 (ptr q)) [I i, I j] m Φ := by
  obtain ⟨hq, ⟨r, hb⟩, hne⟩ := h
  have hbn := get_lt hb
  simp only [icallW_load, if_true, hq, addrOk, loadV, cellsAt]
  refine ⟨by simp, ?_⟩
  have := swap_wp hb (List.getElem?_eq_getElem hi) (List.getElem?_eq_getElem hj) Φ
  simp only [List.drop_zero, List.take_succ_cons, List.take_zero, List.headD_cons, Bool.false_eq_true, if_false] at this ⊢
  rw [this]
  refine hΦ _ _ (List.set_set_perm hi hj) (by simp) ⟨?_, ⟨r, ?_⟩, hne⟩ ⟨by simp only [next_put]; omega, fun c h1 h2 h3 => by rw [get_put_ne h3], .inl rfl⟩
  · rw [get_put_ne hne, hq]; simp
  · rw [get_put_self hbn]

theorem up_loop {q b : Nat} {Q : IExit → Slots → Mem → Prop} : ∀ (k j : Nat), j ≤ k → ∀ {m : Mem} {σ : Slots} {l : List Stop}, Qu m q b l → l.length < 1000000000 → j < l.length → σ 0 = .iface 77 (ptr q) → σ 1 = I j →
    (∀ σ' m', PPost m q b l m' → Q (.exit 0) σ' m') → WP Try.prog (.loop ir58_l0) σ m Q := by
  intro k
  induction k with
  | zero =>
    intro j hj m σ l h hl hjl s0 s1 hQ
    obtain rfl : j = 0 := by omega
    refine wp_round fun J hJ => ?_
    have w1 : IntKind.i64.wrap (-1) = -1 := i64_id (by omega) (by omega)
    have w2 : IntKind.i64.wrap 0 = 0 := i64_id (by omega) (by omega)
    have d1 : Int.tdiv (-1) 2 = 0 := by decide
    simp [ir58_l0, s0, s1, w1, w2, d1]
    exact hQ _ _ (.refl h)
  | succ k ih =>
    intro j hj m σ l h hl hjl s0 s1 hQ
    by_cases hj0 : j = 0
    · exact ih j (by omega) h hl hjl s0 s1 hQ
    obtain ⟨i, rfl⟩ : ∃ i, j = i + 1 := ⟨j - 1, by omega⟩
    refine wp_round fun J hJ => ?_
    obtain ⟨p, hp⟩ : ∃ p, p = i / 2 := ⟨_, rfl⟩
    have hil : p < l.length := by omega
    have w1 : IntKind.i64.wrap (i : Int) = i := i64_id (by omega) (by omega)
    have w2 : IntKind.i64.wrap (p : Int) = p := i64_id (by omega) (by omega)
    have d1 : Int.tdiv (i : Int) 2 = (p : Int) := by subst hp; rfl
    have d2 : ¬ (p : Int) = (i : Int) + 1 := by omega
    have hle : ∀ Φ, icallW Try.prog [(77, 75, some (false, 1))] (.iface 77 (ptr q)) [I ((i : Int) + 1), I (p : Int)] m Φ = Φ (.bool (decide (l[i + 1].2 < l[p].2))) m := fun Φ => lessI h (List.getElem?_eq_getElem hjl) (List.getElem?_eq_getElem hil) Φ
    have s1' : σ 1 = I ((i : Int) + 1) := s1
    by_cases hlt : l[i + 1].2 < l[p].2
    · simp [-icallW_load, -icallW_val, ir58_l0, s0, s1', w1, w2, d1, d2, hle, hlt]
      refine swapI h (i := p) (j := i + 1) hil hjl _ fun m' l' hp' hl' h' hk => ?_
      simp
      exact hJ _ _ (ih p (by omega) h' (by omega) (by omega) (by simp [s0]) (by simp) fun σ' m'' hP => hQ _ _ (hP.trans hp' hk))
    · simp [-icallW_load, -icallW_val, ir58_l0, s0, s1', w1, w2, d1, d2, hle, hlt]
      exact hQ _ _ (.refl h)

theorem up_wp {m : Mem} {q b j : Nat} {l : List Stop} (h : Qu m q b l) (hl : l.length < 1000000000) (hj : j < l.length) (Φ : Value → Mem → Prop) (hΦ : ∀ m', PPost m q b l m' → Φ (.tuple #[]) m') :
    WPCall Try.prog 58 [.iface 77 (ptr q), I j] m Φ := by
  rw [call58 (by simp)]
  simp only [ir58_b, wp_block']
  refine up_loop j j (Nat.le_refl _) h hl hj (by simp) (by simp) fun σ' m' hP => ?_
  simp
  exact hΦ _ hP

theorem down_loop {q b n : Nat} {Q : IExit → Slots → Mem → Prop} : ∀ (k i : Nat), n ≤ i + k → ∀ {m : Mem} {σ : Slots} {l : List Stop}, Qu m q b l → l.length < 1000000000 → i < l.length → n ≤ l.length → σ 0 = .iface 77 (ptr q) → σ 2 = I n → σ 7 = I i →
    (∀ σ' m', PPost m q b l m' → (∃ x : Int, σ' 7 = I x) → σ' 1 = σ 1 → Q (.exit 0) σ' m') → WP Try.prog (.loop ir57_l0) σ m Q := by
  intro k
  induction k with
  | zero =>
    intro i hi m σ l h hl hil hn s0 s2 s7 hQ
    refine wp_round fun J hJ => ?_
    have w1 : IntKind.i64.wrap (2 * (i : Int)) = 2 * i := i64_id (by omega) (by omega)
    have w2 : IntKind.i64.wrap (2 * (i : Int) + 1) = 2 * i + 1 := i64_id (by omega) (by omega)
    have c1 : (n : Int) ≤ 2 * (i : Int) + 1 := by omega
    simp [-icallW_load, -icallW_val, ir57_l0, s0, s2, s7, w1, w2, c1]
    exact hQ _ _ (.refl h) ⟨i, by simp [s7]⟩ (by simp)
  | succ k ih =>
    intro i hi m σ l h hl hil hn s0 s2 s7 hQ
    refine wp_round fun J hJ => ?_
    have w1 : IntKind.i64.wrap (2 * (i : Int)) = 2 * i := i64_id (by omega) (by omega)
    have w2 : IntKind.i64.wrap (2 * (i : Int) + 1) = 2 * i + 1 := i64_id (by omega) (by omega)
    have w3 : IntKind.i64.wrap (2 * (i : Int) + 1 + 1) = 2 * i + 1 + 1 := i64_id (by omega) (by omega)
    by_cases c1 : (n : Int) ≤ 2 * (i : Int) + 1
    · simp [-icallW_load, -icallW_val, ir57_l0, s0, s2, s7, w1, w2, c1]
      exact hQ _ _ (.refl h) ⟨i, by simp [s7]⟩ (by simp)
    have c2 : ¬ (2 * (i : Int) + 1 < 0) := by omega
    have hjl : 2 * i + 1 < l.length := by omega
    have hle1 : ∀ Φ, icallW Try.prog [(77, 75, some (false, 1))] (.iface 77 (ptr q)) [I (2 * (i : Int) + 1), I (i : Int)] m Φ = Φ (.bool (decide (l[2 * i + 1].2 < l[i].2))) m := fun Φ => lessI h (List.getElem?_eq_getElem hjl) (List.getElem?_eq_getElem hil) Φ
    by_cases c3 : 2 * (i : Int) + 1 + 1 < n
    · have hj2 : 2 * i + 1 + 1 < l.length := by omega
      have hle2 : ∀ Φ, icallW Try.prog [(77, 75, some (false, 1))] (.iface 77 (ptr q)) [I (2 * (i : Int) + 1 + 1), I (2 * (i : Int) + 1)] m Φ = Φ (.bool (decide (l[2 * i + 1 + 1].2 < l[2 * i + 1].2))) m := fun Φ => lessI h (List.getElem?_eq_getElem hj2) (List.getElem?_eq_getElem hjl) Φ
      have hle3 : ∀ Φ, icallW Try.prog [(77, 75, some (false, 1))] (.iface 77 (ptr q)) [I (2 * (i : Int) + 1 + 1), I (i : Int)] m Φ = Φ (.bool (decide (l[2 * i + 1 + 1].2 < l[i].2))) m := fun Φ => lessI h (List.getElem?_eq_getElem hj2) (List.getElem?_eq_getElem hil) Φ
      by_cases h21 : l[2 * i + 1 + 1].2 < l[2 * i + 1].2
      · by_cases hlt : l[2 * i + 1 + 1].2 < l[i].2
        · simp [-icallW_load, -icallW_val, ir57_l0, s0, s2, s7, w1, w2, w3, c1, c2, c3, hle2, hle3, h21, hlt]
          refine swapI h (i := i) (j := 2 * i + 1 + 1) hil (by omega) _ fun m' l' hp' hl' h' hk => ?_
          simp
          exact hJ _ _ (ih (2 * i + 1 + 1) (by omega) h' (by omega) (by omega) (by omega) (by simp [s0]) (by simp [s2]) (by simp) fun σ' m'' hP h7 h1 => hQ _ _ (hP.trans hp' hk) h7 (by rw [h1]; simp))
        · simp [-icallW_load, -icallW_val, ir57_l0, s0, s2, s7, w1, w2, w3, c1, c2, c3, hle2, hle3, h21, hlt]
          exact hQ _ _ (.refl h) ⟨i, by simp [s7]⟩ (by simp)
      · by_cases hlt : l[2 * i + 1].2 < l[i].2
        · simp [-icallW_load, -icallW_val, ir57_l0, s0, s2, s7, w1, w2, w3, c1, c2, c3, hle1, hle2, h21, hlt]
          refine swapI h (i := i) (j := 2 * i + 1) hil (by omega) _ fun m' l' hp' hl' h' hk => ?_
          simp
          exact hJ _ _ (ih (2 * i + 1) (by omega) h' (by omega) (by omega) (by omega) (by simp [s0]) (by simp [s2]) (by simp) fun σ' m'' hP h7 h1 => hQ _ _ (hP.trans hp' hk) h7 (by rw [h1]; simp))
        · simp [-icallW_load, -icallW_val, ir57_l0, s0, s2, s7, w1, w2, w3, c1, c2, c3, hle1, hle2, h21, hlt]
          exact hQ _ _ (.refl h) ⟨i, by simp [s7]⟩ (by simp)
    · by_cases hlt : l[2 * i + 1].2 < l[i].2
      · simp [-icallW_load, -icallW_val, ir57_l0, s0, s2, s7, w1, w2, w3, c1, c2, c3, hle1, hlt]
        refine swapI h (i := i) (j := 2 * i + 1) hil (by omega) _ fun m' l' hp' hl' h' hk => ?_
        simp
        exact hJ _ _ (ih (2 * i + 1) (by omega) h' (by omega) (by omega) (by omega) (by simp [s0]) (by simp [s2]) (by simp) fun σ' m'' hP h7 h1 => hQ _ _ (hP.trans hp' hk) h7 (by rw [h1]; simp))
      · simp [-icallW_load, -icallW_val, ir57_l0, s0, s2, s7, w1, w2, w3, c1, c2, c3, hle1, hlt]
        exact hQ _ _ (.refl h) ⟨i, by simp [s7]⟩ (by simp)

theorem down_wp {m : Mem} {q b n i : Nat} {l : List Stop} (h : Qu m q b l) (hl : l.length < 1000000000) (hi : i < l.length) (hn : n ≤ l.length) (Φ : Value → Mem → Prop) (hΦ : ∀ v m', PPost m q b l m' → Φ v m') :
    WPCall Try.prog 57 [.iface 77 (ptr q), I i, I n] m Φ := by
  rw [call57 (by simp)]
  simp only [ir57_b]
  simp
  refine down_loop n i (by omega) h hl hi hn (by simp) (by simp) (by simp) fun σ' m' hP h7 h1 => ?_
  obtain ⟨x, hx⟩ := h7
  simp at h1
  simp [hx, h1]
  exact hΦ _ _ hP

/-- a queue's block may be new -/
theorem KeepQ.then {m m' m'' : Mem} {q b b' : Nat} (h : KeepQ m m' q b b') (h' : KeepQ m' m'' q b' b') (hb : b < m.next) : KeepQ m m'' q b b' :=
  ⟨Nat.le_trans h.next h'.next, fun c h1 h2 h3 => by
    have hc : c ≠ b' := by rcases h.blk with e | e <;> omega
    rw [h'.get c (Nat.lt_of_lt_of_le h1 h.next) h2 hc, h.get c h1 h2 h3], h.blk⟩

theorem KeepQ.then2 {m m' m'' : Mem} {q b b' : Nat} (h : KeepQ m m' q b b) (h' : KeepQ m' m'' q b b') : KeepQ m m'' q b b' :=
  ⟨Nat.le_trans h.next h'.next, fun c h1 h2 h3 => by rw [h'.get c (Nat.lt_of_lt_of_le h1 h.next) h2 h3, h.get c h1 h2 h3], h'.blk.imp id fun e => Nat.le_trans h.next e⟩

theorem push_heap {m : Mem} {q b : Nat} {l : List Stop} (h : Qu m q b l) (hl : l.length < 900000000) (s : Stop) (Φ : Value → Mem → Prop) (hΦ : ∀ v m' b' l', l'.Perm (s :: l) → Qu m' q b' l' → KeepQ m m' q b b' → Φ v m') :
    WPCall Try.prog 56 [.iface 77 (ptr q), .iface 79 (.agg #[I s.1, I s.2])] m Φ := by
  rw [call56 (by simp)]
  simp [ir56_b]
  refine push_wp h (by omega) s _ fun m1 hq1 => ?_
  obtain ⟨b1, h1, k1⟩ := hq1
  have e0 : IntKind.i64.wrap (l.length : Int) = l.length := i64_id (by omega) (by omega)
  have hq := h1.qq
  simp only [List.length_append, List.length_cons, List.length_nil, Nat.zero_add] at hq
  simp [hq, addrOk, loadV, cellsAt, qlen_wp, e0]
  have hbn : b < m.next := by obtain ⟨r, hb⟩ := h.bb; exact get_lt hb
  refine up_wp h1 (by simp; omega) (by simp) _ fun m2 hP => ?_
  obtain ⟨l2, p2, h2, k2⟩ := hP
  simp
  exact hΦ _ _ b1 l2 (p2.trans List.perm_append_comm) h2 (k1.then k2 hbn)

theorem pop_heap {m : Mem} {q b : Nat} {l : List Stop} (h : Qu m q b l) (h0 : l ≠ []) (hl : l.length < 900000000) (Φ : Value → Mem → Prop)
    (hΦ : ∀ s m' b' l', l.Perm (s :: l') → Qu m' q b' l' → KeepQ m m' q b b' → Φ (.iface 79 (.agg #[I s.1, I s.2])) m') :
    WPCall Try.prog 54 [.iface 77 (ptr q)] m Φ := by
  rw [call54 (by simp)]
  obtain ⟨n, hn⟩ : ∃ n, l.length = n + 1 := ⟨l.length - 1, by have := List.length_pos_iff.2 h0; omega⟩
  have hq := h.qq
  rw [hn] at hq
  have e0 : IntKind.i64.wrap (n : Int) = n := i64_id (by omega) (by omega)
  have hbn : b < m.next := by obtain ⟨r, hb⟩ := h.bb; exact get_lt hb
  have hlen : ∀ Φ, icallW Try.prog [(17, 72, none), (77, 53, some (false, 1))] (.iface 77 (ptr q)) [] m Φ = Φ (I ((n : Int) + 1)) m := fun Φ => by
    simp [hq, addrOk, loadV, cellsAt, qlen_wp]
  simp [-icallW_load, -icallW_val, ir54_b, hlen, e0]
  refine swapI h (i := 0) (j := n) (by omega) (by omega) _ fun m1 l1 p1 hl1 h1 k1 => ?_
  simp [-icallW_load, -icallW_val]
  refine down_wp h1 (by omega) (i := 0) (n := n) (by omega) (by omega) _ fun v m2 hP => ?_
  obtain ⟨l2, p2, h2, k2⟩ := hP
  simp
  have hl2 : l2.length = n + 1 := by rw [p2.length_eq, hl1, hn]
  obtain ⟨l3, s, rfl⟩ : ∃ l3 s, l2 = l3 ++ [s] := ⟨l2.dropLast, l2.getLast (by intro h; simp [h] at hl2), (List.dropLast_concat_getLast _).symm⟩
  refine pop_wp h2 (by simp at hl2; omega) _ fun m3 hq3 => ?_
  obtain ⟨b3, h3, k3⟩ := hq3
  simp
  exact hΦ s m3 b3 l3 (p1.symm.trans (p2.symm.trans List.perm_append_comm)) h3 ((k1.trans k2).then2 k3)

end Go.Proofs.Ytapnkfkpkcajjaa
