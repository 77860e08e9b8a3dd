/-
  'plus', 'minus' of the reference.
  'times' of the reference.
  'up', 'down' of the reference, for shifts below one limb.
-/
import Derived.Test.YtkpifdkccdndcaaGreatNtFK
namespace Go.Proofs.YtkpifdkccdndcaaGreat
open Go Go.DI Go.Big
set_option linter.unusedSimpArgs false
set_option linter.unusedVariables false

/-- a list of limbs that is being appended to -/
def OutL (m0 m : Mem) (v : Value) (o : List Int) : Prop := (v = .slice none 0 0 ∧ o = []) ∨ ∃ b, m0.next ≤ b ∧ v = .slice (some ⟨b, 0, none⟩) o.length 1 ∧ m.get b = some ⟨o.map U, true⟩
theorem OutL.sl {m0 m : Mem} {v : Value} {o : List Int} (h : OutL m0 m v o) (hk : OkL o) : Sl m v o := by
  rcases h with ⟨rfl, rfl⟩ | ⟨b, _, rfl, h⟩
  · exact Sl.nil
  · exact Sl.mk hk h
theorem map_snoc {o : List Int} {t : Int} : o.map U ++ [U t] = (o ++ [t]).map U := by simp
theorem OutL.snoc {m0 m : Mem} {o : List Int} {t : Int} {b n : Nat} (hb : m0.next ≤ b) (hg : m.get b = some ⟨o.map U ++ [U t], true⟩) (hn : n = o.length + 1) : OutL m0 m (.slice (some ⟨b, 0, none⟩) n 1) (o ++ [t]) := by
  refine .inr ⟨b, hb, by simp [hn], by rw [hg, map_snoc]⟩
theorem okL_snoc {o : List Int} {t : Int} (h : OkL o) (ht : 0 ≤ t ∧ t < 4294967296) : OkL (o ++ [t]) := h.app fun x hx => by simp at hx; subst hx; exact ht
set_option maxHeartbeats 4000000 in
theorem plus_loop {m0 : Mem} {v w : Value} {x y : List Int} {mx : Nat} (hv : Sl m0 v x) (hw : Sl m0 w y) (hx : x.length ≤ mx) (hy : y.length ≤ mx) (hmx : mx < 1000000) {Q : IExit → Slots → Mem → Prop} : ∀ (r i : Nat) (c : Int) (o : List Int) (u : Value) (m : Mem) (σ : Slots),
    i + r = mx + 1 → (i = mx + 1 → c = 0) → Old m0 m → OutL m0 m u o → OkL o → o.length = i → 0 ≤ c → c < 2 → val o + c * pw i = val (x.take i) + val (y.take i) →
    σ 0 = v → σ 1 = w → σ 5 = u → σ 6 = L c → σ 7 = I i →
    (∀ σ' m' o u, Old m0 m' → OutL m0 m' u o → OkL o → o.length ≤ mx + 1 → val o = val x + val y → σ' 5 = u → Q (.exit 0) σ' m') → WP Tryz.prog (.loop ir162_l0) σ m Q := by
  intro r
  induction r with
  | zero =>
    intro i c o u m σ hi hc ho hu hok hlo c0 c1 he s0 s1 s5 s6 s7 hQ
    refine wp_round fun J hJ => ?_
    obtain ⟨h1, h2, h3, h4⟩ := (hv.mono ho).len
    obtain ⟨h1', h2', h3', h4'⟩ := (hw.mono ho).len
    obtain rfl := hc (by omega)
    have k1 : ¬ (i : Int) < x.length := by omega
    have k2 : ¬ (i : Int) < y.length := by omega
    simp (disch := first | omega | (simp only [zqp, zqq]; omega)) [ir162_l0, ir162_k1, ir162_k2, ir162_k3, ir162_k4, ir162_k5, ir162_k6, ir162_k7, ir162_k8, s0, s1, s5, s6, s7, h1, h2, h1', h2', k1, k2, zqa, zqb, zqc, zqd, zqe, zqf, zqg, zqh, zqi, zqj, zqk, u64b, u32b, zql, zqm, zqn, zqo, -zqu, -isSl, -zqs, -zqt, -zqv, -zqr]
    rw [List.take_of_length_le (l := x) (by omega), List.take_of_length_le (l := y) (by omega)] at he
    exact hQ _ _ o u ho hu hok (by omega) (by omega) (by simp [s5])
  | succ r ih =>
    intro i c o u m σ hi hc ho hu hok hlo c0 c1 he s0 s1 s5 s6 s7 hQ
    refine wp_round fun J hJ => ?_
    have xv := hv.mono ho
    have xw := hw.mono ho
    obtain ⟨h1, h2, h3, h4⟩ := xv.len
    obtain ⟨h1', h2', h3', h4'⟩ := xw.len
    have hnx := ho.next
    have bx := gd_bd hv.1 i
    have by' := gd_bd hw.1 i
    have w0 : IntKind.i64.wrap ((i : Int) + 1) = (i : Int) + 1 := i64_id (by omega) (by omega)
    have w1 : IntKind.u64.wrap (gd x i) = gd x i := u64_id (by omega) (by omega)
    have w2 : IntKind.u64.wrap (gd y i) = gd y i := u64_id (by omega) (by omega)
    have w3 : IntKind.u64.wrap (c + gd x i) = c + gd x i := u64_id (by omega) (by omega)
    have w4 : IntKind.u64.wrap (c + gd y i) = c + gd y i := u64_id (by omega) (by omega)
    have w5 : IntKind.u64.wrap (c + gd x i + gd y i) = c + gd x i + gd y i := u64_id (by omega) (by omega)
    have lim : ((o.length : Int) + 1) * 4 ≤ 140737488355328 := by omega
    have lim2 : (o.length + 1) * 4 ≤ 140737488355328 := by omega
    have lim3 : o.length + 1 ≤ 9223372036854775807 := by omega
    have go : ∀ (t : Int) (u' : Value) (m' : Mem) (σ' : Slots), t = c + gd x i + gd y i → ¬ (mx ≤ i ∧ c = 0) → Old m0 m' → OutL m0 m' u' (o ++ [t % 4294967296]) → σ' 0 = v → σ' 1 = w → σ' 5 = u' → σ' 6 = L (t / 4294967296) → σ' 7 = I ((i : Int) + 1) → WP Tryz.prog (.loop ir162_l0) σ' m' Q := by
      intro t u' m' σ' ht _ go' gu p0 p1 p5 p6 p7
      refine ih (i + 1) (t / 4294967296) (o ++ [t % 4294967296]) u' m' σ' (by omega) (fun hi' => ?_) go' gu (okL_snoc hok (by omega)) (by simp [hlo]) (by omega) (by omega) (add_round2 he ht hlo) p0 p1 p5 p6 (by rw [p7]; simp) hQ
      have e1 : gd x i = 0 := gd_none (by omega)
      have e2 : gd y i = 0 := gd_none (by omega)
      omega
    by_cases k1 : (i : Int) < x.length
    · by_cases k2 : (i : Int) < y.length
      · have a1 := xv.addr (i := i) (by omega)
        have a2 := xv.load (i := i) (by omega)
        have b1 := xw.addr (i := i) (by omega)
        have b2 := xw.load (i := i) (by omega)
        rcases hu with ⟨rfl, rfl⟩ | ⟨b, hb, rfl, hg⟩
        · simp (disch := first | omega | (simp only [zqp, zqq]; omega)) [ir162_l0, ir162_k1, ir162_k2, ir162_k3, ir162_k4, ir162_k5, ir162_k6, ir162_k7, ir162_k8, s0, s1, s5, s6, s7, h1, h2, h3, h1', h2', h3', k1, k2, a1, a2, b1, b2, w0, w1, w2, w3, w4, w5, lim, lim2, lim3, u32_wrap, fdiv32, zqa, zqb, zqc, zqd, zqe, zqf, zqg, zqh, zqi, zqj, zqk, u64b, u32b, zql, zqm, zqn, zqo, -zqu, -isSl, -zqs, -zqt, -zqv, -zqr]
          refine hJ _ _ (go (c + gd x i + gd y i) (.slice (some ⟨m.next + 4, 0, none⟩) 1 1) _ _ (by omega) (by omega) (((ho.bump _).put (by omega)).put (by omega)) (OutL.snoc (by omega) (by rw [zql (by simp)]; rfl) rfl) (by simp [s0]) (by simp [s1]) (by simp) (by simp) (by simp))
        · have hlt := get_lt hg
          simp (disch := first | omega | (simp only [zqp, zqq]; omega)) [ir162_l0, ir162_k1, ir162_k2, ir162_k3, ir162_k4, ir162_k5, ir162_k6, ir162_k7, ir162_k8, s0, s1, s5, s6, s7, h1, h2, h3, h1', h2', h3', k1, k2, a1, a2, b1, b2, w0, w1, w2, w3, w4, w5, lim, lim2, lim3, u32_wrap, fdiv32, hg, zqa, zqb, zqc, zqd, zqe, zqf, zqg, zqh, zqi, zqj, zqk, u64b, u32b, zql, zqm, zqn, zqo, -zqu, -isSl, -zqs, -zqt, -zqv, -zqr]
          refine hJ _ _ (go (c + gd x i + gd y i) (.slice (some ⟨m.next + 4, 0, none⟩) (o.length + 1) 1) _ _ (by omega) (by omega) ((((ho.bump _).put (by omega)).put (by omega)).put (by omega)) (OutL.snoc (by omega) (by rw [zql (by simp), List.take_of_length_le (by simp)]) rfl) (by simp [s0]) (by simp [s1]) (by simp) (by simp) (by simp))
      · have a1 := xv.addr (i := i) (by omega)
        have a2 := xv.load (i := i) (by omega)
        have e2 : gd y i = 0 := gd_none (by omega)
        rcases hu with ⟨rfl, rfl⟩ | ⟨b, hb, rfl, hg⟩
        · simp (disch := first | omega | (simp only [zqp, zqq]; omega)) [ir162_l0, ir162_k1, ir162_k2, ir162_k3, ir162_k4, ir162_k5, ir162_k6, ir162_k7, ir162_k8, s0, s1, s5, s6, s7, h1, h2, h3, h1', h2', h3', k1, k2, a1, a2, w0, w1, w2, w3, w4, w5, lim, lim2, lim3, u32_wrap, fdiv32, zqa, zqb, zqc, zqd, zqe, zqf, zqg, zqh, zqi, zqj, zqk, u64b, u32b, zql, zqm, zqn, zqo, -zqu, -isSl, -zqs, -zqt, -zqv, -zqr]
          refine hJ _ _ (go (c + gd x i) (.slice (some ⟨m.next + 4, 0, none⟩) 1 1) _ _ (by omega) (by omega) (((ho.bump _).put (by omega)).put (by omega)) (OutL.snoc (by omega) (by rw [zql (by simp)]; rfl) rfl) (by simp [s0]) (by simp [s1]) (by simp) (by simp) (by simp))
        · have hlt := get_lt hg
          simp (disch := first | omega | (simp only [zqp, zqq]; omega)) [ir162_l0, ir162_k1, ir162_k2, ir162_k3, ir162_k4, ir162_k5, ir162_k6, ir162_k7, ir162_k8, s0, s1, s5, s6, s7, h1, h2, h3, h1', h2', h3', k1, k2, a1, a2, w0, w1, w2, w3, w4, w5, lim, lim2, lim3, u32_wrap, fdiv32, hg, zqa, zqb, zqc, zqd, zqe, zqf, zqg, zqh, zqi, zqj, zqk, u64b, u32b, zql, zqm, zqn, zqo, -zqu, -isSl, -zqs, -zqt, -zqv, -zqr]
          refine hJ _ _ (go (c + gd x i) (.slice (some ⟨m.next + 4, 0, none⟩) (o.length + 1) 1) _ _ (by omega) (by omega) ((((ho.bump _).put (by omega)).put (by omega)).put (by omega)) (OutL.snoc (by omega) (by rw [zql (by simp), List.take_of_length_le (by simp)]) rfl) (by simp [s0]) (by simp [s1]) (by simp) (by simp) (by simp))
    · by_cases k2 : (i : Int) < y.length
      · have e1 : gd x i = 0 := gd_none (by omega)
        have b1 := xw.addr (i := i) (by omega)
        have b2 := xw.load (i := i) (by omega)
        rcases hu with ⟨rfl, rfl⟩ | ⟨b, hb, rfl, hg⟩
        · simp (disch := first | omega | (simp only [zqp, zqq]; omega)) [ir162_l0, ir162_k1, ir162_k2, ir162_k3, ir162_k4, ir162_k5, ir162_k6, ir162_k7, ir162_k8, s0, s1, s5, s6, s7, h1, h2, h3, h1', h2', h3', k1, k2, b1, b2, w0, w1, w2, w3, w4, w5, lim, lim2, lim3, u32_wrap, fdiv32, zqa, zqb, zqc, zqd, zqe, zqf, zqg, zqh, zqi, zqj, zqk, u64b, u32b, zql, zqm, zqn, zqo, -zqu, -isSl, -zqs, -zqt, -zqv, -zqr]
          refine hJ _ _ (go (c + gd y i) (.slice (some ⟨m.next + 4, 0, none⟩) 1 1) _ _ (by omega) (by omega) (((ho.bump _).put (by omega)).put (by omega)) (OutL.snoc (by omega) (by rw [zql (by simp)]; rfl) rfl) (by simp [s0]) (by simp [s1]) (by simp) (by simp) (by simp))
        · have hlt := get_lt hg
          simp (disch := first | omega | (simp only [zqp, zqq]; omega)) [ir162_l0, ir162_k1, ir162_k2, ir162_k3, ir162_k4, ir162_k5, ir162_k6, ir162_k7, ir162_k8, s0, s1, s5, s6, s7, h1, h2, h3, h1', h2', h3', k1, k2, b1, b2, w0, w1, w2, w3, w4, w5, lim, lim2, lim3, u32_wrap, fdiv32, hg, zqa, zqb, zqc, zqd, zqe, zqf, zqg, zqh, zqi, zqj, zqk, u64b, u32b, zql, zqm, zqn, zqo, -zqu, -isSl, -zqs, -zqt, -zqv, -zqr]
          refine hJ _ _ (go (c + gd y i) (.slice (some ⟨m.next + 4, 0, none⟩) (o.length + 1) 1) _ _ (by omega) (by omega) ((((ho.bump _).put (by omega)).put (by omega)).put (by omega)) (OutL.snoc (by omega) (by rw [zql (by simp), List.take_of_length_le (by simp)]) rfl) (by simp [s0]) (by simp [s1]) (by simp) (by simp) (by simp))
      · have e1 : gd x i = 0 := gd_none (by omega)
        have e2 : gd y i = 0 := gd_none (by omega)
        by_cases k3 : c = 0
        · subst k3
          simp (disch := first | omega | (simp only [zqp, zqq]; omega)) [ir162_l0, ir162_k1, ir162_k2, ir162_k3, ir162_k4, ir162_k5, ir162_k6, ir162_k7, ir162_k8, s0, s1, s5, s6, s7, h1, h2, h1', h2', k1, k2, zqa, zqb, zqc, zqd, zqe, zqf, zqg, zqh, zqi, zqj, zqk, u64b, u32b, zql, zqm, zqn, zqo, -zqu, -isSl, -zqs, -zqt, -zqv, -zqr]
          rw [List.take_of_length_le (l := x) (by omega), List.take_of_length_le (l := y) (by omega)] at he
          exact hQ _ _ o u ho hu hok (by omega) (by omega) (by simp [s5])
        have k4 : 0 < c := by omega
        rcases hu with ⟨rfl, rfl⟩ | ⟨b, hb, rfl, hg⟩
        · simp (disch := first | omega | (simp only [zqp, zqq]; omega)) [ir162_l0, ir162_k1, ir162_k2, ir162_k3, ir162_k4, ir162_k5, ir162_k6, ir162_k7, ir162_k8, s0, s1, s5, s6, s7, h1, h2, h3, h1', h2', h3', k1, k2, k4, w0, w1, w2, w3, w4, w5, lim, lim2, lim3, u32_wrap, fdiv32, zqa, zqb, zqc, zqd, zqe, zqf, zqg, zqh, zqi, zqj, zqk, u64b, u32b, zql, zqm, zqn, zqo, -zqu, -isSl, -zqs, -zqt, -zqv, -zqr]
          refine hJ _ _ (go (c) (.slice (some ⟨m.next + 4, 0, none⟩) 1 1) _ _ (by omega) (by omega) (((ho.bump _).put (by omega)).put (by omega)) (OutL.snoc (by omega) (by rw [zql (by simp)]; rfl) rfl) (by simp [s0]) (by simp [s1]) (by simp) (by simp) (by simp))
        · have hlt := get_lt hg
          simp (disch := first | omega | (simp only [zqp, zqq]; omega)) [ir162_l0, ir162_k1, ir162_k2, ir162_k3, ir162_k4, ir162_k5, ir162_k6, ir162_k7, ir162_k8, s0, s1, s5, s6, s7, h1, h2, h3, h1', h2', h3', k1, k2, k4, w0, w1, w2, w3, w4, w5, lim, lim2, lim3, u32_wrap, fdiv32, hg, zqa, zqb, zqc, zqd, zqe, zqf, zqg, zqh, zqi, zqj, zqk, u64b, u32b, zql, zqm, zqn, zqo, -zqu, -isSl, -zqs, -zqt, -zqv, -zqr]
          refine hJ _ _ (go (c) (.slice (some ⟨m.next + 4, 0, none⟩) (o.length + 1) 1) _ _ (by omega) (by omega) ((((ho.bump _).put (by omega)).put (by omega)).put (by omega)) (OutL.snoc (by omega) (by rw [zql (by simp), List.take_of_length_le (by simp)]) rfl) (by simp [s0]) (by simp [s1]) (by simp) (by simp) (by simp))
set_option maxHeartbeats 4000000 in
theorem minus_loop {m0 : Mem} {v w : Value} {x y : List Int} (hv : Sl m0 v x) (hw : Sl m0 w y) (hx : Big x) (hy : y.length ≤ x.length) {Q : IExit → Slots → Mem → Prop} : ∀ (r i : Nat) (c : Int) (o : List Int) (u : Value) (m : Mem) (σ : Slots),
    i + r = x.length → Old m0 m → OutL m0 m u o → OkL o → o.length = i → 0 ≤ c → c < 2 → val o - c * pw i = val (x.take i) - val (y.take i) →
    σ 0 = v → σ 1 = w → σ 5 = u → σ 6 = L c → σ 7 = I i →
    (∀ σ' m' o u c, Old m0 m' → OutL m0 m' u o → OkL o → o.length = x.length → 0 ≤ c → c < 2 → val o - c * pw x.length = val x - val y → σ' 5 = u → Q (.exit 0) σ' m') → WP Tryz.prog (.loop ir164_l0) σ m Q := by
  intro r
  induction r with
  | zero =>
    intro i c o u m σ hi ho hu hok hlo c0 c1 he s0 s1 s5 s6 s7 hQ
    refine wp_round fun J hJ => ?_
    obtain ⟨h1, h2, h3, h4⟩ := (hv.mono ho).len
    have e : i = x.length := by omega
    have k1 : ¬ (i : Int) < x.length := by omega
    simp (disch := first | omega | (simp only [zqp, zqq]; omega)) [ir164_l0, ir164_k1, ir164_k2, ir164_k3, ir164_k4, ir164_k5, ir164_k6, ir164_k7, ir164_k8, ir164_k9, s0, s1, s5, s6, s7, h1, h2, k1, zqa, zqb, zqc, zqd, zqe, zqf, zqg, zqh, zqi, zqj, zqk, u64b, u32b, zql, zqm, zqn, zqo, -zqu, -isSl, -zqs, -zqt, -zqv, -zqr]
    rw [e, List.take_of_length_le (l := x) (by omega), List.take_of_length_le (l := y) (by omega)] at he
    exact hQ _ _ o u c ho hu hok (by omega) c0 c1 he (by simp [s5])
  | succ r ih =>
    intro i c o u m σ hi ho hu hok hlo c0 c1 he s0 s1 s5 s6 s7 hQ
    refine wp_round fun J hJ => ?_
    have xv := hv.mono ho
    have xw := hw.mono ho
    obtain ⟨h1, h2, h3, h4⟩ := xv.len
    obtain ⟨h1', h2', h3', h4'⟩ := xw.len
    have hnx := ho.next
    have bx := gd_bd hv.1 i
    have by' := gd_bd hw.1 i
    have k1 : (i : Int) < x.length := by omega
    have a1 := xv.addr (i := i) (by omega)
    have a2 := xv.load (i := i) (by omega)
    have w0 : IntKind.i64.wrap ((i : Int) + 1) = (i : Int) + 1 := i64_id (by omega) (by omega)
    have w1 : IntKind.u64.wrap (gd x i) = gd x i := u64_id (by omega) (by omega)
    have w2 : IntKind.u64.wrap (gd y i) = gd y i := u64_id (by omega) (by omega)
    have w4 : IntKind.u64.wrap (c + gd y i) = c + gd y i := u64_id (by omega) (by omega)
    have w6 : IntKind.u64.wrap (gd x i + 4294967296) = gd x i + 4294967296 := u64_id (by omega) (by omega)
    have lim : ((o.length : Int) + 1) * 4 ≤ 140737488355328 := by omega
    have lim2 : (o.length + 1) * 4 ≤ 140737488355328 := by omega
    have lim3 : o.length + 1 ≤ 9223372036854775807 := by omega
    have go : ∀ (t c' z : Int) (u' : Value) (m' : Mem) (σ' : Slots), t = gd x i - c - gd y i → c' = -(t / 4294967296) → z = t % 4294967296 → Old m0 m' → OutL m0 m' u' (o ++ [z]) → σ' 0 = v → σ' 1 = w → σ' 5 = u' → σ' 6 = L c' → σ' 7 = I ((i : Int) + 1) → WP Tryz.prog (.loop ir164_l0) σ' m' Q := by
      intro t c' z u' m' σ' ht hc' hz go' gu p0 p1 p5 p6 p7
      subst hz hc'
      exact ih (i + 1) (-(t / 4294967296)) (o ++ [t % 4294967296]) u' m' σ' (by omega) go' gu (okL_snoc hok (by omega)) (by simp [hlo]) (by omega) (by omega) (sub_round2 he ht hlo) p0 p1 p5 p6 (by rw [p7]; simp) hQ
    by_cases k2 : (i : Int) < y.length
    · have b1 := xw.addr (i := i) (by omega)
      have b2 := xw.load (i := i) (by omega)
      obtain ⟨Y, hY⟩ : ∃ Y, Y = c + gd y i := ⟨_, rfl⟩
      by_cases k3 : gd x i < Y
      · have w7 : IntKind.u64.wrap (gd x i + 4294967296 - (c + gd y i)) = gd x i + 4294967296 - (c + gd y i) := u64_id (by omega) (by omega)
        have w8 : IntKind.u32.wrap (gd x i + 4294967296 - (c + gd y i)) = gd x i + 4294967296 - (c + gd y i) := by rw [u32_wrap]; omega
        rw [hY] at k3
        rcases hu with ⟨rfl, rfl⟩ | ⟨b, hb, rfl, hg⟩
        · simp (disch := first | omega | (simp only [zqp, zqq]; omega)) [ir164_l0, ir164_k1, ir164_k2, ir164_k3, ir164_k4, ir164_k5, ir164_k6, ir164_k7, ir164_k8, ir164_k9, s0, s1, s5, s6, s7, h1, h2, h3, h1', h2', h3', k1, k2, k3, a1, a2, b1, b2, w0, w1, w2, w4, w6, w7, w8, lim, lim2, lim3, zqa, zqb, zqc, zqd, zqe, zqf, zqg, zqh, zqi, zqj, zqk, u64b, u32b, zql, zqm, zqn, zqo, -zqu, -isSl, -zqs, -zqt, -zqv, -zqr]
          refine hJ _ _ (go (gd x i - c - gd y i) 1 (gd x i + 4294967296 - (c + gd y i)) (.slice (some ⟨m.next + 6, 0, none⟩) 1 1) _ _ rfl (by omega) (by omega) (((ho.bump _).put (by omega)).put (by omega)) (OutL.snoc (by omega) (by rw [zql (by simp)]; rfl) rfl) (by simp [s0]) (by simp [s1]) (by simp) (by simp) (by simp))
        · have hlt := get_lt hg
          simp (disch := first | omega | (simp only [zqp, zqq]; omega)) [ir164_l0, ir164_k1, ir164_k2, ir164_k3, ir164_k4, ir164_k5, ir164_k6, ir164_k7, ir164_k8, ir164_k9, s0, s1, s5, s6, s7, h1, h2, h3, h1', h2', h3', k1, k2, k3, a1, a2, b1, b2, w0, w1, w2, w4, w6, w7, w8, lim, lim2, lim3, hg, zqa, zqb, zqc, zqd, zqe, zqf, zqg, zqh, zqi, zqj, zqk, u64b, u32b, zql, zqm, zqn, zqo, -zqu, -isSl, -zqs, -zqt, -zqv, -zqr]
          refine hJ _ _ (go (gd x i - c - gd y i) 1 (gd x i + 4294967296 - (c + gd y i)) (.slice (some ⟨m.next + 6, 0, none⟩) (o.length + 1) 1) _ _ rfl (by omega) (by omega) ((((ho.bump _).put (by omega)).put (by omega)).put (by omega)) (OutL.snoc (by omega) (by rw [zql (by simp), List.take_of_length_le (by simp)]) rfl) (by simp [s0]) (by simp [s1]) (by simp) (by simp) (by simp))
      · have w7 : IntKind.u64.wrap (gd x i - (c + gd y i)) = gd x i - (c + gd y i) := u64_id (by omega) (by omega)
        have w8 : IntKind.u32.wrap (gd x i - (c + gd y i)) = gd x i - (c + gd y i) := by rw [u32_wrap]; omega
        rw [hY] at k3
        rcases hu with ⟨rfl, rfl⟩ | ⟨b, hb, rfl, hg⟩
        · simp (disch := first | omega | (simp only [zqp, zqq]; omega)) [ir164_l0, ir164_k1, ir164_k2, ir164_k3, ir164_k4, ir164_k5, ir164_k6, ir164_k7, ir164_k8, ir164_k9, s0, s1, s5, s6, s7, h1, h2, h3, h1', h2', h3', k1, k2, k3, a1, a2, b1, b2, w0, w1, w2, w4, w6, w7, w8, lim, lim2, lim3, zqa, zqb, zqc, zqd, zqe, zqf, zqg, zqh, zqi, zqj, zqk, u64b, u32b, zql, zqm, zqn, zqo, -zqu, -isSl, -zqs, -zqt, -zqv, -zqr]
          refine hJ _ _ (go (gd x i - c - gd y i) 0 (gd x i - (c + gd y i)) (.slice (some ⟨m.next + 6, 0, none⟩) 1 1) _ _ rfl (by omega) (by omega) (((ho.bump _).put (by omega)).put (by omega)) (OutL.snoc (by omega) (by rw [zql (by simp)]; rfl) rfl) (by simp [s0]) (by simp [s1]) (by simp) (by simp) (by simp))
        · have hlt := get_lt hg
          simp (disch := first | omega | (simp only [zqp, zqq]; omega)) [ir164_l0, ir164_k1, ir164_k2, ir164_k3, ir164_k4, ir164_k5, ir164_k6, ir164_k7, ir164_k8, ir164_k9, s0, s1, s5, s6, s7, h1, h2, h3, h1', h2', h3', k1, k2, k3, a1, a2, b1, b2, w0, w1, w2, w4, w6, w7, w8, lim, lim2, lim3, hg, zqa, zqb, zqc, zqd, zqe, zqf, zqg, zqh, zqi, zqj, zqk, u64b, u32b, zql, zqm, zqn, zqo, -zqu, -isSl, -zqs, -zqt, -zqv, -zqr]
          refine hJ _ _ (go (gd x i - c - gd y i) 0 (gd x i - (c + gd y i)) (.slice (some ⟨m.next + 6, 0, none⟩) (o.length + 1) 1) _ _ rfl (by omega) (by omega) ((((ho.bump _).put (by omega)).put (by omega)).put (by omega)) (OutL.snoc (by omega) (by rw [zql (by simp), List.take_of_length_le (by simp)]) rfl) (by simp [s0]) (by simp [s1]) (by simp) (by simp) (by simp))
    · have e2 : gd y i = 0 := gd_none (by omega)
      obtain ⟨Y, hY⟩ : ∃ Y, Y = c := ⟨_, rfl⟩
      by_cases k3 : gd x i < Y
      · have w7 : IntKind.u64.wrap (gd x i + 4294967296 - (c)) = gd x i + 4294967296 - (c) := u64_id (by omega) (by omega)
        have w8 : IntKind.u32.wrap (gd x i + 4294967296 - (c)) = gd x i + 4294967296 - (c) := by rw [u32_wrap]; omega
        rw [hY] at k3
        rcases hu with ⟨rfl, rfl⟩ | ⟨b, hb, rfl, hg⟩
        · simp (disch := first | omega | (simp only [zqp, zqq]; omega)) [ir164_l0, ir164_k1, ir164_k2, ir164_k3, ir164_k4, ir164_k5, ir164_k6, ir164_k7, ir164_k8, ir164_k9, s0, s1, s5, s6, s7, h1, h2, h3, h1', h2', h3', k1, k2, k3, a1, a2, w0, w1, w2, w4, w6, w7, w8, lim, lim2, lim3, zqa, zqb, zqc, zqd, zqe, zqf, zqg, zqh, zqi, zqj, zqk, u64b, u32b, zql, zqm, zqn, zqo, -zqu, -isSl, -zqs, -zqt, -zqv, -zqr]
          refine hJ _ _ (go (gd x i - c - gd y i) 1 (gd x i + 4294967296 - (c)) (.slice (some ⟨m.next + 6, 0, none⟩) 1 1) _ _ rfl (by omega) (by omega) (((ho.bump _).put (by omega)).put (by omega)) (OutL.snoc (by omega) (by rw [zql (by simp)]; rfl) rfl) (by simp [s0]) (by simp [s1]) (by simp) (by simp) (by simp))
        · have hlt := get_lt hg
          simp (disch := first | omega | (simp only [zqp, zqq]; omega)) [ir164_l0, ir164_k1, ir164_k2, ir164_k3, ir164_k4, ir164_k5, ir164_k6, ir164_k7, ir164_k8, ir164_k9, s0, s1, s5, s6, s7, h1, h2, h3, h1', h2', h3', k1, k2, k3, a1, a2, w0, w1, w2, w4, w6, w7, w8, lim, lim2, lim3, hg, zqa, zqb, zqc, zqd, zqe, zqf, zqg, zqh, zqi, zqj, zqk, u64b, u32b, zql, zqm, zqn, zqo, -zqu, -isSl, -zqs, -zqt, -zqv, -zqr]
          refine hJ _ _ (go (gd x i - c - gd y i) 1 (gd x i + 4294967296 - (c)) (.slice (some ⟨m.next + 6, 0, none⟩) (o.length + 1) 1) _ _ rfl (by omega) (by omega) ((((ho.bump _).put (by omega)).put (by omega)).put (by omega)) (OutL.snoc (by omega) (by rw [zql (by simp), List.take_of_length_le (by simp)]) rfl) (by simp [s0]) (by simp [s1]) (by simp) (by simp) (by simp))
      · have w7 : IntKind.u64.wrap (gd x i - (c)) = gd x i - (c) := u64_id (by omega) (by omega)
        have w8 : IntKind.u32.wrap (gd x i - (c)) = gd x i - (c) := by rw [u32_wrap]; omega
        rw [hY] at k3
        rcases hu with ⟨rfl, rfl⟩ | ⟨b, hb, rfl, hg⟩
        · simp (disch := first | omega | (simp only [zqp, zqq]; omega)) [ir164_l0, ir164_k1, ir164_k2, ir164_k3, ir164_k4, ir164_k5, ir164_k6, ir164_k7, ir164_k8, ir164_k9, s0, s1, s5, s6, s7, h1, h2, h3, h1', h2', h3', k1, k2, k3, a1, a2, w0, w1, w2, w4, w6, w7, w8, lim, lim2, lim3, zqa, zqb, zqc, zqd, zqe, zqf, zqg, zqh, zqi, zqj, zqk, u64b, u32b, zql, zqm, zqn, zqo, -zqu, -isSl, -zqs, -zqt, -zqv, -zqr]
          refine hJ _ _ (go (gd x i - c - gd y i) 0 (gd x i - (c)) (.slice (some ⟨m.next + 6, 0, none⟩) 1 1) _ _ rfl (by omega) (by omega) (((ho.bump _).put (by omega)).put (by omega)) (OutL.snoc (by omega) (by rw [zql (by simp)]; rfl) rfl) (by simp [s0]) (by simp [s1]) (by simp) (by simp) (by simp))
        · have hlt := get_lt hg
          simp (disch := first | omega | (simp only [zqp, zqq]; omega)) [ir164_l0, ir164_k1, ir164_k2, ir164_k3, ir164_k4, ir164_k5, ir164_k6, ir164_k7, ir164_k8, ir164_k9, s0, s1, s5, s6, s7, h1, h2, h3, h1', h2', h3', k1, k2, k3, a1, a2, w0, w1, w2, w4, w6, w7, w8, lim, lim2, lim3, hg, zqa, zqb, zqc, zqd, zqe, zqf, zqg, zqh, zqi, zqj, zqk, u64b, u32b, zql, zqm, zqn, zqo, -zqu, -isSl, -zqs, -zqt, -zqv, -zqr]
          refine hJ _ _ (go (gd x i - c - gd y i) 0 (gd x i - (c)) (.slice (some ⟨m.next + 6, 0, none⟩) (o.length + 1) 1) _ _ rfl (by omega) (by omega) ((((ho.bump _).put (by omega)).put (by omega)).put (by omega)) (OutL.snoc (by omega) (by rw [zql (by simp), List.take_of_length_le (by simp)]) rfl) (by simp [s0]) (by simp [s1]) (by simp) (by simp) (by simp))

def RNum (m : Mem) (n : Int) (r : Value) (m' : Mem) : Prop := Old m m' ∧ Sl m' r (digs n)
set_option maxHeartbeats 4000000 in
theorem plus_wp {m : Mem} {v w : Value} {x y : List Int} (hv : Sl m v x) (hw : Sl m w y) (hx : x.length < 900000) (hy : y.length < 900000) : WPCall Tryz.prog 162 [v, w] m (RNum m (val x + val y)) := by
  rw [call162 (by simp)]
  simp (disch := first | omega | (simp only [zqp, zqq]; omega)) [ir162_b, ir162_k1, ir162_k2, ir162_k3, ir162_k4, ir162_k5, ir162_k6, ir162_k7, ir162_k8, zqa, zqb, zqc, zqd, zqe, zqf, zqg, zqh, zqi, zqj, zqk, u64b, u32b, zql, zqm, zqn, zqo, -zqu, -isSl, -zqs, -zqt, -zqv, -zqr]
  refine plus_loop hv hw (Nat.le_max_left x.length y.length) (Nat.le_max_right x.length y.length) (by omega) (max x.length y.length + 1) 0 0 [] (.slice none 0 0) m _ (by omega) (fun _ => rfl) (Old.refl m) (.inl ⟨rfl, rfl⟩) (by simp [OkL]) rfl (by omega) (by omega) (by simp [val]) (by simp) (by simp) (by simp) (by simp) (by simp) fun σ' m' o u f1 f2 f3 f4 f5 p5 => ?_
  simp (disch := first | omega | (simp only [zqp, zqq]; omega)) [p5, zqa, zqb, zqc, zqd, zqe, zqf, zqg, zqh, zqi, zqj, zqk, u64b, u32b, zql, zqm, zqn, zqo, -zqu, -isSl, -zqs, -zqt, -zqv, -zqr]
  refine (rtrim_wp (f2.sl f3) (by omega)).mono fun r m2 hp => ?_
  simp (disch := first | omega | (simp only [zqp, zqq]; omega)) [zqa, zqb, zqc, zqd, zqe, zqf, zqg, zqh, zqi, zqj, zqk, u64b, u32b, zql, zqm, zqn, zqo, -zqu, -isSl, -zqs, -zqt, -zqv, -zqr]
  rw [f5] at hp
  exact ⟨f1.trans hp.1, hp.2⟩
set_option maxHeartbeats 4000000 in
theorem minus_wp {m : Mem} {v w : Value} {x y : List Int} (hv : Sl m v x) (hw : Sl m w y) (hx : Big x) (hy : y.length ≤ x.length) (hle : val y ≤ val x) : WPCall Tryz.prog 164 [v, w] m (RNum m (val x - val y)) := by
  rw [call164 (by simp)]
  simp (disch := first | omega | (simp only [zqp, zqq]; omega)) [ir164_b, ir164_k1, ir164_k2, ir164_k3, ir164_k4, ir164_k5, ir164_k6, ir164_k7, ir164_k8, ir164_k9, zqa, zqb, zqc, zqd, zqe, zqf, zqg, zqh, zqi, zqj, zqk, u64b, u32b, zql, zqm, zqn, zqo, -zqu, -isSl, -zqs, -zqt, -zqv, -zqr]
  refine minus_loop hv hw hx hy x.length 0 0 [] (.slice none 0 0) m _ (by omega) (Old.refl m) (.inl ⟨rfl, rfl⟩) (by simp [OkL]) rfl (by omega) (by omega) (by simp [val]) (by simp) (by simp) (by simp) (by simp) (by simp) fun σ' m' o u c f1 f2 f3 f4 f5 f6 f7 p5 => ?_
  have hval : val o = val x - val y := by
    have h8 := (val_bd f3).2
    rw [f4] at h8
    have hp := pw_pos x.length
    have hc : c = 0 := by
      rcases (show c = 0 ∨ c = 1 by omega) with h | h
      · exact h
      · subst h; omega
    subst hc
    omega
  simp (disch := first | omega | (simp only [zqp, zqq]; omega)) [p5, zqa, zqb, zqc, zqd, zqe, zqf, zqg, zqh, zqi, zqj, zqk, u64b, u32b, zql, zqm, zqn, zqo, -zqu, -isSl, -zqs, -zqt, -zqv, -zqr]
  refine (rtrim_wp (f2.sl f3) (by omega)).mono fun r m2 hp => ?_
  simp (disch := first | omega | (simp only [zqp, zqq]; omega)) [zqa, zqb, zqc, zqd, zqe, zqf, zqg, zqh, zqi, zqj, zqk, u64b, u32b, zql, zqm, zqn, zqo, -zqu, -isSl, -zqs, -zqt, -zqv, -zqr]
  rw [hval] at hp
  exact ⟨f1.trans hp.1, hp.2⟩
end Go.Proofs.YtkpifdkccdndcaaGreat
namespace Go.Proofs.YtkpifdkccdndcaaGreat
open Go Go.DI Go.Big
set_option linter.unusedSimpArgs false
set_option linter.unusedVariables false

set_option maxHeartbeats 2000000 in
theorem rtimes_inner {m0 : Mem} {v w : Value} {a b : List Int} {N i : Nat} (hv : Sl m0 v a) (hw : Sl m0 w b) (hN : N < 3000000) (hi0 : i < a.length) (hiN : i + b.length ≤ N) {ob : Nat} (hob : m0.next ≤ ob) {o0 : List Int} {Q : IExit → Slots → Mem → Prop} : ∀ (r j : Nat) (c : Int) (o : List Int) (m : Mem) (σ : Slots),
    j + r = b.length → Old m0 m → m.get ob = some ⟨o.map U, true⟩ → OkL o → o.length = N → 0 ≤ c → c < 4294967296 → val o + c * pw (i + j) = val o0 + pw i * (gd a i * val (b.take j)) → (∀ k, i + b.length ≤ k → gd o k = gd o0 k) →
    σ 0 = v → σ 1 = w → σ 5 = .slice (some ⟨ob, 0, none⟩) N 1 → σ 6 = I i → σ 7 = L c → σ 8 = I j →
    (∀ σ' m' o c, Old m0 m' → m'.get ob = some ⟨o.map U, true⟩ → OkL o → o.length = N → 0 ≤ c → c < 4294967296 → val o + c * pw (i + b.length) = val o0 + pw i * (gd a i * val b) → (∀ k, i + b.length ≤ k → gd o k = gd o0 k) →
      σ' 0 = v → σ' 1 = w → σ' 5 = .slice (some ⟨ob, 0, none⟩) N 1 → σ' 6 = I i → σ' 7 = L c → Q (.exit 2) σ' m') → WP Tryz.prog (.loop ir172_l0) σ m Q
  | 0, j, c, o, m, σ, hi, ho, hg, hok, hlo, c0, c1, he, hh, s0, s1, s5, s6, s7, s8, hQ => by
    refine wp_round fun J hJ => ?_
    have e : j = b.length := by omega
    subst e
    obtain ⟨h1', h2', h3', h4'⟩ := (hw.mono ho).len
    simp (disch := first | omega | (simp only [zqp, zqq]; omega)) [ir172_l0, ir172_k1, ir172_k2, ir172_k3, ir172_k4, ir172_k5, ir172_k6, ir172_k7, s0, s1, s5, s6, s7, s8, h1', h2', zqa, zqb, zqc, zqd, zqe, zqf, zqg, zqh, zqi, zqj, zqk, u64b, u32b, zql, zqm, zqn, zqo, -zqu, -isSl, -zqs, -zqt, -zqv, -zqr]
    rw [List.take_of_length_le (l := b) (by omega)] at he
    exact hQ _ _ o c ho hg hok hlo c0 c1 he hh (by simp [s0]) (by simp [s1]) (by simp [s5]) (by simp [s6]) (by simp [s7])
  | r + 1, j, c, o, m, σ, hi, ho, hg, hok, hlo, c0, c1, he, hh, s0, s1, s5, s6, s7, s8, hQ => by
    refine wp_round fun J hJ => ?_
    have xv := hv.mono ho
    have xw := hw.mono ho
    obtain ⟨h1, h2, h3, h4⟩ := xv.len
    obtain ⟨h1', h2', h3', h4'⟩ := xw.len
    obtain ⟨k, hk⟩ : ∃ k, k = i + j := ⟨_, rfl⟩
    have q0 : (j : Int) < b.length := by omega
    have q0' : (i : Int) < a.length := by omega
    have q1 : (k : Int) < N := by omega
    have q2 : k < N := by omega
    have q3 : k + 1 ≤ N := by omega
    have a1 := xv.addr (i := i) (by omega)
    have a2 := xv.load (i := i) (by omega)
    have b1 := xw.addr (i := j) (by omega)
    have b2 := xw.load (i := j) (by omega)
    have hx := gd_bd hv.1 i
    have by' := gd_bd hw.1 j
    have bz := gd_bd hok k
    have hz : o[k]? = some (gd o k) := by rw [gd_some (List.getElem?_eq_getElem (by omega)), List.getElem?_eq_getElem (by omega)]
    have hp := prod_bd hx by'
    obtain ⟨t, ht⟩ : ∃ t, t = c + gd a i * gd b j + gd o k := ⟨_, rfl⟩
    have w0 : IntKind.i64.wrap ((j : Int) + 1) = (j : Int) + 1 := i64_id (by omega) (by omega)
    have w5 : IntKind.i64.wrap ((i : Int) + (j : Int)) = (k : Int) := by rw [i64_id (by omega) (by omega)]; omega
    have w1 : IntKind.u64.wrap (gd a i) = gd a i := u64_id (by omega) (by omega)
    have w2 : IntKind.u64.wrap (gd b j) = gd b j := u64_id (by omega) (by omega)
    have w3 : IntKind.u64.wrap (gd o k) = gd o k := u64_id (by omega) (by omega)
    have w4 : IntKind.u64.wrap (gd a i * gd b j) = gd a i * gd b j := u64_id (by omega) (by omega)
    have w6 : IntKind.u64.wrap (gd a i * gd b j + gd o k) = gd a i * gd b j + gd o k := u64_id (by omega) (by omega)
    have w7 : IntKind.u64.wrap (gd a i * gd b j + gd o k + c) = t := by rw [u64_id (by omega) (by omega)]; omega
    have hlt := get_lt hg
    have hkl : k < o.length := by omega
    have hz2 : o[k] = gd o k := by rw [gd_some (List.getElem?_eq_getElem hkl)]
    simp (disch := first | omega | (simp only [zqp, zqq]; omega)) [ir172_l0, ir172_k1, ir172_k2, ir172_k3, ir172_k4, ir172_k5, ir172_k6, ir172_k7, s0, s1, s5, s6, s7, s8, h1, h2, h3, h1', h2', h3', q0, q0', q1, q2, q3, a1, a2, b1, b2, w0, w1, w2, w3, w4, w5, w6, w7, hg, hlo, u32_wrap, fdiv32, hz, hz2, head_td, zqa, zqb, zqc, zqd, zqe, zqf, zqg, zqh, zqi, zqj, zqk, u64b, u32b, zql, zqm, zqn, zqo, -zqu, -isSl, -zqs, -zqt, -zqv, -zqr]
    refine hJ _ _ (rtimes_inner hv hw hN hi0 hiN hob (o0 := o0) r (j + 1) (t / 4294967296) (o.set k (t % 4294967296)) _ _ (by omega) (ho.put hob) (by rw [zql hlt, set_map]) (hok.set k (by omega)) (by simp [hlo]) (by omega) (by omega) (by subst hk; exact mul_inner he (by rw [← hz]) (by omega)) (fun q hq => by rw [gd_set_ne (by omega)]; exact hh q hq) (by simp [s0]) (by simp [s1]) (by simp [s5]) (by simp [s6]) (by simp) (by simp) hQ)

set_option maxHeartbeats 2000000 in
theorem rtimes_loop {m0 : Mem} {v w : Value} {a b : List Int} {N : Nat} (hv : Sl m0 v a) (hw : Sl m0 w b) (hN : N = a.length + b.length) (ha : Big a) (hb : Big b) {ob : Nat} (hob : m0.next ≤ ob) {Q : IExit → Slots → Mem → Prop} : ∀ (r i : Nat) (o : List Int) (m : Mem) (σ : Slots),
    i + r = a.length → Old m0 m → m.get ob = some ⟨o.map U, true⟩ → OkL o → o.length = N → val o = val (a.take i) * val b → (∀ k, i + b.length ≤ k → gd o k = 0) →
    σ 0 = v → σ 1 = w → σ 5 = .slice (some ⟨ob, 0, none⟩) N 1 → σ 6 = I i →
    (∀ σ' m' o, Old m0 m' → m'.get ob = some ⟨o.map U, true⟩ → OkL o → o.length = N → val o = val a * val b → σ' 5 = .slice (some ⟨ob, 0, none⟩) N 1 → Q (.exit 0) σ' m') → WP Tryz.prog (.loop ir172_l1) σ m Q
  | 0, i, o, m, σ, hi, ho, hg, hok, hlo, he, hh, s0, s1, s5, s6, hQ => by
    refine wp_round fun J hJ => ?_
    have e : i = a.length := by omega
    subst e
    obtain ⟨h1, h2, h3, h4⟩ := (hv.mono ho).len
    simp (disch := first | omega | (simp only [zqp, zqq]; omega)) [ir172_l1, ir172_k1, ir172_k2, ir172_k3, ir172_k4, ir172_k5, ir172_k6, ir172_k7, s0, s1, s5, s6, h1, h2, zqa, zqb, zqc, zqd, zqe, zqf, zqg, zqh, zqi, zqj, zqk, u64b, u32b, zql, zqm, zqn, zqo, -zqu, -isSl, -zqs, -zqt, -zqv, -zqr]
    rw [List.take_of_length_le (l := a) (by omega)] at he
    exact hQ _ _ o ho hg hok hlo he (by simp [s5])
  | r + 1, i, o, m, σ, hi, ho, hg, hok, hlo, he, hh, s0, s1, s5, s6, hQ => by
    refine wp_round fun J hJ => ?_
    have xv := hv.mono ho
    have xw := hw.mono ho
    obtain ⟨h1, h2, h3, h4⟩ := xv.len
    obtain ⟨h1', h2', h3', h4'⟩ := xw.len
    have q0 : (i : Int) < a.length := by omega
    have bx := gd_bd hv.1 i
    simp (disch := first | omega | (simp only [zqp, zqq]; omega)) [ir172_l1, ir172_k1, ir172_k2, ir172_k3, ir172_k4, ir172_k5, ir172_k6, ir172_k7, s0, s1, s5, s6, h1, h2, h3, q0, zqa, zqb, zqc, zqd, zqe, zqf, zqg, zqh, zqi, zqj, zqk, u64b, u32b, zql, zqm, zqn, zqo, -zqu, -isSl, -zqs, -zqt, -zqv, -zqr]
    refine rtimes_inner (i := i) (N := N) (ob := ob) hv hw (by omega) (by omega) (by omega) hob (o0 := o) b.length 0 0 o _ _ (by omega) ho hg hok hlo (by omega) (by omega) (by simp [val]) (fun _ _ => rfl) (by simp [s0]) (by simp [s1]) (by simp [s5]) (by simp [s6]) (by simp) (by simp) fun σ' m' o' c f1 f2 f3 f4 f5 f6 f7 f8 p0 p1 p5 p6 p7 => ?_
    obtain ⟨k, hk⟩ : ∃ k, k = i + b.length := ⟨_, rfl⟩
    have w5 : IntKind.i64.wrap ((i : Int) + (b.length : Int)) = (k : Int) := by rw [i64_id (by omega) (by omega)]; omega
    have w0 : IntKind.i64.wrap ((i : Int) + 1) = (i : Int) + 1 := i64_id (by omega) (by omega)
    have q1 : (k : Int) < N := by omega
    have q2 : k < N := by omega
    have q3 : k + 1 ≤ N := by omega
    have hlt := get_lt f2
    simp (disch := first | omega | (simp only [zqp, zqq]; omega)) [p0, p1, p5, p6, p7, h1', h2', h3', w0, w5, q1, q2, q3, f2, f4, u32_wrap, zqa, zqb, zqc, zqd, zqe, zqf, zqg, zqh, zqi, zqj, zqk, u64b, u32b, zql, zqm, zqn, zqo, -zqu, -isSl, -zqs, -zqt, -zqv, -zqr]
    have hz : o'[k]? = some 0 := by
      have h0 := hh k (by omega)
      rw [← f8 k (by omega)] at h0
      rw [gd_some (List.getElem?_eq_getElem (by omega))] at h0
      rw [List.getElem?_eq_getElem (by omega), h0]
    refine hJ _ _ (rtimes_loop hv hw hN ha hb hob r (i + 1) (o'.set k (c % 4294967296)) _ _ (by omega) (f1.put hob) (by rw [zql hlt, set_map]) (f3.set k (by omega)) (by simp [f4]) ?_ (fun q hq => by rw [gd_set_ne (by omega), f8 q (by omega)]; exact hh q (by omega)) (by simp [p0]) (by simp [p1]) (by simp [p5]) (by simp) hQ)
    rw [val_set _ hz, take_val a, show c % 4294967296 = c by omega]
    rw [← hk, he] at f7
    grind

set_option maxHeartbeats 2000000 in
theorem rtimes_wp {m : Mem} {v w : Value} {a b : List Int} (hv : Sl m v a) (hw : Sl m w b) (ha : a.length < 400000) (hb : b.length < 400000) :
    WPCall Tryz.prog 172 [v, w] m (RNum m (val a * val b)) := by
  rw [call172 (by simp)]
  obtain ⟨h1, h2, h3, h4⟩ := hv.len
  obtain ⟨h1', h2', h3', h4'⟩ := hw.len
  obtain ⟨N, hN⟩ : ∃ N, N = a.length + b.length := ⟨_, rfl⟩
  have w0 : IntKind.i64.wrap ((a.length : Int) + (b.length : Int)) = (N : Int) := by rw [i64_id (by omega) (by omega)]; omega
  simp (disch := first | omega | (simp only [zqp, zqq]; omega)) [ir172_b, ir172_k1, ir172_k2, ir172_k3, ir172_k4, ir172_k5, ir172_k6, ir172_k7, h1, h2, h1', h2', w0, zqa, zqb, zqc, zqd, zqe, zqf, zqg, zqh, zqi, zqj, zqk, u64b, u32b, zql, zqm, zqn, zqo, -zqu, -isSl, -zqs, -zqt, -zqv, -zqr]
  have hM : Old m ((m.bump 7).put (m.next + 5) (some ⟨List.replicate N (.int .u32 0), true⟩)) := ((Old.refl m).bump 7).put (by omega)
  refine ⟨by omega, rtimes_loop (N := N) hv hw hN (by omega) (by omega) (ob := m.next + 5) (by omega) a.length 0 (List.replicate N 0) _ _ (by omega) hM (by rw [zql (by simp)]; simp) (OkL.zeros _) (by simp) (by simp [val, val_zeros]) (fun k hk => by unfold gd; simp [List.getElem?_replicate]; split <;> rfl) (by simp) (by simp) (by simp) (by simp) fun σ' m' o f1 f2 f3 f4 f5 q5 => ?_⟩
  have hs : Sl m' (.slice (some ⟨m.next + 5, 0, none⟩) N 1) o := Sl.mk' f3 f2 f4.symm
  simp (disch := first | omega | (simp only [zqp, zqq]; omega)) [q5, zqa, zqb, zqc, zqd, zqe, zqf, zqg, zqh, zqi, zqj, zqk, u64b, u32b, zql, zqm, zqn, zqo, -zqu, -isSl, -zqs, -zqt, -zqv, -zqr]
  refine (rtrim_wp hs (by omega)).mono fun r m2 hp => ?_
  simp (disch := first | omega | (simp only [zqp, zqq]; omega)) [zqa, zqb, zqc, zqd, zqe, zqf, zqg, zqh, zqi, zqj, zqk, u64b, u32b, zql, zqm, zqn, zqo, -zqu, -isSl, -zqs, -zqt, -zqv, -zqr]
  rw [f5] at hp
  exact ⟨f1.trans hp.1, hp.2⟩
end Go.Proofs.YtkpifdkccdndcaaGreat
namespace Go.Big
/-- a round of a shift upwards that is appended -/
theorem up_round2 {o a : List Int} {i : Nat} {S c t : Int} (h : val o + c * pw i = val (a.take i) * S) (ht : t = c + gd a i * S) (hi : o.length = i) :
    val (o ++ [t % 4294967296]) + (t / 4294967296) * pw (i + 1) = val (a.take (i + 1)) * S := by
  rw [val_append, hi, take_val a]
  have := split_div (t := t) (B := 4294967296) (by omega)
  simp only [pw, val]
  grind
theorem down_round2 {r u : List Int} {i : Nat} {S K : Int} (hS : 0 < S) (hSK : S * K = 4294967296) (h : S * val r = val (u.take i) - gd u 0 % S + (gd u i % S) * pw i) (hi : r.length = i) (hu : OkL u) :
    S * val (r ++ [((gd u (i + 1) * 4294967296 + gd u i) / S) % 4294967296]) = val (u.take (i + 1)) - gd u 0 % S + (gd u (i + 1) % S) * pw (i + 1) := by
  have := down_round (r := r ++ [0]) (i := i) hS hSK (by rw [List.take_left' hi]; exact h) (by simp; omega) hu
  rw [← this]
  congr 1
  have e : (r ++ [0]).set i ((gd u (i + 1) * 4294967296 + gd u i) / S % 4294967296) = r ++ [(gd u (i + 1) * 4294967296 + gd u i) / S % 4294967296] := by
    subst hi; simp
  rw [e, List.take_of_length_le (by simp; omega)]
end Go.Big
namespace Go.Proofs.YtkpifdkccdndcaaGreat
open Go Go.DI Go.Big
set_option linter.unusedSimpArgs false
set_option linter.unusedVariables false

set_option maxHeartbeats 2000000 in
theorem rup_loop {m0 : Mem} {v : Value} {a : List Int} {s : Nat} {S : Int} (hS : S = (2 : Int) ^ s) (hs : s < 32) (hS1 : 1 ≤ S ∧ S ≤ 2147483648) (hv : Sl m0 v a) (ha : Big a) {Q : IExit → Slots → Mem → Prop} : ∀ (r i ob : Nat) (c : Int) (o : List Int) (m : Mem) (σ : Slots),
    i + r = a.length → Old m0 m → m0.next ≤ ob → m.get ob = some ⟨o.map U, true⟩ → OkL o → o.length = i → 0 ≤ c → c < S → val o + c * pw i = val (a.take i) * S →
    σ 0 = v → σ 1 = I s → σ 5 = .slice (some ⟨ob, 0, none⟩) o.length 1 → σ 6 = L c → σ 7 = I i →
    (∀ σ' m' o c ob, Old m0 m' → m0.next ≤ ob → m'.get ob = some ⟨o.map U, true⟩ → OkL o → o.length = a.length → 0 ≤ c → c < S → val o + c * pw a.length = val a * S →
      σ' 5 = .slice (some ⟨ob, 0, none⟩) o.length 1 → σ' 6 = L c → Q (.exit 0) σ' m') → WP Tryz.prog (.loop ir174_l0) σ m Q
  | 0, i, ob, c, o, m, σ, hi, ho, hob, hg, hok, hlo, c0, c1, he, s0, s1, s5, s6, s7, hQ => by
    refine wp_round fun J hJ => ?_
    have e : i = a.length := by omega
    subst e
    obtain ⟨h1, h2, h3, h4⟩ := (hv.mono ho).len
    simp (disch := first | omega | (simp only [zqp, zqq]; omega)) [ir174_l0, ir174_k1, ir174_k2, ir174_k3, ir174_k4, ir174_k5, ir174_k6, ir174_k7, s0, s1, s5, s6, s7, h1, h2, zqa, zqb, zqc, zqd, zqe, zqf, zqg, zqh, zqi, zqj, zqk, u64b, u32b, zql, zqm, zqn, zqo, -zqu, -isSl, -zqs, -zqt, -zqv, -zqr]
    rw [List.take_of_length_le (l := a) (by omega)] at he
    exact hQ _ _ o c ob ho hob hg hok hlo c0 c1 he (by simp [s5]) (by simp [s6])
  | r + 1, i, ob, c, o, m, σ, hi, ho, hob, hg, hok, hlo, c0, c1, he, s0, s1, s5, s6, s7, hQ => by
    refine wp_round fun J hJ => ?_
    have xv := hv.mono ho
    obtain ⟨h1, h2, h3, h4⟩ := xv.len
    have hnx := ho.next
    have q0 : (i : Int) < a.length := by omega
    have a1 := xv.addr (i := i) (by omega)
    have a2 := xv.load (i := i) (by omega)
    have bx := gd_bd hv.1 i
    have hp : gd a i * S + S ≤ 4294967296 * S := by
      have := Int.mul_le_mul_of_nonneg_right (show gd a i + 1 ≤ 4294967296 by omega) (show 0 ≤ S by omega)
      rw [Int.add_mul, Int.one_mul] at this; exact this
    have hp0 : 0 ≤ gd a i * S := Int.mul_nonneg bx.1 (by omega)
    obtain ⟨t, ht⟩ : ∃ t, t = c + gd a i * S := ⟨_, rfl⟩
    have w0 : IntKind.i64.wrap ((i : Int) + 1) = (i : Int) + 1 := i64_id (by omega) (by omega)
    have w1 : IntKind.u64.wrap (gd a i) = gd a i := u64_id (by omega) (by omega)
    have w2 : IntKind.u64.wrap (gd a i * S) = gd a i * S := u64_id (by omega) (by omega)
    have w3 : IntKind.u64.wrap ↑((gd a i * S % 2 ^ IntKind.u64.bits).toNat ||| (c % 2 ^ IntKind.u64.bits).toNat) = t := by rw [or_shl hS bx.1 c0 c1 (by omega), ht]; omega
    have w4 : (s : Int).tmod 32 = s := by rw [Int.tmod_eq_emod_of_nonneg (by omega)]; omega
    have w5 : IntKind.u64.wrap (s : Int) = s := u64_id (by omega) (by omega)
    have mn : min s 64 = s := by omega
    have hlt := get_lt hg
    have lim : ((o.length : Int) + 1) * 4 ≤ 140737488355328 := by omega
    have lim2 : (o.length + 1) * 4 ≤ 140737488355328 := by omega
    have lim3 : o.length + 1 ≤ 9223372036854775807 := by omega
    simp (disch := first | omega | (simp only [zqp, zqq]; omega)) [ir174_l0, ir174_k1, ir174_k2, ir174_k3, ir174_k4, ir174_k5, ir174_k6, ir174_k7, s0, s1, s5, s6, s7, h1, h2, h3, q0, a1, a2, w0, w1, w2, w3, w4, w5, mn, ← hS, hg, u32_wrap, fdiv32, lim, lim2, lim3, zqa, zqb, zqc, zqd, zqe, zqf, zqg, zqh, zqi, zqj, zqk, u64b, u32b, zql, zqm, zqn, zqo, -zqu, -isSl, -zqs, -zqt, -zqv, -zqr]
    refine hJ _ _ (rup_loop hS hs hS1 hv ha r (i + 1) (m.next + 4) (t / 4294967296) (o ++ [t % 4294967296]) _ _ (by omega) ((((ho.bump _).put (by omega)).put (by omega)).put (by omega)) (by omega) (by rw [zql (by simp), List.take_of_length_le (by simp), map_snoc]) (okL_snoc hok (by omega)) (by simp [hlo]) (by omega) (by omega) (up_round2 he ht hlo) (by simp [s0]) (by simp [s1]) (by simp) (by simp) (by simp) hQ)
set_option maxHeartbeats 2000000 in
theorem rup_wp {m : Mem} {v : Value} {a : List Int} {s : Nat} {S : Int} (hS : S = (2 : Int) ^ s) (hs : s < 32) (hS1 : 1 ≤ S ∧ S ≤ 2147483648) (hv : Sl m v a) (ha : a.length < 900000) :
    WPCall Tryz.prog 174 [v, I s] m (RNum m (val a * S)) := by
  rw [call174 (by simp)]
  obtain ⟨h1, h2, h3, h4⟩ := hv.len
  by_cases k0 : a.length = 0
  · obtain rfl : a = [] := List.length_eq_zero_iff.1 k0
    simp (disch := first | omega | (simp only [zqp, zqq]; omega)) [ir174_b, ir174_k1, ir174_k2, ir174_k3, ir174_k4, ir174_k5, ir174_k6, ir174_k7, h1, h2, zqa, zqb, zqc, zqd, zqe, zqf, zqg, zqh, zqi, zqj, zqk, u64b, u32b, zql, zqm, zqn, zqo, -zqu, -isSl, -zqs, -zqt, -zqv, -zqr]
    refine ⟨Old.refl m, ?_⟩
    rw [show val [] * S = 0 by simp [val], digs_zero (by omega)]; exact Sl.nil
  · have w4 : (s : Int).tdiv 32 = 0 := by rw [Int.tdiv_eq_ediv_of_nonneg (by omega)]; omega
    have k1 : ¬ (a.length : Int) = 0 := by omega
    have k2 : ¬ a = [] := fun h => k0 (by simp [h])
    have w5 : IntKind.i64.wrap 0 = 0 := by decide
    simp (disch := first | omega | (simp only [zqp, zqq]; omega)) [ir174_b, ir174_k1, ir174_k2, ir174_k3, ir174_k4, ir174_k5, ir174_k6, ir174_k7, h1, h2, w4, w5, k1, k0, k2, zqa, zqb, zqc, zqd, zqe, zqf, zqg, zqh, zqi, zqj, zqk, u64b, u32b, zql, zqm, zqn, zqo, -zqu, -isSl, -zqs, -zqt, -zqv, -zqr]
    refine rup_loop hS hs hS1 hv (by omega) a.length 0 (m.next + 2) 0 [] _ _ (by omega) (((Old.refl m).bump _).put (by omega)) (by omega) (by rw [zql (by simp)]; rfl) (by simp [OkL]) rfl (by omega) (by omega) (by simp [val]) (by simp) (by simp) (by simp) (by simp) (by simp) fun σ' m' o c ob f1 f2 f3 f4 f5 f6 f7 f8 q5 q6 => ?_
    have hlt := get_lt f3
    have hnx := f1.next
    have lim : ((o.length : Int) + 1) * 4 ≤ 140737488355328 := by omega
    have lim2 : (o.length + 1) * 4 ≤ 140737488355328 := by omega
    have lim3 : o.length + 1 ≤ 9223372036854775807 := by omega
    have hlto : o.length = (o.map U).length := by simp
    simp (disch := first | omega | (simp only [zqp, zqq]; omega)) [q5, q6, f3, u32_wrap, lim, lim2, lim3, zqa, zqb, zqc, zqd, zqe, zqf, zqg, zqh, zqi, zqj, zqk, u64b, u32b, zql, zqm, zqn, zqo, -zqu, -isSl, -zqs, -zqt, -zqv, -zqr]
    have hs' : ∀ {mm : Mem} {b : Nat}, mm.get b = some ⟨List.take o.length (o.map U) ++ [U (c % 4294967296)], true⟩ → Sl mm (.slice (some ⟨b, 0, none⟩) (o.length + 1) 1) (o ++ [c % 4294967296]) := fun {mm b} h => Sl.mk' (okL_snoc f4 (by omega)) (by rw [h, List.take_of_length_le (by simp), map_snoc]) (by simp)
    refine (rtrim_wp (hs' (zql (by simp))) (by simp; omega)).mono fun r m2 hp => ?_
    simp (disch := first | omega | (simp only [zqp, zqq]; omega)) [zqa, zqb, zqc, zqd, zqe, zqf, zqg, zqh, zqi, zqj, zqk, u64b, u32b, zql, zqm, zqn, zqo, -zqu, -isSl, -zqs, -zqt, -zqv, -zqr]
    have e : val (o ++ [c % 4294967296]) = val a * S := by rw [val_append, show c % 4294967296 = c by omega, f5]; simp only [val]; rw [← f8]; grind
    rw [e] at hp
    exact ⟨((((f1.bump _).put (by omega)).put (by omega)).put (by omega)).trans hp.1, hp.2⟩
set_option maxHeartbeats 2000000 in
theorem rdown_loop {m0 : Mem} {v : Value} {a : List Int} {s : Nat} {S K : Int} (hS : S = (2 : Int) ^ s) (hs : s < 32) (hS1 : 1 ≤ S ∧ S ≤ 2147483648) (hSK : S * K = 4294967296) (hv : Sl m0 v a) (ha : Big a) {Q : IExit → Slots → Mem → Prop} : ∀ (r i : Nat) (u : Value) (o : List Int) (m : Mem) (σ : Slots),
    i + r = a.length → Old m0 m → OutL m0 m u o → OkL o → o.length = i → S * val o = val (a.take i) - gd a 0 % S + (gd a i % S) * pw i →
    σ 0 = v → σ 1 = I s → σ 5 = u → σ 6 = I i →
    (∀ σ' m' o u, Old m0 m' → OutL m0 m' u o → OkL o → o.length = a.length → S * val o = val a - gd a 0 % S → σ' 5 = u → Q (.exit 0) σ' m') → WP Tryz.prog (.loop ir175_l0) σ m Q
  | 0, i, u, o, m, σ, hi, ho, hu, hok, hlo, he, s0, s1, s5, s6, hQ => by
    refine wp_round fun J hJ => ?_
    have e : i = a.length := by omega
    subst e
    obtain ⟨h1, h2, h3, h4⟩ := (hv.mono ho).len
    simp (disch := first | omega | (simp only [zqp, zqq]; omega)) [ir175_l0, ir175_k1, ir175_k2, ir175_k3, ir175_k4, ir175_k5, ir175_k6, s0, s1, s5, s6, h1, h2, zqa, zqb, zqc, zqd, zqe, zqf, zqg, zqh, zqi, zqj, zqk, u64b, u32b, zql, zqm, zqn, zqo, -zqu, -isSl, -zqs, -zqt, -zqv, -zqr]
    rw [List.take_of_length_le (l := a) (by omega), gd_none (Nat.le_refl _)] at he
    exact hQ _ _ o u ho hu hok hlo (by simp at he; omega) (by simp [s5])
  | r + 1, i, u, o, m, σ, hi, ho, hu, hok, hlo, he, s0, s1, s5, s6, hQ => by
    refine wp_round fun J hJ => ?_
    have xv := hv.mono ho
    obtain ⟨h1, h2, h3, h4⟩ := xv.len
    have hnx := ho.next
    have q0 : (i : Int) < a.length := by omega
    have a1 := xv.addr (i := i) (by omega)
    have a2 := xv.load (i := i) (by omega)
    have bx := gd_bd hv.1 i
    have bx2 := gd_bd hv.1 (i + 1)
    obtain ⟨t, ht⟩ : ∃ t, t = gd a (i + 1) * 4294967296 + gd a i := ⟨_, rfl⟩
    have w0 : IntKind.i64.wrap ((i : Int) + 1) = (i : Int) + 1 := i64_id (by omega) (by omega)
    have w1 : IntKind.u64.wrap (gd a i) = gd a i := u64_id (by omega) (by omega)
    have w2 : IntKind.u64.wrap (gd a (i + 1)) = gd a (i + 1) := u64_id (by omega) (by omega)
    have w3 : IntKind.u64.wrap (gd a (i + 1) * 4294967296) = gd a (i + 1) * 4294967296 := u64_id (by omega) (by omega)
    have w4 : (s : Int).tmod 32 = s := by rw [Int.tmod_eq_emod_of_nonneg (by omega)]; omega
    have w5 : IntKind.u64.wrap (s : Int) = s := u64_id (by omega) (by omega)
    have w6 : IntKind.u64.wrap ↑((gd a i % 2 ^ IntKind.u64.bits).toNat ||| (gd a (i + 1) * 4294967296 % 2 ^ IntKind.u64.bits).toNat) = t := by
      rw [or_shl' (s := 32) (by decide) bx2.1 bx.1 bx.2 (by omega), ht]; omega
    have w7 : t.fdiv S = t / S := Int.fdiv_eq_ediv_of_nonneg t (by omega)
    have mn : min s 64 = s := by omega
    have lim : ((o.length : Int) + 1) * 4 ≤ 140737488355328 := by omega
    have lim2 : (o.length + 1) * 4 ≤ 140737488355328 := by omega
    have lim3 : o.length + 1 ≤ 9223372036854775807 := by omega
    have hdr := down_round2 (r := o) (i := i) (by omega) hSK he hlo hv.1
    rw [← ht] at hdr
    by_cases k1 : (i : Int) + 1 < a.length
    · have b1 := xv.addr (i := i + 1) (by omega)
      have b2 := xv.load (i := i + 1) (by omega)
      simp only [Int.natCast_add, Int.cast_ofNat_Int] at b1 b2
      have q1 : (0 : Int) ≤ (i : Int) + 1 := by omega
      rcases hu with ⟨rfl, rfl⟩ | ⟨b, hb, rfl, hg⟩
      · simp (disch := first | omega | (simp only [zqp, zqq]; omega)) [ir175_l0, ir175_k1, ir175_k2, ir175_k3, ir175_k4, ir175_k5, ir175_k6, s0, s1, s5, s6, h1, h2, h3, q0, q1, k1, a1, a2, b1, b2, w0, w1, w2, w3, w4, w5, w6, w7, mn, ← hS, u32_wrap, lim, lim2, lim3, zqa, zqb, zqc, zqd, zqe, zqf, zqg, zqh, zqi, zqj, zqk, u64b, u32b, zql, zqm, zqn, zqo, -zqu, -isSl, -zqs, -zqt, -zqv, -zqr]
        refine hJ _ _ (rdown_loop hS hs hS1 hSK hv ha r (i + 1) (.slice (some ⟨m.next + 8, 0, none⟩) 1 1) ([] ++ [t / S % 4294967296]) _ _ (by omega) (((ho.bump _).put (by omega)).put (by omega)) (OutL.snoc (by omega) (by rw [zql (by simp)]; rfl) rfl) (okL_snoc hok (by omega)) (by simp at hlo ⊢; omega) hdr (by simp [s0]) (by simp [s1]) (by simp) (by simp) hQ)
      · have hlt := get_lt hg
        simp (disch := first | omega | (simp only [zqp, zqq]; omega)) [ir175_l0, ir175_k1, ir175_k2, ir175_k3, ir175_k4, ir175_k5, ir175_k6, s0, s1, s5, s6, h1, h2, h3, q0, q1, k1, a1, a2, b1, b2, w0, w1, w2, w3, w4, w5, w6, w7, mn, ← hS, u32_wrap, lim, lim2, lim3, hg, zqa, zqb, zqc, zqd, zqe, zqf, zqg, zqh, zqi, zqj, zqk, u64b, u32b, zql, zqm, zqn, zqo, -zqu, -isSl, -zqs, -zqt, -zqv, -zqr]
        refine hJ _ _ (rdown_loop hS hs hS1 hSK hv ha r (i + 1) (.slice (some ⟨m.next + 8, 0, none⟩) (o.length + 1) 1) (o ++ [t / S % 4294967296]) _ _ (by omega) ((((ho.bump _).put (by omega)).put (by omega)).put (by omega)) (OutL.snoc (by omega) (by rw [zql (by simp), List.take_of_length_le (by simp)]) rfl) (okL_snoc hok (by omega)) (by simp [hlo]) hdr (by simp [s0]) (by simp [s1]) (by simp) (by simp) hQ)
    · have z0 : gd a (i + 1) = 0 := gd_none (by omega)
      have w8 : (gd a i).fdiv S = t / S := by rw [ht, z0, Int.fdiv_eq_ediv_of_nonneg _ (by omega)]; simp
      rcases hu with ⟨rfl, rfl⟩ | ⟨b, hb, rfl, hg⟩
      · simp (disch := first | omega | (simp only [zqp, zqq]; omega)) [ir175_l0, ir175_k1, ir175_k2, ir175_k3, ir175_k4, ir175_k5, ir175_k6, s0, s1, s5, s6, h1, h2, h3, q0, k1, a1, a2, w0, w1, w4, w5, w8, mn, ← hS, u32_wrap, lim, lim2, lim3, zqa, zqb, zqc, zqd, zqe, zqf, zqg, zqh, zqi, zqj, zqk, u64b, u32b, zql, zqm, zqn, zqo, -zqu, -isSl, -zqs, -zqt, -zqv, -zqr]
        refine hJ _ _ (rdown_loop hS hs hS1 hSK hv ha r (i + 1) (.slice (some ⟨m.next + 8, 0, none⟩) 1 1) ([] ++ [t / S % 4294967296]) _ _ (by omega) (((ho.bump _).put (by omega)).put (by omega)) (OutL.snoc (by omega) (by rw [zql (by simp)]; rfl) rfl) (okL_snoc hok (by omega)) (by simp at hlo ⊢; omega) hdr (by simp [s0]) (by simp [s1]) (by simp) (by simp) hQ)
      · have hlt := get_lt hg
        simp (disch := first | omega | (simp only [zqp, zqq]; omega)) [ir175_l0, ir175_k1, ir175_k2, ir175_k3, ir175_k4, ir175_k5, ir175_k6, s0, s1, s5, s6, h1, h2, h3, q0, k1, a1, a2, w0, w1, w4, w5, w8, mn, ← hS, u32_wrap, lim, lim2, lim3, hg, zqa, zqb, zqc, zqd, zqe, zqf, zqg, zqh, zqi, zqj, zqk, u64b, u32b, zql, zqm, zqn, zqo, -zqu, -isSl, -zqs, -zqt, -zqv, -zqr]
        refine hJ _ _ (rdown_loop hS hs hS1 hSK hv ha r (i + 1) (.slice (some ⟨m.next + 8, 0, none⟩) (o.length + 1) 1) (o ++ [t / S % 4294967296]) _ _ (by omega) ((((ho.bump _).put (by omega)).put (by omega)).put (by omega)) (OutL.snoc (by omega) (by rw [zql (by simp), List.take_of_length_le (by simp)]) rfl) (okL_snoc hok (by omega)) (by simp [hlo]) hdr (by simp [s0]) (by simp [s1]) (by simp) (by simp) hQ)
set_option maxHeartbeats 2000000 in
theorem rdown_wp {m : Mem} {v : Value} {a : List Int} {s : Nat} {S K : Int} (hS : S = (2 : Int) ^ s) (hs : s < 32) (hS1 : 1 ≤ S ∧ S ≤ 2147483648) (hSK : S * K = 4294967296) (hv : Sl m v a) (ha : a.length < 900000) :
    WPCall Tryz.prog 175 [v, I s] m (RNum m (val a / S)) := by
  rw [call175 (by simp)]
  obtain ⟨h1, h2, h3, h4⟩ := hv.len
  have w4 : (s : Int).tdiv 32 = 0 := by rw [Int.tdiv_eq_ediv_of_nonneg (by omega)]; omega
  have w5 : IntKind.i64.wrap 0 = 0 := by decide
  by_cases k0 : a.length = 0
  · obtain rfl : a = [] := List.length_eq_zero_iff.1 k0
    simp (disch := first | omega | (simp only [zqp, zqq]; omega)) [ir175_b, ir175_k1, ir175_k2, ir175_k3, ir175_k4, ir175_k5, ir175_k6, h1, h2, w4, w5, zqa, zqb, zqc, zqd, zqe, zqf, zqg, zqh, zqi, zqj, zqk, u64b, u32b, zql, zqm, zqn, zqo, -zqu, -isSl, -zqs, -zqt, -zqv, -zqr]
    refine ⟨Old.refl m, ?_⟩
    rw [show val [] / S = 0 by simp [val], digs_zero (by omega)]; exact Sl.nil
  · have k1 : ¬ (a.length : Int) ≤ 0 := by omega
    have k2 : ¬ a = [] := fun h => k0 (by simp [h])
    simp (disch := first | omega | (simp only [zqp, zqq]; omega)) [ir175_b, ir175_k1, ir175_k2, ir175_k3, ir175_k4, ir175_k5, ir175_k6, h1, h2, w4, w5, k1, k0, k2, zqa, zqb, zqc, zqd, zqe, zqf, zqg, zqh, zqi, zqj, zqk, u64b, u32b, zql, zqm, zqn, zqo, -zqu, -isSl, -zqs, -zqt, -zqv, -zqr]
    refine rdown_loop hS hs hS1 hSK hv (by omega) a.length 0 (.slice none 0 0) [] _ _ (by omega) (Old.refl m) (.inl ⟨rfl, rfl⟩) (by simp [OkL]) rfl (by simp [val, pw]; rw [Int.add_left_neg]) (by simp) (by simp) (by simp) (by simp) fun σ' m' o u f1 f2 f3 f4 f5 q5 => ?_
    simp (disch := first | omega | (simp only [zqp, zqq]; omega)) [q5, zqa, zqb, zqc, zqd, zqe, zqf, zqg, zqh, zqi, zqj, zqk, u64b, u32b, zql, zqm, zqn, zqo, -zqu, -isSl, -zqs, -zqt, -zqv, -zqr]
    refine (rtrim_wp (f2.sl f3) (by omega)).mono fun r m2 hp => ?_
    simp (disch := first | omega | (simp only [zqp, zqq]; omega)) [zqa, zqb, zqc, zqd, zqe, zqf, zqg, zqh, zqi, zqj, zqk, u64b, u32b, zql, zqm, zqn, zqo, -zqu, -isSl, -zqs, -zqt, -zqv, -zqr]
    have e : val o = val a / S := by
      have e0 := Int.emod_nonneg (gd a 0) (show S ≠ 0 by omega)
      have e1 := Int.emod_lt_of_pos (gd a 0) (show 0 < S by omega)
      have e2 : val a = val o * S + gd a 0 % S := by rw [Int.mul_comm (val o)]; omega
      exact (div_of e2 e0 e1).1.symm
    rw [e] at hp
    exact ⟨f1.trans hp.1, hp.2⟩
end Go.Proofs.YtkpifdkccdndcaaGreat
