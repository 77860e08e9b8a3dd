/-
  'Value', of the program and of the reference.
-/
import Derived.Test.YtapnkfkpkcajjaaMfC
namespace Go.Proofs.Ytapnkfkpkcajjaa
open Go Go.DI Go.Nets
set_option linter.unusedSimpArgs false
set_option linter.unusedVariables false

def okC (n : Net) (g : Int → Int) (x : Nat) : Bool := decide ((x : Int) = n.src) || decide ((x : Int) = n.snk) || decide (g x = 0)
theorem conB_of {n : Net} {g : Int → Int} {N : Nat} (h : ∀ k, 0 ≤ k → k < N → okC n g k = true) : conB n g (List.range N) = true := by
  simp only [conB, List.all_eq_true, List.mem_range]
  exact fun k hk => h k (Nat.zero_le _) hk
theorem conB_not {n : Net} {g : Int → Int} {N : Nat} (h : ∃ k, 0 ≤ k ∧ k < N ∧ okC n g k = false) : conB n g (List.range N) = false := by
  obtain ⟨k, _, hk, h⟩ := h
  cases hc : conB n g (List.range N) with
  | false => rfl
  | true =>
    simp only [conB, List.all_eq_true, List.mem_range] at hc
    have := hc k hk
    unfold okC at h
    rw [h] at this; cases this

set_option maxHeartbeats 4000000 in
theorem value_loop1 {n : Net} {N : Nat} (hN : n.nodes = N) (hNN : N < 100000) {v : Value} {b nb : Nat} {m : Mem} (hgb : m.get b = some ⟨netC n v, true⟩) {g : Int → Int} (hg : m.get nb = some ⟨rowI N g, true⟩) {Q : IExit → Slots → Mem → Prop} : ∀ (r i : Nat) (σ : Slots), i + r = N →
    σ 70 = .slice (some ⟨nb, 0, none⟩) N 1 → σ 71 = I N → σ 72 = I i → σ 6 = .slice (some ⟨nb, 0, none⟩) N 1 → σ 2 = ptr b →
    (∀ σ', (∀ k, i ≤ k → k < N → okC n g k = true) → σ' 6 = .slice (some ⟨nb, 0, none⟩) N 1 → σ' 2 = ptr b → Q (.exit 2) σ' m) →
    (∀ σ', (∃ k, i ≤ k ∧ k < N ∧ okC n g k = false) → σ' 4 = I 0 → σ' 5 = .bool false → Q .ret σ' m) → WP Try.prog (.loop ir17_l1) σ m Q
  | 0, i, σ, hi, s70, s71, si, s6, s2, hQ, hR => by
    refine wp_round fun J hJ => ?_
    have h1 : ¬ (i : Int) < n.nodes := by omega
    have h2 : ¬ i < N := by omega
    simp [ir17_l1, s70, s71, si, s2, h1, h2, hgb]
    exact hQ _ (fun k h1 h2 => by omega) (by simp [s6]) (by simp [s2])
  | r + 1, i, σ, hi, s70, s71, si, s6, s2, hQ, hR => by
    refine wp_round fun J hJ => ?_
    have h1 : (i : Int) < n.nodes := by omega
    have h2 : i < N := by omega
    have h3 : i + 1 ≤ N := h2
    have w0 : IntKind.i64.wrap ((i : Int) + 1) = (i : Int) + 1 := i64_id (by omega) (by omega)
    have hrg : (rowI N g)[i]? = some (I (g i)) := rowI_get h2
    have next : ∀ (σ' : Slots), okC n g i = true → σ' 70 = .slice (some ⟨nb, 0, none⟩) N 1 → σ' 71 = I N → σ' 72 = I ((i : Int) + 1) → σ' 6 = .slice (some ⟨nb, 0, none⟩) N 1 → σ' 2 = ptr b → J σ' m := by
      intro σ' hok q70 q71 qi q6 q2
      refine hJ _ _ (value_loop1 hN hNN hgb hg r (i + 1) σ' (by omega) q70 q71 (by rw [qi]; simp) q6 q2 (fun σ'' e1 e2 e3 => hQ _ (fun k k1 k2 => ?_) e2 e3) (fun σ'' e1 e2 e3 => hR _ ?_ e2 e3))
      · by_cases h : k = i
        · rw [h]; exact hok
        · exact e1 k (by omega) k2
      · obtain ⟨k, k1, k2, k3⟩ := e1
        exact ⟨k, by omega, k2, k3⟩
    by_cases c1 : (i : Int) = n.src
    · simp (disch := first | omega | (simp only [next_put, next_bump]; omega)) [ir17_l1, s70, s71, hgb, hg, h1, h3, w0, head_td, hrg, h2, si, s6, s2, eq_true c1, get_put_self, get_put_ne, get_bump, put_put]
      exact next _ (by simp [okC, *]) (by simp [s70]) (by simp [s71]) (by simp) (by simp [s6]) (by simp [s2])
    by_cases c2 : (i : Int) = n.snk
    · simp (disch := first | omega | (simp only [next_put, next_bump]; omega)) [ir17_l1, s70, s71, hgb, hg, h1, h3, w0, head_td, hrg, h2, si, s6, s2, c1, eq_true c2, get_put_self, get_put_ne, get_bump, put_put]
      exact next _ (by simp [okC, *]) (by simp [s70]) (by simp [s71]) (by simp) (by simp [s6]) (by simp [s2])
    by_cases c3 : g i = 0
    · simp (disch := first | omega | (simp only [next_put, next_bump]; omega)) [ir17_l1, s70, s71, hgb, hg, h1, h3, w0, head_td, hrg, h2, si, s6, s2, c1, c2, c3, get_put_self, get_put_ne, get_bump, put_put]
      exact next _ (by simp [okC, *]) (by simp [s70]) (by simp [s71]) (by simp) (by simp [s6]) (by simp [s2])
    · simp (disch := first | omega | (simp only [next_put, next_bump]; omega)) [ir17_l1, s70, s71, hgb, hg, h1, h3, w0, head_td, hrg, h2, si, s6, s2, c1, c2, c3, get_put_self, get_put_ne, get_bump, put_put]
      exact hR _ ⟨i, Nat.le_refl _, h2, by simp [okC, *]⟩ (by simp) (by simp)

set_option maxHeartbeats 4000000 in
theorem rvalue_loop1 {n : Net} {N : Nat} (hN : n.nodes = N) (hNN : N < 100000) {v : Value} {b nb : Nat} {m : Mem} (hgb : m.get b = some ⟨netC n v, true⟩) {g : Int → Int} (hg : m.get nb = some ⟨rowI N g, true⟩) {Q : IExit → Slots → Mem → Prop} : ∀ (r i : Nat) (σ : Slots), i + r = N →
    σ 9 = I i → σ 6 = .slice (some ⟨nb, 0, none⟩) N 1 → σ 2 = ptr b →
    (∀ σ', (∀ k, i ≤ k → k < N → okC n g k = true) → σ' 6 = .slice (some ⟨nb, 0, none⟩) N 1 → σ' 2 = ptr b → Q (.exit 2) σ' m) →
    (∀ σ', (∃ k, i ≤ k ∧ k < N ∧ okC n g k = false) → σ' 4 = I 0 → σ' 5 = .bool false → Q .ret σ' m) → WP Try.prog (.loop ir18_l1) σ m Q
  | 0, i, σ, hi, si, s6, s2, hQ, hR => by
    refine wp_round fun J hJ => ?_
    have h1 : ¬ (i : Int) < n.nodes := by omega
    have h2 : ¬ i < N := by omega
    simp [ir18_l1, si, s2, h1, h2, hgb]
    exact hQ _ (fun k h1 h2 => by omega) (by simp [s6]) (by simp [s2])
  | r + 1, i, σ, hi, si, s6, s2, hQ, hR => by
    refine wp_round fun J hJ => ?_
    have h1 : (i : Int) < n.nodes := by omega
    have h2 : i < N := by omega
    have h3 : i + 1 ≤ N := h2
    have w0 : IntKind.i64.wrap ((i : Int) + 1) = (i : Int) + 1 := i64_id (by omega) (by omega)
    have hrg : (rowI N g)[i]? = some (I (g i)) := rowI_get h2
    have next : ∀ (σ' : Slots), okC n g i = true → σ' 9 = I ((i : Int) + 1) → σ' 6 = .slice (some ⟨nb, 0, none⟩) N 1 → σ' 2 = ptr b → J σ' m := by
      intro σ' hok qi q6 q2
      refine hJ _ _ (rvalue_loop1 hN hNN hgb hg r (i + 1) σ' (by omega) (by rw [qi]; simp) q6 q2 (fun σ'' e1 e2 e3 => hQ _ (fun k k1 k2 => ?_) e2 e3) (fun σ'' e1 e2 e3 => hR _ ?_ e2 e3))
      · by_cases h : k = i
        · rw [h]; exact hok
        · exact e1 k (by omega) k2
      · obtain ⟨k, k1, k2, k3⟩ := e1
        exact ⟨k, by omega, k2, k3⟩
    by_cases c1 : (i : Int) = n.src
    · simp (disch := first | omega | (simp only [next_put, next_bump]; omega)) [ir18_l1, hgb, hg, h1, h3, w0, head_td, hrg, h2, si, s6, s2, eq_true c1, get_put_self, get_put_ne, get_bump, put_put]
      exact next _ (by simp [okC, *]) (by simp) (by simp [s6]) (by simp [s2])
    by_cases c2 : (i : Int) = n.snk
    · simp (disch := first | omega | (simp only [next_put, next_bump]; omega)) [ir18_l1, hgb, hg, h1, h3, w0, head_td, hrg, h2, si, s6, s2, c1, eq_true c2, get_put_self, get_put_ne, get_bump, put_put]
      exact next _ (by simp [okC, *]) (by simp) (by simp [s6]) (by simp [s2])
    by_cases c3 : g i = 0
    · simp (disch := first | omega | (simp only [next_put, next_bump]; omega)) [ir18_l1, hgb, hg, h1, h3, w0, head_td, hrg, h2, si, s6, s2, c1, c2, c3, get_put_self, get_put_ne, get_bump, put_put]
      exact next _ (by simp [okC, *]) (by simp) (by simp [s6]) (by simp [s2])
    · simp (disch := first | omega | (simp only [next_put, next_bump]; omega)) [ir18_l1, hgb, hg, h1, h3, w0, head_td, hrg, h2, si, s6, s2, c1, c2, c3, get_put_self, get_put_ne, get_bump, put_put]
      exact hR _ ⟨i, Nat.le_refl _, h2, by simp [okC, *]⟩ (by simp) (by simp)

set_option maxHeartbeats 4000000 in
theorem value_wp {n : Net} {v w : Value} {fl : List Int} {m : Mem} (hv : Arcs m v n.arcs) (hw : Ints m w fl) : WPCall Try.prog 17 [netV n v, w] m fun r m' => r = .tuple #[I (valueR n fl).1, .bool (valueR n fl).2] ∧ Old m m' := by
  rw [call17 (by simp)]
  obtain ⟨hlen, hsl⟩ := hv.len
  obtain ⟨hlen2, hsl2⟩ := hw.len
  have hM : Old m ((m.bump 3).put m.next (some ⟨netC n v, true⟩)) := ((Old.refl m).bump 3).put (Nat.le_refl _)
  simp (disch := first | omega | (simp only [next_put, next_bump]; omega)) [ir17_b, hlen, hsl, hlen2, hsl2, get_put_self, get_put_ne, get_bump, put_put, -lenOfV, -isSl]
  refine (valid_wp (hv.mono hM)).mono fun r m2 hp => ?_
  obtain ⟨rfl, ho⟩ := hp
  have ho2 := hM.trans ho
  have hg : m2.get m.next = some ⟨netC n v, true⟩ := ho.some (get_put_self (by simp))
  have hln := get_lt hg
  have hn2 := ho2.next
  cases hV : validB n
  · simp (disch := first | omega | (simp only [next_put, next_bump]; omega)) [hlen, hsl, hlen2, hsl2, hg, hV, get_put_self, get_put_ne, get_bump, put_put, -lenOfV, -isSl]
    exact ⟨by simp [valueR, hV], ho2⟩
  have hv2 := hv.mono ho2
  have hw2 := hw.mono ho2
  by_cases hl : fl.length = n.arcs.length
  · have hVV := validB_iff.1 hV
    obtain ⟨N, hN⟩ : ∃ N : Nat, n.nodes = N := ⟨n.nodes.toNat, by have := hVV.n2; omega⟩
    obtain ⟨ks, hks⟩ : ∃ k : Nat, n.src = k := ⟨n.src.toNat, by have := hVV.src.1; omega⟩
    have hks' : (ks : Int) = n.src := hks.symm
    have hN' : n.nodes.toNat = N := by omega
    have hks2 : n.src.toNat = ks := by omega
    have s0 : 0 ≤ n.src := hVV.src.1
    have s1 : n.src < (N : Int) := by have := hVV.src.2; omega
    have s3 : ks < N := by omega
    have z0 : 0 ≤ n.nodes := by omega
    have h7 := hVV.n7
    have z1 : n.nodes * 8 ≤ 140737488355328 := by omega
    have z2 : n.nodes ≤ 9223372036854775807 := by omega
    simp (disch := first | omega | (simp only [next_put, next_bump]; omega)) [hlen, hsl, hlen2, hsl2, hg, hV, hl, hN', z0, z1, z2, get_put_self, get_put_ne, get_bump, put_put, -lenOfV, -isSl]
    have hid : m2.next ≤ m2.next + 2 := Nat.le_add_right _ _
    have ho4 : Old m2 ((m2.bump 4).put (m2.next + 2) (some ⟨List.replicate N (I 0), true⟩)) := ((Old.refl m2).bump 4).put hid
    refine value_loop0 hVV hN rfl (m0 := m2) (nb := m2.next + 2) hg hv2 hw2 hl hid n.arcs.length 0 _ _ (fun _ => 0) (by omega) ho4 (by rw [get_put_self (by simp only [next_bump]; omega), rowI_zero]) (by simp) (by simp) (by simp [hlen]) (by simp) (by simp) (by simp) (by simp) (fun σ' m' g' e1 e2 e3 e4 e5 e6 => ?_) (fun σ' m' e1 e2 e3 e4 => ?_)
    · have hg2 := e1.some hg
      have hgg : g' = netAt n.arcs fl := by funext x; rw [e4]; simp
      subst hgg
      rw [List.drop_zero, List.drop_zero] at e3
      simp (disch := first | omega | (simp only [next_put, next_bump]; omega)) [e5, e6, hg2, get_put_self, get_put_ne, get_bump, put_put]
      refine value_loop1 hN (by omega) hg2 e2 N 0 _ (by omega) (by simp [e5]) (by simp) (by simp) (by simp [e5]) (by simp [e6]) (fun σ'' f1 f2 f3 => ?_) (fun σ'' f1 f2 f3 => ?_)
      · have hc := conB_of f1
        have hrg : (rowI N (netAt n.arcs fl))[ks]? = some (I (netAt n.arcs fl n.src)) := by rw [rowI_get s3, hks']
        simp (disch := first | omega | (simp only [next_put, next_bump]; omega)) [f2, f3, hg2, e2, s0, s1, hks2, hrg, head_td, s3, get_put_self, get_put_ne, get_bump, put_put]
        exact ⟨s3, by simp [valueR, hV, hl, e3, hN', hc, value], ho2.trans e1⟩
      · have hc := conB_not f1
        simp (disch := first | omega | (simp only [next_put, next_bump]; omega)) [f2, f3, get_put_self, get_put_ne, get_bump, put_put]
        exact ⟨by simp [valueR, hV, hl, e3, hN', hc], ho2.trans e1⟩
    · rw [List.drop_zero, List.drop_zero] at e2
      simp (disch := first | omega | (simp only [next_put, next_bump]; omega)) [e3, e4, get_put_self, get_put_ne, get_bump, put_put]
      exact ⟨by simp [valueR, hV, hl, e2], ho2.trans e1⟩
  · have hl' : ¬ (fl.length : Int) = n.arcs.length := by omega
    simp (disch := first | omega | (simp only [next_put, next_bump]; omega)) [hlen, hsl, hlen2, hsl2, hg, hV, hl, hl', get_put_self, get_put_ne, get_bump, put_put, -lenOfV, -isSl]
    exact ⟨by simp [valueR, hV, hl], ho2⟩

set_option maxHeartbeats 4000000 in
theorem rvalue_wp {n : Net} {v w : Value} {fl : List Int} {m : Mem} (hv : Arcs m v n.arcs) (hw : Ints m w fl) : WPCall Try.prog 18 [netV n v, w] m fun r m' => r = .tuple #[I (valueR n fl).1, .bool (valueR n fl).2] ∧ Old m m' := by
  rw [call18 (by simp)]
  obtain ⟨hlen, hsl⟩ := hv.len
  obtain ⟨hlen2, hsl2⟩ := hw.len
  have hM : Old m ((m.bump 3).put m.next (some ⟨netC n v, true⟩)) := ((Old.refl m).bump 3).put (Nat.le_refl _)
  simp (disch := first | omega | (simp only [next_put, next_bump]; omega)) [ir18_b, hlen, hsl, hlen2, hsl2, get_put_self, get_put_ne, get_bump, put_put, -lenOfV, -isSl]
  refine (rvalid_wp (hv.mono hM)).mono fun r m2 hp => ?_
  obtain ⟨rfl, ho⟩ := hp
  have ho2 := hM.trans ho
  have hg : m2.get m.next = some ⟨netC n v, true⟩ := ho.some (get_put_self (by simp))
  have hln := get_lt hg
  have hn2 := ho2.next
  cases hV : validB n
  · simp (disch := first | omega | (simp only [next_put, next_bump]; omega)) [hlen, hsl, hlen2, hsl2, hg, hV, get_put_self, get_put_ne, get_bump, put_put, -lenOfV, -isSl]
    exact ⟨by simp [valueR, hV], ho2⟩
  have hv2 := hv.mono ho2
  have hw2 := hw.mono ho2
  by_cases hl : fl.length = n.arcs.length
  · have hVV := validB_iff.1 hV
    obtain ⟨N, hN⟩ : ∃ N : Nat, n.nodes = N := ⟨n.nodes.toNat, by have := hVV.n2; omega⟩
    obtain ⟨ks, hks⟩ : ∃ k : Nat, n.src = k := ⟨n.src.toNat, by have := hVV.src.1; omega⟩
    have hks' : (ks : Int) = n.src := hks.symm
    have hN' : n.nodes.toNat = N := by omega
    have hks2 : n.src.toNat = ks := by omega
    have s0 : 0 ≤ n.src := hVV.src.1
    have s1 : n.src < (N : Int) := by have := hVV.src.2; omega
    have s3 : ks < N := by omega
    have z0 : 0 ≤ n.nodes := by omega
    have h7 := hVV.n7
    have z1 : n.nodes * 8 ≤ 140737488355328 := by omega
    have z2 : n.nodes ≤ 9223372036854775807 := by omega
    simp (disch := first | omega | (simp only [next_put, next_bump]; omega)) [hlen, hsl, hlen2, hsl2, hg, hV, hl, hN', z0, z1, z2, get_put_self, get_put_ne, get_bump, put_put, -lenOfV, -isSl]
    have hid : m2.next ≤ m2.next + 2 := Nat.le_add_right _ _
    have ho4 : Old m2 ((m2.bump 4).put (m2.next + 2) (some ⟨List.replicate N (I 0), true⟩)) := ((Old.refl m2).bump 4).put hid
    refine rvalue_loop0 hVV hN rfl (m0 := m2) (nb := m2.next + 2) hg hv2 hw2 hl hid n.arcs.length 0 _ _ (fun _ => 0) (by omega) ho4 (by rw [get_put_self (by simp only [next_bump]; omega), rowI_zero]) (by simp) (by simp) (by simp) (by simp) (by simp) (fun σ' m' g' e1 e2 e3 e4 e5 e6 => ?_) (fun σ' m' e1 e2 e3 e4 => ?_)
    · have hg2 := e1.some hg
      have hgg : g' = netAt n.arcs fl := by funext x; rw [e4]; simp
      subst hgg
      rw [List.drop_zero, List.drop_zero] at e3
      simp (disch := first | omega | (simp only [next_put, next_bump]; omega)) [e5, e6, hg2, get_put_self, get_put_ne, get_bump, put_put]
      refine rvalue_loop1 hN (by omega) hg2 e2 N 0 _ (by omega) (by simp) (by simp [e5]) (by simp [e6]) (fun σ'' f1 f2 f3 => ?_) (fun σ'' f1 f2 f3 => ?_)
      · have hc := conB_of f1
        have hrg : (rowI N (netAt n.arcs fl))[ks]? = some (I (netAt n.arcs fl n.src)) := by rw [rowI_get s3, hks']
        simp (disch := first | omega | (simp only [next_put, next_bump]; omega)) [f2, f3, hg2, e2, s0, s1, hks2, hrg, head_td, s3, get_put_self, get_put_ne, get_bump, put_put]
        exact ⟨s3, by simp [valueR, hV, hl, e3, hN', hc, value], ho2.trans e1⟩
      · have hc := conB_not f1
        simp (disch := first | omega | (simp only [next_put, next_bump]; omega)) [f2, f3, get_put_self, get_put_ne, get_bump, put_put]
        exact ⟨by simp [valueR, hV, hl, e3, hN', hc], ho2.trans e1⟩
    · rw [List.drop_zero, List.drop_zero] at e2
      simp (disch := first | omega | (simp only [next_put, next_bump]; omega)) [e3, e4, get_put_self, get_put_ne, get_bump, put_put]
      exact ⟨by simp [valueR, hV, hl, e2], ho2.trans e1⟩
  · have hl' : ¬ (fl.length : Int) = n.arcs.length := by omega
    simp (disch := first | omega | (simp only [next_put, next_bump]; omega)) [hlen, hsl, hlen2, hsl2, hg, hV, hl, hl', get_put_self, get_put_ne, get_bump, put_put, -lenOfV, -isSl]
    exact ⟨by simp [valueR, hV, hl], ho2⟩
end Go.Proofs.Ytapnkfkpkcajjaa
