/-
  'Capacity' and 'Check', of the program and of the reference.
-/
import Derived.Test.YtapnkfkpkcajjaaMfD
namespace Go.Proofs.Ytapnkfkpkcajjaa
open Go Go.DI Go.Nets
set_option linter.unusedSimpArgs false
set_option linter.unusedVariables false

def cutF (cut : List Bool) (x : Int) : Bool := cut.getD x.toNat false
def capR (n : Net) (cut : List Bool) : Int × Bool :=
  if validB n && decide ((cut.length : Int) = n.nodes) && cutF cut n.src && !cutF cut n.snk then (capOf n.arcs (cutF cut), true) else (0, false)
def checkR (n : Net) (fl : List Int) (cut : List Bool) : Bool := (valueR n fl).2 && (capR n cut).2 && decide ((valueR n fl).1 = (capR n cut).1)
theorem cutF_get {cut : List Bool} {x : Int} (h : x.toNat < cut.length) : cut[x.toNat]? = some (cutF cut x) := by
  unfold cutF; rw [List.getD_eq_getElem?_getD, List.getElem?_eq_getElem h]; rfl

set_option maxHeartbeats 4000000 in
theorem cap_loop {n : Net} (hV : n.Valid) {M : Int} (hMM : M = 2147483647) {v w : Value} {cut : List Bool} {b : Nat} {m0 : Mem} (hn : m0.get b = some ⟨netC n v, true⟩) (hv : Arcs m0 v n.arcs) (hw : Bools m0 w cut) (hcl : (cut.length : Int) = n.nodes) {Q : IExit → Slots → Mem → Prop} : ∀ (r i : Nat) (m : Mem) (σ : Slots) (s : Int), i + r = n.arcs.length → Old m0 m → 0 ≤ s ∧ s ≤ (i : Int) * M →
    σ 35 = v → σ 36 = I n.arcs.length → σ 37 = I i → σ 6 = I s → σ 1 = w → σ 2 = ptr b →
    (∀ σ' m', Old m0 m' → σ' 6 = I (s + capOf (n.arcs.drop i) (cutF cut)) → Q (.exit 0) σ' m') → WP Try.prog (.loop ir19_l0) σ m Q
  | 0, i, m, σ, s, hi, ho, hs, s35, s36, si, s6, s1, s2, hQ => by
    refine wp_round fun J hJ => ?_
    have h1 : ¬ i < n.arcs.length := by omega
    have hgb' := ho.some hn
    obtain ⟨hlen, hsl⟩ := hv.len
    simp [ir19_l0, s35, s36, si, s1, s2, h1, hlen, hsl, hgb', -lenOfV, -isSl]
    exact hQ _ _ ho (by rw [List.drop_of_length_le (by omega)]; simp [capOf, s6])
  | r + 1, i, m, σ, s, hi, ho, hs, s35, s36, si, s6, s1, s2, hQ => by
    refine wp_round fun J hJ => ?_
    have h1 : i < n.arcs.length := by omega
    obtain ⟨a, ha⟩ : ∃ a, n.arcs[i]? = some a := ⟨n.arcs[i]'h1, by simp⟩
    have hdrop : n.arcs.drop i = a :: n.arcs.drop (i + 1) := by
      rw [List.drop_eq_getElem_cons h1]; rw [List.getElem?_eq_getElem h1] at ha; cases ha; rfl
    have hok := hV.arc a (List.mem_of_getElem? ha)
    obtain ⟨⟨f1, f2⟩, ⟨t1, t2⟩, c1, c2⟩ := hok
    rw [← hcl] at f2 t2
    have f3 : a.f.toNat < cut.length := by omega
    have t3 : a.t.toNat < cut.length := by omega
    have hf3 := cutF_get f3
    have ht3 := cutF_get t3
    have hf4 : ∀ h, cut[a.f.toNat]'h = cutF cut a.f := fun h => by rw [List.getElem?_eq_getElem h] at hf3; simpa using hf3
    have ht4 : ∀ h, cut[a.t.toNat]'h = cutF cut a.t := fun h => by rw [List.getElem?_eq_getElem h] at ht3; simpa using ht3
    obtain ⟨c, o, rfl, hc⟩ := hv.blk h1
    obtain ⟨d, o2, rfl, hd⟩ := hw.blk f3
    have hgc := ho.some hc
    have hgd := ho.some hd
    have hgb' := ho.some hn
    have hlb := get_lt hgb'
    have hlc := get_lt hgc
    have hld := get_lt hgd
    have hn0 := ho.next
    have hb : i * 4 + 4 ≤ n.arcs.length * 4 := by omega
    have hb1 : i * 4 + 1 ≤ n.arcs.length * 4 := by omega
    have hb2 : i * 4 + 2 ≤ n.arcs.length * 4 := by omega
    have hb3 : i * 4 + 3 ≤ n.arcs.length * 4 := by omega
    have f5 : a.f.toNat + 1 ≤ cut.length := f3
    have t5 : a.t.toNat + 1 ≤ cut.length := t3
    have f6 : a.f < n.nodes := by omega
    have t6 : a.t < n.nodes := by omega
    have c4 := arcs_at ha
    have q0 : ∀ h : i * 4 < (arcsC n.arcs).length, (arcsC n.arcs)[i * 4]'h = I a.f := fun h => by
      have := arcs_get ha (j := 0) (by omega)
      rw [Nat.add_zero, List.getElem?_eq_getElem h] at this; simpa [arcC] using this
    have q0b := arcs_get ha (j := 0) (by omega)
    rw [Nat.add_zero] at q0b
    have q1 := arcs_get ha (j := 1) (by omega)
    have q2 := arcs_get ha (j := 2) (by omega)
    simp only [arcC] at q0b
    simp [arcC] at q1 q2
    have q0c : (arcsC n.arcs)[i * 4]? = some (I a.f) := q0b
    have hal := hV.al
    have hmul : (i : Int) * M ≤ 2500 * M := Int.mul_le_mul_of_nonneg_right (by omega) (by omega)
    have w0 : IntKind.i64.wrap ((i : Int) + 1) = (i : Int) + 1 := i64_id (by omega) (by omega)
    have w1 : IntKind.i64.wrap (s + a.c) = s + a.c := i64_id (by omega) (by omega)
    have next : ∀ (σ' : Slots) (m' : Mem) (s' : Int), s' = s + (if cutF cut a.f = true ∧ cutF cut a.t = false then a.c else 0) → Old m0 m' → σ' 35 = .slice (some ⟨c, 0, none⟩) n.arcs.length 4 → σ' 36 = I n.arcs.length → σ' 37 = I ((i : Int) + 1) → σ' 6 = I s' → σ' 1 = .slice (some ⟨d, 0, none⟩) cut.length 1 → σ' 2 = ptr b → J σ' m' := by
      intro σ' m' s' hs' ho' q35 q36 qi q6 q1 q2
      have e : (((i + 1 : Nat) : Int)) * M = (i : Int) * M + M := by rw [Int.natCast_add, Int.add_mul]; simp
      refine hJ _ _ (cap_loop hV hMM hn hv hw hcl r (i + 1) m' σ' s' (by omega) ho' ?_ q35 q36 (by rw [qi]; simp) q6 q1 q2 (fun σ'' m'' e1 e2 => hQ _ _ e1 ?_))
      · rw [e]; split at hs' <;> omega
      · rw [hdrop, e2, hs']; simp only [capOf]; congr 1; omega
    cases k1 : cutF cut a.f
    · simp (disch := first | omega | (simp only [next_put, next_bump]; omega)) [ir19_l0, s35, s36, si, s6, s1, s2, h1, hgc, hgd, hgb', hb, hb1, hb2, hb3, c4, arcC, q0, q0c, q1, q2, head_td, f1, f2, t1, t2, hf3, ht3, f5, t5, f6, t6, hf4, ht4, w0, k1, get_put_self, get_put_ne, get_bump, put_put]
      exact next _ _ s (by simp [k1]) ((ho.bump 4).put (by omega)) (by simp [s35]) (by simp [s36]) (by simp) (by simp [s6]) (by simp [s1]) (by simp [s2])
    cases k2 : cutF cut a.t
    · simp (disch := first | omega | (simp only [next_put, next_bump]; omega)) [ir19_l0, s35, s36, si, s6, s1, s2, h1, hgc, hgd, hgb', hb, hb1, hb2, hb3, c4, arcC, q0, q0c, q1, q2, head_td, f1, f2, t1, t2, hf3, ht3, f5, t5, f6, t6, hf4, ht4, w0, k1, k2, w1, get_put_self, get_put_ne, get_bump, put_put]
      exact next _ _ (s + a.c) (by simp [k1, k2]) ((ho.bump 4).put (by omega)) (by simp [s35]) (by simp [s36]) (by simp) (by simp [s6]) (by simp [s1]) (by simp [s2])
    · simp (disch := first | omega | (simp only [next_put, next_bump]; omega)) [ir19_l0, s35, s36, si, s6, s1, s2, h1, hgc, hgd, hgb', hb, hb1, hb2, hb3, c4, arcC, q0, q0c, q1, q2, head_td, f1, f2, t1, t2, hf3, ht3, f5, t5, f6, t6, hf4, ht4, w0, k1, k2, get_put_self, get_put_ne, get_bump, put_put]
      exact next _ _ s (by simp [k1, k2]) ((ho.bump 4).put (by omega)) (by simp [s35]) (by simp [s36]) (by simp) (by simp [s6]) (by simp [s1]) (by simp [s2])

set_option maxHeartbeats 4000000 in
theorem rcap_loop {n : Net} (hV : n.Valid) {M : Int} (hMM : M = 2147483647) {v w : Value} {cut : List Bool} {b : Nat} {m0 : Mem} (hn : m0.get b = some ⟨netC n v, true⟩) (hv : Arcs m0 v n.arcs) (hw : Bools m0 w cut) (hcl : (cut.length : Int) = n.nodes) {Q : IExit → Slots → Mem → Prop} : ∀ (r i : Nat) (m : Mem) (σ : Slots) (s : Int), i + r = n.arcs.length → Old m0 m → 0 ≤ s ∧ s ≤ (i : Int) * M →
    σ 7 = I i → σ 6 = I s → σ 1 = w → σ 2 = ptr b →
    (∀ σ' m', Old m0 m' → σ' 6 = I (s + capOf (n.arcs.drop i) (cutF cut)) → Q (.exit 0) σ' m') → WP Try.prog (.loop ir20_l0) σ m Q
  | 0, i, m, σ, s, hi, ho, hs, si, s6, s1, s2, hQ => by
    refine wp_round fun J hJ => ?_
    have h1 : ¬ i < n.arcs.length := by omega
    have hgb' := ho.some hn
    obtain ⟨hlen, hsl⟩ := hv.len
    simp [ir20_l0, si, s1, s2, h1, hlen, hsl, hgb', -lenOfV, -isSl]
    exact hQ _ _ ho (by rw [List.drop_of_length_le (by omega)]; simp [capOf, s6])
  | r + 1, i, m, σ, s, hi, ho, hs, si, s6, s1, s2, hQ => by
    refine wp_round fun J hJ => ?_
    have h1 : i < n.arcs.length := by omega
    obtain ⟨a, ha⟩ : ∃ a, n.arcs[i]? = some a := ⟨n.arcs[i]'h1, by simp⟩
    have hdrop : n.arcs.drop i = a :: n.arcs.drop (i + 1) := by
      rw [List.drop_eq_getElem_cons h1]; rw [List.getElem?_eq_getElem h1] at ha; cases ha; rfl
    have hok := hV.arc a (List.mem_of_getElem? ha)
    obtain ⟨⟨f1, f2⟩, ⟨t1, t2⟩, c1, c2⟩ := hok
    rw [← hcl] at f2 t2
    have f3 : a.f.toNat < cut.length := by omega
    have t3 : a.t.toNat < cut.length := by omega
    have hf3 := cutF_get f3
    have ht3 := cutF_get t3
    have hf4 : ∀ h, cut[a.f.toNat]'h = cutF cut a.f := fun h => by rw [List.getElem?_eq_getElem h] at hf3; simpa using hf3
    have ht4 : ∀ h, cut[a.t.toNat]'h = cutF cut a.t := fun h => by rw [List.getElem?_eq_getElem h] at ht3; simpa using ht3
    obtain ⟨c, o, rfl, hc⟩ := hv.blk h1
    obtain ⟨d, o2, rfl, hd⟩ := hw.blk f3
    have hgc := ho.some hc
    have hgd := ho.some hd
    have hgb' := ho.some hn
    have hlb := get_lt hgb'
    have hlc := get_lt hgc
    have hld := get_lt hgd
    have hn0 := ho.next
    have hb : i * 4 + 4 ≤ n.arcs.length * 4 := by omega
    have hb1 : i * 4 + 1 ≤ n.arcs.length * 4 := by omega
    have hb2 : i * 4 + 2 ≤ n.arcs.length * 4 := by omega
    have hb3 : i * 4 + 3 ≤ n.arcs.length * 4 := by omega
    have f5 : a.f.toNat + 1 ≤ cut.length := f3
    have t5 : a.t.toNat + 1 ≤ cut.length := t3
    have f6 : a.f < n.nodes := by omega
    have t6 : a.t < n.nodes := by omega
    have c4 := arcs_at ha
    have q0 : ∀ h : i * 4 < (arcsC n.arcs).length, (arcsC n.arcs)[i * 4]'h = I a.f := fun h => by
      have := arcs_get ha (j := 0) (by omega)
      rw [Nat.add_zero, List.getElem?_eq_getElem h] at this; simpa [arcC] using this
    have q0b := arcs_get ha (j := 0) (by omega)
    rw [Nat.add_zero] at q0b
    have q1 := arcs_get ha (j := 1) (by omega)
    have q2 := arcs_get ha (j := 2) (by omega)
    simp only [arcC] at q0b
    simp [arcC] at q1 q2
    have q0c : (arcsC n.arcs)[i * 4]? = some (I a.f) := q0b
    have hal := hV.al
    have hmul : (i : Int) * M ≤ 2500 * M := Int.mul_le_mul_of_nonneg_right (by omega) (by omega)
    have w0 : IntKind.i64.wrap ((i : Int) + 1) = (i : Int) + 1 := i64_id (by omega) (by omega)
    have w1 : IntKind.i64.wrap (s + a.c) = s + a.c := i64_id (by omega) (by omega)
    have next : ∀ (σ' : Slots) (m' : Mem) (s' : Int), s' = s + (if cutF cut a.f = true ∧ cutF cut a.t = false then a.c else 0) → Old m0 m' → σ' 7 = I ((i : Int) + 1) → σ' 6 = I s' → σ' 1 = .slice (some ⟨d, 0, none⟩) cut.length 1 → σ' 2 = ptr b → J σ' m' := by
      intro σ' m' s' hs' ho' qi q6 q1 q2
      have e : (((i + 1 : Nat) : Int)) * M = (i : Int) * M + M := by rw [Int.natCast_add, Int.add_mul]; simp
      refine hJ _ _ (rcap_loop hV hMM hn hv hw hcl r (i + 1) m' σ' s' (by omega) ho' ?_ (by rw [qi]; simp) q6 q1 q2 (fun σ'' m'' e1 e2 => hQ _ _ e1 ?_))
      · rw [e]; split at hs' <;> omega
      · rw [hdrop, e2, hs']; simp only [capOf]; congr 1; omega
    cases k1 : cutF cut a.f
    · simp (disch := first | omega | (simp only [next_put, next_bump]; omega)) [ir20_l0, si, s6, s1, s2, h1, hgc, hgd, hgb', hb, hb1, hb2, hb3, c4, arcC, q0, q0c, q1, q2, head_td, f1, f2, t1, t2, hf3, ht3, f5, t5, f6, t6, hf4, ht4, w0, k1, get_put_self, get_put_ne, get_bump, put_put]
      exact next _ _ s (by simp [k1]) ho (by simp) (by simp [s6]) (by simp [s1]) (by simp [s2])
    cases k2 : cutF cut a.t
    · simp (disch := first | omega | (simp only [next_put, next_bump]; omega)) [ir20_l0, si, s6, s1, s2, h1, hgc, hgd, hgb', hb, hb1, hb2, hb3, c4, arcC, q0, q0c, q1, q2, head_td, f1, f2, t1, t2, hf3, ht3, f5, t5, f6, t6, hf4, ht4, w0, k1, k2, w1, get_put_self, get_put_ne, get_bump, put_put]
      exact next _ _ (s + a.c) (by simp [k1, k2]) ho (by simp) (by simp [s6]) (by simp [s1]) (by simp [s2])
    · simp (disch := first | omega | (simp only [next_put, next_bump]; omega)) [ir20_l0, si, s6, s1, s2, h1, hgc, hgd, hgb', hb, hb1, hb2, hb3, c4, arcC, q0, q0c, q1, q2, head_td, f1, f2, t1, t2, hf3, ht3, f5, t5, f6, t6, hf4, ht4, w0, k1, k2, get_put_self, get_put_ne, get_bump, put_put]
      exact next _ _ s (by simp [k1, k2]) ho (by simp) (by simp [s6]) (by simp [s1]) (by simp [s2])

set_option maxHeartbeats 4000000 in
theorem cap_wp {n : Net} {v w : Value} {cut : List Bool} {m : Mem} (hv : Arcs m v n.arcs) (hw : Bools m w cut) : WPCall Try.prog 19 [netV n v, w] m fun r m' => r = .tuple #[I (capR n cut).1, .bool (capR n cut).2] ∧ Old m m' := by
  rw [call19 (by simp)]
  obtain ⟨hlen, hsl⟩ := hv.len
  obtain ⟨hlen2, hsl2⟩ := hw.len
  have hM : Old m ((m.bump 3).put m.next (some ⟨netC n v, true⟩)) := ((Old.refl m).bump 3).put (Nat.le_refl _)
  simp (disch := first | omega | (simp only [next_put, next_bump]; omega)) [ir19_b, hlen, hsl, hlen2, hsl2, get_put_self, get_put_ne, get_bump, put_put, -lenOfV, -isSl]
  refine (valid_wp (hv.mono hM)).mono fun r m2 hp => ?_
  obtain ⟨rfl, ho⟩ := hp
  have ho2 := hM.trans ho
  have hg : m2.get m.next = some ⟨netC n v, true⟩ := ho.some (get_put_self (by simp))
  have hln := get_lt hg
  have hn2 := ho2.next
  cases hV : validB n
  · simp (disch := first | omega | (simp only [next_put, next_bump]; omega)) [hlen, hsl, hlen2, hsl2, hg, hV, get_put_self, get_put_ne, get_bump, put_put, -lenOfV, -isSl]
    exact ⟨by simp [capR, hV], ho2⟩
  have hv2 := hv.mono ho2
  have hw2 := hw.mono ho2
  by_cases hl : (cut.length : Int) = n.nodes
  · have hVV := validB_iff.1 hV
    have s0 : 0 ≤ n.src := hVV.src.1
    have s1 : n.src < n.nodes := hVV.src.2
    have s3 : n.src.toNat < cut.length := by omega
    have s4 : n.src.toNat + 1 ≤ cut.length := s3
    have t0 : 0 ≤ n.snk := hVV.snk.1
    have t1 : n.snk < n.nodes := hVV.snk.2
    have t3 : n.snk.toNat < cut.length := by omega
    have t4 : n.snk.toNat + 1 ≤ cut.length := t3
    have hs5 := cutF_get s3
    have ht5 := cutF_get t3
    have hs6 : ∀ h, cut[n.src.toNat]'h = cutF cut n.src := fun h => by rw [List.getElem?_eq_getElem h] at hs5; simpa using hs5
    have ht6 : ∀ h, cut[n.snk.toNat]'h = cutF cut n.snk := fun h => by rw [List.getElem?_eq_getElem h] at ht5; simpa using ht5
    obtain ⟨d, o2, rfl, hd⟩ := hw2.blk s3
    have hl2 : ((cut.length : Int) = n.nodes) = True := eq_true hl
    cases k1 : cutF cut n.src
    · simp (disch := first | omega | (simp only [next_put, next_bump]; omega)) [hlen, hsl, hg, hV, hl, hd, s0, s1, s3, s4, t0, t1, t3, t4, head_td, hs5, hs6, ht5, ht6, k1, get_put_self, get_put_ne, get_bump, put_put]
      exact ⟨by simp [capR, hV, hl, k1], ho2⟩
    cases k2 : cutF cut n.snk
    · simp (disch := first | omega | (simp only [next_put, next_bump]; omega)) [hlen, hsl, hg, hV, hl, hd, s0, s1, s3, s4, t0, t1, t3, t4, head_td, hs5, hs6, ht5, ht6, k1, k2, hlen, hsl, get_put_self, get_put_ne, get_bump, put_put, -lenOfV, -isSl]
      refine cap_loop hVV rfl (m0 := m2) hg hv2 hw2 hl n.arcs.length 0 _ _ 0 (by omega) (Old.refl _) (by simp) (by simp) (by simp [hlen]) (by simp) (by simp) (by simp) (by simp) (fun σ' m' e1 e2 => ?_)
      rw [List.drop_zero] at e2
      simp (disch := first | omega | (simp only [next_put, next_bump]; omega)) [e2, get_put_self, get_put_ne, get_bump, put_put]
      exact ⟨by simp [capR, hV, hl, k1, k2], ho2.trans e1⟩
    · simp (disch := first | omega | (simp only [next_put, next_bump]; omega)) [hlen, hsl, hg, hV, hl, hd, s0, s1, s3, s4, t0, t1, t3, t4, head_td, hs5, hs6, ht5, ht6, k1, k2, get_put_self, get_put_ne, get_bump, put_put]
      exact ⟨by simp [capR, hV, hl, k1, k2], ho2⟩
  · simp (disch := first | omega | (simp only [next_put, next_bump]; omega)) [hlen, hsl, hlen2, hsl2, hg, hV, hl, get_put_self, get_put_ne, get_bump, put_put, -lenOfV, -isSl]
    exact ⟨by simp [capR, hV, hl], ho2⟩

set_option maxHeartbeats 4000000 in
theorem rcap_wp {n : Net} {v w : Value} {cut : List Bool} {m : Mem} (hv : Arcs m v n.arcs) (hw : Bools m w cut) : WPCall Try.prog 20 [netV n v, w] m fun r m' => r = .tuple #[I (capR n cut).1, .bool (capR n cut).2] ∧ Old m m' := by
  rw [call20 (by simp)]
  obtain ⟨hlen, hsl⟩ := hv.len
  obtain ⟨hlen2, hsl2⟩ := hw.len
  have hM : Old m ((m.bump 3).put m.next (some ⟨netC n v, true⟩)) := ((Old.refl m).bump 3).put (Nat.le_refl _)
  simp (disch := first | omega | (simp only [next_put, next_bump]; omega)) [ir20_b, hlen, hsl, hlen2, hsl2, get_put_self, get_put_ne, get_bump, put_put, -lenOfV, -isSl]
  refine (rvalid_wp (hv.mono hM)).mono fun r m2 hp => ?_
  obtain ⟨rfl, ho⟩ := hp
  have ho2 := hM.trans ho
  have hg : m2.get m.next = some ⟨netC n v, true⟩ := ho.some (get_put_self (by simp))
  have hln := get_lt hg
  have hn2 := ho2.next
  cases hV : validB n
  · simp (disch := first | omega | (simp only [next_put, next_bump]; omega)) [hlen, hsl, hlen2, hsl2, hg, hV, get_put_self, get_put_ne, get_bump, put_put, -lenOfV, -isSl]
    exact ⟨by simp [capR, hV], ho2⟩
  have hv2 := hv.mono ho2
  have hw2 := hw.mono ho2
  by_cases hl : (cut.length : Int) = n.nodes
  · have hVV := validB_iff.1 hV
    have s0 : 0 ≤ n.src := hVV.src.1
    have s1 : n.src < n.nodes := hVV.src.2
    have s3 : n.src.toNat < cut.length := by omega
    have s4 : n.src.toNat + 1 ≤ cut.length := s3
    have t0 : 0 ≤ n.snk := hVV.snk.1
    have t1 : n.snk < n.nodes := hVV.snk.2
    have t3 : n.snk.toNat < cut.length := by omega
    have t4 : n.snk.toNat + 1 ≤ cut.length := t3
    have hs5 := cutF_get s3
    have ht5 := cutF_get t3
    have hs6 : ∀ h, cut[n.src.toNat]'h = cutF cut n.src := fun h => by rw [List.getElem?_eq_getElem h] at hs5; simpa using hs5
    have ht6 : ∀ h, cut[n.snk.toNat]'h = cutF cut n.snk := fun h => by rw [List.getElem?_eq_getElem h] at ht5; simpa using ht5
    obtain ⟨d, o2, rfl, hd⟩ := hw2.blk s3
    have hl2 : ((cut.length : Int) = n.nodes) = True := eq_true hl
    cases k1 : cutF cut n.src
    · simp (disch := first | omega | (simp only [next_put, next_bump]; omega)) [hlen, hsl, hg, hV, hl, hd, s0, s1, s3, s4, t0, t1, t3, t4, head_td, hs5, hs6, ht5, ht6, k1, get_put_self, get_put_ne, get_bump, put_put]
      exact ⟨by simp [capR, hV, hl, k1], ho2⟩
    cases k2 : cutF cut n.snk
    · simp (disch := first | omega | (simp only [next_put, next_bump]; omega)) [hlen, hsl, hg, hV, hl, hd, s0, s1, s3, s4, t0, t1, t3, t4, head_td, hs5, hs6, ht5, ht6, k1, k2, hlen, hsl, get_put_self, get_put_ne, get_bump, put_put, -lenOfV, -isSl]
      refine rcap_loop hVV rfl (m0 := m2) hg hv2 hw2 hl n.arcs.length 0 _ _ 0 (by omega) (Old.refl _) (by simp) (by simp) (by simp) (by simp) (by simp) (fun σ' m' e1 e2 => ?_)
      rw [List.drop_zero] at e2
      simp (disch := first | omega | (simp only [next_put, next_bump]; omega)) [e2, get_put_self, get_put_ne, get_bump, put_put]
      exact ⟨by simp [capR, hV, hl, k1, k2], ho2.trans e1⟩
    · simp (disch := first | omega | (simp only [next_put, next_bump]; omega)) [hlen, hsl, hg, hV, hl, hd, s0, s1, s3, s4, t0, t1, t3, t4, head_td, hs5, hs6, ht5, ht6, k1, k2, get_put_self, get_put_ne, get_bump, put_put]
      exact ⟨by simp [capR, hV, hl, k1, k2], ho2⟩
  · simp (disch := first | omega | (simp only [next_put, next_bump]; omega)) [hlen, hsl, hlen2, hsl2, hg, hV, hl, get_put_self, get_put_ne, get_bump, put_put, -lenOfV, -isSl]
    exact ⟨by simp [capR, hV, hl], ho2⟩

set_option maxHeartbeats 4000000 in
theorem check_wp {n : Net} {v w u : Value} {fl : List Int} {cut : List Bool} {m : Mem} (hv : Arcs m v n.arcs) (hw : Ints m w fl) (hu : Bools m u cut) : WPCall Try.prog 23 [netV n v, w, u] m fun r m' => r = .bool (checkR n fl cut) ∧ Old m m' := by
  rw [call23 (by simp)]
  have hM : Old m ((m.bump 2).put m.next (some ⟨netC n v, true⟩)) := ((Old.refl m).bump 2).put (Nat.le_refl _)
  simp (disch := first | omega | (simp only [next_put, next_bump]; omega)) [ir23_b, get_put_self, get_put_ne, get_bump, put_put]
  refine (value_wp (hv.mono hM) (hw.mono hM)).mono fun r m2 hp => ?_
  obtain ⟨rfl, ho⟩ := hp
  have ho2 := hM.trans ho
  have hg : m2.get m.next = some ⟨netC n v, true⟩ := ho.some (get_put_self (by simp))
  simp (disch := first | omega | (simp only [next_put, next_bump]; omega)) [hg, get_put_self, get_put_ne, get_bump, put_put]
  refine (cap_wp (hv.mono ho2) (hu.mono ho2)).mono fun r m3 hp => ?_
  obtain ⟨rfl, ho3⟩ := hp
  have ho4 := ho2.trans ho3
  cases k1 : (valueR n fl).2
  · simp (disch := first | omega | (simp only [next_put, next_bump]; omega)) [k1, get_put_self, get_put_ne, get_bump, put_put]
    exact ⟨by simp [checkR, k1], ho4⟩
  cases k2 : (capR n cut).2
  · simp (disch := first | omega | (simp only [next_put, next_bump]; omega)) [k1, k2, get_put_self, get_put_ne, get_bump, put_put]
    exact ⟨by simp [checkR, k1, k2], ho4⟩
  simp (disch := first | omega | (simp only [next_put, next_bump]; omega)) [k1, k2, get_put_self, get_put_ne, get_bump, put_put]
  exact ⟨by simp [checkR, k1, k2], ho4⟩

set_option maxHeartbeats 4000000 in
theorem rcheck_wp {n : Net} {v w u : Value} {fl : List Int} {cut : List Bool} {m : Mem} (hv : Arcs m v n.arcs) (hw : Ints m w fl) (hu : Bools m u cut) : WPCall Try.prog 24 [netV n v, w, u] m fun r m' => r = .bool (checkR n fl cut) ∧ Old m m' := by
  rw [call24 (by simp)]
  have hM : Old m ((m.bump 2).put m.next (some ⟨netC n v, true⟩)) := ((Old.refl m).bump 2).put (Nat.le_refl _)
  simp (disch := first | omega | (simp only [next_put, next_bump]; omega)) [ir24_b, get_put_self, get_put_ne, get_bump, put_put]
  refine (rvalue_wp (hv.mono hM) (hw.mono hM)).mono fun r m2 hp => ?_
  obtain ⟨rfl, ho⟩ := hp
  have ho2 := hM.trans ho
  have hg : m2.get m.next = some ⟨netC n v, true⟩ := ho.some (get_put_self (by simp))
  simp (disch := first | omega | (simp only [next_put, next_bump]; omega)) [hg, get_put_self, get_put_ne, get_bump, put_put]
  refine (rcap_wp (hv.mono ho2) (hu.mono ho2)).mono fun r m3 hp => ?_
  obtain ⟨rfl, ho3⟩ := hp
  have ho4 := ho2.trans ho3
  cases k1 : (valueR n fl).2
  · simp (disch := first | omega | (simp only [next_put, next_bump]; omega)) [k1, get_put_self, get_put_ne, get_bump, put_put]
    exact ⟨by simp [checkR, k1], ho4⟩
  cases k2 : (capR n cut).2
  · simp (disch := first | omega | (simp only [next_put, next_bump]; omega)) [k1, k2, get_put_self, get_put_ne, get_bump, put_put]
    exact ⟨by simp [checkR, k1, k2], ho4⟩
  simp (disch := first | omega | (simp only [next_put, next_bump]; omega)) [k1, k2, get_put_self, get_put_ne, get_bump, put_put]
  exact ⟨by simp [checkR, k1, k2], ho4⟩
end Go.Proofs.Ytapnkfkpkcajjaa
