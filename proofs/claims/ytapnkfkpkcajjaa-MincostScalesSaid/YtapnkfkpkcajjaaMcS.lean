/-
  'MincostScales'.
-/
import Derived.Test.YtapnkfkpkcajjaaMcR
namespace Go.Proofs.Ytapnkfkpkcajjaa
open Go Go.DI Go.Nets
set_option linter.unusedSimpArgs false
set_option linter.unusedVariables false

def withK (K : Arc → Int) (a : Arc) : Arc := ⟨a.f, a.t, a.c, K a⟩
theorem arcsC_set3 : ∀ (l : List Arc) (i : Nat) (a : Arc) (c : Int), l[i]? = some a → (arcsC l).set (i * 4 + 3) (I c) = arcsC (l.set i ⟨a.f, a.t, a.c, c⟩)
  | [], _, _, _, h => by simp at h
  | b :: l, 0, a, c, h => by simp at h; subst h; simp [arcsC, arcC]
  | b :: l, i + 1, a, c, h => by
    have := arcsC_set3 l i a c (by simpa using h)
    rw [show (i + 1) * 4 + 3 = (i * 4 + 3) + 4 by omega]
    simp only [arcsC, List.set_cons_succ, List.map_cons, List.flatten_cons] at this ⊢
    rw [← this]; simp [arcC]
def kTo (K : Arc → Int) (l : List Arc) (i : Nat) : List Arc := (l.take i).map (withK K) ++ l.drop i
theorem kTo_len {K : Arc → Int} {l : List Arc} {i : Nat} : (kTo K l i).length = l.length := by
  simp [kTo]; omega
theorem kTo_step {K : Arc → Int} {l : List Arc} {i : Nat} {a : Arc} (h : l[i]? = some a) : (kTo K l i)[i]? = some a ∧ (kTo K l i).set i (withK K a) = kTo K l (i + 1) := by
  obtain ⟨hi, rfl⟩ := List.getElem?_eq_some_iff.1 h
  have hl : ((l.take i).map (withK K)).length = i := by simp; omega
  have hd : l.drop i = l[i] :: l.drop (i + 1) := List.drop_eq_getElem_cons hi
  have ht : l.take (i + 1) = l.take i ++ [l[i]] := by rw [List.take_add_one, h]; rfl
  refine ⟨?_, ?_⟩
  · unfold kTo
    rw [List.getElem?_append_right (by omega), hl, hd]; simp
  · unfold kTo
    rw [List.set_append_right _ _ (by omega), hl, hd, ht]
    simp only [Nat.sub_self, List.set_cons_zero, List.map_append, List.map_cons, List.map_nil, List.append_assoc, List.cons_append, List.nil_append]
theorem kTo_end {K : Arc → Int} {l : List Arc} : kTo K l l.length = l.map (withK K) := by simp [kTo]
theorem kTo_same {K : Arc → Int} {l : List Arc} {i : Nat} {a : Arc} (h : l[i]? = some a) (hk : K a = a.k) : kTo K l (i + 1) = kTo K l i := by
  obtain ⟨h1, h2⟩ := kTo_step (K := K) h
  rw [← h2]
  have : withK K a = a := by unfold withK; rw [hk]
  rw [this]
  obtain ⟨hi, rfl⟩ := List.getElem?_eq_some_iff.1 h1
  simp
def netK (n : Net) (K : Arc → Int) : Net := ⟨n.nodes, n.src, n.snk, n.arcs.map (withK K)⟩
theorem netAt_withK (K : Arc → Int) (x : Int) : ∀ (ar : List Arc) (fs : List Int), netAt (ar.map (withK K)) fs x = netAt ar fs x
  | [], _ => rfl
  | _ :: _, [] => rfl
  | a :: ar, φ :: fs => by simp only [List.map_cons, netAt, netAt_withK K x ar fs, withK]
theorem netK_flow {n : Net} {K : Arc → Int} {g : List Int} : (IsFlow (netK n K) g ↔ IsFlow n g) ∧ value (netK n K) g = value n g := by
  have hget : ∀ (i : Nat) (a : Arc), n.arcs[i]? = some a → (n.arcs.map (withK K))[i]? = some (withK K a) := fun i a h => by simp [h]
  refine ⟨⟨fun h => ⟨⟨by rw [h.bnd.1]; simp [netK], fun i a φ ha hφ => by have := h.bnd.2 i (withK K a) φ (hget i a ha) hφ; exact this⟩, fun x h1 h2 h3 => by rw [← netAt_withK K]; exact h.con x h1 h2 h3⟩,
    fun h => ⟨⟨by rw [h.bnd.1]; simp [netK], fun i a φ ha hφ => ?_⟩, fun x h1 h2 h3 => by show netAt (n.arcs.map (withK K)) g x = 0; rw [netAt_withK K]; exact h.con x h1 h2 h3⟩⟩, netAt_withK K _ _ _⟩
  simp only [netK, List.getElem?_map, Option.map_eq_some_iff] at ha
  obtain ⟨a', ha', rfl⟩ := ha
  exact h.bnd.2 i a' φ ha' hφ
theorem netK_valid {n : Net} {K : Arc → Int} (hmb : mvB n = true) (hK : ∀ a ∈ n.arcs, 0 ≤ K a ∧ K a ≤ 1000) : mvB (netK n K) = true := by
  obtain ⟨hV, hc⟩ := mvB_iff.1 hmb
  refine mvB_iff.2 ⟨⟨hV.n2, hV.n7, by simpa [netK] using hV.al, hV.src, hV.snk, hV.ne, fun a ha => ?_⟩, fun a ha => ?_⟩
  all_goals
    simp only [netK, List.mem_map] at ha
    obtain ⟨a', ha', rfl⟩ := ha
  · exact hV.arc a' ha'
  · have h1 := hc a' ha'
    obtain ⟨h2, h3⟩ := hK a' ha'
    have h4 : ¬ K a' < 0 := by omega
    have h5 : ¬ 1000 < K a' := by omega
    simp [costB] at h1
    have h6 : ¬ 1000000 < a'.c := by omega
    simp [costB, withK, h4, h5, h6]
theorem costL_scale (k : Int) : ∀ (ar : List Arc) (fs : List Int), costL (ar.map (withK fun a => k * a.k)) fs = k * costL ar fs
  | [], _ => by simp [costL]
  | _ :: _, [] => by simp [costL]
  | a :: ar, φ :: fs => by
    have := costL_scale k ar fs
    have e : φ * (k * a.k) = k * (φ * a.k) := by rw [← Int.mul_assoc, Int.mul_comm φ k, Int.mul_assoc]
    simp only [List.map_cons, costL, this, withK, e, Int.mul_add]
def outL (s : Int) : List Arc → List Int → Int
  | a :: ar, φ :: fs => (if a.f = s then φ else 0) + outL s ar fs
  | _, _ => 0
theorem costL_dear (s b : Int) : ∀ (ar : List Arc) (fs : List Int), costL (ar.map (withK fun a => if a.f = s then a.k + b else a.k)) fs = costL ar fs + outL s ar fs * b
  | [], _ => by simp [costL, outL]
  | _ :: _, [] => by simp [costL, outL]
  | a :: ar, φ :: fs => by
    have := costL_dear s b ar fs
    simp only [List.map_cons, costL, this, withK, outL]
    by_cases h : a.f = s
    · simp only [h, if_true, Int.mul_add, Int.add_mul]; omega
    · simp only [h, if_false, Int.add_mul, Int.zero_mul]; omega
theorem outL_net (s : Int) : ∀ (ar : List Arc) (fs : List Int), (∀ a ∈ ar, a.t ≠ s) → netAt ar fs s = outL s ar fs
  | [], _, _ => by simp [netAt, outL]
  | _ :: _, [], _ => by simp [netAt, outL]
  | a :: ar, φ :: fs, h => by
    have := outL_net s ar fs (fun b hb => h b (by simp [hb]))
    have ht := h a (by simp)
    simp only [netAt, outL, pt, this, if_neg ht]; omega
/-- 'MincostScales', the plain law -/
theorem scales_law {n : Net} (hmb : mvB n = true) {k b : Int} (hk : 1 ≤ k) {f g h : List Int} {p q r : Int → Int} (hf : IsFlow n f) (hp : Opt n f p)
    (hg : IsFlow (netK n fun a => k * a.k) g) (hq : Opt (netK n fun a => k * a.k) g q) (hh : IsFlow (netK n fun a => if a.f = n.src then a.k + b else a.k) h) (hr : Opt (netK n fun a => if a.f = n.src then a.k + b else a.k) h r)
    (v1 : value (netK n fun a => k * a.k) g = value n f) (v2 : value (netK n fun a => if a.f = n.src then a.k + b else a.k) h = value n f)
    (hV2 : (netK n fun a => k * a.k).Valid) (hV3 : (netK n fun a => if a.f = n.src then a.k + b else a.k).Valid) :
    costL (netK n fun a => k * a.k).arcs g = k * costL n.arcs f ∧ ((∀ a ∈ n.arcs, a.t ≠ n.src) → costL (netK n fun a => if a.f = n.src then a.k + b else a.k).arcs h = costL n.arcs f + value n f * b) := by
  obtain ⟨hV, _⟩ := mvB_iff.1 hmb
  obtain ⟨g1, g2⟩ := netK_flow (n := n) (K := fun a => k * a.k) (g := g)
  obtain ⟨f1, f2⟩ := netK_flow (n := n) (K := fun a => k * a.k) (g := f)
  obtain ⟨h1, h2⟩ := netK_flow (n := n) (K := fun a => if a.f = n.src then a.k + b else a.k) (g := h)
  obtain ⟨e1, e2⟩ := netK_flow (n := n) (K := fun a => if a.f = n.src then a.k + b else a.k) (g := f)
  refine ⟨?_, fun hb => ?_⟩
  · have l1 := hp.least hV hf (g1.1 hg)
    have l2 := hq.least hV2 hg (f1.2 hf)
    have z1 : value n g - value n f = 0 := by omega
    have z2 : value (netK n fun a => k * a.k) f - value (netK n fun a => k * a.k) g = 0 := by omega
    rw [z1, Int.mul_zero] at l1
    rw [z2, Int.mul_zero] at l2
    have c1 : costL (netK n fun a => k * a.k).arcs g = k * costL n.arcs g := costL_scale k _ _
    have c2 : costL (netK n fun a => k * a.k).arcs f = k * costL n.arcs f := costL_scale k _ _
    rw [c1, c2] at l2
    rw [c1]
    have l3 : costL n.arcs g ≤ costL n.arcs f := by
      have : k * costL n.arcs g ≤ k * costL n.arcs f := by omega
      exact Int.le_of_mul_le_mul_left this (by omega)
    have : costL n.arcs g = costL n.arcs f := by omega
    rw [this]
  · have l1 := hp.least hV hf (h1.1 hh)
    have l2 := hr.least hV3 hh (e1.2 hf)
    have z1 : value n h - value n f = 0 := by omega
    have z2 : value (netK n fun a => if a.f = n.src then a.k + b else a.k) f - value (netK n fun a => if a.f = n.src then a.k + b else a.k) h = 0 := by omega
    rw [z1, Int.mul_zero] at l1
    rw [z2, Int.mul_zero] at l2
    have c1 : costL (netK n fun a => if a.f = n.src then a.k + b else a.k).arcs h = costL n.arcs h + outL n.src n.arcs h * b := costL_dear _ b _ _
    have c2 : costL (netK n fun a => if a.f = n.src then a.k + b else a.k).arcs f = costL n.arcs f + outL n.src n.arcs f * b := costL_dear _ b _ _
    have o1 : outL n.src n.arcs h = value n f := by rw [← outL_net _ _ _ hb]; show value n h = value n f; omega
    have o2 : outL n.src n.arcs f = value n f := by rw [← outL_net _ _ _ hb]; rfl
    rw [o1] at c1
    rw [o2] at c2
    omega

set_option maxHeartbeats 4000000 in
set_option maxRecDepth 20000 in
theorem sc_loop {n : Net} (hS : Small n) {k b : Int} (hk : 1 ≤ k ∧ k ≤ 9) (hb : 0 ≤ b ∧ b ≤ 8) {v : Value} {nb pb qb cb db : Nat} {m0 : Mem} (hn : m0.get nb = some ⟨netC n v, true⟩) (hv : Arcs m0 v n.arcs) (hp : m0.get pb = some ⟨netC n (.slice (some ⟨cb, 0, none⟩) n.arcs.length 4), true⟩) (hq : m0.get qb = some ⟨netC n (.slice (some ⟨db, 0, none⟩) n.arcs.length 4), true⟩)
    (hvb : ∀ b l c, v = .slice (some ⟨b, 0, none⟩) l c → b ≠ cb ∧ b ≠ db) (n1 : nb ≠ cb) (n2 : nb ≠ db) (n3 : pb ≠ cb) (n4 : pb ≠ db) (n5 : qb ≠ cb) (n6 : qb ≠ db) (n7 : cb ≠ db) {Q : IExit → Slots → Mem → Prop} :
    ∀ (r i : Nat) (m : Mem) (σ : Slots), i + r = n.arcs.length → m.next = m0.next → (∀ b, b ≠ cb → b ≠ db → m.get b = m0.get b) → m.get cb = some ⟨arcsC (kTo (fun a => k * a.k) n.arcs i), true⟩ → m.get db = some ⟨arcsC (kTo (fun a => if a.f = n.src then a.k + b else a.k) n.arcs i), true⟩ →
    σ 7 = ptr nb → σ 8 = I k → σ 9 = I b → σ 10 = ptr pb → σ 11 = ptr qb → σ 12 = .bool ((n.arcs.take i).any fun a => decide (a.t = n.src)) → σ 13 = I i →
    (∀ σ' m', m'.next = m0.next → (∀ b, b ≠ cb → b ≠ db → m'.get b = m0.get b) → m'.get cb = some ⟨arcsC (n.arcs.map (withK fun a => k * a.k)), true⟩ → m'.get db = some ⟨arcsC (n.arcs.map (withK fun a => if a.f = n.src then a.k + b else a.k)), true⟩ → σ' 12 = .bool (n.arcs.any fun a => decide (a.t = n.src)) → (∀ t, t < 12 → σ' t = σ t) → Q (.exit 0) σ' m') → WP Try.prog (.loop ir12_l0) σ m Q
  | 0, i, m, σ, hi, hnx, hold, hc, hd, s7, s8, s9, s10, s11, s12, s13, hQ => by
    refine wp_round fun J hJ => ?_
    have h1 : ¬ (i : Int) < n.arcs.length := by omega
    have h1' : ¬ i < n.arcs.length := by omega
    obtain rfl : i = n.arcs.length := by omega
    obtain ⟨hlen, hsl⟩ := hv.len
    have hgn : m.get nb = some ⟨netC n v, true⟩ := by rw [hold nb n1 n2]; exact hn
    simp (disch := first | omega | (simp only [next_put, next_bump]; omega)) [ir12_l0, s7, s13, h1, h1', hgn, hlen, hsl, get_put_self, get_put_ne, get_bump, put_put, -lenOfV, -isSl]
    rw [kTo_end] at hc hd
    rw [List.take_length] at s12
    exact hQ _ _ hnx hold hc hd (by simp [s12]) (fun t ht => by simp (disch := omega) only [upd_ne])
  | r + 1, i, m, σ, hi, hnx, hold, hc, hd, s7, s8, s9, s10, s11, s12, s13, hQ => by
    refine wp_round fun J hJ => ?_
    have k1 : i < n.arcs.length := by omega
    have k1' : (i : Int) < n.arcs.length := by omega
    have l15 := hS.l15
    obtain ⟨a, ha⟩ : ∃ a, n.arcs[i]? = some a := ⟨n.arcs[i]'k1, by simp⟩
    obtain ⟨a1, a2, a3, a4⟩ := hS.arc a (List.mem_of_getElem? ha)
    obtain ⟨c, o, rfl, hcb⟩ := hv.blk k1
    obtain ⟨c1, c2⟩ := hvb _ _ _ rfl
    have hgn : m.get nb = some ⟨netC n (.slice (some ⟨c, 0, none⟩) n.arcs.length 4), true⟩ := by rw [hold nb n1 n2]; exact hn
    have hgp : m.get pb = some ⟨netC n (.slice (some ⟨cb, 0, none⟩) n.arcs.length 4), true⟩ := by rw [hold pb n3 n4]; exact hp
    have hgq : m.get qb = some ⟨netC n (.slice (some ⟨db, 0, none⟩) n.arcs.length 4), true⟩ := by rw [hold qb n5 n6]; exact hq
    have hgc : m.get c = some ⟨arcsC n.arcs, o⟩ := by rw [hold c c1 c2]; exact hcb
    have q0b := arcs_get ha (j := 0) (by omega)
    have q1 := arcs_get ha (j := 1) (by omega)
    have q3 := arcs_get ha (j := 3) (by omega)
    rw [Nat.add_zero] at q0b
    simp only [arcC] at q0b
    simp [arcC] at q1 q3
    have q0c : (arcsC n.arcs)[i * 4]? = some (I a.f) := q0b
    have q0 : ∀ h : i * 4 < (arcsC n.arcs).length, (arcsC n.arcs)[i * 4]'h = I a.f := fun h => by
      have := q0c; rw [List.getElem?_eq_getElem h] at this; simpa using this
    obtain ⟨e1, e2⟩ := kTo_step (K := fun a => k * a.k) ha
    obtain ⟨e3, e4⟩ := kTo_step (K := fun a => if a.f = n.src then a.k + b else a.k) ha
    have set1 := arcsC_set3 _ i a (k * a.k) e1
    have set2 := arcsC_set3 _ i a (a.k + b) e3
    have el1 : (kTo (fun a => k * a.k) n.arcs i).length = n.arcs.length := kTo_len
    have el2 : (kTo (fun a => if a.f = n.src then a.k + b else a.k) n.arcs i).length = n.arcs.length := kTo_len
    have l1 := get_lt hc
    have l2 := get_lt hd
    have b1 : i * 4 + 1 ≤ n.arcs.length * 4 := by omega
    have b2 : i * 4 + 2 ≤ n.arcs.length * 4 := by omega
    have b3 : i * 4 + 3 ≤ n.arcs.length * 4 := by omega
    have b4 : i * 4 + 4 ≤ n.arcs.length * 4 := by omega
    have hm0 : 0 ≤ k * a.k := Int.mul_nonneg (by omega) (by omega)
    have hm1 : k * a.k ≤ 9 * 4 := Int.mul_le_mul (by omega) (by omega) (by omega) (by omega)
    have w0 : IntKind.i64.wrap ((i : Int) + 1) = (i : Int) + 1 := i64_id (by omega) (by omega)
    have w1 : IntKind.i64.wrap (k * a.k) = k * a.k := i64_id (by omega) (by omega)
    have w2 : IntKind.i64.wrap (a.k + b) = a.k + b := i64_id (by omega) (by omega)
    have htake : (n.arcs.take (i + 1)).any (fun a => decide (a.t = n.src)) = ((n.arcs.take i).any (fun a => decide (a.t = n.src)) || decide (a.t = n.src)) := by
      rw [List.take_add_one, ha, List.any_append]; simp
    generalize hbk : (n.arcs.take i).any (fun a => decide (a.t = n.src)) = bk at *
    have next : ∀ (σ' : Slots) (m' : Mem), m'.next = m0.next → (∀ b, b ≠ cb → b ≠ db → m'.get b = m0.get b) → m'.get cb = some ⟨arcsC (kTo (fun a => k * a.k) n.arcs (i + 1)), true⟩ → m'.get db = some ⟨arcsC (kTo (fun a => if a.f = n.src then a.k + b else a.k) n.arcs (i + 1)), true⟩ → σ' 12 = .bool (bk || decide (a.t = n.src)) → σ' 13 = I ((i : Int) + 1) → (∀ t, t < 12 → σ' t = σ t) → J σ' m' := fun σ' m' g1 g2 g3 g4 g12 g13 g =>
      hJ _ _ (sc_loop hS hk hb hn hv hp hq hvb n1 n2 n3 n4 n5 n6 n7 r (i + 1) m' σ' (by omega) g1 g2 g3 g4 (by rw [g 7 (by omega)]; exact s7) (by rw [g 8 (by omega)]; exact s8) (by rw [g 9 (by omega)]; exact s9) (by rw [g 10 (by omega)]; exact s10) (by rw [g 11 (by omega)]; exact s11) (by rw [g12, htake]) (by rw [g13]; simp) (fun σ'' m'' f1 f2 f3 f4 f5 f6 => hQ σ'' m'' f1 f2 f3 f4 f5 (fun t ht => by rw [f6 t ht, g t ht])))
    by_cases x1 : a.f = n.src
    · cases bk
      · by_cases x3 : a.t = n.src
        · simp (disch := first | omega | (simp only [next_put, next_bump]; omega)) [ir12_l0, s7, s8, s9, s10, s11, s12, s13, k1, k1', hgn, hgp, hgq, hgc, hc, hd, q0, q0c, q1, q3, el1, el2, b1, b2, b3, b4, head_td, w0, w1, w2, n1, n2, n3, n4, n5, n6, n7, n7.symm, c1, c2, eq_true x1, eq_true x3, get_put_self, get_put_ne, get_bump, put_put]
          exact next _ _ (by simp only [next_put]; exact hnx) (fun b f1 f2 => by rw [get_put_ne f2, get_put_ne f1, hold b f1 f2]) (by rw [get_put_ne n7, get_put_self l1, set1, ← e2]; rfl) (by rw [get_put_self (by simp only [next_put]; omega), set2, ← e4]; simp [withK, x1]) (by simp [x3]) (by simp) (fun t ht => by simp (disch := omega) only [upd_ne])
        · simp (disch := first | omega | (simp only [next_put, next_bump]; omega)) [ir12_l0, s7, s8, s9, s10, s11, s12, s13, k1, k1', hgn, hgp, hgq, hgc, hc, hd, q0, q0c, q1, q3, el1, el2, b1, b2, b3, b4, head_td, w0, w1, w2, n1, n2, n3, n4, n5, n6, n7, n7.symm, c1, c2, eq_true x1, x3, get_put_self, get_put_ne, get_bump, put_put]
          exact next _ _ (by simp only [next_put]; exact hnx) (fun b f1 f2 => by rw [get_put_ne f2, get_put_ne f1, hold b f1 f2]) (by rw [get_put_ne n7, get_put_self l1, set1, ← e2]; rfl) (by rw [get_put_self (by simp only [next_put]; omega), set2, ← e4]; simp [withK, x1]) (by simp [x3]) (by simp) (fun t ht => by simp (disch := omega) only [upd_ne])
      · simp (disch := first | omega | (simp only [next_put, next_bump]; omega)) [ir12_l0, s7, s8, s9, s10, s11, s12, s13, k1, k1', hgn, hgp, hgq, hgc, hc, hd, q0, q0c, q1, q3, el1, el2, b1, b2, b3, b4, head_td, w0, w1, w2, n1, n2, n3, n4, n5, n6, n7, n7.symm, c1, c2, eq_true x1, get_put_self, get_put_ne, get_bump, put_put]
        exact next _ _ (by simp only [next_put]; exact hnx) (fun b f1 f2 => by rw [get_put_ne f2, get_put_ne f1, hold b f1 f2]) (by rw [get_put_ne n7, get_put_self l1, set1, ← e2]; rfl) (by rw [get_put_self (by simp only [next_put]; omega), set2, ← e4]; simp [withK, x1]) (by simp [x1]) (by simp) (fun t ht => by simp (disch := omega) only [upd_ne])
    · cases bk
      · by_cases x3 : a.t = n.src
        · simp (disch := first | omega | (simp only [next_put, next_bump]; omega)) [ir12_l0, s7, s8, s9, s10, s11, s12, s13, k1, k1', hgn, hgp, hgq, hgc, hc, hd, q0, q0c, q1, q3, el1, el2, b1, b2, b3, b4, head_td, w0, w1, w2, n1, n2, n3, n4, n5, n6, n7, n7.symm, c1, c2, x1, eq_true x3, get_put_self, get_put_ne, get_bump, put_put]
          exact next _ _ (by simp only [next_put]; exact hnx) (fun b f1 f2 => by rw [get_put_ne f1, hold b f1 f2]) (by rw [get_put_self l1, set1, ← e2]; rfl) (by rw [get_put_ne n7.symm, hd, kTo_same ha (by simp [x1])]) (by simp [x3]) (by simp) (fun t ht => by simp (disch := omega) only [upd_ne])
        · simp (disch := first | omega | (simp only [next_put, next_bump]; omega)) [ir12_l0, s7, s8, s9, s10, s11, s12, s13, k1, k1', hgn, hgp, hgq, hgc, hc, hd, q0, q0c, q1, q3, el1, el2, b1, b2, b3, b4, head_td, w0, w1, w2, n1, n2, n3, n4, n5, n6, n7, n7.symm, c1, c2, x1, x3, get_put_self, get_put_ne, get_bump, put_put]
          exact next _ _ (by simp only [next_put]; exact hnx) (fun b f1 f2 => by rw [get_put_ne f1, hold b f1 f2]) (by rw [get_put_self l1, set1, ← e2]; rfl) (by rw [get_put_ne n7.symm, hd, kTo_same ha (by simp [x1])]) (by simp [x3]) (by simp) (fun t ht => by simp (disch := omega) only [upd_ne])
      · simp (disch := first | omega | (simp only [next_put, next_bump]; omega)) [ir12_l0, s7, s8, s9, s10, s11, s12, s13, k1, k1', hgn, hgp, hgq, hgc, hc, hd, q0, q0c, q1, q3, el1, el2, b1, b2, b3, b4, head_td, w0, w1, w2, n1, n2, n3, n4, n5, n6, n7, n7.symm, c1, c2, x1, get_put_self, get_put_ne, get_bump, put_put]
        exact next _ _ (by simp only [next_put]; exact hnx) (fun b f1 f2 => by rw [get_put_ne f1, hold b f1 f2]) (by rw [get_put_self l1, set1, ← e2]; rfl) (by rw [get_put_ne n7.symm, hd, kTo_same ha (by simp [x1])]) (by simp [x1]) (by simp) (fun t ht => by simp (disch := omega) only [upd_ne])

theorem u8_arg {m : Mem} {v : Value} {d : Int} (h : AbsV m (.int .u8) v d) : ∃ ka : Nat, ka < 256 ∧ v = .int .u8 (ka : Int) := by
  obtain ⟨rfl, h2⟩ := h.int
  obtain ⟨g1, g2⟩ := u8_wf h2
  exact ⟨d.toNat, by omega, by rw [Int.toNat_of_nonneg g1]⟩
set_option maxHeartbeats 8000000 in
set_option maxRecDepth 20000 in
theorem mcScales_wp {v : Value} {l : List Int} {m : Mem} (hv : ByteS m v l) (hb : ∀ x ∈ l, 0 ≤ x ∧ x < 256) {ka kb : Nat} (hka : ka < 256) (hkb : kb < 256) : WPCall Try.prog 12 [v, .int .u8 ka, .int .u8 kb] m fun r _ => r = .bool true := by
  rw [call12 (by simp)]
  simp (disch := first | omega | (simp only [next_put, next_bump]; omega)) [ir12_b, get_put_self, get_put_ne, get_bump, put_put]
  refine (new_wp (hv.bmp 5) hb).mono fun r m1 hp => ?_
  obtain ⟨tb, tv, l', rfl, htb, o1, hT⟩ := hp
  simp only [next_bump] at htb
  simp
  refine (network_wp hT).mono fun r m2 hp => ?_
  obtain ⟨n, nv, rfl, hA, hS, o2⟩ := hp
  have hV := hS.valid
  have hmb := hS.mv
  have n1 := o1.next
  have n2 := o2.next
  simp only [next_bump] at n1
  have free : m2.get (m.next + 3) = none := by rw [o2.get _ (by omega) (by omega), o1.get _ (by simp only [next_bump]; omega), none_bump (by omega)]
  have l15 := hS.l15
  have l2 := hS.l2
  obtain ⟨c, co, rfl, hc⟩ := hA.blk (i := 0) (by omega)
  have lc := get_lt hc
  have hcne : c ≠ m.next + 3 := fun e => by rw [e, free] at hc; cases hc
  obtain ⟨ra, hra⟩ : ∃ ra, ra = ka % 9 := ⟨_, rfl⟩
  obtain ⟨rb, hrb⟩ : ∃ rb, rb = kb % 9 := ⟨_, rfl⟩
  have e1 : (ka : Int).tmod 9 = (ra : Int) := by rw [hra, Int.tmod_eq_emod_of_nonneg (by omega)]; rfl
  have e2 : (kb : Int).tmod 9 = (rb : Int) := by rw [hrb, Int.tmod_eq_emod_of_nonneg (by omega)]; rfl
  have w1 : IntKind.i64.wrap (ka : Int) = ka := i64_id (by omega) (by omega)
  have w2 : IntKind.i64.wrap (kb : Int) = kb := i64_id (by omega) (by omega)
  have w3 : IntKind.i64.wrap (1 + (ra : Int)) = 1 + ra := i64_id (by omega) (by omega)
  have k0' : ¬ n.arcs.length = 0 := by omega
  have k0'' : ¬ n.arcs = [] := fun h => by rw [h] at l2; simp at l2
  have z1 : n.arcs.length * 32 ≤ 140737488355328 := by omega
  have z2 : n.arcs.length ≤ 9223372036854775807 := by omega
  have z3 : List.take (n.arcs.length * 4) (arcsC n.arcs) = arcsC n.arcs := List.take_of_length_le (by simp)
  simp (disch := first | omega | (simp only [next_put, next_bump]; omega)) [free, w1, w2, w3, e1, e2, hc, hcne, z1, z2, z3, k0', k0'', ckOk, bne_iff_ne, get_put_self, get_put_ne, get_bump, put_put]
  refine ⟨by omega, by omega, ?_⟩
  generalize hM : (((((((((((((m2.put (m.next + 3) (some ⟨[I n.nodes, I n.src, I n.snk, .slice (some ⟨c, 0, none⟩) n.arcs.length 4], true⟩)).bump 6).put (m2.next + 2) (some ⟨[.int .i64 0, .int .i64 0, .int .i64 0, .slice none 0 0], true⟩)).put (m2.next + 3) (some ⟨[.int .i64 0, .int .i64 0, .int .i64 0, .slice none 0 0], true⟩)).put (m2.next + 2) (some ⟨[I n.nodes, I n.src, I n.snk, .slice (some ⟨c, 0, none⟩) n.arcs.length 4], true⟩)).put (m2.next + 3) (some ⟨[I n.nodes, I n.src, I n.snk, .slice (some ⟨c, 0, none⟩) n.arcs.length 4], true⟩)).bump 12).put (m2.next + 6) none).put (m2.next + 6 + 3) (some ⟨arcsC n.arcs, true⟩)).put (m2.next + 6 + 4) none).put (m2.next + 6 + 7) (some ⟨arcsC n.arcs, true⟩)).put (m2.next + 2) (some ⟨[I n.nodes, I n.src, I n.snk, .slice (some ⟨m2.next + 6 + 3, 0, none⟩) n.arcs.length 4], true⟩)).put (m2.next + 3) (some ⟨[I n.nodes, I n.src, I n.snk, .slice (some ⟨m2.next + 6 + 7, 0, none⟩) n.arcs.length 4], true⟩)) = M
  have hMn : M.next = m2.next + 18 := by rw [← hM]; simp
  have keepM : ∀ b, b < m2.next → b ≠ m.next + 3 → M.get b = m2.get b := fun b h1 h2 => by rw [← hM]; simp (disch := first | omega | (simp only [next_put, next_bump]; omega)) only [get_put_ne, get_bump]
  have gn : M.get (m.next + 3) = some ⟨netC n (.slice (some ⟨c, 0, none⟩) n.arcs.length 4), true⟩ := by rw [← hM]; simp (disch := first | omega | (simp only [next_put, next_bump]; omega)) only [get_put_ne, get_bump, get_put_self]
  have gp : M.get (m2.next + 2) = some ⟨netC n (.slice (some ⟨m2.next + 6 + 3, 0, none⟩) n.arcs.length 4), true⟩ := by rw [← hM]; simp (disch := first | omega | (simp only [next_put, next_bump]; omega)) only [get_put_ne, get_bump, get_put_self]
  have gq : M.get (m2.next + 3) = some ⟨netC n (.slice (some ⟨m2.next + 6 + 7, 0, none⟩) n.arcs.length 4), true⟩ := by rw [← hM]; simp (disch := first | omega | (simp only [next_put, next_bump]; omega)) only [get_put_ne, get_bump, get_put_self]
  have gcb : M.get (m2.next + 6 + 3) = some ⟨arcsC n.arcs, true⟩ := by rw [← hM]; simp (disch := first | omega | (simp only [next_put, next_bump]; omega)) only [get_put_ne, get_bump, get_put_self]
  have gdb : M.get (m2.next + 6 + 7) = some ⟨arcsC n.arcs, true⟩ := by rw [← hM]; simp (disch := first | omega | (simp only [next_put, next_bump]; omega)) only [get_put_ne, get_bump, get_put_self]
  have gc : M.get c = some ⟨arcsC n.arcs, co⟩ := by rw [keepM c lc hcne]; exact hc
  have hAM : Arcs M (.slice (some ⟨c, 0, none⟩) n.arcs.length 4) n.arcs := .inr ⟨_, _, rfl, gc⟩
  have hkr : (1 : Int) ≤ 1 + ra ∧ (1 : Int) + ra ≤ 9 := by omega
  have hbr : (0 : Int) ≤ rb ∧ (rb : Int) ≤ 8 := by omega
  refine sc_loop hS (k := 1 + ra) (b := rb) hkr hbr (nb := m.next + 3) (pb := m2.next + 2) (qb := m2.next + 3) (cb := m2.next + 6 + 3) (db := m2.next + 6 + 7) gn hAM gp gq (fun b l c' h => by cases h; omega) (by omega) (by omega) (by omega) (by omega) (by omega) (by omega) (by omega) n.arcs.length 0 M _ (by omega) rfl (fun _ _ _ => rfl) gcb gdb (by simp) (by simp) (by simp) (by simp) (by simp) (by simp) (by simp) (fun σ1 m4 f1 f2 f3 f4 f5 f6 => ?_)
  have q7 : σ1 7 = ptr (m.next + 3) := by rw [f6 7 (by omega)]; simp
  have q8 : σ1 8 = I (1 + ra) := by rw [f6 8 (by omega)]; simp
  have q9 : σ1 9 = I rb := by rw [f6 9 (by omega)]; simp
  have q10 : σ1 10 = ptr (m2.next + 2) := by rw [f6 10 (by omega)]; simp
  have q11 : σ1 11 = ptr (m2.next + 3) := by rw [f6 11 (by omega)]; simp
  have g4 : m4.get (m.next + 3) = some ⟨netC n (.slice (some ⟨c, 0, none⟩) n.arcs.length 4), true⟩ := by rw [f2 _ (by omega) (by omega)]; exact gn
  have gp4 : m4.get (m2.next + 2) = some ⟨netC n (.slice (some ⟨m2.next + 6 + 3, 0, none⟩) n.arcs.length 4), true⟩ := by rw [f2 _ (by omega) (by omega)]; exact gp
  have gq4 : m4.get (m2.next + 3) = some ⟨netC n (.slice (some ⟨m2.next + 6 + 7, 0, none⟩) n.arcs.length 4), true⟩ := by rw [f2 _ (by omega) (by omega)]; exact gq
  have hA4 : Arcs m4 (.slice (some ⟨c, 0, none⟩) n.arcs.length 4) n.arcs := .inr ⟨_, _, rfl, by rw [f2 c (by omega) (by omega)]; exact gc⟩
  have hk1 : ∀ a ∈ n.arcs, 0 ≤ (1 + (ra : Int)) * a.k ∧ (1 + (ra : Int)) * a.k ≤ 1000 := fun a ha => by
    obtain ⟨a1, a2, a3, a4⟩ := hS.arc a ha
    have h1 : (1 + (ra : Int)) * a.k ≤ 9 * 4 := Int.mul_le_mul (by omega) (by omega) (by omega) (by omega)
    have h2 : 0 ≤ (1 + (ra : Int)) * a.k := Int.mul_nonneg (by omega) (by omega)
    omega
  have hk2 : ∀ a ∈ n.arcs, 0 ≤ (if a.f = n.src then a.k + (rb : Int) else a.k) ∧ (if a.f = n.src then a.k + (rb : Int) else a.k) ≤ 1000 := fun a ha => by
    obtain ⟨a1, a2, a3, a4⟩ := hS.arc a ha
    split <;> omega
  obtain ⟨nt, hnt⟩ : ∃ nt, nt = netK n (fun a => (1 + (ra : Int)) * a.k) := ⟨_, rfl⟩
  obtain ⟨nd, hnd⟩ : ∃ nd, nd = netK n (fun a => if a.f = n.src then a.k + (rb : Int) else a.k) := ⟨_, rfl⟩
  have hmbt : mvB nt = true := by rw [hnt]; exact netK_valid hmb hk1
  have hmbd : mvB nd = true := by rw [hnd]; exact netK_valid hmb hk2
  have hAt : Arcs m4 (.slice (some ⟨m2.next + 6 + 3, 0, none⟩) n.arcs.length 4) nt.arcs := .inr ⟨m2.next + 6 + 3, true, by rw [hnt]; simp [netK], by rw [hnt]; exact f3⟩
  have hAd : Arcs m4 (.slice (some ⟨m2.next + 6 + 7, 0, none⟩) n.arcs.length 4) nd.arcs := .inr ⟨m2.next + 6 + 7, true, by rw [hnd]; simp [netK], by rw [hnd]; exact f4⟩
  have nte : ∀ v, netV nt v = netV n v := fun v => by rw [hnt]; rfl
  have nde : ∀ v, netV nd v = netV n v := fun v => by rw [hnd]; rfl
  simp (disch := first | omega | (simp only [next_put, next_bump]; omega)) [q7, g4, get_put_self, get_put_ne, get_bump, put_put]
  refine (most_wp hV hA4).mono fun r m5 hp => ?_
  obtain ⟨o5, V, rfl, hcut⟩ := hp
  have hV0 := hcut.nonneg hV
  obtain ⟨⟨g0, hg0, hgv⟩, _⟩ := hcut
  have g5 := o5.some g4
  simp (disch := first | omega | (simp only [next_put, next_bump]; omega)) [q7, g5, get_put_self, get_put_ne, get_bump, put_put]
  refine (msolved_wp hmb (hA4.mono o5) hg0 (amount := V) (by omega) (by omega)).mono fun r m6 hp => ?_
  obtain ⟨o6, f, p, rfl, hf, hfv, hfp⟩ := hp
  have o46 := o5.trans o6
  have gp6 := o46.some gp4
  simp (disch := first | omega | (simp only [next_put, next_bump]; omega)) [q10, gp6, get_put_self, get_put_ne, get_bump, put_put]
  have hgt : IsFlow nt g0 ∧ value nt g0 = V := by rw [hnt]; exact ⟨netK_flow.1.2 hg0, by rw [netK_flow.2]; exact hgv⟩
  have hgd : IsFlow nd g0 ∧ value nd g0 = V := by rw [hnd]; exact ⟨netK_flow.1.2 hg0, by rw [netK_flow.2]; exact hgv⟩
  have st := msolved_wp hmbt (hAt.mono o46) hgt.1 (amount := V) (by omega) (by omega)
  rw [nte] at st
  refine st.mono fun r m7 hp => ?_
  obtain ⟨o7, g, q, rfl, hg, hgv2, hgq⟩ := hp
  have o47 := o46.trans o7
  have gq7 := o47.some gq4
  simp (disch := first | omega | (simp only [next_put, next_bump]; omega)) [q11, gq7, get_put_self, get_put_ne, get_bump, put_put]
  have sd := msolved_wp hmbd (hAd.mono o47) hgd.1 (amount := V) (by omega) (by omega)
  rw [nde] at sd
  refine sd.mono fun r m8 hp => ?_
  obtain ⟨o8, h, rr, rfl, hh, hhv, hhr⟩ := hp
  have law : costL nt.arcs g = (1 + (ra : Int)) * costL n.arcs f ∧ ((∀ a ∈ n.arcs, a.t ≠ n.src) → costL nd.arcs h = costL n.arcs f + V * rb) := by
    have hVt := (mvB_iff.1 hmbt).1
    have hVd := (mvB_iff.1 hmbd).1
    subst hnt
    subst hnd
    have := scales_law hmb (k := 1 + (ra : Int)) (b := rb) (by omega) hf hfp hg hgq hh hhr (by omega) (by omega) hVt hVd
    rw [hfv] at this
    exact this
  have cb := cost_flow hmb hf
  have x1 : 0 ≤ (1 + (ra : Int)) * costL n.arcs f := Int.mul_nonneg (by omega) (by omega)
  have x2 : (1 + (ra : Int)) * costL n.arcs f ≤ 9 * 2500000000000 := Int.mul_le_mul (by omega) (by omega) (by omega) (by omega)
  have x3 : 0 ≤ V * (rb : Int) := Int.mul_nonneg (by omega) (by omega)
  have x4 : V * (rb : Int) ≤ 5368709117500 * 8 := Int.mul_le_mul (by omega) (by omega) (by omega) (by omega)
  obtain ⟨law1, law2⟩ := law
  generalize costL nt.arcs g = D at *
  generalize costL nd.arcs h = E at *
  generalize costL n.arcs f = C at *
  have y1 : IntKind.i64.wrap ((1 + (ra : Int)) * C) = (1 + (ra : Int)) * C := i64_id (by omega) (by omega)
  have y2 : IntKind.i64.wrap (V * (rb : Int)) = V * (rb : Int) := i64_id (by omega) (by omega)
  have y3 : IntKind.i64.wrap (C + V * (rb : Int)) = C + V * (rb : Int) := i64_id (by omega) (by omega)
  cases hbk : n.arcs.any (fun a => decide (a.t = n.src))
  · have hE : E = C + V * (rb : Int) := law2 (fun a ha h => by rw [List.any_eq_false] at hbk; exact hbk a ha (by simp [h]))
    subst hE
    subst law1
    rw [hbk] at f5
    simp (disch := first | omega | (simp only [next_put, next_bump]; omega)) [q8, q9, f5, y1, y2, y3, get_put_self, get_put_ne, get_bump, put_put]
    refine maw_wp _ _ fun m' => ?_
    simp
  · subst law1
    rw [hbk] at f5
    simp (disch := first | omega | (simp only [next_put, next_bump]; omega)) [q8, q9, f5, y1, y2, y3, get_put_self, get_put_ne, get_bump, put_put]
    refine maw_wp _ _ fun m' => ?_
    simp
theorem mincostScales_law (m : Mem) (us : List Value) (h : AbsArgs m [.slice (.int .u8), .int .u8, .int .u8] us) : WPCall Try.prog 12 us m fun r _ => r = .bool true := by
  rcases h with _ | ⟨h1, h⟩
  rcases h with _ | ⟨h4, h⟩
  rcases h with _ | ⟨h5, h⟩
  cases h
  obtain ⟨h2, _, h3⟩ := h1.ints
  obtain ⟨ka, hka, rfl⟩ := u8_arg h4
  obtain ⟨kb, hkb, rfl⟩ := u8_arg h5
  refine mcScales_wp ?_ (fun x hx => u8_wf (h3 x hx)) hka hkb
  rcases h2 with h | ⟨b, h, h'⟩
  · exact .inl h
  · exact .inr ⟨b, false, h, h'⟩
end Go.Proofs.Ytapnkfkpkcajjaa
