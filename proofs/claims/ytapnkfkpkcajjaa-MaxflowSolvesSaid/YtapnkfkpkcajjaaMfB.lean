/-
  'Valid', of the program and of the reference.
-/
import Derived.Test.YtapnkfkpkcajjaaMfA
namespace Go.Proofs.Ytapnkfkpkcajjaa
open Go Go.DI Go.Nets
set_option linter.unusedSimpArgs false
set_option linter.unusedVariables false

@[simp] theorem lenOfV_slice {p : Option Addr} {l c : Nat} : lenOfV (.slice p l c) = l := rfl
@[simp] theorem isSl_slice {p : Option Addr} {l c : Nat} : isSl (.slice p l c) = true := rfl

set_option maxHeartbeats 2000000 in
theorem valid_wp {n : Net} {v : Value} {m : Mem} (hv : Arcs m v n.arcs) : WPCall Try.prog 21 [netV n v] m fun r m' => r = .bool (validB n) ∧ Old m m' := by
  rw [call21 (by simp)]
  obtain ⟨hlen, hsl⟩ := hv.len
  have hM : Old m ((m.bump 2).put m.next (some ⟨netC n v, true⟩)) := ((Old.refl m).bump 2).put (Nat.le_refl _)
  have hg : ((m.bump 2).put m.next (some ⟨netC n v, true⟩)).get m.next = some ⟨netC n v, true⟩ := get_put_self (by simp)
  have hnode : ∀ (x : Int) (Φ : Value → Mem → Prop), WPCall Try.prog 43 [I x, ptr m.next] ((m.bump 2).put m.next (some ⟨netC n v, true⟩)) Φ = Φ (.bool (nodeB n x)) ((m.bump 2).put m.next (some ⟨netC n v, true⟩)) := fun x Φ => node_wp hg x Φ
  by_cases k1 : n.nodes < 2
  · simp (disch := first | omega | (simp only [next_put, next_bump]; omega)) [ir21_b, hlen, hsl, hnode, k1, get_put_self, get_put_ne, get_bump, put_put, -lenOfV, -isSl]
    exact ⟨(by first | (simp [validB, *]; done) | (simp [validB]; intros; omega)), hM⟩
  by_cases k2 : 700 < n.nodes
  · simp (disch := first | omega | (simp only [next_put, next_bump]; omega)) [ir21_b, hlen, hsl, hnode, k1, k2, get_put_self, get_put_ne, get_bump, put_put, -lenOfV, -isSl]
    exact ⟨(by first | (simp [validB, *]; done) | (simp [validB]; intros; omega)), hM⟩
  by_cases k3 : (2500 : Int) < n.arcs.length
  · simp (disch := first | omega | (simp only [next_put, next_bump]; omega)) [ir21_b, hlen, hsl, hnode, k1, k2, k3, get_put_self, get_put_ne, get_bump, put_put, -lenOfV, -isSl]
    exact ⟨(by first | (simp [validB, *]; done) | (simp [validB]; intros; omega)), hM⟩
  by_cases k4 : nodeB n n.src = false
  · simp (disch := first | omega | (simp only [next_put, next_bump]; omega)) [ir21_b, hlen, hsl, hnode, k1, k2, k3, k4, get_put_self, get_put_ne, get_bump, put_put, -lenOfV, -isSl]
    exact ⟨(by first | (simp [validB, *]; done) | (simp [validB]; intros; omega)), hM⟩
  by_cases k5 : nodeB n n.snk = false
  · simp (disch := first | omega | (simp only [next_put, next_bump]; omega)) [ir21_b, hlen, hsl, hnode, k1, k2, k3, k4, k5, get_put_self, get_put_ne, get_bump, put_put, -lenOfV, -isSl]
    exact ⟨(by first | (simp [validB, *]; done) | (simp [validB]; intros; omega)), hM⟩
  by_cases k6 : n.src = n.snk
  · simp (disch := first | omega | (simp only [next_put, next_bump]; omega)) [ir21_b, hlen, hsl, hnode, k1, k2, k3, k4, k5, eq_true k6, get_put_self, get_put_ne, get_bump, put_put, -lenOfV, -isSl]
    exact ⟨(by first | (simp [validB, *]; done) | (simp [validB]; intros; omega)), hM⟩
  simp (disch := first | omega | (simp only [next_put, next_bump]; omega)) [ir21_b, hlen, hsl, hnode, k1, k2, k3, k4, k5, k6, get_put_self, get_put_ne, get_bump, put_put, -lenOfV, -isSl]
  refine valid_loop hg (hv.mono hM) (by omega) n.arcs.length 0 _ _ (by omega) (Old.refl _) (by simp) (by simp [hlen]) (by simp) (by simp) (fun σ' m' g1 g2 => ?_) (fun σ' m' g1 g2 g3 => ?_)
  · simp
    rw [List.drop_zero] at g2
    exact ⟨by simp only [validB, g2]; simp at k4 k5; simp [k1, k2, k4, k5, k6]; omega, hM.trans g1⟩
  · simp [g3]
    rw [List.drop_zero] at g2
    exact ⟨by simp only [validB, g2]; simp, hM.trans g1⟩

set_option maxHeartbeats 2000000 in
theorem rvalid_loop {n : Net} {v : Value} {b : Nat} {m0 : Mem} (hn : m0.get b = some ⟨netC n v, true⟩) (hv : Arcs m0 v n.arcs) (hl : n.arcs.length < 100000) {Q : IExit → Slots → Mem → Prop} : ∀ (r i : Nat) (m : Mem) (σ : Slots), i + r = n.arcs.length → Old m0 m →
    σ 1 = ptr b → σ 3 = I i →
    (∀ σ' m', Old m0 m' → (n.arcs.drop i).all (arcB n) = true → Q (.exit 0) σ' m') → (∀ σ' m', Old m0 m' → (n.arcs.drop i).all (arcB n) = false → σ' 2 = .bool false → Q .ret σ' m') → WP Try.prog (.loop ir22_l0) σ m Q
  | 0, i, m, σ, hi, ho, s1, s3, hQ, hR => by
    refine wp_round fun J hJ => ?_
    obtain ⟨hlen, hsl⟩ := hv.len
    have h1 : ¬ i < n.arcs.length := by omega
    have hgb := ho.some hn
    simp [ir22_l0, s1, s3, h1, hgb, hlen, hsl, -lenOfV, -isSl]
    exact hQ _ _ ho (by rw [List.drop_of_length_le (by omega)]; rfl)
  | r + 1, i, m, σ, hi, ho, s1, s3, hQ, hR => by
    refine wp_round fun J hJ => ?_
    have h1 : i < n.arcs.length := by omega
    obtain ⟨a, ha⟩ : ∃ a, n.arcs[i]? = some a := ⟨n.arcs[i]'h1, by simp⟩
    have hdrop : n.arcs.drop i = a :: n.arcs.drop (i + 1) := by
      rw [List.drop_eq_getElem_cons h1]; rw [List.getElem?_eq_getElem h1] at ha; cases ha; rfl
    obtain ⟨c, o, rfl, hc⟩ := hv.blk h1
    have hgc := ho.some hc
    have hgb := ho.some hn
    have hlb := get_lt hgb
    have hlc := get_lt hgc
    have hn0 := ho.next
    have hb0 := get_lt hn
    have hb : i * 4 + 4 ≤ n.arcs.length * 4 := by omega
    have c4 := arcs_at ha
    have w0 : IntKind.i64.wrap ((i : Int) + 1) = (i : Int) + 1 := i64_id (by omega) (by omega)
    have next : ∀ (σ' : Slots) (m' : Mem), arcB n a = true → Old m0 m' → σ' 1 = ptr b → σ' 3 = I ((i : Int) + 1) → J σ' m' := by
      intro σ' m' hok ho' q1 q3
      refine hJ _ _ (rvalid_loop hn hv hl r (i + 1) m' σ' (by omega) ho' q1 (by rw [q3]; simp) (fun σ'' m'' g1 g2 => hQ _ _ g1 ?_) (fun σ'' m'' g1 g2 g3 => hR _ _ g1 ?_ g3))
      · rw [hdrop, List.all_cons, hok, g2]; rfl
      · rw [hdrop, List.all_cons, hok, g2]; rfl
    have stop : ∀ (σ' : Slots) (m' : Mem), arcB n a = false → Old m0 m' → σ' 2 = .bool false → Q .ret σ' m' := fun σ' m' hno ho' q2 => hR _ _ ho' (by rw [hdrop, List.all_cons, hno]; rfl) q2
    have ho2 : ∀ k q y, m.next ≤ q → Old m0 ((m.bump k).put q (some y)) := fun k q y hq => (ho.bump k).put (by omega)
    by_cases k1 : a.f < 0
    · simp (disch := first | omega | (simp only [next_put, next_bump]; omega)) [ir22_l0, s1, s3, h1, hgc, hgb, hb, c4, arcC, w0, k1, get_put_self, get_put_ne, get_bump, put_put]
      exact stop _ _ (by simp [arcB, nodeB]; omega) (ho2 _ _ _ (by omega)) (by simp)
    by_cases k2 : n.nodes ≤ a.f
    · simp (disch := first | omega | (simp only [next_put, next_bump]; omega)) [ir22_l0, s1, s3, h1, hgc, hgb, hb, c4, arcC, w0, k1, k2, get_put_self, get_put_ne, get_bump, put_put]
      exact stop _ _ (by simp [arcB, nodeB]; omega) (ho2 _ _ _ (by omega)) (by simp)
    by_cases k3 : a.t < 0
    · simp (disch := first | omega | (simp only [next_put, next_bump]; omega)) [ir22_l0, s1, s3, h1, hgc, hgb, hb, c4, arcC, w0, k1, k2, k3, get_put_self, get_put_ne, get_bump, put_put]
      exact stop _ _ (by simp [arcB, nodeB]; omega) (ho2 _ _ _ (by omega)) (by simp)
    by_cases k4 : n.nodes ≤ a.t
    · simp (disch := first | omega | (simp only [next_put, next_bump]; omega)) [ir22_l0, s1, s3, h1, hgc, hgb, hb, c4, arcC, w0, k1, k2, k3, k4, get_put_self, get_put_ne, get_bump, put_put]
      exact stop _ _ (by simp [arcB, nodeB]; omega) (ho2 _ _ _ (by omega)) (by simp)
    by_cases k5 : a.c < 0
    · simp (disch := first | omega | (simp only [next_put, next_bump]; omega)) [ir22_l0, s1, s3, h1, hgc, hgb, hb, c4, arcC, w0, k1, k2, k3, k4, k5, get_put_self, get_put_ne, get_bump, put_put]
      exact stop _ _ (by simp [arcB, nodeB]; omega) (ho2 _ _ _ (by omega)) (by simp)
    by_cases k6 : 2147483647 < a.c
    · simp (disch := first | omega | (simp only [next_put, next_bump]; omega)) [ir22_l0, s1, s3, h1, hgc, hgb, hb, c4, arcC, w0, k1, k2, k3, k4, k5, k6, get_put_self, get_put_ne, get_bump, put_put]
      exact stop _ _ (by simp [arcB, nodeB]; omega) (ho2 _ _ _ (by omega)) (by simp)
    simp (disch := first | omega | (simp only [next_put, next_bump]; omega)) [ir22_l0, s1, s3, h1, hgc, hgb, hb, c4, arcC, w0, k1, k2, k3, k4, k5, k6, get_put_self, get_put_ne, get_bump, put_put]
    exact next _ _ (by simp [arcB, nodeB]; omega) (ho2 _ _ _ (by omega)) (by simp [s1]) (by simp)

set_option maxHeartbeats 2000000 in
theorem rvalid_wp {n : Net} {v : Value} {m : Mem} (hv : Arcs m v n.arcs) : WPCall Try.prog 22 [netV n v] m fun r m' => r = .bool (validB n) ∧ Old m m' := by
  rw [call22 (by simp)]
  obtain ⟨hlen, hsl⟩ := hv.len
  have hM : Old m ((m.bump 2).put m.next (some ⟨netC n v, true⟩)) := ((Old.refl m).bump 2).put (Nat.le_refl _)
  have hg : ((m.bump 2).put m.next (some ⟨netC n v, true⟩)).get m.next = some ⟨netC n v, true⟩ := get_put_self (by simp)
  by_cases k1 : n.nodes < 2
  · simp (disch := first | omega | (simp only [next_put, next_bump]; omega)) [ir22_b, hlen, hsl, k1, get_put_self, get_put_ne, get_bump, put_put, -lenOfV, -isSl]
    exact ⟨(by first | (simp [validB, nodeB, *]; done) | (simp [validB, nodeB]; intros; omega)), hM⟩
  by_cases k2 : 700 < n.nodes
  · simp (disch := first | omega | (simp only [next_put, next_bump]; omega)) [ir22_b, hlen, hsl, k1, k2, get_put_self, get_put_ne, get_bump, put_put, -lenOfV, -isSl]
    exact ⟨(by first | (simp [validB, nodeB, *]; done) | (simp [validB, nodeB]; intros; omega)), hM⟩
  by_cases k3 : (2500 : Int) < n.arcs.length
  · simp (disch := first | omega | (simp only [next_put, next_bump]; omega)) [ir22_b, hlen, hsl, k1, k2, k3, get_put_self, get_put_ne, get_bump, put_put, -lenOfV, -isSl]
    exact ⟨(by first | (simp [validB, nodeB, *]; done) | (simp [validB, nodeB]; intros; omega)), hM⟩
  by_cases k4 : n.src < 0
  · simp (disch := first | omega | (simp only [next_put, next_bump]; omega)) [ir22_b, hlen, hsl, k1, k2, k3, k4, get_put_self, get_put_ne, get_bump, put_put, -lenOfV, -isSl]
    exact ⟨(by first | (simp [validB, nodeB, *]; done) | (simp [validB, nodeB]; intros; omega)), hM⟩
  by_cases k4b : n.nodes ≤ n.src
  · simp (disch := first | omega | (simp only [next_put, next_bump]; omega)) [ir22_b, hlen, hsl, k1, k2, k3, k4, k4b, get_put_self, get_put_ne, get_bump, put_put, -lenOfV, -isSl]
    exact ⟨(by first | (simp [validB, nodeB, *]; done) | (simp [validB, nodeB]; intros; omega)), hM⟩
  by_cases k5 : n.snk < 0
  · simp (disch := first | omega | (simp only [next_put, next_bump]; omega)) [ir22_b, hlen, hsl, k1, k2, k3, k4, k4b, k5, get_put_self, get_put_ne, get_bump, put_put, -lenOfV, -isSl]
    exact ⟨(by first | (simp [validB, nodeB, *]; done) | (simp [validB, nodeB]; intros; omega)), hM⟩
  by_cases k5b : n.nodes ≤ n.snk
  · simp (disch := first | omega | (simp only [next_put, next_bump]; omega)) [ir22_b, hlen, hsl, k1, k2, k3, k4, k4b, k5, k5b, get_put_self, get_put_ne, get_bump, put_put, -lenOfV, -isSl]
    exact ⟨(by first | (simp [validB, nodeB, *]; done) | (simp [validB, nodeB]; intros; omega)), hM⟩
  by_cases k6 : n.src = n.snk
  · simp (disch := first | omega | (simp only [next_put, next_bump]; omega)) [ir22_b, hlen, hsl, k1, k2, k3, k4, k4b, k5, k5b, eq_true k6, get_put_self, get_put_ne, get_bump, put_put, -lenOfV, -isSl]
    exact ⟨(by first | (simp [validB, nodeB, *]; done) | (simp [validB, nodeB]; intros; omega)), hM⟩
  simp (disch := first | omega | (simp only [next_put, next_bump]; omega)) [ir22_b, hlen, hsl, k1, k2, k3, k4, k4b, k5, k5b, k6, get_put_self, get_put_ne, get_bump, put_put, -lenOfV, -isSl]
  refine rvalid_loop hg (hv.mono hM) (by omega) n.arcs.length 0 _ _ (by omega) (Old.refl _) (by simp) (by simp) (fun σ' m' g1 g2 => ?_) (fun σ' m' g1 g2 g3 => ?_)
  · simp
    rw [List.drop_zero] at g2
    exact ⟨by simp only [validB, g2, nodeB]; simp; omega, hM.trans g1⟩
  · simp [g3]
    rw [List.drop_zero] at g2
    exact ⟨by simp only [validB, g2]; simp, hM.trans g1⟩
end Go.Proofs.Ytapnkfkpkcajjaa
