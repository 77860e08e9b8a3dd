/-
  'Valid', of the program and of the reference.
  'Value': the summing loops.
  'Value', of the program and of the reference.
  'Capacity' and 'Check', of the program and of the reference.
-/
import Derived.Test.YtapnkfkpkcajjaaMfA
namespace Go.Proofs.Ytapnkfkpkcajjaa
open Go Go.DI Go.Nets
set_option linter.unusedSimpArgs false
set_option linter.unusedVariables false

@[simp] theorem lenOfV_slice {p : Option Addr} {l c : Nat} : lenOfV (.slice p l c) = l := rfl
@[simp] theorem isSl_slice {p : Option Addr} {l c : Nat} : isSl (.slice p l c) = true := rfl

set_option maxHeartbeats 2000000 in
theorem valid_wp {n : Net} {v : Value} {m : Mem} (hv : Arcs m v n.arcs) : WPCall Try.prog 21 [netV n v] m fun r m' => r = .bool (validB n) ∧ Old m m' := by
  rw [call21 (by simp)]
  obtain ⟨hlen, hsl⟩ := hv.len
  have hM : Old m ((m.bump 2).put m.next (some ⟨netC n v, true⟩)) := ((Old.refl m).bump 2).put (Nat.le_refl _)
  have hg : ((m.bump 2).put m.next (some ⟨netC n v, true⟩)).get m.next = some ⟨netC n v, true⟩ := get_put_self (by simp)
  have hnode : ∀ (x : Int) (Φ : Value → Mem → Prop), WPCall Try.prog 43 [I x, ptr m.next] ((m.bump 2).put m.next (some ⟨netC n v, true⟩)) Φ = Φ (.bool (nodeB n x)) ((m.bump 2).put m.next (some ⟨netC n v, true⟩)) := fun x Φ => node_wp hg x Φ
  by_cases k1 : n.nodes < 2
  · simp (disch := first | omega | (simp only [next_put, next_bump]; omega)) [ir21_b, hlen, hsl, hnode, k1, get_put_self, get_put_ne, get_bump, put_put, -lenOfV, -isSl]
    exact ⟨(by first | (simp [validB, *]; done) | (simp [validB]; intros; omega)), hM⟩
  by_cases k2 : 700 < n.nodes
  · simp (disch := first | omega | (simp only [next_put, next_bump]; omega)) [ir21_b, hlen, hsl, hnode, k1, k2, get_put_self, get_put_ne, get_bump, put_put, -lenOfV, -isSl]
    exact ⟨(by first | (simp [validB, *]; done) | (simp [validB]; intros; omega)), hM⟩
  by_cases k3 : (2500 : Int) < n.arcs.length
  · simp (disch := first | omega | (simp only [next_put, next_bump]; omega)) [ir21_b, hlen, hsl, hnode, k1, k2, k3, get_put_self, get_put_ne, get_bump, put_put, -lenOfV, -isSl]
    exact ⟨(by first | (simp [validB, *]; done) | (simp [validB]; intros; omega)), hM⟩
  by_cases k4 : nodeB n n.src = false
  · simp (disch := first | omega | (simp only [next_put, next_bump]; omega)) [ir21_b, hlen, hsl, hnode, k1, k2, k3, k4, get_put_self, get_put_ne, get_bump, put_put, -lenOfV, -isSl]
    exact ⟨(by first | (simp [validB, *]; done) | (simp [validB]; intros; omega)), hM⟩
  by_cases k5 : nodeB n n.snk = false
  · simp (disch := first | omega | (simp only [next_put, next_bump]; omega)) [ir21_b, hlen, hsl, hnode, k1, k2, k3, k4, k5, get_put_self, get_put_ne, get_bump, put_put, -lenOfV, -isSl]
    exact ⟨(by first | (simp [validB, *]; done) | (simp [validB]; intros; omega)), hM⟩
  by_cases k6 : n.src = n.snk
  · simp (disch := first | omega | (simp only [next_put, next_bump]; omega)) [ir21_b, hlen, hsl, hnode, k1, k2, k3, k4, k5, eq_true k6, get_put_self, get_put_ne, get_bump, put_put, -lenOfV, -isSl]
    exact ⟨(by first | (simp [validB, *]; done) | (simp [validB]; intros; omega)), hM⟩
  simp (disch := first | omega | (simp only [next_put, next_bump]; omega)) [ir21_b, hlen, hsl, hnode, k1, k2, k3, k4, k5, k6, get_put_self, get_put_ne, get_bump, put_put, -lenOfV, -isSl]
  refine valid_loop hg (hv.mono hM) (by omega) n.arcs.length 0 _ _ (by omega) (Old.refl _) (by simp) (by simp [hlen]) (by simp) (by simp) (fun σ' m' g1 g2 => ?_) (fun σ' m' g1 g2 g3 => ?_)
  · simp
    rw [List.drop_zero] at g2
    exact ⟨by simp only [validB, g2]; simp at k4 k5; simp [k1, k2, k4, k5, k6]; omega, hM.trans g1⟩
  · simp [g3]
    rw [List.drop_zero] at g2
    exact ⟨by simp only [validB, g2]; simp, hM.trans g1⟩

set_option maxHeartbeats 2000000 in
theorem rvalid_loop {n : Net} {v : Value} {b : Nat} {m0 : Mem} (hn : m0.get b = some ⟨netC n v, true⟩) (hv : Arcs m0 v n.arcs) (hl : n.arcs.length < 100000) {Q : IExit → Slots → Mem → Prop} : ∀ (r i : Nat) (m : Mem) (σ : Slots), i + r = n.arcs.length → Old m0 m →
    σ 1 = ptr b → σ 3 = I i →
    (∀ σ' m', Old m0 m' → (n.arcs.drop i).all (arcB n) = true → Q (.exit 0) σ' m') → (∀ σ' m', Old m0 m' → (n.arcs.drop i).all (arcB n) = false → σ' 2 = .bool false → Q .ret σ' m') → WP Try.prog (.loop ir22_l0) σ m Q
  | 0, i, m, σ, hi, ho, s1, s3, hQ, hR => by
    refine wp_round fun J hJ => ?_
    obtain ⟨hlen, hsl⟩ := hv.len
    have h1 : ¬ i < n.arcs.length := by omega
    have hgb := ho.some hn
    simp [ir22_l0, s1, s3, h1, hgb, hlen, hsl, -lenOfV, -isSl]
    exact hQ _ _ ho (by rw [List.drop_of_length_le (by omega)]; rfl)
  | r + 1, i, m, σ, hi, ho, s1, s3, hQ, hR => by
    refine wp_round fun J hJ => ?_
    have h1 : i < n.arcs.length := by omega
    obtain ⟨a, ha⟩ : ∃ a, n.arcs[i]? = some a := ⟨n.arcs[i]'h1, by simp⟩
    have hdrop : n.arcs.drop i = a :: n.arcs.drop (i + 1) := by
      rw [List.drop_eq_getElem_cons h1]; rw [List.getElem?_eq_getElem h1] at ha; cases ha; rfl
    obtain ⟨c, o, rfl, hc⟩ := hv.blk h1
    have hgc := ho.some hc
    have hgb := ho.some hn
    have hlb := get_lt hgb
    have hlc := get_lt hgc
    have hn0 := ho.next
    have hb0 := get_lt hn
    have hb : i * 4 + 4 ≤ n.arcs.length * 4 := by omega
    have c4 := arcs_at ha
    have w0 : IntKind.i64.wrap ((i : Int) + 1) = (i : Int) + 1 := i64_id (by omega) (by omega)
    have next : ∀ (σ' : Slots) (m' : Mem), arcB n a = true → Old m0 m' → σ' 1 = ptr b → σ' 3 = I ((i : Int) + 1) → J σ' m' := by
      intro σ' m' hok ho' q1 q3
      refine hJ _ _ (rvalid_loop hn hv hl r (i + 1) m' σ' (by omega) ho' q1 (by rw [q3]; simp) (fun σ'' m'' g1 g2 => hQ _ _ g1 ?_) (fun σ'' m'' g1 g2 g3 => hR _ _ g1 ?_ g3))
      · rw [hdrop, List.all_cons, hok, g2]; rfl
      · rw [hdrop, List.all_cons, hok, g2]; rfl
    have stop : ∀ (σ' : Slots) (m' : Mem), arcB n a = false → Old m0 m' → σ' 2 = .bool false → Q .ret σ' m' := fun σ' m' hno ho' q2 => hR _ _ ho' (by rw [hdrop, List.all_cons, hno]; rfl) q2
    have ho2 : ∀ k q y, m.next ≤ q → Old m0 ((m.bump k).put q (some y)) := fun k q y hq => (ho.bump k).put (by omega)
    by_cases k1 : a.f < 0
    · simp (disch := first | omega | (simp only [next_put, next_bump]; omega)) [ir22_l0, s1, s3, h1, hgc, hgb, hb, c4, arcC, w0, k1, get_put_self, get_put_ne, get_bump, put_put]
      exact stop _ _ (by simp [arcB, nodeB]; omega) (ho2 _ _ _ (by omega)) (by simp)
    by_cases k2 : n.nodes ≤ a.f
    · simp (disch := first | omega | (simp only [next_put, next_bump]; omega)) [ir22_l0, s1, s3, h1, hgc, hgb, hb, c4, arcC, w0, k1, k2, get_put_self, get_put_ne, get_bump, put_put]
      exact stop _ _ (by simp [arcB, nodeB]; omega) (ho2 _ _ _ (by omega)) (by simp)
    by_cases k3 : a.t < 0
    · simp (disch := first | omega | (simp only [next_put, next_bump]; omega)) [ir22_l0, s1, s3, h1, hgc, hgb, hb, c4, arcC, w0, k1, k2, k3, get_put_self, get_put_ne, get_bump, put_put]
      exact stop _ _ (by simp [arcB, nodeB]; omega) (ho2 _ _ _ (by omega)) (by simp)
    by_cases k4 : n.nodes ≤ a.t
    · simp (disch := first | omega | (simp only [next_put, next_bump]; omega)) [ir22_l0, s1, s3, h1, hgc, hgb, hb, c4, arcC, w0, k1, k2, k3, k4, get_put_self, get_put_ne, get_bump, put_put]
      exact stop _ _ (by simp [arcB, nodeB]; omega) (ho2 _ _ _ (by omega)) (by simp)
    by_cases k5 : a.c < 0
    · simp (disch := first | omega | (simp only [next_put, next_bump]; omega)) [ir22_l0, s1, s3, h1, hgc, hgb, hb, c4, arcC, w0, k1, k2, k3, k4, k5, get_put_self, get_put_ne, get_bump, put_put]
      exact stop _ _ (by simp [arcB, nodeB]; omega) (ho2 _ _ _ (by omega)) (by simp)
    by_cases k6 : 2147483647 < a.c
    · simp (disch := first | omega | (simp only [next_put, next_bump]; omega)) [ir22_l0, s1, s3, h1, hgc, hgb, hb, c4, arcC, w0, k1, k2, k3, k4, k5, k6, get_put_self, get_put_ne, get_bump, put_put]
      exact stop _ _ (by simp [arcB, nodeB]; omega) (ho2 _ _ _ (by omega)) (by simp)
    simp (disch := first | omega | (simp only [next_put, next_bump]; omega)) [ir22_l0, s1, s3, h1, hgc, hgb, hb, c4, arcC, w0, k1, k2, k3, k4, k5, k6, get_put_self, get_put_ne, get_bump, put_put]
    exact next _ _ (by simp [arcB, nodeB]; omega) (ho2 _ _ _ (by omega)) (by simp [s1]) (by simp)

set_option maxHeartbeats 2000000 in
theorem rvalid_wp {n : Net} {v : Value} {m : Mem} (hv : Arcs m v n.arcs) : WPCall Try.prog 22 [netV n v] m fun r m' => r = .bool (validB n) ∧ Old m m' := by
  rw [call22 (by simp)]
  obtain ⟨hlen, hsl⟩ := hv.len
  have hM : Old m ((m.bump 2).put m.next (some ⟨netC n v, true⟩)) := ((Old.refl m).bump 2).put (Nat.le_refl _)
  have hg : ((m.bump 2).put m.next (some ⟨netC n v, true⟩)).get m.next = some ⟨netC n v, true⟩ := get_put_self (by simp)
  by_cases k1 : n.nodes < 2
  · simp (disch := first | omega | (simp only [next_put, next_bump]; omega)) [ir22_b, hlen, hsl, k1, get_put_self, get_put_ne, get_bump, put_put, -lenOfV, -isSl]
    exact ⟨(by first | (simp [validB, nodeB, *]; done) | (simp [validB, nodeB]; intros; omega)), hM⟩
  by_cases k2 : 700 < n.nodes
  · simp (disch := first | omega | (simp only [next_put, next_bump]; omega)) [ir22_b, hlen, hsl, k1, k2, get_put_self, get_put_ne, get_bump, put_put, -lenOfV, -isSl]
    exact ⟨(by first | (simp [validB, nodeB, *]; done) | (simp [validB, nodeB]; intros; omega)), hM⟩
  by_cases k3 : (2500 : Int) < n.arcs.length
  · simp (disch := first | omega | (simp only [next_put, next_bump]; omega)) [ir22_b, hlen, hsl, k1, k2, k3, get_put_self, get_put_ne, get_bump, put_put, -lenOfV, -isSl]
    exact ⟨(by first | (simp [validB, nodeB, *]; done) | (simp [validB, nodeB]; intros; omega)), hM⟩
  by_cases k4 : n.src < 0
  · simp (disch := first | omega | (simp only [next_put, next_bump]; omega)) [ir22_b, hlen, hsl, k1, k2, k3, k4, get_put_self, get_put_ne, get_bump, put_put, -lenOfV, -isSl]
    exact ⟨(by first | (simp [validB, nodeB, *]; done) | (simp [validB, nodeB]; intros; omega)), hM⟩
  by_cases k4b : n.nodes ≤ n.src
  · simp (disch := first | omega | (simp only [next_put, next_bump]; omega)) [ir22_b, hlen, hsl, k1, k2, k3, k4, k4b, get_put_self, get_put_ne, get_bump, put_put, -lenOfV, -isSl]
    exact ⟨(by first | (simp [validB, nodeB, *]; done) | (simp [validB, nodeB]; intros; omega)), hM⟩
  by_cases k5 : n.snk < 0
  · simp (disch := first | omega | (simp only [next_put, next_bump]; omega)) [ir22_b, hlen, hsl, k1, k2, k3, k4, k4b, k5, get_put_self, get_put_ne, get_bump, put_put, -lenOfV, -isSl]
    exact ⟨(by first | (simp [validB, nodeB, *]; done) | (simp [validB, nodeB]; intros; omega)), hM⟩
  by_cases k5b : n.nodes ≤ n.snk
  · simp (disch := first | omega | (simp only [next_put, next_bump]; omega)) [ir22_b, hlen, hsl, k1, k2, k3, k4, k4b, k5, k5b, get_put_self, get_put_ne, get_bump, put_put, -lenOfV, -isSl]
    exact ⟨(by first | (simp [validB, nodeB, *]; done) | (simp [validB, nodeB]; intros; omega)), hM⟩
  by_cases k6 : n.src = n.snk
  · simp (disch := first | omega | (simp only [next_put, next_bump]; omega)) [ir22_b, hlen, hsl, k1, k2, k3, k4, k4b, k5, k5b, eq_true k6, get_put_self, get_put_ne, get_bump, put_put, -lenOfV, -isSl]
    exact ⟨(by first | (simp [validB, nodeB, *]; done) | (simp [validB, nodeB]; intros; omega)), hM⟩
  simp (disch := first | omega | (simp only [next_put, next_bump]; omega)) [ir22_b, hlen, hsl, k1, k2, k3, k4, k4b, k5, k5b, k6, get_put_self, get_put_ne, get_bump, put_put, -lenOfV, -isSl]
  refine rvalid_loop hg (hv.mono hM) (by omega) n.arcs.length 0 _ _ (by omega) (Old.refl _) (by simp) (by simp) (fun σ' m' g1 g2 => ?_) (fun σ' m' g1 g2 g3 => ?_)
  · simp
    rw [List.drop_zero] at g2
    exact ⟨by simp only [validB, g2, nodeB]; simp; omega, hM.trans g1⟩
  · simp [g3]
    rw [List.drop_zero] at g2
    exact ⟨by simp only [validB, g2]; simp, hM.trans g1⟩
end Go.Proofs.Ytapnkfkpkcajjaa
namespace Go.Proofs.Ytapnkfkpkcajjaa
open Go Go.DI Go.Nets
set_option linter.unusedSimpArgs false
set_option linter.unusedVariables false

def rowI (N : Nat) (g : Int → Int) : List Value := (List.range N).map fun (x : Nat) => I (g x)
@[simp] theorem rowI_len {N : Nat} {g : Int → Int} : (rowI N g).length = N := by simp [rowI]
@[simp] theorem rowI_getElem {N : Nat} {g : Int → Int} {k : Nat} (h : k < (rowI N g).length) : (rowI N g)[k]'h = I (g k) := by simp [rowI]
theorem rowI_get {N : Nat} {g : Int → Int} {k : Nat} (h : k < N) : (rowI N g)[k]? = some (I (g k)) := by simp [rowI, h]
@[simp] theorem rowI_set {N : Nat} {g : Int → Int} {k : Nat} {c : Int} : (rowI N g).set k (I c) = rowI N (fun x => if x = k then c else g x) := by
  apply List.ext_getElem
  · simp
  · intro i h1 h2
    simp at h1
    rw [List.getElem_set]
    simp only [rowI_getElem]
    by_cases h : k = i
    · subst h; simp
    · have : ¬ (i : Int) = k := by omega
      simp [h, this]
theorem rowI_zero {N : Nat} : List.replicate N (I 0) = rowI N (fun _ => 0) := by
  apply List.ext_getElem <;> simp [rowI]
theorem rowI_congr {N : Nat} {g h : Int → Int} (e : ∀ x, g x = h x) : rowI N g = rowI N h := by
  have : g = h := funext e
  rw [this]

def bndL : List Arc → List Int → Bool
  | a :: ar, φ :: fs => !decide (φ < 0) && !decide (a.c < φ) && bndL ar fs
  | _, _ => true
def conB (n : Net) (g : Int → Int) (l : List Nat) : Bool := l.all fun x => decide ((x : Int) = n.src) || decide ((x : Int) = n.snk) || decide (g x = 0)
def valueR (n : Net) (fl : List Int) : Int × Bool :=
  if validB n && decide (fl.length = n.arcs.length) && bndL n.arcs fl && conB n (netAt n.arcs fl) (List.range n.nodes.toNat) then (value n fl, true) else (0, false)
theorem bndL_iff : ∀ {ar : List Arc} {fs : List Int}, fs.length = ar.length → (bndL ar fs = true ↔ ∀ (i : Nat) a φ, ar[i]? = some a → fs[i]? = some φ → 0 ≤ φ ∧ φ ≤ a.c)
  | [], [], _ => by simp [bndL]
  | [], _ :: _, h => by simp at h
  | _ :: _, [], h => by simp at h
  | a :: ar, φ :: fs, h => by
    have ih := @bndL_iff ar fs (by simpa using h)
    simp only [bndL, Bool.and_eq_true, Bool.not_eq_true', decide_eq_false_iff_not, ih]
    constructor
    · rintro ⟨⟨h1, h2⟩, h3⟩ i b ψ hb hψ
      cases i with
      | zero => simp at hb hψ; subst hb; subst hψ; omega
      | succ i => exact h3 i b ψ (by simpa using hb) (by simpa using hψ)
    · intro h3
      have := h3 0 a φ rfl rfl
      exact ⟨⟨by omega, by omega⟩, fun i b ψ hb hψ => h3 (i + 1) b ψ (by simpa using hb) (by simpa using hψ)⟩
theorem valueR_true {n : Net} {fl : List Int} (h : (valueR n fl).2 = true) : n.Valid ∧ IsFlow n fl ∧ (valueR n fl).1 = value n fl := by
  unfold valueR at h ⊢
  split at h
  · rename_i hc
    rw [if_pos hc]
    simp only [Bool.and_eq_true, decide_eq_true_eq] at hc
    obtain ⟨⟨⟨h1, h2⟩, h3⟩, h4⟩ := hc
    have hV := validB_iff.1 h1
    refine ⟨hV, ⟨⟨h2, (bndL_iff h2).1 h3⟩, fun x hx hs ht => ?_⟩, rfl⟩
    simp only [conB, List.all_eq_true, List.mem_range, Bool.or_eq_true, decide_eq_true_eq] at h4
    obtain ⟨k, rfl⟩ : ∃ k : Nat, x = k := ⟨x.toNat, by have := hx.1; omega⟩
    have := h4 k (by have := hx.2; omega)
    rcases this with (h | h) | h
    · exact absurd h hs
    · exact absurd h ht
    · exact h
  · cases h
theorem valueR_of {n : Net} {fl : List Int} (hV : n.Valid) (hf : IsFlow n fl) : valueR n fl = (value n fl, true) := by
  unfold valueR
  rw [if_pos]
  simp only [Bool.and_eq_true, decide_eq_true_eq]
  refine ⟨⟨⟨validB_iff.2 hV, hf.bnd.1⟩, (bndL_iff hf.bnd.1).2 hf.bnd.2⟩, ?_⟩
  simp only [conB, List.all_eq_true, List.mem_range, Bool.or_eq_true, decide_eq_true_eq]
  intro k hk
  by_cases h1 : (k : Int) = n.src
  · exact .inl (.inl h1)
  · by_cases h2 : (k : Int) = n.snk
    · exact .inl (.inr h2)
    · exact .inr (hf.con k ⟨by omega, by omega⟩ h1 h2)

set_option maxHeartbeats 4000000 in
set_option maxRecDepth 20000 in
theorem value_loop0 {n : Net} (hV : n.Valid) {N : Nat} (hN : n.nodes = N) {M : Int} (hMM : M = 2147483647) {v w : Value} {fl : List Int} {b nb : Nat} {m0 : Mem} (hn : m0.get b = some ⟨netC n v, true⟩) (hv : Arcs m0 v n.arcs) (hw : Ints m0 w fl) (hfl : fl.length = n.arcs.length) (hnb : m0.next ≤ nb) {Q : IExit → Slots → Mem → Prop} : ∀ (r i : Nat) (m : Mem) (σ : Slots) (g : Int → Int), i + r = n.arcs.length → Old m0 m → m.get nb = some ⟨rowI N g, true⟩ → (∀ x, -((i : Int) * M) ≤ g x ∧ g x ≤ (i : Int) * M) →
    σ 26 = v → σ 27 = I n.arcs.length → σ 28 = I i → σ 6 = .slice (some ⟨nb, 0, none⟩) N 1 → σ 1 = w → σ 2 = ptr b →
    (∀ σ' m' g', Old m0 m' → m'.get nb = some ⟨rowI N g', true⟩ → bndL (n.arcs.drop i) (fl.drop i) = true → (∀ x, g' x = g x + netAt (n.arcs.drop i) (fl.drop i) x) → σ' 6 = .slice (some ⟨nb, 0, none⟩) N 1 → σ' 2 = ptr b → Q (.exit 0) σ' m') →
    (∀ σ' m', Old m0 m' → bndL (n.arcs.drop i) (fl.drop i) = false → σ' 4 = I 0 → σ' 5 = .bool false → Q .ret σ' m') → WP Try.prog (.loop ir17_l0) σ m Q
  | 0, i, m, σ, g, hi, ho, hg, hgb, s26, s27, si, s6, s1, s2, hQ, hR => by
    refine wp_round fun J hJ => ?_
    have h1 : ¬ i < n.arcs.length := by omega
    obtain ⟨hlen, hsl⟩ := hw.len
    simp [ir17_l0, s26, s27, si, s1, s2, h1, hlen, hsl, hfl, -lenOfV, -isSl]
    exact hQ _ _ g ho hg (by rw [List.drop_of_length_le (by omega)]; rfl) (fun x => by rw [List.drop_of_length_le (by omega : n.arcs.length ≤ i)]; simp [netAt]) (by simp [s6]) (by simp [s2])
  | r + 1, i, m, σ, g, hi, ho, hg, hgb, s26, s27, si, s6, s1, s2, hQ, hR => by
    refine wp_round fun J hJ => ?_
    have h1 : i < n.arcs.length := by omega
    have h1' : i < fl.length := by omega
    obtain ⟨a, ha⟩ : ∃ a, n.arcs[i]? = some a := ⟨n.arcs[i]'h1, by simp⟩
    obtain ⟨φ, hφ⟩ : ∃ φ, fl[i]? = some φ := ⟨fl[i]'h1', by simp⟩
    have hφ2 : ∀ h, fl[i]'h = φ := fun h => by rw [List.getElem?_eq_getElem h] at hφ; simpa using hφ
    have hdrop : n.arcs.drop i = a :: n.arcs.drop (i + 1) := by
      rw [List.drop_eq_getElem_cons h1]; rw [List.getElem?_eq_getElem h1] at ha; cases ha; rfl
    have hdrop2 : fl.drop i = φ :: fl.drop (i + 1) := by
      rw [List.drop_eq_getElem_cons h1']; rw [hφ2]
    have hok := hV.arc a (List.mem_of_getElem? ha)
    obtain ⟨⟨f1, f2⟩, ⟨t1, t2⟩, c1, c2⟩ := hok
    obtain ⟨kf, hkf⟩ : ∃ k : Nat, a.f = k := ⟨a.f.toNat, by omega⟩
    obtain ⟨kt, hkt⟩ : ∃ k : Nat, a.t = k := ⟨a.t.toNat, by omega⟩
    have f3 : kf < N := by omega
    have t3 : kt < N := by omega
    have f4 : kf + 1 ≤ N := f3
    have t4 : kt + 1 ≤ N := t3
    have hrf : ∀ g, (rowI N g)[kf]? = some (I (g kf)) := fun g => rowI_get f3
    have hrt : ∀ g, (rowI N g)[kt]? = some (I (g kt)) := fun g => rowI_get t3
    obtain ⟨c, o, rfl, hc⟩ := hv.blk h1
    obtain ⟨d, o2, rfl, hd⟩ := hw.blk h1'
    have hgc := ho.some hc
    have hgd := ho.some hd
    have hgb' := ho.some hn
    have hlb := get_lt hgb'
    have hlc := get_lt hgc
    have hld := get_lt hgd
    have hlc0 := get_lt hc
    have hld0 := get_lt hd
    have hlb0 := get_lt hn
    have hln := get_lt hg
    have hn0 := ho.next
    have hb : i * 4 + 4 ≤ n.arcs.length * 4 := by omega
    have h5 : i + 1 ≤ n.arcs.length := h1
    have c4 := arcs_at ha
    have hal := hV.al
    have w0 : IntKind.i64.wrap ((i : Int) + 1) = (i : Int) + 1 := i64_id (by omega) (by omega)
    have stop : ∀ (σ' : Slots) (m' : Mem), (φ < 0 ∨ a.c < φ) → Old m0 m' → σ' 4 = I 0 → σ' 5 = .bool false → Q .ret σ' m' := fun σ' m' hno ho' q4 q5 => hR _ _ ho' (by rw [hdrop, hdrop2]; rcases hno with h | h <;> simp [bndL, h]) q4 q5
    have ho2 : ∀ k q y, m.next ≤ q → Old m0 ((m.bump k).put q (some y)) := fun k q y hq => (ho.bump k).put (by omega)
    have gf := hgb kf
    have gt := hgb kt
    have hmul : (i : Int) * M ≤ 2500 * M := Int.mul_le_mul_of_nonneg_right (by omega) (by omega)
    have next : ∀ (σ' : Slots) (m' : Mem) (g' : Int → Int), 0 ≤ φ → φ ≤ a.c → Old m0 m' → m'.get nb = some ⟨rowI N g', true⟩ → (∀ x, g' x = g x + pt a.f x φ - pt a.t x φ) → σ' 26 = .slice (some ⟨c, 0, none⟩) n.arcs.length 4 → σ' 27 = I n.arcs.length → σ' 28 = I ((i : Int) + 1) → σ' 6 = .slice (some ⟨nb, 0, none⟩) N 1 → σ' 1 = .slice (some ⟨d, 0, none⟩) fl.length 1 → σ' 2 = ptr b → J σ' m' := by
      intro σ' m' g' p1 p2 ho' hg' hgg q26 q27 qi q6 q1 q2
      refine hJ _ _ (value_loop0 hV hN hMM hn hv hw hfl hnb r (i + 1) m' σ' g' (by omega) ho' hg' ?_ q26 q27 (by rw [qi]; simp) q6 q1 q2 (fun σ'' m'' g'' e1 e2 e3 e4 e5 e6 => hQ _ _ g'' e1 e2 ?_ ?_ e5 e6) (fun σ'' m'' e1 e2 e3 e4 => hR _ _ e1 ?_ e3 e4))
      · intro x
        have hx := hgb x
        rw [hgg x]
        have e : (((i + 1 : Nat) : Int)) * M = (i : Int) * M + M := by rw [Int.natCast_add, Int.add_mul]; simp
        rw [e]
        simp only [pt]
        split <;> split <;> omega
      · rw [hdrop, hdrop2]; simp only [bndL, e3, Bool.and_true, Bool.and_eq_true, Bool.not_eq_true', decide_eq_false_iff_not]; omega
      · intro x
        rw [e4, hgg, hdrop, hdrop2]; simp only [netAt]; omega
      · rw [hdrop, hdrop2]; simp only [bndL, e2, Bool.and_false]
    by_cases k1 : φ < 0
    · simp (disch := first | omega | (simp only [next_put, next_bump]; omega)) [ir17_l0, s26, s27, si, h5, s6, s1, s2, h1, h1', hfl, hgc, hgd, hgb', hg, hb, c4, arcC, head_td, hφ, hφ2, hkf, hkt, f3, t3, f4, t4, hrf, hrt, w0, k1, get_put_self, get_put_ne, get_bump, put_put]
      exact stop _ _ (by omega) (ho2 _ _ _ (by omega)) (by simp) (by simp)
    by_cases k2 : a.c < φ
    · simp (disch := first | omega | (simp only [next_put, next_bump]; omega)) [ir17_l0, s26, s27, si, h5, s6, s1, s2, h1, h1', hfl, hgc, hgd, hgb', hg, hb, c4, arcC, head_td, hφ, hφ2, hkf, hkt, f3, t3, f4, t4, hrf, hrt, w0, k1, k2, get_put_self, get_put_ne, get_bump, put_put]
      exact stop _ _ (by omega) (ho2 _ _ _ (by omega)) (by simp) (by simp)
    have w1 : IntKind.i64.wrap (g kf + φ) = g kf + φ := i64_id (by omega) (by omega)
    by_cases hft : kt = kf
    · subst hft
      have w2 : IntKind.i64.wrap (g kt) = g kt := i64_id (by omega) (by omega)
      simp (disch := first | omega | (simp only [next_put, next_bump]; omega)) [ir17_l0, s26, s27, si, h5, s6, s1, s2, h1, h1', hfl, hgc, hgd, hgb', hg, hb, c4, arcC, head_td, hφ, hφ2, hkf, hkt, f3, t3, f4, t4, hrf, hrt, w0, k1, k2, w1, w2, get_put_self, get_put_ne, get_bump, put_put]
      refine next _ _ (fun x => if x = (kt : Int) then g kt else if x = (kt : Int) then g kt + φ else g x) (by omega) (by omega) (Old.put (ho2 _ _ _ (by omega)) (by omega)) (by rw [get_put_self (by simp only [next_put, next_bump]; omega)]) (fun x => ?_) (by simp [s26]) (by simp [s27]) (by simp) (by simp [s6]) (by simp [s1]) (by simp [s2])
      simp only [pt, hkf, hkt]
      by_cases hx : x = (kt : Int)
      · subst hx; simp
      · have hx' : ¬ (kt : Int) = x := fun h => hx h.symm
        simp [hx, hx']
    · have hft' : ¬ (kt : Int) = kf := by omega
      have w2 : IntKind.i64.wrap (g kt - φ) = g kt - φ := i64_id (by omega) (by omega)
      simp (disch := first | omega | (simp only [next_put, next_bump]; omega)) [ir17_l0, s26, s27, si, h5, s6, s1, s2, h1, h1', hfl, hgc, hgd, hgb', hg, hb, c4, arcC, head_td, hφ, hφ2, hkf, hkt, f3, t3, f4, t4, hrf, hrt, w0, k1, k2, w1, w2, hft' , get_put_self, get_put_ne, get_bump, put_put]
      refine next _ _ (fun x => if x = (kt : Int) then g kt - φ else if x = (kf : Int) then g kf + φ else g x) (by omega) (by omega) (Old.put (ho2 _ _ _ (by omega)) (by omega)) (by rw [get_put_self (by simp only [next_put, next_bump]; omega)]) (fun x => ?_) (by simp [s26]) (by simp [s27]) (by simp) (by simp [s6]) (by simp [s1]) (by simp [s2])
      simp only [pt, hkf, hkt]
      by_cases hx : x = (kt : Int)
      · subst hx
        have : ¬ (kf : Int) = kt := fun h => hft' h.symm
        simp [this, hft']
      · have hx' : ¬ (kt : Int) = x := fun h => hx h.symm
        by_cases hy : x = (kf : Int)
        · subst hy; simp [hx, hx']
        · have hy' : ¬ (kf : Int) = x := fun h => hy h.symm
          simp [hx, hx', hy, hy']

set_option maxHeartbeats 4000000 in
set_option maxRecDepth 20000 in
theorem rvalue_loop0 {n : Net} (hV : n.Valid) {N : Nat} (hN : n.nodes = N) {M : Int} (hMM : M = 2147483647) {v w : Value} {fl : List Int} {b nb : Nat} {m0 : Mem} (hn : m0.get b = some ⟨netC n v, true⟩) (hv : Arcs m0 v n.arcs) (hw : Ints m0 w fl) (hfl : fl.length = n.arcs.length) (hnb : m0.next ≤ nb) {Q : IExit → Slots → Mem → Prop} : ∀ (r i : Nat) (m : Mem) (σ : Slots) (g : Int → Int), i + r = n.arcs.length → Old m0 m → m.get nb = some ⟨rowI N g, true⟩ → (∀ x, -((i : Int) * M) ≤ g x ∧ g x ≤ (i : Int) * M) →
    σ 7 = I i → σ 6 = .slice (some ⟨nb, 0, none⟩) N 1 → σ 1 = w → σ 2 = ptr b →
    (∀ σ' m' g', Old m0 m' → m'.get nb = some ⟨rowI N g', true⟩ → bndL (n.arcs.drop i) (fl.drop i) = true → (∀ x, g' x = g x + netAt (n.arcs.drop i) (fl.drop i) x) → σ' 6 = .slice (some ⟨nb, 0, none⟩) N 1 → σ' 2 = ptr b → Q (.exit 0) σ' m') →
    (∀ σ' m', Old m0 m' → bndL (n.arcs.drop i) (fl.drop i) = false → σ' 4 = I 0 → σ' 5 = .bool false → Q .ret σ' m') → WP Try.prog (.loop ir18_l0) σ m Q
  | 0, i, m, σ, g, hi, ho, hg, hgb, si, s6, s1, s2, hQ, hR => by
    refine wp_round fun J hJ => ?_
    have h1 : ¬ i < n.arcs.length := by omega
    obtain ⟨hlen, hsl⟩ := hw.len
    simp [ir18_l0, si, s1, s2, h1, hlen, hsl, hfl, -lenOfV, -isSl]
    exact hQ _ _ g ho hg (by rw [List.drop_of_length_le (by omega)]; rfl) (fun x => by rw [List.drop_of_length_le (by omega : n.arcs.length ≤ i)]; simp [netAt]) (by simp [s6]) (by simp [s2])
  | r + 1, i, m, σ, g, hi, ho, hg, hgb, si, s6, s1, s2, hQ, hR => by
    refine wp_round fun J hJ => ?_
    have h1 : i < n.arcs.length := by omega
    have h1' : i < fl.length := by omega
    obtain ⟨a, ha⟩ : ∃ a, n.arcs[i]? = some a := ⟨n.arcs[i]'h1, by simp⟩
    obtain ⟨φ, hφ⟩ : ∃ φ, fl[i]? = some φ := ⟨fl[i]'h1', by simp⟩
    have hφ2 : ∀ h, fl[i]'h = φ := fun h => by rw [List.getElem?_eq_getElem h] at hφ; simpa using hφ
    have hdrop : n.arcs.drop i = a :: n.arcs.drop (i + 1) := by
      rw [List.drop_eq_getElem_cons h1]; rw [List.getElem?_eq_getElem h1] at ha; cases ha; rfl
    have hdrop2 : fl.drop i = φ :: fl.drop (i + 1) := by
      rw [List.drop_eq_getElem_cons h1']; rw [hφ2]
    have hok := hV.arc a (List.mem_of_getElem? ha)
    obtain ⟨⟨f1, f2⟩, ⟨t1, t2⟩, c1, c2⟩ := hok
    obtain ⟨kf, hkf⟩ : ∃ k : Nat, a.f = k := ⟨a.f.toNat, by omega⟩
    obtain ⟨kt, hkt⟩ : ∃ k : Nat, a.t = k := ⟨a.t.toNat, by omega⟩
    have f3 : kf < N := by omega
    have t3 : kt < N := by omega
    have f4 : kf + 1 ≤ N := f3
    have t4 : kt + 1 ≤ N := t3
    have hrf : ∀ g, (rowI N g)[kf]? = some (I (g kf)) := fun g => rowI_get f3
    have hrt : ∀ g, (rowI N g)[kt]? = some (I (g kt)) := fun g => rowI_get t3
    obtain ⟨c, o, rfl, hc⟩ := hv.blk h1
    obtain ⟨d, o2, rfl, hd⟩ := hw.blk h1'
    have hgc := ho.some hc
    have hgd := ho.some hd
    have hgb' := ho.some hn
    have hlb := get_lt hgb'
    have hlc := get_lt hgc
    have hld := get_lt hgd
    have hlc0 := get_lt hc
    have hld0 := get_lt hd
    have hlb0 := get_lt hn
    have hln := get_lt hg
    have hn0 := ho.next
    have hb : i * 4 + 4 ≤ n.arcs.length * 4 := by omega
    have h5 : i + 1 ≤ n.arcs.length := h1
    have c4 := arcs_at ha
    have hal := hV.al
    have w0 : IntKind.i64.wrap ((i : Int) + 1) = (i : Int) + 1 := i64_id (by omega) (by omega)
    have stop : ∀ (σ' : Slots) (m' : Mem), (φ < 0 ∨ a.c < φ) → Old m0 m' → σ' 4 = I 0 → σ' 5 = .bool false → Q .ret σ' m' := fun σ' m' hno ho' q4 q5 => hR _ _ ho' (by rw [hdrop, hdrop2]; rcases hno with h | h <;> simp [bndL, h]) q4 q5
    have ho2 : ∀ k q y, m.next ≤ q → Old m0 ((m.bump k).put q (some y)) := fun k q y hq => (ho.bump k).put (by omega)
    have gf := hgb kf
    have gt := hgb kt
    have hmul : (i : Int) * M ≤ 2500 * M := Int.mul_le_mul_of_nonneg_right (by omega) (by omega)
    have next : ∀ (σ' : Slots) (m' : Mem) (g' : Int → Int), 0 ≤ φ → φ ≤ a.c → Old m0 m' → m'.get nb = some ⟨rowI N g', true⟩ → (∀ x, g' x = g x + pt a.f x φ - pt a.t x φ) → σ' 7 = I ((i : Int) + 1) → σ' 6 = .slice (some ⟨nb, 0, none⟩) N 1 → σ' 1 = .slice (some ⟨d, 0, none⟩) fl.length 1 → σ' 2 = ptr b → J σ' m' := by
      intro σ' m' g' p1 p2 ho' hg' hgg qi q6 q1 q2
      refine hJ _ _ (rvalue_loop0 hV hN hMM hn hv hw hfl hnb r (i + 1) m' σ' g' (by omega) ho' hg' ?_ (by rw [qi]; simp) q6 q1 q2 (fun σ'' m'' g'' e1 e2 e3 e4 e5 e6 => hQ _ _ g'' e1 e2 ?_ ?_ e5 e6) (fun σ'' m'' e1 e2 e3 e4 => hR _ _ e1 ?_ e3 e4))
      · intro x
        have hx := hgb x
        rw [hgg x]
        have e : (((i + 1 : Nat) : Int)) * M = (i : Int) * M + M := by rw [Int.natCast_add, Int.add_mul]; simp
        rw [e]
        simp only [pt]
        split <;> split <;> omega
      · rw [hdrop, hdrop2]; simp only [bndL, e3, Bool.and_true, Bool.and_eq_true, Bool.not_eq_true', decide_eq_false_iff_not]; omega
      · intro x
        rw [e4, hgg, hdrop, hdrop2]; simp only [netAt]; omega
      · rw [hdrop, hdrop2]; simp only [bndL, e2, Bool.and_false]
    by_cases k1 : φ < 0
    · simp (disch := first | omega | (simp only [next_put, next_bump]; omega)) [ir18_l0, si, h5, s6, s1, s2, h1, h1', hfl, hgc, hgd, hgb', hg, hb, c4, arcC, head_td, hφ, hφ2, hkf, hkt, f3, t3, f4, t4, hrf, hrt, w0, k1, get_put_self, get_put_ne, get_bump, put_put]
      exact stop _ _ (by omega) (ho2 _ _ _ (by omega)) (by simp) (by simp)
    by_cases k2 : a.c < φ
    · simp (disch := first | omega | (simp only [next_put, next_bump]; omega)) [ir18_l0, si, h5, s6, s1, s2, h1, h1', hfl, hgc, hgd, hgb', hg, hb, c4, arcC, head_td, hφ, hφ2, hkf, hkt, f3, t3, f4, t4, hrf, hrt, w0, k1, k2, get_put_self, get_put_ne, get_bump, put_put]
      exact stop _ _ (by omega) (ho2 _ _ _ (by omega)) (by simp) (by simp)
    have w1 : IntKind.i64.wrap (g kf + φ) = g kf + φ := i64_id (by omega) (by omega)
    by_cases hft : kt = kf
    · subst hft
      have w2 : IntKind.i64.wrap (g kt) = g kt := i64_id (by omega) (by omega)
      simp (disch := first | omega | (simp only [next_put, next_bump]; omega)) [ir18_l0, si, h5, s6, s1, s2, h1, h1', hfl, hgc, hgd, hgb', hg, hb, c4, arcC, head_td, hφ, hφ2, hkf, hkt, f3, t3, f4, t4, hrf, hrt, w0, k1, k2, w1, w2, get_put_self, get_put_ne, get_bump, put_put]
      refine next _ _ (fun x => if x = (kt : Int) then g kt else if x = (kt : Int) then g kt + φ else g x) (by omega) (by omega) (Old.put (ho2 _ _ _ (by omega)) (by omega)) (by rw [get_put_self (by simp only [next_put, next_bump]; omega)]) (fun x => ?_) (by simp) (by simp [s6]) (by simp [s1]) (by simp [s2])
      simp only [pt, hkf, hkt]
      by_cases hx : x = (kt : Int)
      · subst hx; simp
      · have hx' : ¬ (kt : Int) = x := fun h => hx h.symm
        simp [hx, hx']
    · have hft' : ¬ (kt : Int) = kf := by omega
      have w2 : IntKind.i64.wrap (g kt - φ) = g kt - φ := i64_id (by omega) (by omega)
      simp (disch := first | omega | (simp only [next_put, next_bump]; omega)) [ir18_l0, si, h5, s6, s1, s2, h1, h1', hfl, hgc, hgd, hgb', hg, hb, c4, arcC, head_td, hφ, hφ2, hkf, hkt, f3, t3, f4, t4, hrf, hrt, w0, k1, k2, w1, w2, hft' , get_put_self, get_put_ne, get_bump, put_put]
      refine next _ _ (fun x => if x = (kt : Int) then g kt - φ else if x = (kf : Int) then g kf + φ else g x) (by omega) (by omega) (Old.put (ho2 _ _ _ (by omega)) (by omega)) (by rw [get_put_self (by simp only [next_put, next_bump]; omega)]) (fun x => ?_) (by simp) (by simp [s6]) (by simp [s1]) (by simp [s2])
      simp only [pt, hkf, hkt]
      by_cases hx : x = (kt : Int)
      · subst hx
        have : ¬ (kf : Int) = kt := fun h => hft' h.symm
        simp [this, hft']
      · have hx' : ¬ (kt : Int) = x := fun h => hx h.symm
        by_cases hy : x = (kf : Int)
        · subst hy; simp [hx, hx']
        · have hy' : ¬ (kf : Int) = x := fun h => hy h.symm
          simp [hx, hx', hy, hy']
end Go.Proofs.Ytapnkfkpkcajjaa
namespace Go.Proofs.Ytapnkfkpkcajjaa
open Go Go.DI Go.Nets
set_option linter.unusedSimpArgs false
set_option linter.unusedVariables false

def okC (n : Net) (g : Int → Int) (x : Nat) : Bool := decide ((x : Int) = n.src) || decide ((x : Int) = n.snk) || decide (g x = 0)
theorem conB_of {n : Net} {g : Int → Int} {N : Nat} (h : ∀ k, 0 ≤ k → k < N → okC n g k = true) : conB n g (List.range N) = true := by
  simp only [conB, List.all_eq_true, List.mem_range]
  exact fun k hk => h k (Nat.zero_le _) hk
theorem conB_not {n : Net} {g : Int → Int} {N : Nat} (h : ∃ k, 0 ≤ k ∧ k < N ∧ okC n g k = false) : conB n g (List.range N) = false := by
  obtain ⟨k, _, hk, h⟩ := h
  cases hc : conB n g (List.range N) with
  | false => rfl
  | true =>
    simp only [conB, List.all_eq_true, List.mem_range] at hc
    have := hc k hk
    unfold okC at h
    rw [h] at this; cases this

set_option maxHeartbeats 4000000 in
theorem value_loop1 {n : Net} {N : Nat} (hN : n.nodes = N) (hNN : N < 100000) {v : Value} {b nb : Nat} {m : Mem} (hgb : m.get b = some ⟨netC n v, true⟩) {g : Int → Int} (hg : m.get nb = some ⟨rowI N g, true⟩) {Q : IExit → Slots → Mem → Prop} : ∀ (r i : Nat) (σ : Slots), i + r = N →
    σ 70 = .slice (some ⟨nb, 0, none⟩) N 1 → σ 71 = I N → σ 72 = I i → σ 6 = .slice (some ⟨nb, 0, none⟩) N 1 → σ 2 = ptr b →
    (∀ σ', (∀ k, i ≤ k → k < N → okC n g k = true) → σ' 6 = .slice (some ⟨nb, 0, none⟩) N 1 → σ' 2 = ptr b → Q (.exit 2) σ' m) →
    (∀ σ', (∃ k, i ≤ k ∧ k < N ∧ okC n g k = false) → σ' 4 = I 0 → σ' 5 = .bool false → Q .ret σ' m) → WP Try.prog (.loop ir17_l1) σ m Q
  | 0, i, σ, hi, s70, s71, si, s6, s2, hQ, hR => by
    refine wp_round fun J hJ => ?_
    have h1 : ¬ (i : Int) < n.nodes := by omega
    have h2 : ¬ i < N := by omega
    simp [ir17_l1, s70, s71, si, s2, h1, h2, hgb]
    exact hQ _ (fun k h1 h2 => by omega) (by simp [s6]) (by simp [s2])
  | r + 1, i, σ, hi, s70, s71, si, s6, s2, hQ, hR => by
    refine wp_round fun J hJ => ?_
    have h1 : (i : Int) < n.nodes := by omega
    have h2 : i < N := by omega
    have h3 : i + 1 ≤ N := h2
    have w0 : IntKind.i64.wrap ((i : Int) + 1) = (i : Int) + 1 := i64_id (by omega) (by omega)
    have hrg : (rowI N g)[i]? = some (I (g i)) := rowI_get h2
    have next : ∀ (σ' : Slots), okC n g i = true → σ' 70 = .slice (some ⟨nb, 0, none⟩) N 1 → σ' 71 = I N → σ' 72 = I ((i : Int) + 1) → σ' 6 = .slice (some ⟨nb, 0, none⟩) N 1 → σ' 2 = ptr b → J σ' m := by
      intro σ' hok q70 q71 qi q6 q2
      refine hJ _ _ (value_loop1 hN hNN hgb hg r (i + 1) σ' (by omega) q70 q71 (by rw [qi]; simp) q6 q2 (fun σ'' e1 e2 e3 => hQ _ (fun k k1 k2 => ?_) e2 e3) (fun σ'' e1 e2 e3 => hR _ ?_ e2 e3))
      · by_cases h : k = i
        · rw [h]; exact hok
        · exact e1 k (by omega) k2
      · obtain ⟨k, k1, k2, k3⟩ := e1
        exact ⟨k, by omega, k2, k3⟩
    by_cases c1 : (i : Int) = n.src
    · simp (disch := first | omega | (simp only [next_put, next_bump]; omega)) [ir17_l1, s70, s71, hgb, hg, h1, h3, w0, head_td, hrg, h2, si, s6, s2, eq_true c1, get_put_self, get_put_ne, get_bump, put_put]
      exact next _ (by simp [okC, *]) (by simp [s70]) (by simp [s71]) (by simp) (by simp [s6]) (by simp [s2])
    by_cases c2 : (i : Int) = n.snk
    · simp (disch := first | omega | (simp only [next_put, next_bump]; omega)) [ir17_l1, s70, s71, hgb, hg, h1, h3, w0, head_td, hrg, h2, si, s6, s2, c1, eq_true c2, get_put_self, get_put_ne, get_bump, put_put]
      exact next _ (by simp [okC, *]) (by simp [s70]) (by simp [s71]) (by simp) (by simp [s6]) (by simp [s2])
    by_cases c3 : g i = 0
    · simp (disch := first | omega | (simp only [next_put, next_bump]; omega)) [ir17_l1, s70, s71, hgb, hg, h1, h3, w0, head_td, hrg, h2, si, s6, s2, c1, c2, c3, get_put_self, get_put_ne, get_bump, put_put]
      exact next _ (by simp [okC, *]) (by simp [s70]) (by simp [s71]) (by simp) (by simp [s6]) (by simp [s2])
    · simp (disch := first | omega | (simp only [next_put, next_bump]; omega)) [ir17_l1, s70, s71, hgb, hg, h1, h3, w0, head_td, hrg, h2, si, s6, s2, c1, c2, c3, get_put_self, get_put_ne, get_bump, put_put]
      exact hR _ ⟨i, Nat.le_refl _, h2, by simp [okC, *]⟩ (by simp) (by simp)

set_option maxHeartbeats 4000000 in
theorem rvalue_loop1 {n : Net} {N : Nat} (hN : n.nodes = N) (hNN : N < 100000) {v : Value} {b nb : Nat} {m : Mem} (hgb : m.get b = some ⟨netC n v, true⟩) {g : Int → Int} (hg : m.get nb = some ⟨rowI N g, true⟩) {Q : IExit → Slots → Mem → Prop} : ∀ (r i : Nat) (σ : Slots), i + r = N →
    σ 9 = I i → σ 6 = .slice (some ⟨nb, 0, none⟩) N 1 → σ 2 = ptr b →
    (∀ σ', (∀ k, i ≤ k → k < N → okC n g k = true) → σ' 6 = .slice (some ⟨nb, 0, none⟩) N 1 → σ' 2 = ptr b → Q (.exit 2) σ' m) →
    (∀ σ', (∃ k, i ≤ k ∧ k < N ∧ okC n g k = false) → σ' 4 = I 0 → σ' 5 = .bool false → Q .ret σ' m) → WP Try.prog (.loop ir18_l1) σ m Q
  | 0, i, σ, hi, si, s6, s2, hQ, hR => by
    refine wp_round fun J hJ => ?_
    have h1 : ¬ (i : Int) < n.nodes := by omega
    have h2 : ¬ i < N := by omega
    simp [ir18_l1, si, s2, h1, h2, hgb]
    exact hQ _ (fun k h1 h2 => by omega) (by simp [s6]) (by simp [s2])
  | r + 1, i, σ, hi, si, s6, s2, hQ, hR => by
    refine wp_round fun J hJ => ?_
    have h1 : (i : Int) < n.nodes := by omega
    have h2 : i < N := by omega
    have h3 : i + 1 ≤ N := h2
    have w0 : IntKind.i64.wrap ((i : Int) + 1) = (i : Int) + 1 := i64_id (by omega) (by omega)
    have hrg : (rowI N g)[i]? = some (I (g i)) := rowI_get h2
    have next : ∀ (σ' : Slots), okC n g i = true → σ' 9 = I ((i : Int) + 1) → σ' 6 = .slice (some ⟨nb, 0, none⟩) N 1 → σ' 2 = ptr b → J σ' m := by
      intro σ' hok qi q6 q2
      refine hJ _ _ (rvalue_loop1 hN hNN hgb hg r (i + 1) σ' (by omega) (by rw [qi]; simp) q6 q2 (fun σ'' e1 e2 e3 => hQ _ (fun k k1 k2 => ?_) e2 e3) (fun σ'' e1 e2 e3 => hR _ ?_ e2 e3))
      · by_cases h : k = i
        · rw [h]; exact hok
        · exact e1 k (by omega) k2
      · obtain ⟨k, k1, k2, k3⟩ := e1
        exact ⟨k, by omega, k2, k3⟩
    by_cases c1 : (i : Int) = n.src
    · simp (disch := first | omega | (simp only [next_put, next_bump]; omega)) [ir18_l1, hgb, hg, h1, h3, w0, head_td, hrg, h2, si, s6, s2, eq_true c1, get_put_self, get_put_ne, get_bump, put_put]
      exact next _ (by simp [okC, *]) (by simp) (by simp [s6]) (by simp [s2])
    by_cases c2 : (i : Int) = n.snk
    · simp (disch := first | omega | (simp only [next_put, next_bump]; omega)) [ir18_l1, hgb, hg, h1, h3, w0, head_td, hrg, h2, si, s6, s2, c1, eq_true c2, get_put_self, get_put_ne, get_bump, put_put]
      exact next _ (by simp [okC, *]) (by simp) (by simp [s6]) (by simp [s2])
    by_cases c3 : g i = 0
    · simp (disch := first | omega | (simp only [next_put, next_bump]; omega)) [ir18_l1, hgb, hg, h1, h3, w0, head_td, hrg, h2, si, s6, s2, c1, c2, c3, get_put_self, get_put_ne, get_bump, put_put]
      exact next _ (by simp [okC, *]) (by simp) (by simp [s6]) (by simp [s2])
    · simp (disch := first | omega | (simp only [next_put, next_bump]; omega)) [ir18_l1, hgb, hg, h1, h3, w0, head_td, hrg, h2, si, s6, s2, c1, c2, c3, get_put_self, get_put_ne, get_bump, put_put]
      exact hR _ ⟨i, Nat.le_refl _, h2, by simp [okC, *]⟩ (by simp) (by simp)

set_option maxHeartbeats 4000000 in
theorem value_wp {n : Net} {v w : Value} {fl : List Int} {m : Mem} (hv : Arcs m v n.arcs) (hw : Ints m w fl) : WPCall Try.prog 17 [netV n v, w] m fun r m' => r = .tuple #[I (valueR n fl).1, .bool (valueR n fl).2] ∧ Old m m' := by
  rw [call17 (by simp)]
  obtain ⟨hlen, hsl⟩ := hv.len
  obtain ⟨hlen2, hsl2⟩ := hw.len
  have hM : Old m ((m.bump 3).put m.next (some ⟨netC n v, true⟩)) := ((Old.refl m).bump 3).put (Nat.le_refl _)
  simp (disch := first | omega | (simp only [next_put, next_bump]; omega)) [ir17_b, hlen, hsl, hlen2, hsl2, get_put_self, get_put_ne, get_bump, put_put, -lenOfV, -isSl]
  refine (valid_wp (hv.mono hM)).mono fun r m2 hp => ?_
  obtain ⟨rfl, ho⟩ := hp
  have ho2 := hM.trans ho
  have hg : m2.get m.next = some ⟨netC n v, true⟩ := ho.some (get_put_self (by simp))
  have hln := get_lt hg
  have hn2 := ho2.next
  cases hV : validB n
  · simp (disch := first | omega | (simp only [next_put, next_bump]; omega)) [hlen, hsl, hlen2, hsl2, hg, hV, get_put_self, get_put_ne, get_bump, put_put, -lenOfV, -isSl]
    exact ⟨by simp [valueR, hV], ho2⟩
  have hv2 := hv.mono ho2
  have hw2 := hw.mono ho2
  by_cases hl : fl.length = n.arcs.length
  · have hVV := validB_iff.1 hV
    obtain ⟨N, hN⟩ : ∃ N : Nat, n.nodes = N := ⟨n.nodes.toNat, by have := hVV.n2; omega⟩
    obtain ⟨ks, hks⟩ : ∃ k : Nat, n.src = k := ⟨n.src.toNat, by have := hVV.src.1; omega⟩
    have hks' : (ks : Int) = n.src := hks.symm
    have hN' : n.nodes.toNat = N := by omega
    have hks2 : n.src.toNat = ks := by omega
    have s0 : 0 ≤ n.src := hVV.src.1
    have s1 : n.src < (N : Int) := by have := hVV.src.2; omega
    have s3 : ks < N := by omega
    have z0 : 0 ≤ n.nodes := by omega
    have h7 := hVV.n7
    have z1 : n.nodes * 8 ≤ 140737488355328 := by omega
    have z2 : n.nodes ≤ 9223372036854775807 := by omega
    simp (disch := first | omega | (simp only [next_put, next_bump]; omega)) [hlen, hsl, hlen2, hsl2, hg, hV, hl, hN', z0, z1, z2, get_put_self, get_put_ne, get_bump, put_put, -lenOfV, -isSl]
    have hid : m2.next ≤ m2.next + 2 := Nat.le_add_right _ _
    have ho4 : Old m2 ((m2.bump 4).put (m2.next + 2) (some ⟨List.replicate N (I 0), true⟩)) := ((Old.refl m2).bump 4).put hid
    refine value_loop0 hVV hN rfl (m0 := m2) (nb := m2.next + 2) hg hv2 hw2 hl hid n.arcs.length 0 _ _ (fun _ => 0) (by omega) ho4 (by rw [get_put_self (by simp only [next_bump]; omega), rowI_zero]) (by simp) (by simp) (by simp [hlen]) (by simp) (by simp) (by simp) (by simp) (fun σ' m' g' e1 e2 e3 e4 e5 e6 => ?_) (fun σ' m' e1 e2 e3 e4 => ?_)
    · have hg2 := e1.some hg
      have hgg : g' = netAt n.arcs fl := by funext x; rw [e4]; simp
      subst hgg
      rw [List.drop_zero, List.drop_zero] at e3
      simp (disch := first | omega | (simp only [next_put, next_bump]; omega)) [e5, e6, hg2, get_put_self, get_put_ne, get_bump, put_put]
      refine value_loop1 hN (by omega) hg2 e2 N 0 _ (by omega) (by simp [e5]) (by simp) (by simp) (by simp [e5]) (by simp [e6]) (fun σ'' f1 f2 f3 => ?_) (fun σ'' f1 f2 f3 => ?_)
      · have hc := conB_of f1
        have hrg : (rowI N (netAt n.arcs fl))[ks]? = some (I (netAt n.arcs fl n.src)) := by rw [rowI_get s3, hks']
        simp (disch := first | omega | (simp only [next_put, next_bump]; omega)) [f2, f3, hg2, e2, s0, s1, hks2, hrg, head_td, s3, get_put_self, get_put_ne, get_bump, put_put]
        exact ⟨s3, by simp [valueR, hV, hl, e3, hN', hc, value], ho2.trans e1⟩
      · have hc := conB_not f1
        simp (disch := first | omega | (simp only [next_put, next_bump]; omega)) [f2, f3, get_put_self, get_put_ne, get_bump, put_put]
        exact ⟨by simp [valueR, hV, hl, e3, hN', hc], ho2.trans e1⟩
    · rw [List.drop_zero, List.drop_zero] at e2
      simp (disch := first | omega | (simp only [next_put, next_bump]; omega)) [e3, e4, get_put_self, get_put_ne, get_bump, put_put]
      exact ⟨by simp [valueR, hV, hl, e2], ho2.trans e1⟩
  · have hl' : ¬ (fl.length : Int) = n.arcs.length := by omega
    simp (disch := first | omega | (simp only [next_put, next_bump]; omega)) [hlen, hsl, hlen2, hsl2, hg, hV, hl, hl', get_put_self, get_put_ne, get_bump, put_put, -lenOfV, -isSl]
    exact ⟨by simp [valueR, hV, hl], ho2⟩

set_option maxHeartbeats 4000000 in
theorem rvalue_wp {n : Net} {v w : Value} {fl : List Int} {m : Mem} (hv : Arcs m v n.arcs) (hw : Ints m w fl) : WPCall Try.prog 18 [netV n v, w] m fun r m' => r = .tuple #[I (valueR n fl).1, .bool (valueR n fl).2] ∧ Old m m' := by
  rw [call18 (by simp)]
  obtain ⟨hlen, hsl⟩ := hv.len
  obtain ⟨hlen2, hsl2⟩ := hw.len
  have hM : Old m ((m.bump 3).put m.next (some ⟨netC n v, true⟩)) := ((Old.refl m).bump 3).put (Nat.le_refl _)
  simp (disch := first | omega | (simp only [next_put, next_bump]; omega)) [ir18_b, hlen, hsl, hlen2, hsl2, get_put_self, get_put_ne, get_bump, put_put, -lenOfV, -isSl]
  refine (rvalid_wp (hv.mono hM)).mono fun r m2 hp => ?_
  obtain ⟨rfl, ho⟩ := hp
  have ho2 := hM.trans ho
  have hg : m2.get m.next = some ⟨netC n v, true⟩ := ho.some (get_put_self (by simp))
  have hln := get_lt hg
  have hn2 := ho2.next
  cases hV : validB n
  · simp (disch := first | omega | (simp only [next_put, next_bump]; omega)) [hlen, hsl, hlen2, hsl2, hg, hV, get_put_self, get_put_ne, get_bump, put_put, -lenOfV, -isSl]
    exact ⟨by simp [valueR, hV], ho2⟩
  have hv2 := hv.mono ho2
  have hw2 := hw.mono ho2
  by_cases hl : fl.length = n.arcs.length
  · have hVV := validB_iff.1 hV
    obtain ⟨N, hN⟩ : ∃ N : Nat, n.nodes = N := ⟨n.nodes.toNat, by have := hVV.n2; omega⟩
    obtain ⟨ks, hks⟩ : ∃ k : Nat, n.src = k := ⟨n.src.toNat, by have := hVV.src.1; omega⟩
    have hks' : (ks : Int) = n.src := hks.symm
    have hN' : n.nodes.toNat = N := by omega
    have hks2 : n.src.toNat = ks := by omega
    have s0 : 0 ≤ n.src := hVV.src.1
    have s1 : n.src < (N : Int) := by have := hVV.src.2; omega
    have s3 : ks < N := by omega
    have z0 : 0 ≤ n.nodes := by omega
    have h7 := hVV.n7
    have z1 : n.nodes * 8 ≤ 140737488355328 := by omega
    have z2 : n.nodes ≤ 9223372036854775807 := by omega
    simp (disch := first | omega | (simp only [next_put, next_bump]; omega)) [hlen, hsl, hlen2, hsl2, hg, hV, hl, hN', z0, z1, z2, get_put_self, get_put_ne, get_bump, put_put, -lenOfV, -isSl]
    have hid : m2.next ≤ m2.next + 2 := Nat.le_add_right _ _
    have ho4 : Old m2 ((m2.bump 4).put (m2.next + 2) (some ⟨List.replicate N (I 0), true⟩)) := ((Old.refl m2).bump 4).put hid
    refine rvalue_loop0 hVV hN rfl (m0 := m2) (nb := m2.next + 2) hg hv2 hw2 hl hid n.arcs.length 0 _ _ (fun _ => 0) (by omega) ho4 (by rw [get_put_self (by simp only [next_bump]; omega), rowI_zero]) (by simp) (by simp) (by simp) (by simp) (by simp) (fun σ' m' g' e1 e2 e3 e4 e5 e6 => ?_) (fun σ' m' e1 e2 e3 e4 => ?_)
    · have hg2 := e1.some hg
      have hgg : g' = netAt n.arcs fl := by funext x; rw [e4]; simp
      subst hgg
      rw [List.drop_zero, List.drop_zero] at e3
      simp (disch := first | omega | (simp only [next_put, next_bump]; omega)) [e5, e6, hg2, get_put_self, get_put_ne, get_bump, put_put]
      refine rvalue_loop1 hN (by omega) hg2 e2 N 0 _ (by omega) (by simp) (by simp [e5]) (by simp [e6]) (fun σ'' f1 f2 f3 => ?_) (fun σ'' f1 f2 f3 => ?_)
      · have hc := conB_of f1
        have hrg : (rowI N (netAt n.arcs fl))[ks]? = some (I (netAt n.arcs fl n.src)) := by rw [rowI_get s3, hks']
        simp (disch := first | omega | (simp only [next_put, next_bump]; omega)) [f2, f3, hg2, e2, s0, s1, hks2, hrg, head_td, s3, get_put_self, get_put_ne, get_bump, put_put]
        exact ⟨s3, by simp [valueR, hV, hl, e3, hN', hc, value], ho2.trans e1⟩
      · have hc := conB_not f1
        simp (disch := first | omega | (simp only [next_put, next_bump]; omega)) [f2, f3, get_put_self, get_put_ne, get_bump, put_put]
        exact ⟨by simp [valueR, hV, hl, e3, hN', hc], ho2.trans e1⟩
    · rw [List.drop_zero, List.drop_zero] at e2
      simp (disch := first | omega | (simp only [next_put, next_bump]; omega)) [e3, e4, get_put_self, get_put_ne, get_bump, put_put]
      exact ⟨by simp [valueR, hV, hl, e2], ho2.trans e1⟩
  · have hl' : ¬ (fl.length : Int) = n.arcs.length := by omega
    simp (disch := first | omega | (simp only [next_put, next_bump]; omega)) [hlen, hsl, hlen2, hsl2, hg, hV, hl, hl', get_put_self, get_put_ne, get_bump, put_put, -lenOfV, -isSl]
    exact ⟨by simp [valueR, hV, hl], ho2⟩
end Go.Proofs.Ytapnkfkpkcajjaa
namespace Go.Proofs.Ytapnkfkpkcajjaa
open Go Go.DI Go.Nets
set_option linter.unusedSimpArgs false
set_option linter.unusedVariables false

def cutF (cut : List Bool) (x : Int) : Bool := cut.getD x.toNat false
def capR (n : Net) (cut : List Bool) : Int × Bool :=
  if validB n && decide ((cut.length : Int) = n.nodes) && cutF cut n.src && !cutF cut n.snk then (capOf n.arcs (cutF cut), true) else (0, false)
def checkR (n : Net) (fl : List Int) (cut : List Bool) : Bool := (valueR n fl).2 && (capR n cut).2 && decide ((valueR n fl).1 = (capR n cut).1)
theorem cutF_get {cut : List Bool} {x : Int} (h : x.toNat < cut.length) : cut[x.toNat]? = some (cutF cut x) := by
  unfold cutF; rw [List.getD_eq_getElem?_getD, List.getElem?_eq_getElem h]; rfl

set_option maxHeartbeats 4000000 in
theorem cap_loop {n : Net} (hV : n.Valid) {M : Int} (hMM : M = 2147483647) {v w : Value} {cut : List Bool} {b : Nat} {m0 : Mem} (hn : m0.get b = some ⟨netC n v, true⟩) (hv : Arcs m0 v n.arcs) (hw : Bools m0 w cut) (hcl : (cut.length : Int) = n.nodes) {Q : IExit → Slots → Mem → Prop} : ∀ (r i : Nat) (m : Mem) (σ : Slots) (s : Int), i + r = n.arcs.length → Old m0 m → 0 ≤ s ∧ s ≤ (i : Int) * M →
    σ 35 = v → σ 36 = I n.arcs.length → σ 37 = I i → σ 6 = I s → σ 1 = w → σ 2 = ptr b →
    (∀ σ' m', Old m0 m' → σ' 6 = I (s + capOf (n.arcs.drop i) (cutF cut)) → Q (.exit 0) σ' m') → WP Try.prog (.loop ir19_l0) σ m Q
  | 0, i, m, σ, s, hi, ho, hs, s35, s36, si, s6, s1, s2, hQ => by
    refine wp_round fun J hJ => ?_
    have h1 : ¬ i < n.arcs.length := by omega
    have hgb' := ho.some hn
    obtain ⟨hlen, hsl⟩ := hv.len
    simp [ir19_l0, s35, s36, si, s1, s2, h1, hlen, hsl, hgb', -lenOfV, -isSl]
    exact hQ _ _ ho (by rw [List.drop_of_length_le (by omega)]; simp [capOf, s6])
  | r + 1, i, m, σ, s, hi, ho, hs, s35, s36, si, s6, s1, s2, hQ => by
    refine wp_round fun J hJ => ?_
    have h1 : i < n.arcs.length := by omega
    obtain ⟨a, ha⟩ : ∃ a, n.arcs[i]? = some a := ⟨n.arcs[i]'h1, by simp⟩
    have hdrop : n.arcs.drop i = a :: n.arcs.drop (i + 1) := by
      rw [List.drop_eq_getElem_cons h1]; rw [List.getElem?_eq_getElem h1] at ha; cases ha; rfl
    have hok := hV.arc a (List.mem_of_getElem? ha)
    obtain ⟨⟨f1, f2⟩, ⟨t1, t2⟩, c1, c2⟩ := hok
    rw [← hcl] at f2 t2
    have f3 : a.f.toNat < cut.length := by omega
    have t3 : a.t.toNat < cut.length := by omega
    have hf3 := cutF_get f3
    have ht3 := cutF_get t3
    have hf4 : ∀ h, cut[a.f.toNat]'h = cutF cut a.f := fun h => by rw [List.getElem?_eq_getElem h] at hf3; simpa using hf3
    have ht4 : ∀ h, cut[a.t.toNat]'h = cutF cut a.t := fun h => by rw [List.getElem?_eq_getElem h] at ht3; simpa using ht3
    obtain ⟨c, o, rfl, hc⟩ := hv.blk h1
    obtain ⟨d, o2, rfl, hd⟩ := hw.blk f3
    have hgc := ho.some hc
    have hgd := ho.some hd
    have hgb' := ho.some hn
    have hlb := get_lt hgb'
    have hlc := get_lt hgc
    have hld := get_lt hgd
    have hn0 := ho.next
    have hb : i * 4 + 4 ≤ n.arcs.length * 4 := by omega
    have hb1 : i * 4 + 1 ≤ n.arcs.length * 4 := by omega
    have hb2 : i * 4 + 2 ≤ n.arcs.length * 4 := by omega
    have hb3 : i * 4 + 3 ≤ n.arcs.length * 4 := by omega
    have f5 : a.f.toNat + 1 ≤ cut.length := f3
    have t5 : a.t.toNat + 1 ≤ cut.length := t3
    have f6 : a.f < n.nodes := by omega
    have t6 : a.t < n.nodes := by omega
    have c4 := arcs_at ha
    have q0 : ∀ h : i * 4 < (arcsC n.arcs).length, (arcsC n.arcs)[i * 4]'h = I a.f := fun h => by
      have := arcs_get ha (j := 0) (by omega)
      rw [Nat.add_zero, List.getElem?_eq_getElem h] at this; simpa [arcC] using this
    have q0b := arcs_get ha (j := 0) (by omega)
    rw [Nat.add_zero] at q0b
    have q1 := arcs_get ha (j := 1) (by omega)
    have q2 := arcs_get ha (j := 2) (by omega)
    simp only [arcC] at q0b
    simp [arcC] at q1 q2
    have q0c : (arcsC n.arcs)[i * 4]? = some (I a.f) := q0b
    have hal := hV.al
    have hmul : (i : Int) * M ≤ 2500 * M := Int.mul_le_mul_of_nonneg_right (by omega) (by omega)
    have w0 : IntKind.i64.wrap ((i : Int) + 1) = (i : Int) + 1 := i64_id (by omega) (by omega)
    have w1 : IntKind.i64.wrap (s + a.c) = s + a.c := i64_id (by omega) (by omega)
    have next : ∀ (σ' : Slots) (m' : Mem) (s' : Int), s' = s + (if cutF cut a.f = true ∧ cutF cut a.t = false then a.c else 0) → Old m0 m' → σ' 35 = .slice (some ⟨c, 0, none⟩) n.arcs.length 4 → σ' 36 = I n.arcs.length → σ' 37 = I ((i : Int) + 1) → σ' 6 = I s' → σ' 1 = .slice (some ⟨d, 0, none⟩) cut.length 1 → σ' 2 = ptr b → J σ' m' := by
      intro σ' m' s' hs' ho' q35 q36 qi q6 q1 q2
      have e : (((i + 1 : Nat) : Int)) * M = (i : Int) * M + M := by rw [Int.natCast_add, Int.add_mul]; simp
      refine hJ _ _ (cap_loop hV hMM hn hv hw hcl r (i + 1) m' σ' s' (by omega) ho' ?_ q35 q36 (by rw [qi]; simp) q6 q1 q2 (fun σ'' m'' e1 e2 => hQ _ _ e1 ?_))
      · rw [e]; split at hs' <;> omega
      · rw [hdrop, e2, hs']; simp only [capOf]; congr 1; omega
    cases k1 : cutF cut a.f
    · simp (disch := first | omega | (simp only [next_put, next_bump]; omega)) [ir19_l0, s35, s36, si, s6, s1, s2, h1, hgc, hgd, hgb', hb, hb1, hb2, hb3, c4, arcC, q0, q0c, q1, q2, head_td, f1, f2, t1, t2, hf3, ht3, f5, t5, f6, t6, hf4, ht4, w0, k1, get_put_self, get_put_ne, get_bump, put_put]
      exact next _ _ s (by simp [k1]) ((ho.bump 4).put (by omega)) (by simp [s35]) (by simp [s36]) (by simp) (by simp [s6]) (by simp [s1]) (by simp [s2])
    cases k2 : cutF cut a.t
    · simp (disch := first | omega | (simp only [next_put, next_bump]; omega)) [ir19_l0, s35, s36, si, s6, s1, s2, h1, hgc, hgd, hgb', hb, hb1, hb2, hb3, c4, arcC, q0, q0c, q1, q2, head_td, f1, f2, t1, t2, hf3, ht3, f5, t5, f6, t6, hf4, ht4, w0, k1, k2, w1, get_put_self, get_put_ne, get_bump, put_put]
      exact next _ _ (s + a.c) (by simp [k1, k2]) ((ho.bump 4).put (by omega)) (by simp [s35]) (by simp [s36]) (by simp) (by simp [s6]) (by simp [s1]) (by simp [s2])
    · simp (disch := first | omega | (simp only [next_put, next_bump]; omega)) [ir19_l0, s35, s36, si, s6, s1, s2, h1, hgc, hgd, hgb', hb, hb1, hb2, hb3, c4, arcC, q0, q0c, q1, q2, head_td, f1, f2, t1, t2, hf3, ht3, f5, t5, f6, t6, hf4, ht4, w0, k1, k2, get_put_self, get_put_ne, get_bump, put_put]
      exact next _ _ s (by simp [k1, k2]) ((ho.bump 4).put (by omega)) (by simp [s35]) (by simp [s36]) (by simp) (by simp [s6]) (by simp [s1]) (by simp [s2])

set_option maxHeartbeats 4000000 in
theorem rcap_loop {n : Net} (hV : n.Valid) {M : Int} (hMM : M = 2147483647) {v w : Value} {cut : List Bool} {b : Nat} {m0 : Mem} (hn : m0.get b = some ⟨netC n v, true⟩) (hv : Arcs m0 v n.arcs) (hw : Bools m0 w cut) (hcl : (cut.length : Int) = n.nodes) {Q : IExit → Slots → Mem → Prop} : ∀ (r i : Nat) (m : Mem) (σ : Slots) (s : Int), i + r = n.arcs.length → Old m0 m → 0 ≤ s ∧ s ≤ (i : Int) * M →
    σ 7 = I i → σ 6 = I s → σ 1 = w → σ 2 = ptr b →
    (∀ σ' m', Old m0 m' → σ' 6 = I (s + capOf (n.arcs.drop i) (cutF cut)) → Q (.exit 0) σ' m') → WP Try.prog (.loop ir20_l0) σ m Q
  | 0, i, m, σ, s, hi, ho, hs, si, s6, s1, s2, hQ => by
    refine wp_round fun J hJ => ?_
    have h1 : ¬ i < n.arcs.length := by omega
    have hgb' := ho.some hn
    obtain ⟨hlen, hsl⟩ := hv.len
    simp [ir20_l0, si, s1, s2, h1, hlen, hsl, hgb', -lenOfV, -isSl]
    exact hQ _ _ ho (by rw [List.drop_of_length_le (by omega)]; simp [capOf, s6])
  | r + 1, i, m, σ, s, hi, ho, hs, si, s6, s1, s2, hQ => by
    refine wp_round fun J hJ => ?_
    have h1 : i < n.arcs.length := by omega
    obtain ⟨a, ha⟩ : ∃ a, n.arcs[i]? = some a := ⟨n.arcs[i]'h1, by simp⟩
    have hdrop : n.arcs.drop i = a :: n.arcs.drop (i + 1) := by
      rw [List.drop_eq_getElem_cons h1]; rw [List.getElem?_eq_getElem h1] at ha; cases ha; rfl
    have hok := hV.arc a (List.mem_of_getElem? ha)
    obtain ⟨⟨f1, f2⟩, ⟨t1, t2⟩, c1, c2⟩ := hok
    rw [← hcl] at f2 t2
    have f3 : a.f.toNat < cut.length := by omega
    have t3 : a.t.toNat < cut.length := by omega
    have hf3 := cutF_get f3
    have ht3 := cutF_get t3
    have hf4 : ∀ h, cut[a.f.toNat]'h = cutF cut a.f := fun h => by rw [List.getElem?_eq_getElem h] at hf3; simpa using hf3
    have ht4 : ∀ h, cut[a.t.toNat]'h = cutF cut a.t := fun h => by rw [List.getElem?_eq_getElem h] at ht3; simpa using ht3
    obtain ⟨c, o, rfl, hc⟩ := hv.blk h1
    obtain ⟨d, o2, rfl, hd⟩ := hw.blk f3
    have hgc := ho.some hc
    have hgd := ho.some hd
    have hgb' := ho.some hn
    have hlb := get_lt hgb'
    have hlc := get_lt hgc
    have hld := get_lt hgd
    have hn0 := ho.next
    have hb : i * 4 + 4 ≤ n.arcs.length * 4 := by omega
    have hb1 : i * 4 + 1 ≤ n.arcs.length * 4 := by omega
    have hb2 : i * 4 + 2 ≤ n.arcs.length * 4 := by omega
    have hb3 : i * 4 + 3 ≤ n.arcs.length * 4 := by omega
    have f5 : a.f.toNat + 1 ≤ cut.length := f3
    have t5 : a.t.toNat + 1 ≤ cut.length := t3
    have f6 : a.f < n.nodes := by omega
    have t6 : a.t < n.nodes := by omega
    have c4 := arcs_at ha
    have q0 : ∀ h : i * 4 < (arcsC n.arcs).length, (arcsC n.arcs)[i * 4]'h = I a.f := fun h => by
      have := arcs_get ha (j := 0) (by omega)
      rw [Nat.add_zero, List.getElem?_eq_getElem h] at this; simpa [arcC] using this
    have q0b := arcs_get ha (j := 0) (by omega)
    rw [Nat.add_zero] at q0b
    have q1 := arcs_get ha (j := 1) (by omega)
    have q2 := arcs_get ha (j := 2) (by omega)
    simp only [arcC] at q0b
    simp [arcC] at q1 q2
    have q0c : (arcsC n.arcs)[i * 4]? = some (I a.f) := q0b
    have hal := hV.al
    have hmul : (i : Int) * M ≤ 2500 * M := Int.mul_le_mul_of_nonneg_right (by omega) (by omega)
    have w0 : IntKind.i64.wrap ((i : Int) + 1) = (i : Int) + 1 := i64_id (by omega) (by omega)
    have w1 : IntKind.i64.wrap (s + a.c) = s + a.c := i64_id (by omega) (by omega)
    have next : ∀ (σ' : Slots) (m' : Mem) (s' : Int), s' = s + (if cutF cut a.f = true ∧ cutF cut a.t = false then a.c else 0) → Old m0 m' → σ' 7 = I ((i : Int) + 1) → σ' 6 = I s' → σ' 1 = .slice (some ⟨d, 0, none⟩) cut.length 1 → σ' 2 = ptr b → J σ' m' := by
      intro σ' m' s' hs' ho' qi q6 q1 q2
      have e : (((i + 1 : Nat) : Int)) * M = (i : Int) * M + M := by rw [Int.natCast_add, Int.add_mul]; simp
      refine hJ _ _ (rcap_loop hV hMM hn hv hw hcl r (i + 1) m' σ' s' (by omega) ho' ?_ (by rw [qi]; simp) q6 q1 q2 (fun σ'' m'' e1 e2 => hQ _ _ e1 ?_))
      · rw [e]; split at hs' <;> omega
      · rw [hdrop, e2, hs']; simp only [capOf]; congr 1; omega
    cases k1 : cutF cut a.f
    · simp (disch := first | omega | (simp only [next_put, next_bump]; omega)) [ir20_l0, si, s6, s1, s2, h1, hgc, hgd, hgb', hb, hb1, hb2, hb3, c4, arcC, q0, q0c, q1, q2, head_td, f1, f2, t1, t2, hf3, ht3, f5, t5, f6, t6, hf4, ht4, w0, k1, get_put_self, get_put_ne, get_bump, put_put]
      exact next _ _ s (by simp [k1]) ho (by simp) (by simp [s6]) (by simp [s1]) (by simp [s2])
    cases k2 : cutF cut a.t
    · simp (disch := first | omega | (simp only [next_put, next_bump]; omega)) [ir20_l0, si, s6, s1, s2, h1, hgc, hgd, hgb', hb, hb1, hb2, hb3, c4, arcC, q0, q0c, q1, q2, head_td, f1, f2, t1, t2, hf3, ht3, f5, t5, f6, t6, hf4, ht4, w0, k1, k2, w1, get_put_self, get_put_ne, get_bump, put_put]
      exact next _ _ (s + a.c) (by simp [k1, k2]) ho (by simp) (by simp [s6]) (by simp [s1]) (by simp [s2])
    · simp (disch := first | omega | (simp only [next_put, next_bump]; omega)) [ir20_l0, si, s6, s1, s2, h1, hgc, hgd, hgb', hb, hb1, hb2, hb3, c4, arcC, q0, q0c, q1, q2, head_td, f1, f2, t1, t2, hf3, ht3, f5, t5, f6, t6, hf4, ht4, w0, k1, k2, get_put_self, get_put_ne, get_bump, put_put]
      exact next _ _ s (by simp [k1, k2]) ho (by simp) (by simp [s6]) (by simp [s1]) (by simp [s2])

set_option maxHeartbeats 4000000 in
theorem cap_wp {n : Net} {v w : Value} {cut : List Bool} {m : Mem} (hv : Arcs m v n.arcs) (hw : Bools m w cut) : WPCall Try.prog 19 [netV n v, w] m fun r m' => r = .tuple #[I (capR n cut).1, .bool (capR n cut).2] ∧ Old m m' := by
  rw [call19 (by simp)]
  obtain ⟨hlen, hsl⟩ := hv.len
  obtain ⟨hlen2, hsl2⟩ := hw.len
  have hM : Old m ((m.bump 3).put m.next (some ⟨netC n v, true⟩)) := ((Old.refl m).bump 3).put (Nat.le_refl _)
  simp (disch := first | omega | (simp only [next_put, next_bump]; omega)) [ir19_b, hlen, hsl, hlen2, hsl2, get_put_self, get_put_ne, get_bump, put_put, -lenOfV, -isSl]
  refine (valid_wp (hv.mono hM)).mono fun r m2 hp => ?_
  obtain ⟨rfl, ho⟩ := hp
  have ho2 := hM.trans ho
  have hg : m2.get m.next = some ⟨netC n v, true⟩ := ho.some (get_put_self (by simp))
  have hln := get_lt hg
  have hn2 := ho2.next
  cases hV : validB n
  · simp (disch := first | omega | (simp only [next_put, next_bump]; omega)) [hlen, hsl, hlen2, hsl2, hg, hV, get_put_self, get_put_ne, get_bump, put_put, -lenOfV, -isSl]
    exact ⟨by simp [capR, hV], ho2⟩
  have hv2 := hv.mono ho2
  have hw2 := hw.mono ho2
  by_cases hl : (cut.length : Int) = n.nodes
  · have hVV := validB_iff.1 hV
    have s0 : 0 ≤ n.src := hVV.src.1
    have s1 : n.src < n.nodes := hVV.src.2
    have s3 : n.src.toNat < cut.length := by omega
    have s4 : n.src.toNat + 1 ≤ cut.length := s3
    have t0 : 0 ≤ n.snk := hVV.snk.1
    have t1 : n.snk < n.nodes := hVV.snk.2
    have t3 : n.snk.toNat < cut.length := by omega
    have t4 : n.snk.toNat + 1 ≤ cut.length := t3
    have hs5 := cutF_get s3
    have ht5 := cutF_get t3
    have hs6 : ∀ h, cut[n.src.toNat]'h = cutF cut n.src := fun h => by rw [List.getElem?_eq_getElem h] at hs5; simpa using hs5
    have ht6 : ∀ h, cut[n.snk.toNat]'h = cutF cut n.snk := fun h => by rw [List.getElem?_eq_getElem h] at ht5; simpa using ht5
    obtain ⟨d, o2, rfl, hd⟩ := hw2.blk s3
    have hl2 : ((cut.length : Int) = n.nodes) = True := eq_true hl
    cases k1 : cutF cut n.src
    · simp (disch := first | omega | (simp only [next_put, next_bump]; omega)) [hlen, hsl, hg, hV, hl, hd, s0, s1, s3, s4, t0, t1, t3, t4, head_td, hs5, hs6, ht5, ht6, k1, get_put_self, get_put_ne, get_bump, put_put]
      exact ⟨by simp [capR, hV, hl, k1], ho2⟩
    cases k2 : cutF cut n.snk
    · simp (disch := first | omega | (simp only [next_put, next_bump]; omega)) [hlen, hsl, hg, hV, hl, hd, s0, s1, s3, s4, t0, t1, t3, t4, head_td, hs5, hs6, ht5, ht6, k1, k2, hlen, hsl, get_put_self, get_put_ne, get_bump, put_put, -lenOfV, -isSl]
      refine cap_loop hVV rfl (m0 := m2) hg hv2 hw2 hl n.arcs.length 0 _ _ 0 (by omega) (Old.refl _) (by simp) (by simp) (by simp [hlen]) (by simp) (by simp) (by simp) (by simp) (fun σ' m' e1 e2 => ?_)
      rw [List.drop_zero] at e2
      simp (disch := first | omega | (simp only [next_put, next_bump]; omega)) [e2, get_put_self, get_put_ne, get_bump, put_put]
      exact ⟨by simp [capR, hV, hl, k1, k2], ho2.trans e1⟩
    · simp (disch := first | omega | (simp only [next_put, next_bump]; omega)) [hlen, hsl, hg, hV, hl, hd, s0, s1, s3, s4, t0, t1, t3, t4, head_td, hs5, hs6, ht5, ht6, k1, k2, get_put_self, get_put_ne, get_bump, put_put]
      exact ⟨by simp [capR, hV, hl, k1, k2], ho2⟩
  · simp (disch := first | omega | (simp only [next_put, next_bump]; omega)) [hlen, hsl, hlen2, hsl2, hg, hV, hl, get_put_self, get_put_ne, get_bump, put_put, -lenOfV, -isSl]
    exact ⟨by simp [capR, hV, hl], ho2⟩

set_option maxHeartbeats 4000000 in
theorem rcap_wp {n : Net} {v w : Value} {cut : List Bool} {m : Mem} (hv : Arcs m v n.arcs) (hw : Bools m w cut) : WPCall Try.prog 20 [netV n v, w] m fun r m' => r = .tuple #[I (capR n cut).1, .bool (capR n cut).2] ∧ Old m m' := by
  rw [call20 (by simp)]
  obtain ⟨hlen, hsl⟩ := hv.len
  obtain ⟨hlen2, hsl2⟩ := hw.len
  have hM : Old m ((m.bump 3).put m.next (some ⟨netC n v, true⟩)) := ((Old.refl m).bump 3).put (Nat.le_refl _)
  simp (disch := first | omega | (simp only [next_put, next_bump]; omega)) [ir20_b, hlen, hsl, hlen2, hsl2, get_put_self, get_put_ne, get_bump, put_put, -lenOfV, -isSl]
  refine (rvalid_wp (hv.mono hM)).mono fun r m2 hp => ?_
  obtain ⟨rfl, ho⟩ := hp
  have ho2 := hM.trans ho
  have hg : m2.get m.next = some ⟨netC n v, true⟩ := ho.some (get_put_self (by simp))
  have hln := get_lt hg
  have hn2 := ho2.next
  cases hV : validB n
  · simp (disch := first | omega | (simp only [next_put, next_bump]; omega)) [hlen, hsl, hlen2, hsl2, hg, hV, get_put_self, get_put_ne, get_bump, put_put, -lenOfV, -isSl]
    exact ⟨by simp [capR, hV], ho2⟩
  have hv2 := hv.mono ho2
  have hw2 := hw.mono ho2
  by_cases hl : (cut.length : Int) = n.nodes
  · have hVV := validB_iff.1 hV
    have s0 : 0 ≤ n.src := hVV.src.1
    have s1 : n.src < n.nodes := hVV.src.2
    have s3 : n.src.toNat < cut.length := by omega
    have s4 : n.src.toNat + 1 ≤ cut.length := s3
    have t0 : 0 ≤ n.snk := hVV.snk.1
    have t1 : n.snk < n.nodes := hVV.snk.2
    have t3 : n.snk.toNat < cut.length := by omega
    have t4 : n.snk.toNat + 1 ≤ cut.length := t3
    have hs5 := cutF_get s3
    have ht5 := cutF_get t3
    have hs6 : ∀ h, cut[n.src.toNat]'h = cutF cut n.src := fun h => by rw [List.getElem?_eq_getElem h] at hs5; simpa using hs5
    have ht6 : ∀ h, cut[n.snk.toNat]'h = cutF cut n.snk := fun h => by rw [List.getElem?_eq_getElem h] at ht5; simpa using ht5
    obtain ⟨d, o2, rfl, hd⟩ := hw2.blk s3
    have hl2 : ((cut.length : Int) = n.nodes) = True := eq_true hl
    cases k1 : cutF cut n.src
    · simp (disch := first | omega | (simp only [next_put, next_bump]; omega)) [hlen, hsl, hg, hV, hl, hd, s0, s1, s3, s4, t0, t1, t3, t4, head_td, hs5, hs6, ht5, ht6, k1, get_put_self, get_put_ne, get_bump, put_put]
      exact ⟨by simp [capR, hV, hl, k1], ho2⟩
    cases k2 : cutF cut n.snk
    · simp (disch := first | omega | (simp only [next_put, next_bump]; omega)) [hlen, hsl, hg, hV, hl, hd, s0, s1, s3, s4, t0, t1, t3, t4, head_td, hs5, hs6, ht5, ht6, k1, k2, hlen, hsl, get_put_self, get_put_ne, get_bump, put_put, -lenOfV, -isSl]
      refine rcap_loop hVV rfl (m0 := m2) hg hv2 hw2 hl n.arcs.length 0 _ _ 0 (by omega) (Old.refl _) (by simp) (by simp) (by simp) (by simp) (by simp) (fun σ' m' e1 e2 => ?_)
      rw [List.drop_zero] at e2
      simp (disch := first | omega | (simp only [next_put, next_bump]; omega)) [e2, get_put_self, get_put_ne, get_bump, put_put]
      exact ⟨by simp [capR, hV, hl, k1, k2], ho2.trans e1⟩
    · simp (disch := first | omega | (simp only [next_put, next_bump]; omega)) [hlen, hsl, hg, hV, hl, hd, s0, s1, s3, s4, t0, t1, t3, t4, head_td, hs5, hs6, ht5, ht6, k1, k2, get_put_self, get_put_ne, get_bump, put_put]
      exact ⟨by simp [capR, hV, hl, k1, k2], ho2⟩
  · simp (disch := first | omega | (simp only [next_put, next_bump]; omega)) [hlen, hsl, hlen2, hsl2, hg, hV, hl, get_put_self, get_put_ne, get_bump, put_put, -lenOfV, -isSl]
    exact ⟨by simp [capR, hV, hl], ho2⟩

set_option maxHeartbeats 4000000 in
theorem check_wp {n : Net} {v w u : Value} {fl : List Int} {cut : List Bool} {m : Mem} (hv : Arcs m v n.arcs) (hw : Ints m w fl) (hu : Bools m u cut) : WPCall Try.prog 23 [netV n v, w, u] m fun r m' => r = .bool (checkR n fl cut) ∧ Old m m' := by
  rw [call23 (by simp)]
  have hM : Old m ((m.bump 2).put m.next (some ⟨netC n v, true⟩)) := ((Old.refl m).bump 2).put (Nat.le_refl _)
  simp (disch := first | omega | (simp only [next_put, next_bump]; omega)) [ir23_b, get_put_self, get_put_ne, get_bump, put_put]
  refine (value_wp (hv.mono hM) (hw.mono hM)).mono fun r m2 hp => ?_
  obtain ⟨rfl, ho⟩ := hp
  have ho2 := hM.trans ho
  have hg : m2.get m.next = some ⟨netC n v, true⟩ := ho.some (get_put_self (by simp))
  simp (disch := first | omega | (simp only [next_put, next_bump]; omega)) [hg, get_put_self, get_put_ne, get_bump, put_put]
  refine (cap_wp (hv.mono ho2) (hu.mono ho2)).mono fun r m3 hp => ?_
  obtain ⟨rfl, ho3⟩ := hp
  have ho4 := ho2.trans ho3
  cases k1 : (valueR n fl).2
  · simp (disch := first | omega | (simp only [next_put, next_bump]; omega)) [k1, get_put_self, get_put_ne, get_bump, put_put]
    exact ⟨by simp [checkR, k1], ho4⟩
  cases k2 : (capR n cut).2
  · simp (disch := first | omega | (simp only [next_put, next_bump]; omega)) [k1, k2, get_put_self, get_put_ne, get_bump, put_put]
    exact ⟨by simp [checkR, k1, k2], ho4⟩
  simp (disch := first | omega | (simp only [next_put, next_bump]; omega)) [k1, k2, get_put_self, get_put_ne, get_bump, put_put]
  exact ⟨by simp [checkR, k1, k2], ho4⟩

set_option maxHeartbeats 4000000 in
theorem rcheck_wp {n : Net} {v w u : Value} {fl : List Int} {cut : List Bool} {m : Mem} (hv : Arcs m v n.arcs) (hw : Ints m w fl) (hu : Bools m u cut) : WPCall Try.prog 24 [netV n v, w, u] m fun r m' => r = .bool (checkR n fl cut) ∧ Old m m' := by
  rw [call24 (by simp)]
  have hM : Old m ((m.bump 2).put m.next (some ⟨netC n v, true⟩)) := ((Old.refl m).bump 2).put (Nat.le_refl _)
  simp (disch := first | omega | (simp only [next_put, next_bump]; omega)) [ir24_b, get_put_self, get_put_ne, get_bump, put_put]
  refine (rvalue_wp (hv.mono hM) (hw.mono hM)).mono fun r m2 hp => ?_
  obtain ⟨rfl, ho⟩ := hp
  have ho2 := hM.trans ho
  have hg : m2.get m.next = some ⟨netC n v, true⟩ := ho.some (get_put_self (by simp))
  simp (disch := first | omega | (simp only [next_put, next_bump]; omega)) [hg, get_put_self, get_put_ne, get_bump, put_put]
  refine (rcap_wp (hv.mono ho2) (hu.mono ho2)).mono fun r m3 hp => ?_
  obtain ⟨rfl, ho3⟩ := hp
  have ho4 := ho2.trans ho3
  cases k1 : (valueR n fl).2
  · simp (disch := first | omega | (simp only [next_put, next_bump]; omega)) [k1, get_put_self, get_put_ne, get_bump, put_put]
    exact ⟨by simp [checkR, k1], ho4⟩
  cases k2 : (capR n cut).2
  · simp (disch := first | omega | (simp only [next_put, next_bump]; omega)) [k1, k2, get_put_self, get_put_ne, get_bump, put_put]
    exact ⟨by simp [checkR, k1, k2], ho4⟩
  simp (disch := first | omega | (simp only [next_put, next_bump]; omega)) [k1, k2, get_put_self, get_put_ne, get_bump, put_put]
  exact ⟨by simp [checkR, k1, k2], ho4⟩
end Go.Proofs.Ytapnkfkpkcajjaa
