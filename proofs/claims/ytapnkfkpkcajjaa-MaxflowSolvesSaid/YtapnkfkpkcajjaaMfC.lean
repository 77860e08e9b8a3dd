/-
  'Value': the summing loops.
-/
import Derived.Test.YtapnkfkpkcajjaaMfB
namespace Go.Proofs.Ytapnkfkpkcajjaa
open Go Go.DI Go.Nets
set_option linter.unusedSimpArgs false
set_option linter.unusedVariables false

def rowI (N : Nat) (g : Int → Int) : List Value := (List.range N).map fun (x : Nat) => I (g x)
@[simp] theorem rowI_len {N : Nat} {g : Int → Int} : (rowI N g).length = N := by simp [rowI]
@[simp] theorem rowI_getElem {N : Nat} {g : Int → Int} {k : Nat} (h : k < (rowI N g).length) : (rowI N g)[k]'h = I (g k) := by simp [rowI]
theorem rowI_get {N : Nat} {g : Int → Int} {k : Nat} (h : k < N) : (rowI N g)[k]? = some (I (g k)) := by simp [rowI, h]
@[simp] theorem rowI_set {N : Nat} {g : Int → Int} {k : Nat} {c : Int} : (rowI N g).set k (I c) = rowI N (fun x => if x = k then c else g x) := by
  apply List.ext_getElem
  · simp
  · intro i h1 h2
    simp at h1
    rw [List.getElem_set]
    simp only [rowI_getElem]
    by_cases h : k = i
    · subst h; simp
    · have : ¬ (i : Int) = k := by omega
      simp [h, this]
theorem rowI_zero {N : Nat} : List.replicate N (I 0) = rowI N (fun _ => 0) := by
  apply List.ext_getElem <;> simp [rowI]
theorem rowI_congr {N : Nat} {g h : Int → Int} (e : ∀ x, g x = h x) : rowI N g = rowI N h := by
  have : g = h := funext e
  rw [this]

def bndL : List Arc → List Int → Bool
  | a :: ar, φ :: fs => !decide (φ < 0) && !decide (a.c < φ) && bndL ar fs
  | _, _ => true
def conB (n : Net) (g : Int → Int) (l : List Nat) : Bool := l.all fun x => decide ((x : Int) = n.src) || decide ((x : Int) = n.snk) || decide (g x = 0)
def valueR (n : Net) (fl : List Int) : Int × Bool :=
  if validB n && decide (fl.length = n.arcs.length) && bndL n.arcs fl && conB n (netAt n.arcs fl) (List.range n.nodes.toNat) then (value n fl, true) else (0, false)
theorem bndL_iff : ∀ {ar : List Arc} {fs : List Int}, fs.length = ar.length → (bndL ar fs = true ↔ ∀ (i : Nat) a φ, ar[i]? = some a → fs[i]? = some φ → 0 ≤ φ ∧ φ ≤ a.c)
  | [], [], _ => by simp [bndL]
  | [], _ :: _, h => by simp at h
  | _ :: _, [], h => by simp at h
  | a :: ar, φ :: fs, h => by
    have ih := @bndL_iff ar fs (by simpa using h)
    simp only [bndL, Bool.and_eq_true, Bool.not_eq_true', decide_eq_false_iff_not, ih]
    constructor
    · rintro ⟨⟨h1, h2⟩, h3⟩ i b ψ hb hψ
      cases i with
      | zero => simp at hb hψ; subst hb; subst hψ; omega
      | succ i => exact h3 i b ψ (by simpa using hb) (by simpa using hψ)
    · intro h3
      have := h3 0 a φ rfl rfl
      exact ⟨⟨by omega, by omega⟩, fun i b ψ hb hψ => h3 (i + 1) b ψ (by simpa using hb) (by simpa using hψ)⟩
theorem valueR_true {n : Net} {fl : List Int} (h : (valueR n fl).2 = true) : n.Valid ∧ IsFlow n fl ∧ (valueR n fl).1 = value n fl := by
  unfold valueR at h ⊢
  split at h
  · rename_i hc
    rw [if_pos hc]
    simp only [Bool.and_eq_true, decide_eq_true_eq] at hc
    obtain ⟨⟨⟨h1, h2⟩, h3⟩, h4⟩ := hc
    have hV := validB_iff.1 h1
    refine ⟨hV, ⟨⟨h2, (bndL_iff h2).1 h3⟩, fun x hx hs ht => ?_⟩, rfl⟩
    simp only [conB, List.all_eq_true, List.mem_range, Bool.or_eq_true, decide_eq_true_eq] at h4
    obtain ⟨k, rfl⟩ : ∃ k : Nat, x = k := ⟨x.toNat, by have := hx.1; omega⟩
    have := h4 k (by have := hx.2; omega)
    rcases this with (h | h) | h
    · exact absurd h hs
    · exact absurd h ht
    · exact h
  · cases h
theorem valueR_of {n : Net} {fl : List Int} (hV : n.Valid) (hf : IsFlow n fl) : valueR n fl = (value n fl, true) := by
  unfold valueR
  rw [if_pos]
  simp only [Bool.and_eq_true, decide_eq_true_eq]
  refine ⟨⟨⟨validB_iff.2 hV, hf.bnd.1⟩, (bndL_iff hf.bnd.1).2 hf.bnd.2⟩, ?_⟩
  simp only [conB, List.all_eq_true, List.mem_range, Bool.or_eq_true, decide_eq_true_eq]
  intro k hk
  by_cases h1 : (k : Int) = n.src
  · exact .inl (.inl h1)
  · by_cases h2 : (k : Int) = n.snk
    · exact .inl (.inr h2)
    · exact .inr (hf.con k ⟨by omega, by omega⟩ h1 h2)

set_option maxHeartbeats 4000000 in
set_option maxRecDepth 20000 in
theorem value_loop0 {n : Net} (hV : n.Valid) {N : Nat} (hN : n.nodes = N) {M : Int} (hMM : M = 2147483647) {v w : Value} {fl : List Int} {b nb : Nat} {m0 : Mem} (hn : m0.get b = some ⟨netC n v, true⟩) (hv : Arcs m0 v n.arcs) (hw : Ints m0 w fl) (hfl : fl.length = n.arcs.length) (hnb : m0.next ≤ nb) {Q : IExit → Slots → Mem → Prop} : ∀ (r i : Nat) (m : Mem) (σ : Slots) (g : Int → Int), i + r = n.arcs.length → Old m0 m → m.get nb = some ⟨rowI N g, true⟩ → (∀ x, -((i : Int) * M) ≤ g x ∧ g x ≤ (i : Int) * M) →
    σ 26 = v → σ 27 = I n.arcs.length → σ 28 = I i → σ 6 = .slice (some ⟨nb, 0, none⟩) N 1 → σ 1 = w → σ 2 = ptr b →
    (∀ σ' m' g', Old m0 m' → m'.get nb = some ⟨rowI N g', true⟩ → bndL (n.arcs.drop i) (fl.drop i) = true → (∀ x, g' x = g x + netAt (n.arcs.drop i) (fl.drop i) x) → σ' 6 = .slice (some ⟨nb, 0, none⟩) N 1 → σ' 2 = ptr b → Q (.exit 0) σ' m') →
    (∀ σ' m', Old m0 m' → bndL (n.arcs.drop i) (fl.drop i) = false → σ' 4 = I 0 → σ' 5 = .bool false → Q .ret σ' m') → WP Try.prog (.loop ir17_l0) σ m Q
  | 0, i, m, σ, g, hi, ho, hg, hgb, s26, s27, si, s6, s1, s2, hQ, hR => by
    refine wp_round fun J hJ => ?_
    have h1 : ¬ i < n.arcs.length := by omega
    obtain ⟨hlen, hsl⟩ := hw.len
    simp [ir17_l0, s26, s27, si, s1, s2, h1, hlen, hsl, hfl, -lenOfV, -isSl]
    exact hQ _ _ g ho hg (by rw [List.drop_of_length_le (by omega)]; rfl) (fun x => by rw [List.drop_of_length_le (by omega : n.arcs.length ≤ i)]; simp [netAt]) (by simp [s6]) (by simp [s2])
  | r + 1, i, m, σ, g, hi, ho, hg, hgb, s26, s27, si, s6, s1, s2, hQ, hR => by
    refine wp_round fun J hJ => ?_
    have h1 : i < n.arcs.length := by omega
    have h1' : i < fl.length := by omega
    obtain ⟨a, ha⟩ : ∃ a, n.arcs[i]? = some a := ⟨n.arcs[i]'h1, by simp⟩
    obtain ⟨φ, hφ⟩ : ∃ φ, fl[i]? = some φ := ⟨fl[i]'h1', by simp⟩
    have hφ2 : ∀ h, fl[i]'h = φ := fun h => by rw [List.getElem?_eq_getElem h] at hφ; simpa using hφ
    have hdrop : n.arcs.drop i = a :: n.arcs.drop (i + 1) := by
      rw [List.drop_eq_getElem_cons h1]; rw [List.getElem?_eq_getElem h1] at ha; cases ha; rfl
    have hdrop2 : fl.drop i = φ :: fl.drop (i + 1) := by
      rw [List.drop_eq_getElem_cons h1']; rw [hφ2]
    have hok := hV.arc a (List.mem_of_getElem? ha)
    obtain ⟨⟨f1, f2⟩, ⟨t1, t2⟩, c1, c2⟩ := hok
    obtain ⟨kf, hkf⟩ : ∃ k : Nat, a.f = k := ⟨a.f.toNat, by omega⟩
    obtain ⟨kt, hkt⟩ : ∃ k : Nat, a.t = k := ⟨a.t.toNat, by omega⟩
    have f3 : kf < N := by omega
    have t3 : kt < N := by omega
    have f4 : kf + 1 ≤ N := f3
    have t4 : kt + 1 ≤ N := t3
    have hrf : ∀ g, (rowI N g)[kf]? = some (I (g kf)) := fun g => rowI_get f3
    have hrt : ∀ g, (rowI N g)[kt]? = some (I (g kt)) := fun g => rowI_get t3
    obtain ⟨c, o, rfl, hc⟩ := hv.blk h1
    obtain ⟨d, o2, rfl, hd⟩ := hw.blk h1'
    have hgc := ho.some hc
    have hgd := ho.some hd
    have hgb' := ho.some hn
    have hlb := get_lt hgb'
    have hlc := get_lt hgc
    have hld := get_lt hgd
    have hlc0 := get_lt hc
    have hld0 := get_lt hd
    have hlb0 := get_lt hn
    have hln := get_lt hg
    have hn0 := ho.next
    have hb : i * 4 + 4 ≤ n.arcs.length * 4 := by omega
    have h5 : i + 1 ≤ n.arcs.length := h1
    have c4 := arcs_at ha
    have hal := hV.al
    have w0 : IntKind.i64.wrap ((i : Int) + 1) = (i : Int) + 1 := i64_id (by omega) (by omega)
    have stop : ∀ (σ' : Slots) (m' : Mem), (φ < 0 ∨ a.c < φ) → Old m0 m' → σ' 4 = I 0 → σ' 5 = .bool false → Q .ret σ' m' := fun σ' m' hno ho' q4 q5 => hR _ _ ho' (by rw [hdrop, hdrop2]; rcases hno with h | h <;> simp [bndL, h]) q4 q5
    have ho2 : ∀ k q y, m.next ≤ q → Old m0 ((m.bump k).put q (some y)) := fun k q y hq => (ho.bump k).put (by omega)
    have gf := hgb kf
    have gt := hgb kt
    have hmul : (i : Int) * M ≤ 2500 * M := Int.mul_le_mul_of_nonneg_right (by omega) (by omega)
    have next : ∀ (σ' : Slots) (m' : Mem) (g' : Int → Int), 0 ≤ φ → φ ≤ a.c → Old m0 m' → m'.get nb = some ⟨rowI N g', true⟩ → (∀ x, g' x = g x + pt a.f x φ - pt a.t x φ) → σ' 26 = .slice (some ⟨c, 0, none⟩) n.arcs.length 4 → σ' 27 = I n.arcs.length → σ' 28 = I ((i : Int) + 1) → σ' 6 = .slice (some ⟨nb, 0, none⟩) N 1 → σ' 1 = .slice (some ⟨d, 0, none⟩) fl.length 1 → σ' 2 = ptr b → J σ' m' := by
      intro σ' m' g' p1 p2 ho' hg' hgg q26 q27 qi q6 q1 q2
      refine hJ _ _ (value_loop0 hV hN hMM hn hv hw hfl hnb r (i + 1) m' σ' g' (by omega) ho' hg' ?_ q26 q27 (by rw [qi]; simp) q6 q1 q2 (fun σ'' m'' g'' e1 e2 e3 e4 e5 e6 => hQ _ _ g'' e1 e2 ?_ ?_ e5 e6) (fun σ'' m'' e1 e2 e3 e4 => hR _ _ e1 ?_ e3 e4))
      · intro x
        have hx := hgb x
        rw [hgg x]
        have e : (((i + 1 : Nat) : Int)) * M = (i : Int) * M + M := by rw [Int.natCast_add, Int.add_mul]; simp
        rw [e]
        simp only [pt]
        split <;> split <;> omega
      · rw [hdrop, hdrop2]; simp only [bndL, e3, Bool.and_true, Bool.and_eq_true, Bool.not_eq_true', decide_eq_false_iff_not]; omega
      · intro x
        rw [e4, hgg, hdrop, hdrop2]; simp only [netAt]; omega
      · rw [hdrop, hdrop2]; simp only [bndL, e2, Bool.and_false]
    by_cases k1 : φ < 0
    · simp (disch := first | omega | (simp only [next_put, next_bump]; omega)) [ir17_l0, s26, s27, si, h5, s6, s1, s2, h1, h1', hfl, hgc, hgd, hgb', hg, hb, c4, arcC, head_td, hφ, hφ2, hkf, hkt, f3, t3, f4, t4, hrf, hrt, w0, k1, get_put_self, get_put_ne, get_bump, put_put]
      exact stop _ _ (by omega) (ho2 _ _ _ (by omega)) (by simp) (by simp)
    by_cases k2 : a.c < φ
    · simp (disch := first | omega | (simp only [next_put, next_bump]; omega)) [ir17_l0, s26, s27, si, h5, s6, s1, s2, h1, h1', hfl, hgc, hgd, hgb', hg, hb, c4, arcC, head_td, hφ, hφ2, hkf, hkt, f3, t3, f4, t4, hrf, hrt, w0, k1, k2, get_put_self, get_put_ne, get_bump, put_put]
      exact stop _ _ (by omega) (ho2 _ _ _ (by omega)) (by simp) (by simp)
    have w1 : IntKind.i64.wrap (g kf + φ) = g kf + φ := i64_id (by omega) (by omega)
    by_cases hft : kt = kf
    · subst hft
      have w2 : IntKind.i64.wrap (g kt) = g kt := i64_id (by omega) (by omega)
      simp (disch := first | omega | (simp only [next_put, next_bump]; omega)) [ir17_l0, s26, s27, si, h5, s6, s1, s2, h1, h1', hfl, hgc, hgd, hgb', hg, hb, c4, arcC, head_td, hφ, hφ2, hkf, hkt, f3, t3, f4, t4, hrf, hrt, w0, k1, k2, w1, w2, get_put_self, get_put_ne, get_bump, put_put]
      refine next _ _ (fun x => if x = (kt : Int) then g kt else if x = (kt : Int) then g kt + φ else g x) (by omega) (by omega) (Old.put (ho2 _ _ _ (by omega)) (by omega)) (by rw [get_put_self (by simp only [next_put, next_bump]; omega)]) (fun x => ?_) (by simp [s26]) (by simp [s27]) (by simp) (by simp [s6]) (by simp [s1]) (by simp [s2])
      simp only [pt, hkf, hkt]
      by_cases hx : x = (kt : Int)
      · subst hx; simp
      · have hx' : ¬ (kt : Int) = x := fun h => hx h.symm
        simp [hx, hx']
    · have hft' : ¬ (kt : Int) = kf := by omega
      have w2 : IntKind.i64.wrap (g kt - φ) = g kt - φ := i64_id (by omega) (by omega)
      simp (disch := first | omega | (simp only [next_put, next_bump]; omega)) [ir17_l0, s26, s27, si, h5, s6, s1, s2, h1, h1', hfl, hgc, hgd, hgb', hg, hb, c4, arcC, head_td, hφ, hφ2, hkf, hkt, f3, t3, f4, t4, hrf, hrt, w0, k1, k2, w1, w2, hft' , get_put_self, get_put_ne, get_bump, put_put]
      refine next _ _ (fun x => if x = (kt : Int) then g kt - φ else if x = (kf : Int) then g kf + φ else g x) (by omega) (by omega) (Old.put (ho2 _ _ _ (by omega)) (by omega)) (by rw [get_put_self (by simp only [next_put, next_bump]; omega)]) (fun x => ?_) (by simp [s26]) (by simp [s27]) (by simp) (by simp [s6]) (by simp [s1]) (by simp [s2])
      simp only [pt, hkf, hkt]
      by_cases hx : x = (kt : Int)
      · subst hx
        have : ¬ (kf : Int) = kt := fun h => hft' h.symm
        simp [this, hft']
      · have hx' : ¬ (kt : Int) = x := fun h => hx h.symm
        by_cases hy : x = (kf : Int)
        · subst hy; simp [hx, hx']
        · have hy' : ¬ (kf : Int) = x := fun h => hy h.symm
          simp [hx, hx', hy, hy']

set_option maxHeartbeats 4000000 in
set_option maxRecDepth 20000 in
theorem rvalue_loop0 {n : Net} (hV : n.Valid) {N : Nat} (hN : n.nodes = N) {M : Int} (hMM : M = 2147483647) {v w : Value} {fl : List Int} {b nb : Nat} {m0 : Mem} (hn : m0.get b = some ⟨netC n v, true⟩) (hv : Arcs m0 v n.arcs) (hw : Ints m0 w fl) (hfl : fl.length = n.arcs.length) (hnb : m0.next ≤ nb) {Q : IExit → Slots → Mem → Prop} : ∀ (r i : Nat) (m : Mem) (σ : Slots) (g : Int → Int), i + r = n.arcs.length → Old m0 m → m.get nb = some ⟨rowI N g, true⟩ → (∀ x, -((i : Int) * M) ≤ g x ∧ g x ≤ (i : Int) * M) →
    σ 7 = I i → σ 6 = .slice (some ⟨nb, 0, none⟩) N 1 → σ 1 = w → σ 2 = ptr b →
    (∀ σ' m' g', Old m0 m' → m'.get nb = some ⟨rowI N g', true⟩ → bndL (n.arcs.drop i) (fl.drop i) = true → (∀ x, g' x = g x + netAt (n.arcs.drop i) (fl.drop i) x) → σ' 6 = .slice (some ⟨nb, 0, none⟩) N 1 → σ' 2 = ptr b → Q (.exit 0) σ' m') →
    (∀ σ' m', Old m0 m' → bndL (n.arcs.drop i) (fl.drop i) = false → σ' 4 = I 0 → σ' 5 = .bool false → Q .ret σ' m') → WP Try.prog (.loop ir18_l0) σ m Q
  | 0, i, m, σ, g, hi, ho, hg, hgb, si, s6, s1, s2, hQ, hR => by
    refine wp_round fun J hJ => ?_
    have h1 : ¬ i < n.arcs.length := by omega
    obtain ⟨hlen, hsl⟩ := hw.len
    simp [ir18_l0, si, s1, s2, h1, hlen, hsl, hfl, -lenOfV, -isSl]
    exact hQ _ _ g ho hg (by rw [List.drop_of_length_le (by omega)]; rfl) (fun x => by rw [List.drop_of_length_le (by omega : n.arcs.length ≤ i)]; simp [netAt]) (by simp [s6]) (by simp [s2])
  | r + 1, i, m, σ, g, hi, ho, hg, hgb, si, s6, s1, s2, hQ, hR => by
    refine wp_round fun J hJ => ?_
    have h1 : i < n.arcs.length := by omega
    have h1' : i < fl.length := by omega
    obtain ⟨a, ha⟩ : ∃ a, n.arcs[i]? = some a := ⟨n.arcs[i]'h1, by simp⟩
    obtain ⟨φ, hφ⟩ : ∃ φ, fl[i]? = some φ := ⟨fl[i]'h1', by simp⟩
    have hφ2 : ∀ h, fl[i]'h = φ := fun h => by rw [List.getElem?_eq_getElem h] at hφ; simpa using hφ
    have hdrop : n.arcs.drop i = a :: n.arcs.drop (i + 1) := by
      rw [List.drop_eq_getElem_cons h1]; rw [List.getElem?_eq_getElem h1] at ha; cases ha; rfl
    have hdrop2 : fl.drop i = φ :: fl.drop (i + 1) := by
      rw [List.drop_eq_getElem_cons h1']; rw [hφ2]
    have hok := hV.arc a (List.mem_of_getElem? ha)
    obtain ⟨⟨f1, f2⟩, ⟨t1, t2⟩, c1, c2⟩ := hok
    obtain ⟨kf, hkf⟩ : ∃ k : Nat, a.f = k := ⟨a.f.toNat, by omega⟩
    obtain ⟨kt, hkt⟩ : ∃ k : Nat, a.t = k := ⟨a.t.toNat, by omega⟩
    have f3 : kf < N := by omega
    have t3 : kt < N := by omega
    have f4 : kf + 1 ≤ N := f3
    have t4 : kt + 1 ≤ N := t3
    have hrf : ∀ g, (rowI N g)[kf]? = some (I (g kf)) := fun g => rowI_get f3
    have hrt : ∀ g, (rowI N g)[kt]? = some (I (g kt)) := fun g => rowI_get t3
    obtain ⟨c, o, rfl, hc⟩ := hv.blk h1
    obtain ⟨d, o2, rfl, hd⟩ := hw.blk h1'
    have hgc := ho.some hc
    have hgd := ho.some hd
    have hgb' := ho.some hn
    have hlb := get_lt hgb'
    have hlc := get_lt hgc
    have hld := get_lt hgd
    have hlc0 := get_lt hc
    have hld0 := get_lt hd
    have hlb0 := get_lt hn
    have hln := get_lt hg
    have hn0 := ho.next
    have hb : i * 4 + 4 ≤ n.arcs.length * 4 := by omega
    have h5 : i + 1 ≤ n.arcs.length := h1
    have c4 := arcs_at ha
    have hal := hV.al
    have w0 : IntKind.i64.wrap ((i : Int) + 1) = (i : Int) + 1 := i64_id (by omega) (by omega)
    have stop : ∀ (σ' : Slots) (m' : Mem), (φ < 0 ∨ a.c < φ) → Old m0 m' → σ' 4 = I 0 → σ' 5 = .bool false → Q .ret σ' m' := fun σ' m' hno ho' q4 q5 => hR _ _ ho' (by rw [hdrop, hdrop2]; rcases hno with h | h <;> simp [bndL, h]) q4 q5
    have ho2 : ∀ k q y, m.next ≤ q → Old m0 ((m.bump k).put q (some y)) := fun k q y hq => (ho.bump k).put (by omega)
    have gf := hgb kf
    have gt := hgb kt
    have hmul : (i : Int) * M ≤ 2500 * M := Int.mul_le_mul_of_nonneg_right (by omega) (by omega)
    have next : ∀ (σ' : Slots) (m' : Mem) (g' : Int → Int), 0 ≤ φ → φ ≤ a.c → Old m0 m' → m'.get nb = some ⟨rowI N g', true⟩ → (∀ x, g' x = g x + pt a.f x φ - pt a.t x φ) → σ' 7 = I ((i : Int) + 1) → σ' 6 = .slice (some ⟨nb, 0, none⟩) N 1 → σ' 1 = .slice (some ⟨d, 0, none⟩) fl.length 1 → σ' 2 = ptr b → J σ' m' := by
      intro σ' m' g' p1 p2 ho' hg' hgg qi q6 q1 q2
      refine hJ _ _ (rvalue_loop0 hV hN hMM hn hv hw hfl hnb r (i + 1) m' σ' g' (by omega) ho' hg' ?_ (by rw [qi]; simp) q6 q1 q2 (fun σ'' m'' g'' e1 e2 e3 e4 e5 e6 => hQ _ _ g'' e1 e2 ?_ ?_ e5 e6) (fun σ'' m'' e1 e2 e3 e4 => hR _ _ e1 ?_ e3 e4))
      · intro x
        have hx := hgb x
        rw [hgg x]
        have e : (((i + 1 : Nat) : Int)) * M = (i : Int) * M + M := by rw [Int.natCast_add, Int.add_mul]; simp
        rw [e]
        simp only [pt]
        split <;> split <;> omega
      · rw [hdrop, hdrop2]; simp only [bndL, e3, Bool.and_true, Bool.and_eq_true, Bool.not_eq_true', decide_eq_false_iff_not]; omega
      · intro x
        rw [e4, hgg, hdrop, hdrop2]; simp only [netAt]; omega
      · rw [hdrop, hdrop2]; simp only [bndL, e2, Bool.and_false]
    by_cases k1 : φ < 0
    · simp (disch := first | omega | (simp only [next_put, next_bump]; omega)) [ir18_l0, si, h5, s6, s1, s2, h1, h1', hfl, hgc, hgd, hgb', hg, hb, c4, arcC, head_td, hφ, hφ2, hkf, hkt, f3, t3, f4, t4, hrf, hrt, w0, k1, get_put_self, get_put_ne, get_bump, put_put]
      exact stop _ _ (by omega) (ho2 _ _ _ (by omega)) (by simp) (by simp)
    by_cases k2 : a.c < φ
    · simp (disch := first | omega | (simp only [next_put, next_bump]; omega)) [ir18_l0, si, h5, s6, s1, s2, h1, h1', hfl, hgc, hgd, hgb', hg, hb, c4, arcC, head_td, hφ, hφ2, hkf, hkt, f3, t3, f4, t4, hrf, hrt, w0, k1, k2, get_put_self, get_put_ne, get_bump, put_put]
      exact stop _ _ (by omega) (ho2 _ _ _ (by omega)) (by simp) (by simp)
    have w1 : IntKind.i64.wrap (g kf + φ) = g kf + φ := i64_id (by omega) (by omega)
    by_cases hft : kt = kf
    · subst hft
      have w2 : IntKind.i64.wrap (g kt) = g kt := i64_id (by omega) (by omega)
      simp (disch := first | omega | (simp only [next_put, next_bump]; omega)) [ir18_l0, si, h5, s6, s1, s2, h1, h1', hfl, hgc, hgd, hgb', hg, hb, c4, arcC, head_td, hφ, hφ2, hkf, hkt, f3, t3, f4, t4, hrf, hrt, w0, k1, k2, w1, w2, get_put_self, get_put_ne, get_bump, put_put]
      refine next _ _ (fun x => if x = (kt : Int) then g kt else if x = (kt : Int) then g kt + φ else g x) (by omega) (by omega) (Old.put (ho2 _ _ _ (by omega)) (by omega)) (by rw [get_put_self (by simp only [next_put, next_bump]; omega)]) (fun x => ?_) (by simp) (by simp [s6]) (by simp [s1]) (by simp [s2])
      simp only [pt, hkf, hkt]
      by_cases hx : x = (kt : Int)
      · subst hx; simp
      · have hx' : ¬ (kt : Int) = x := fun h => hx h.symm
        simp [hx, hx']
    · have hft' : ¬ (kt : Int) = kf := by omega
      have w2 : IntKind.i64.wrap (g kt - φ) = g kt - φ := i64_id (by omega) (by omega)
      simp (disch := first | omega | (simp only [next_put, next_bump]; omega)) [ir18_l0, si, h5, s6, s1, s2, h1, h1', hfl, hgc, hgd, hgb', hg, hb, c4, arcC, head_td, hφ, hφ2, hkf, hkt, f3, t3, f4, t4, hrf, hrt, w0, k1, k2, w1, w2, hft' , get_put_self, get_put_ne, get_bump, put_put]
      refine next _ _ (fun x => if x = (kt : Int) then g kt - φ else if x = (kf : Int) then g kf + φ else g x) (by omega) (by omega) (Old.put (ho2 _ _ _ (by omega)) (by omega)) (by rw [get_put_self (by simp only [next_put, next_bump]; omega)]) (fun x => ?_) (by simp) (by simp [s6]) (by simp [s1]) (by simp [s2])
      simp only [pt, hkf, hkt]
      by_cases hx : x = (kt : Int)
      · subst hx
        have : ¬ (kf : Int) = kt := fun h => hft' h.symm
        simp [this, hft']
      · have hx' : ¬ (kt : Int) = x := fun h => hx h.symm
        by_cases hy : x = (kf : Int)
        · subst hy; simp [hx, hx']
        · have hy' : ¬ (kf : Int) = x := fun h => hy h.symm
          simp [hx, hx', hy, hy']
end Go.Proofs.Ytapnkfkpkcajjaa
