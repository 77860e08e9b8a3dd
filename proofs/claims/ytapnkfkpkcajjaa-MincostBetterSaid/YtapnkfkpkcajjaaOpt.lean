/-
  Flows of least cost, in plain Lean: potentials, a search for distances in any order, augmenting.
-/
import Derived.Test.YtapnkfkpkcajjaaNet2
namespace Go.Nets
set_option linter.unusedSimpArgs false
set_option linter.unusedVariables false

/-- the cost of a residual step -/
def stC (n : Net) (e : St) : Int := match n.arcs[e.1]? with | some a => if e.2 then a.k else -a.k | none => 0
def rc (n : Net) (p : Int → Int) (e : St) : Int := stC n e + p (stF n e) - p (stT n e)
/-- potentials that prove a least cost -/
def Opt (n : Net) (fl : List Int) (p : Int → Int) : Prop := ∀ e, 0 < room n fl e → 0 ≤ rc n p e
def costL : List Arc → List Int → Int
  | a :: ar, φ :: fs => φ * a.k + costL ar fs
  | _, _ => 0
def redL (p : Int → Int) : List Arc → List Int → Int
  | a :: ar, φ :: fs => φ * (a.k + p a.f - p a.t) + redL p ar fs
  | _, _ => 0
def potL (p : Int → Int) : List Arc → List Int → Int
  | a :: ar, φ :: fs => φ * (p a.f - p a.t) + potL p ar fs
  | _, _ => 0
theorem redL_eq (p : Int → Int) : ∀ (ar : List Arc) (fs : List Int), redL p ar fs = costL ar fs + potL p ar fs
  | [], _ => by simp [redL, costL, potL]
  | _ :: _, [] => by simp [redL, costL, potL]
  | a :: ar, φ :: fs => by
    have := redL_eq p ar fs
    have e : a.k + p a.f - p a.t = a.k + (p a.f - p a.t) := by omega
    simp only [redL, costL, potL, this, e, Int.mul_add]; omega
theorem sumS_wpt (s : Int → Bool) (p : Int → Int) (y φ : Int) (h0 : 0 ≤ y) (hs : s y = true) (k : Nat) (hk : y < k) : sumS s (fun x => p x * pt y x φ) k = p y * φ := by
  have := sumS_single s (fun x => p x * pt y x φ) k y h0 hs (fun x _ _ _ hx => by simp [pt, Ne.symm hx]) k (Nat.le_refl _) hk
  rw [this]; simp [pt]
theorem sumS_weighted (p : Int → Int) (N : Nat) : ∀ (as : List Arc) (fs : List Int), (∀ a ∈ as, (0 ≤ a.f ∧ a.f < N) ∧ (0 ≤ a.t ∧ a.t < N)) → sumS (fun _ => true) (fun x => p x * netAt as fs x) N = potL p as fs
  | [], fs, _ => by
    have : (fun x => p x * netAt [] fs x) = fun _ => 0 := by funext x; simp [netAt]
    rw [this, sumS_zero]; simp [potL]
  | a :: as, [], _ => by
    have : (fun x => p x * netAt (a :: as) [] x) = fun _ => 0 := by funext x; simp [netAt]
    rw [this, sumS_zero]; simp [potL]
  | a :: as, φ :: fs, h => by
    have e : (fun x => p x * netAt (a :: as) (φ :: fs) x) = fun x => (p x * pt a.f x φ + p x * pt a.t x (-φ)) + p x * netAt as fs x := by
      funext x; simp only [netAt, pt_sub, Int.mul_add, Int.mul_sub, Int.mul_neg]; omega
    obtain ⟨h1, h2⟩ := h a (by simp)
    rw [e, sumS_add, sumS_add, sumS_wpt _ p _ _ h1.1 rfl N h1.2, sumS_wpt _ p _ _ h2.1 rfl N h2.2, sumS_weighted p N as fs (fun b hb => h b (by simp [hb]))]
    have e2 : φ * (p a.f - p a.t) = p a.f * φ - p a.t * φ := by rw [Int.mul_comm, Int.sub_mul]
    simp only [potL, e2, Int.mul_neg]; omega
theorem potL_shift (p : Int → Int) (c : Int) : ∀ (as : List Arc) (fs : List Int), potL (fun x => p x - c) as fs = potL p as fs
  | [], _ => by simp [potL]
  | _ :: _, [] => by simp [potL]
  | a :: as, φ :: fs => by
    have := potL_shift p c as fs
    have e : p a.f - c - (p a.t - c) = p a.f - p a.t := by omega
    simp only [potL, this, e]
/-- what the potentials of a flow sum up to -/
theorem potL_flow {n : Net} (h : n.Valid) {fl : List Int} (hf : IsFlow n fl) (p : Int → Int) : potL p n.arcs fl = (p n.src - p n.snk) * value n fl := by
  have hn := h.n2
  have hs := h.src
  unfold Net.node at hs
  rw [← potL_shift p (p n.snk), ← sumS_weighted _ n.nodes.toNat n.arcs fl h.ends]
  rw [sumS_single (fun _ => true) _ n.nodes.toNat n.src (by omega) rfl _ n.nodes.toNat (Nat.le_refl _) (by omega)]
  · rfl
  intro x x0 xn _ xs
  by_cases ht : x = n.snk
  · subst ht; simp
  · simp only [hf.con x ⟨x0, by omega⟩ xs ht, Int.mul_zero]
theorem redL_mono {n : Net} (p : Int → Int) : ∀ (as : List Arc) (fs gs : List Int), fs.length = as.length → gs.length = as.length →
    (∀ (i : Nat) a φ ψ, as[i]? = some a → fs[i]? = some φ → gs[i]? = some ψ → (0 ≤ ψ ∧ ψ ≤ a.c) ∧ (φ < a.c → 0 ≤ a.k + p a.f - p a.t) ∧ (0 < φ → a.k + p a.f - p a.t ≤ 0)) → redL p as fs ≤ redL p as gs
  | [], _, _, _, _, _ => by simp [redL]
  | a :: as, [], _, h, _, _ => by simp at h
  | a :: as, _ :: _, [], _, h, _ => by simp at h
  | a :: as, φ :: fs, ψ :: gs, h1, h2, h => by
    have := redL_mono (n := n) p as fs gs (by simpa using h1) (by simpa using h2) (fun i a φ ψ ha hφ hψ => h (i + 1) a φ ψ (by simpa using ha) (by simpa using hφ) (by simpa using hψ))
    obtain ⟨⟨g1, g2⟩, g3, g4⟩ := h 0 a φ ψ rfl rfl rfl
    simp only [redL]
    have : φ * (a.k + p a.f - p a.t) ≤ ψ * (a.k + p a.f - p a.t) := by
      generalize a.k + p a.f - p a.t = r at *
      by_cases hr : 0 < r
      · exact Int.mul_le_mul_of_nonneg_right (by omega) (by omega)
      · by_cases hr2 : r < 0
        · exact Int.mul_le_mul_of_nonpos_right (by omega) (by omega)
        · have : r = 0 := by omega
          subst this; simp
    omega
theorem rc_fwd {n : Net} {p : Int → Int} {i : Nat} {a : Arc} (ha : n.arcs[i]? = some a) : rc n p (i, true) = a.k + p a.f - p a.t := by simp [rc, stC, stF, stT, ha]
theorem rc_bwd {n : Net} {p : Int → Int} {i : Nat} {a : Arc} (ha : n.arcs[i]? = some a) : rc n p (i, false) = -(a.k + p a.f - p a.t) := by simp [rc, stC, stF, stT, ha]; omega
theorem Opt.arcs {n : Net} {fl : List Int} {p : Int → Int} (h : Opt n fl p) {i : Nat} {a : Arc} {φ : Int} (ha : n.arcs[i]? = some a) (hφ : fl[i]? = some φ) : (φ < a.c → 0 ≤ a.k + p a.f - p a.t) ∧ (0 < φ → a.k + p a.f - p a.t ≤ 0) := by
  refine ⟨fun h1 => ?_, fun h1 => ?_⟩
  · have := h (i, true) (by simp [room, ha, hφ]; omega)
    rwa [rc_fwd ha] at this
  · have := h (i, false) (by simp [room, ha, hφ]; omega)
    rw [rc_bwd ha] at this; omega
theorem Opt.of_arcs {n : Net} {fl : List Int} {p : Int → Int} (h : ∀ (i : Nat) a φ, n.arcs[i]? = some a → fl[i]? = some φ → (φ < a.c → 0 ≤ a.k + p a.f - p a.t) ∧ (0 < φ → a.k + p a.f - p a.t ≤ 0)) : Opt n fl p := by
  rintro ⟨i, b⟩ he
  obtain ⟨a, φ, ha, hφ⟩ := room_pos he
  simp only at ha hφ
  obtain ⟨h1, h2⟩ := h i a φ ha hφ
  cases b
  · simp [room, ha, hφ] at he
    have := h2 he
    rw [rc_bwd ha]; omega
  · simp [room, ha, hφ] at he
    have := h1 (by omega)
    rw [rc_fwd ha]; omega
/-- what proves a least cost -/
theorem Opt.least {n : Net} (hV : n.Valid) {fl g : List Int} {p : Int → Int} (h : Opt n fl p) (hf : IsFlow n fl) (hg : IsFlow n g) : costL n.arcs fl + (p n.snk - p n.src) * (value n g - value n fl) ≤ costL n.arcs g := by
  have h1 := redL_mono (n := n) p n.arcs fl g hf.bnd.1 hg.bnd.1 fun i a φ ψ ha hφ hψ => ⟨hg.bnd.2 i a ψ ha hψ, h.arcs ha hφ⟩
  rw [redL_eq, redL_eq, potL_flow hV hf, potL_flow hV hg] at h1
  have e : (p n.snk - p n.src) * (value n g - value n fl) = (p n.src - p n.snk) * value n fl - (p n.src - p n.snk) * value n g := by
    rw [Int.mul_sub, ← Int.neg_sub (p n.src), Int.neg_mul, Int.neg_mul]; omega
  omega
theorem Opt.zero {n : Net} (hV : n.Valid) (hk : ∀ a ∈ n.arcs, 0 ≤ a.k) : Opt n (List.replicate n.arcs.length 0) (fun _ => 0) := by
  refine Opt.of_arcs fun i a φ ha hφ => ?_
  have := hk a (List.mem_of_getElem? ha)
  rw [List.getElem?_replicate] at hφ
  split at hφ
  · cases hφ; exact ⟨fun _ => by omega, fun h => by omega⟩
  · cases hφ

/-! distances -/
def far : Int := 1099511627776
def sn (dist : Int → Int) : Int → Bool := fun v => decide (dist v < far)
theorem sn_iff {dist : Int → Int} {v : Int} : sn dist v = true ↔ dist v < far := by simp [sn]
structure Dij (n : Net) (fl : List Int) (p : Int → Int) (N : Nat) (dist : Int → Int) (by_ : Int → St) (q : List (Int × Int)) : Prop where
  src : dist n.src = 0
  lo : ∀ v, 0 ≤ dist v
  hi : ∀ v, dist v ≤ far
  cap : ∀ v, dist v < far → dist v + p v + 1000 * cntU (sn dist) N ≤ 1000 * N
  node : ∀ v, dist v < far → n.node v
  qs : ∀ s ∈ q, n.node s.1 ∧ dist s.1 ≤ s.2 ∧ s.2 < far
  back : ∃ (τ : Int → Nat) (c : Nat), (∀ v, τ v < c) ∧ ∀ v, dist v < far → v ≠ n.src → 0 < room n fl (by_ v) ∧ stT n (by_ v) = v ∧ dist (stF n (by_ v)) < far ∧ dist (stF n (by_ v)) + rc n p (by_ v) ≤ dist v ∧ (dist (stF n (by_ v)) < dist v ∨ dist (stF n (by_ v)) = dist v ∧ τ (stF n (by_ v)) < τ v)
  relax : ∀ e, 0 < room n fl e → dist (stF n e) < far → (stF n e, dist (stF n e)) ∉ q → dist (stT n e) ≤ dist (stF n e) + rc n p e
theorem setF_same {α : Type} {f : Int → α} {x : Int} {v : α} : setF f x v x = v := by simp [setF]
theorem setF_ne {α : Type} {f : Int → α} {x y : Int} {v : α} (h : y ≠ x) : setF f x v y = f y := by simp [setF, h]
theorem Dij.perm {n : Net} {fl : List Int} {p : Int → Int} {N : Nat} {dist : Int → Int} {by_ : Int → St} {q q' : List (Int × Int)} (h : Dij n fl p N dist by_ q) (hq : ∀ s, s ∈ q ↔ s ∈ q') : Dij n fl p N dist by_ q' :=
  ⟨h.src, h.lo, h.hi, h.cap, h.node, fun s hs => h.qs s ((hq s).2 hs), h.back, fun e h1 h2 h3 => h.relax e h1 h2 (fun hm => h3 ((hq _).1 hm))⟩
theorem Dij.add {n : Net} {fl : List Int} {p : Int → Int} {N : Nat} {dist : Int → Int} {by_ : Int → St} {q : List (Int × Int)} (h : Dij n fl p N dist by_ q) (hN : n.nodes = N) (hp : Opt n fl p) (hk : ∀ e, stC n e ≤ 1000) {e : St} (h1 : 0 < room n fl e) (h2 : dist (stF n e) < far) (h3 : dist (stF n e) + rc n p e < dist (stT n e)) (h4 : n.node (stT n e)) :
    Dij n fl p N (setF dist (stT n e) (dist (stF n e) + rc n p e)) (setF by_ (stT n e) e) ((stT n e, dist (stF n e) + rc n p e) :: q) := by
  have hr := hp e h1
  have hl := h.lo (stF n e)
  have hne : stF n e ≠ stT n e := fun hh => by rw [hh] at h3; omega
  have hT : stT n e ≠ n.src := fun hh => by rw [hh, h.src] at h3; omega
  have hfar := h.hi (stT n e)
  have hle : ∀ v, setF dist (stT n e) (dist (stF n e) + rc n p e) v ≤ dist v := fun v => by
    by_cases hv : v = stT n e
    · subst hv; rw [setF_same]; omega
    · rw [setF_ne hv]; omega
  generalize hd : dist (stF n e) + rc n p e = d at *
  have hd0 : 0 ≤ d := by omega
  have hcnt : (dist (stT n e) < far → cntU (sn (setF dist (stT n e) d)) N = cntU (sn dist) N) ∧ (¬ dist (stT n e) < far → cntU (sn (setF dist (stT n e) d)) N + 1 = cntU (sn dist) N) := by
    have hs : sn (setF dist (stT n e) d) = setF (sn dist) (stT n e) true := by
      funext v
      by_cases hv : v = stT n e
      · subst hv; rw [setF_same]; unfold sn; rw [setF_same]; exact decide_eq_true (by omega)
      · rw [setF_ne hv]; unfold sn; rw [setF_ne hv]
    refine ⟨fun hh => ?_, fun hh => ?_⟩
    · have : setF (sn dist) (stT n e) true = sn dist := by
        funext v
        by_cases hv : v = stT n e
        · subst hv; rw [setF_same]; exact (sn_iff.2 hh).symm
        · rw [setF_ne hv]
      rw [hs, this]
    · rw [hs]
      exact cntU_set (sn dist) (stT n e) h4.1 (by simp [sn, hh]) N (by have := h4.2; omega)
  have hcapT : d + p (stT n e) + 1000 * cntU (sn (setF dist (stT n e) d)) N ≤ 1000 * N := by
    by_cases hh : dist (stT n e) < far
    · have := h.cap _ hh
      rw [hcnt.1 hh]; omega
    · have := h.cap _ h2
      have c := hcnt.2 hh
      have := hk e
      have e1 : d + p (stT n e) = dist (stF n e) + stC n e + p (stF n e) := by rw [← hd]; unfold rc; omega
      omega
  have hcle : cntU (sn (setF dist (stT n e) d)) N ≤ cntU (sn dist) N := by
    by_cases hh : dist (stT n e) < far
    · rw [hcnt.1 hh]; exact Nat.le_refl _
    · have := hcnt.2 hh; omega
  refine ⟨?_, fun v => ?_, fun v => Int.le_trans (hle v) (h.hi v), fun v hv => ?_, fun v hv => ?_, fun s hs => ?_, ?_, fun e' g1 g2 g3 => ?_⟩
  · rw [setF_ne hT.symm]; exact h.src
  · by_cases hv : v = stT n e
    · subst hv; rw [setF_same]; exact hd0
    · rw [setF_ne hv]; exact h.lo v
  · by_cases hvT : v = stT n e
    · subst hvT; rw [setF_same]; exact hcapT
    · rw [setF_ne hvT] at hv ⊢
      have := h.cap v hv
      omega
  · by_cases hvT : v = stT n e
    · subst hvT; exact h4
    · rw [setF_ne hvT] at hv; exact h.node v hv
  · rcases List.mem_cons.1 hs with rfl | hs
    · exact ⟨h4, by rw [setF_same]; exact Int.le_refl _, by simp only; omega⟩
    · obtain ⟨a1, a2, a3⟩ := h.qs s hs
      exact ⟨a1, Int.le_trans (hle _) a2, a3⟩
  · obtain ⟨τ, c, hc, hb⟩ := h.back
    refine ⟨setF τ (stT n e) c, c + 1, fun v => ?_, fun v hv hs => ?_⟩
    · by_cases hvT : v = stT n e
      · subst hvT; rw [setF_same]; omega
      · rw [setF_ne hvT]; have := hc v; omega
    · by_cases hvT : v = stT n e
      · subst hvT
        rw [setF_same, setF_same, setF_same, setF_ne hne, setF_ne hne]
        refine ⟨h1, rfl, h2, by omega, ?_⟩
        have := hc (stF n e)
        by_cases hx : dist (stF n e) < d
        · exact .inl hx
        · exact .inr ⟨by omega, this⟩
      · rw [setF_ne hvT] at hv
        rw [setF_ne hvT, setF_ne hvT, setF_ne hvT]
        obtain ⟨a1, a2, a3, a4, a5⟩ := hb v hv hs
        have hrv := hp _ a1
        by_cases hf : stF n (by_ v) = stT n e
        · rw [hf] at a3 a4 a5 ⊢
          rw [setF_same, setF_same]
          exact ⟨a1, a2, by omega, by omega, .inl (by omega)⟩
        · rw [setF_ne hf, setF_ne hf]
          exact ⟨a1, a2, a3, a4, a5⟩
  · by_cases hf : stF n e' = stT n e
    · rw [hf, setF_same] at g3
      exact absurd (List.mem_cons_self) g3
    · rw [setF_ne hf] at g2 g3 ⊢
      have := h.relax e' g1 g2 (fun hm => g3 (List.mem_cons_of_mem _ hm))
      exact Int.le_trans (hle _) this
theorem Dij.stale {n : Net} {fl : List Int} {p : Int → Int} {N : Nat} {dist : Int → Int} {by_ : Int → St} {s : Int × Int} {q : List (Int × Int)} (h : Dij n fl p N dist by_ (s :: q)) (hs : dist s.1 < s.2) : Dij n fl p N dist by_ q :=
  ⟨h.src, h.lo, h.hi, h.cap, h.node, fun x hx => h.qs x (by simp [hx]), h.back, fun e h1 h2 h3 => h.relax e h1 h2 (fun hm => by
    rcases List.mem_cons.1 hm with hh | hh
    · rw [← hh] at hs; simp only at hs; omega
    · exact h3 hh)⟩
theorem Dij.pop {n : Net} {fl : List Int} {p : Int → Int} {N : Nat} {dist : Int → Int} {by_ : Int → St} {s : Int × Int} {q : List (Int × Int)} (h : Dij n fl p N dist by_ (s :: q)) (hu : ∀ e, 0 < room n fl e → stF n e = s.1 → dist (stT n e) ≤ dist (stF n e) + rc n p e) : Dij n fl p N dist by_ q :=
  ⟨h.src, h.lo, h.hi, h.cap, h.node, fun x hx => h.qs x (by simp [hx]), h.back, fun e h1 h2 h3 => by
    by_cases hf : stF n e = s.1
    · exact hu e h1 hf
    · exact h.relax e h1 h2 (fun hm => by
        rcases List.mem_cons.1 hm with hh | hh
        · exact hf (by rw [← hh])
        · exact h3 hh)⟩
theorem Dij.start {n : Net} (hV : n.Valid) {N : Nat} (hN : n.nodes = N) (fl : List Int) {p : Int → Int} (hp : p n.src = 0) (by_ : Int → St) : Dij n fl p N (setF (fun _ => far) n.src 0) by_ [(n.src, 0)] := by
  have only : ∀ v, setF (fun _ => far) n.src 0 v < far → v = n.src := fun v hv => by
    by_cases h : v = n.src
    · exact h
    · rw [setF_ne h] at hv; omega
  have h0 : setF (fun _ => far) n.src (0 : Int) n.src = 0 := setF_same
  refine ⟨h0, fun v => ?_, fun v => ?_, fun v hv => ?_, fun v hv => by rw [only v hv]; exact hV.src, fun s hs => ?_, ⟨fun _ => 0, 1, by simp, fun v hv hs => absurd (only v hv) hs⟩, fun e g1 g2 g3 => ?_⟩
  · by_cases h : v = n.src
    · subst h; rw [h0]; exact Int.le_refl _
    · rw [setF_ne h]; decide
  · by_cases h : v = n.src
    · subst h; rw [h0]; decide
    · rw [setF_ne h]; exact Int.le_refl _
  · rw [only v hv, h0, hp]
    have := cntU_le (sn (setF (fun _ => far) n.src 0)) N
    omega
  · simp at hs; subst hs; simp only; rw [h0]; exact ⟨hV.src, Int.le_refl _, by decide⟩
  · exact absurd (by simp [only _ g2, h0]) g3
theorem Dij.reached {n : Net} {fl : List Int} {p : Int → Int} {N : Nat} {dist : Int → Int} {by_ : Int → St} (h : Dij n fl p N dist by_ []) (hN : N ≤ 700) (hp0 : ∀ v, 0 ≤ p v) (hk : ∀ e, stC n e ≤ 1000) (hpm : ∀ v, p v ≤ 1000000) : Reached n fl (sn dist) by_ := by
  refine ⟨sn_iff.2 (by rw [h.src]; decide), ?_, fun e h1 h2 => ?_⟩
  · obtain ⟨τ, c, hc, hb⟩ := h.back
    refine ⟨fun v => (dist v).toNat * (c + 1) + τ v, fun v hv hs => ?_⟩
    obtain ⟨a1, a2, a3, a4, a5⟩ := hb v (sn_iff.1 hv) hs
    refine ⟨a1, a2, sn_iff.2 a3, ?_⟩
    have l1 := h.lo v
    have l2 := h.lo (stF n (by_ v))
    have t1 := hc (stF n (by_ v))
    show (dist (stF n (by_ v))).toNat * (c + 1) + τ (stF n (by_ v)) < (dist v).toNat * (c + 1) + τ v
    rcases a5 with a5 | ⟨a5, a6⟩
    · have : (dist (stF n (by_ v))).toNat + 1 ≤ (dist v).toNat := by omega
      have := Nat.mul_le_mul_right (c + 1) this
      rw [Nat.add_mul] at this
      omega
    · rw [a5]; omega
  · have h2' := sn_iff.1 h2
    have := h.relax e h1 h2' (by simp)
    have c := h.cap _ h2'
    have k := hk e
    have a := hp0 (stF n e)
    have b := hp0 (stT n e)
    have b' := hpm (stF n e)
    refine sn_iff.2 ?_
    unfold rc at this
    unfold far
    omega
/-- the potentials after a search -/
def newP (p dist : Int → Int) (D : Int) : Int → Int := fun v => p v + (if dist v < D then dist v else D)
theorem Dij.newOpt {n : Net} {fl : List Int} {p : Int → Int} {N : Nat} {dist : Int → Int} {by_ : Int → St} (h : Dij n fl p N dist by_ []) (hp : Opt n fl p) {D : Int} (hD : D < far) : Opt n fl (newP p dist D) := by
  intro e he
  have h1 := hp e he
  have h2 := h.relax e he
  unfold rc at h1 h2 ⊢
  unfold newP
  by_cases hf : dist (stF n e) < far
  · have := h2 hf (by simp)
    split <;> split <;> omega
  · split <;> split <;> omega
theorem Dij.tight {n : Net} {fl : List Int} {p : Int → Int} {N : Nat} {dist : Int → Int} {by_ : Int → St} (h : Dij n fl p N dist by_ []) (hp : Opt n fl p) {D : Int} (hD : D < far) : ∀ {l : List St} {x : Int}, Path n by_ x l → dist x ≤ D → ∀ e ∈ l, rc n (newP p dist D) e = 0
  | [], _, _, _, e, he => by simp at he
  | e0 :: l, x, hpa, hx, e, he => by
    cases hpa with
    | cons hxs ht hpa =>
      obtain ⟨τ, c, hc, hb⟩ := h.back
      obtain ⟨a1, a2, a3, a4, a5⟩ := hb x (by omega) hxs
      have hr := hp _ a1
      have hrel := h.relax _ a1 a3 (by simp)
      rw [a2] at hrel
      rcases List.mem_cons.1 he with rfl | he
      · unfold rc at hr hrel a4 ⊢
        rw [a2] at hr hrel a4 ⊢
        unfold newP
        split <;> split <;> omega
      · exact h.tight hp hD hpa (by omega) e he
theorem rc_same {n : Net} {p : Int → Int} {e e' : St} (h : e'.1 = e.1) (h0 : rc n p e = 0) : rc n p e' = 0 := by
  obtain ⟨i, b⟩ := e
  obtain ⟨j, b'⟩ := e'
  simp only at h; subst h
  cases ha : n.arcs[j]? with
  | none => simp [rc, stC, stF, stT, ha]
  | some a =>
    cases b <;> cases b' <;> simp only [rc_fwd ha, rc_bwd ha] at h0 ⊢ <;> omega
theorem pushAll_other {n : Net} {d : Int} {e' : St} : ∀ {l : List St} {fl : List Int}, (∀ e ∈ l, e'.1 ≠ e.1) → room n (pushAll fl l d) e' = room n fl e'
  | [], _, _ => rfl
  | e :: l, fl, h => by
    have := pushAll_other (n := n) (d := d) (e' := e') (l := l) (fl := push fl e d) (fun x hx => h x (by simp [hx]))
    simp only [pushAll, List.foldl_cons] at this ⊢
    rw [this, push_other (h e (by simp))]
theorem Opt.push {n : Net} {fl : List Int} {p : Int → Int} (h : Opt n fl p) {l : List St} (hl : ∀ e ∈ l, rc n p e = 0) (d : Int) : Opt n (pushAll fl l d) p := by
  intro e' he'
  by_cases hm : ∃ e ∈ l, e'.1 = e.1
  · obtain ⟨e, he, hh⟩ := hm
    rw [rc_same hh (hl e he)]; exact Int.le_refl _
  · rw [pushAll_other (fun e he hh => hm ⟨e, he, hh⟩)] at he'
    exact h e' he'
/-! a measure of the distances -/
def sumN (g : Int → Nat) : Nat → Nat
  | 0 => 0
  | k + 1 => sumN g k + g k
theorem sumN_out (g : Int → Nat) (x : Int) (c : Nat) : ∀ k : Nat, (k : Int) ≤ x → sumN (setF g x c) k = sumN g k
  | 0, _ => rfl
  | k + 1, h => by simp only [sumN, sumN_out g x c k (by omega), setF_ne (show (k : Int) ≠ x by omega)]
theorem sumN_set (g : Int → Nat) (x : Int) (c : Nat) (h0 : 0 ≤ x) : ∀ k : Nat, x < k → sumN (setF g x c) k + g x = sumN g k + c
  | 0, h => by omega
  | k + 1, h => by
    by_cases hk : x = k
    · subst hk
      simp only [sumN, sumN_out g k c k (Int.le_refl _), setF_same]; omega
    · have := sumN_set g x c h0 k (by omega)
      simp only [sumN, setF_ne (show (k : Int) ≠ x by omega)]; omega
theorem sumN_le (g : Int → Nat) (M : Nat) (h : ∀ x, g x ≤ M) : ∀ k, sumN g k ≤ k * M
  | 0 => by simp [sumN]
  | k + 1 => by have := sumN_le g M h k; have := h k; simp only [sumN, Nat.add_mul]; omega
def capD (dist : Int → Int) : Int → Nat := fun v => min (dist v).toNat 700001
theorem capD_set (dist : Int → Int) (x d : Int) : capD (setF dist x d) = setF (capD dist) x (min d.toNat 700001) := by
  funext v
  by_cases h : v = x
  · subst h; simp only [capD, setF_same]
  · simp only [capD, setF_ne h]
theorem capD_add {dist : Int → Int} {N : Nat} {x d : Int} (h0 : 0 ≤ x) (hx : x < N) (hd : 0 ≤ d) (h1 : d < dist x) (h2 : d ≤ 700000) : sumN (capD (setF dist x d)) N + 1 ≤ sumN (capD dist) N := by
  rw [capD_set]
  have := sumN_set (capD dist) x (min d.toNat 700001) h0 N hx
  have e : min d.toNat 700001 + 1 ≤ capD dist x := by unfold capD; omega
  omega
theorem capD_le (dist : Int → Int) (N : Nat) : sumN (capD dist) N ≤ N * 700001 := sumN_le _ _ (fun x => by unfold capD; omega) N
end Go.Nets
