/-
  Networks, flows and cuts in plain Lean: weak duality, residual steps, augmenting along a path.
-/
import Derived.Test.YtapnkfkpkcajjaaFwZ
namespace Go.Nets
set_option linter.unusedSimpArgs false
set_option linter.unusedVariables false

structure Arc where
  f : Int
  t : Int
  c : Int
  k : Int
structure Net where
  nodes : Int
  src : Int
  snk : Int
  arcs : List Arc
def Net.node (n : Net) (x : Int) : Prop := 0 ≤ x ∧ x < n.nodes
def Net.okArc (n : Net) (a : Arc) : Prop := n.node a.f ∧ n.node a.t ∧ 0 ≤ a.c ∧ a.c ≤ 2147483647
structure Net.Valid (n : Net) : Prop where
  n2 : 2 ≤ n.nodes
  n7 : n.nodes ≤ 700
  al : n.arcs.length ≤ 2500
  src : n.node n.src
  snk : n.node n.snk
  ne : n.src ≠ n.snk
  arc : ∀ a ∈ n.arcs, n.okArc a

def pt (y x φ : Int) : Int := if y = x then φ else 0
def netAt : List Arc → List Int → Int → Int
  | a :: as, φ :: fs, x => pt a.f x φ - pt a.t x φ + netAt as fs x
  | _, _, _ => 0
def Bnd (n : Net) (fl : List Int) : Prop := fl.length = n.arcs.length ∧ ∀ (i : Nat) (a : Arc) (φ : Int), n.arcs[i]? = some a → fl[i]? = some φ → 0 ≤ φ ∧ φ ≤ a.c
structure IsFlow (n : Net) (fl : List Int) : Prop where
  bnd : Bnd n fl
  con : ∀ x, n.node x → x ≠ n.src → x ≠ n.snk → netAt n.arcs fl x = 0
def value (n : Net) (fl : List Int) : Int := netAt n.arcs fl n.src

def capOf : List Arc → (Int → Bool) → Int
  | a :: as, s => (if s a.f = true ∧ s a.t = false then a.c else 0) + capOf as s
  | [], _ => 0
def cross : List Arc → List Int → (Int → Bool) → Int
  | a :: as, φ :: fs, s => (if s a.f = true then φ else 0) - (if s a.t = true then φ else 0) + cross as fs s
  | _, _, _ => 0
def sumS (s : Int → Bool) (g : Int → Int) : Nat → Int
  | 0 => 0
  | k + 1 => sumS s g k + (if s k = true then g k else 0)

theorem sumS_add (s : Int → Bool) (g h : Int → Int) : ∀ k, sumS s (fun x => g x + h x) k = sumS s g k + sumS s h k
  | 0 => rfl
  | k + 1 => by
    simp only [sumS, sumS_add s g h k]
    split <;> omega
theorem sumS_zero (s : Int → Bool) : ∀ k, sumS s (fun _ => 0) k = 0
  | 0 => rfl
  | k + 1 => by simp [sumS, sumS_zero s k]
theorem sumS_pt_out (s : Int → Bool) (y φ : Int) : ∀ k : Nat, (k : Int) ≤ y → sumS s (fun x => pt y x φ) k = 0
  | 0, _ => rfl
  | k + 1, h => by
    have := sumS_pt_out s y φ k (by omega)
    have e : pt y k φ = 0 := if_neg (by omega : ¬ y = (k : Int))
    rw [sumS, this, e]
    split <;> rfl
theorem sumS_pt (s : Int → Bool) (y φ : Int) (h0 : 0 ≤ y) : ∀ k : Nat, y < k → sumS s (fun x => pt y x φ) k = if s y = true then φ else 0
  | 0, h => by omega
  | k + 1, h => by
    by_cases hy : y = k
    · subst hy
      have e : pt k k φ = φ := if_pos rfl
      rw [sumS, sumS_pt_out s (k : Int) φ k (Int.le_refl _), e]
      split <;> omega
    · have e : pt y k φ = 0 := if_neg hy
      rw [sumS, sumS_pt s y φ h0 k (by omega), e]
      split <;> split <;> omega
theorem pt_sub (y x φ : Int) : pt y x (-φ) = - pt y x φ := by unfold pt; split <;> omega
theorem sumS_netAt (s : Int → Bool) (N : Nat) : ∀ (as : List Arc) (fs : List Int), (∀ a ∈ as, (0 ≤ a.f ∧ a.f < N) ∧ (0 ≤ a.t ∧ a.t < N)) → sumS s (netAt as fs) N = cross as fs s
  | [], fs, _ => by
    have : netAt [] fs = fun _ => 0 := by funext x; simp [netAt]
    rw [this, sumS_zero]; simp [cross]
  | a :: as, [], _ => by
    have : netAt (a :: as) [] = fun _ => 0 := by funext x; simp [netAt]
    rw [this, sumS_zero]; simp [cross]
  | a :: as, φ :: fs, h => by
    have e : netAt (a :: as) (φ :: fs) = fun x => (pt a.f x φ + pt a.t x (-φ)) + netAt as fs x := by
      funext x; simp only [netAt, pt_sub]; omega
    obtain ⟨h1, h2⟩ := h a (by simp)
    rw [e, sumS_add, sumS_add, sumS_pt s _ _ h1.1 N h1.2, sumS_pt s _ _ h2.1 N h2.2, sumS_netAt s N as fs (fun b hb => h b (by simp [hb]))]
    simp only [cross]
    split <;> split <;> omega
theorem sumS_below (s : Int → Bool) (g : Int → Int) (N : Nat) (y : Int) (hg : ∀ x : Int, 0 ≤ x → x < N → s x = true → x ≠ y → g x = 0) : ∀ k : Nat, k ≤ N → (k : Int) ≤ y → sumS s g k = 0
  | 0, _, _ => rfl
  | k + 1, hk, hy => by
    simp only [sumS, sumS_below s g N y hg k (by omega) (by omega)]
    split
    · rename_i h; rw [hg k (by omega) (by omega) h (by omega)]; rfl
    · rfl
theorem sumS_single (s : Int → Bool) (g : Int → Int) (N : Nat) (y : Int) (h0 : 0 ≤ y) (hs : s y = true) (hg : ∀ x : Int, 0 ≤ x → x < N → s x = true → x ≠ y → g x = 0) : ∀ k : Nat, k ≤ N → y < k → sumS s g k = g y
  | 0, _, h => by omega
  | k + 1, hk, h => by
    by_cases hy : y = k
    · subst hy
      simp only [sumS, sumS_below s g N k hg k (by omega) (Int.le_refl _), hs, if_true]; omega
    · simp only [sumS, sumS_single s g N y h0 hs hg k (by omega) (by omega)]
      split
      · rename_i h'; rw [hg k (by omega) (by omega) h' (fun e => hy e.symm)]; omega
      · omega

theorem Net.Valid.ends {n : Net} (h : n.Valid) : ∀ a ∈ n.arcs, (0 ≤ a.f ∧ a.f < (n.nodes.toNat : Int)) ∧ (0 ≤ a.t ∧ a.t < (n.nodes.toNat : Int)) := by
  intro a ha
  obtain ⟨⟨h1, h2⟩, ⟨h3, h4⟩, _⟩ := h.arc a ha
  have := h.n2
  omega
/-- the value is what crosses a cut -/
theorem value_cross {n : Net} (h : n.Valid) {fl : List Int} (hf : IsFlow n fl) {s : Int → Bool} (h1 : s n.src = true) (h2 : s n.snk = false) : value n fl = cross n.arcs fl s := by
  have hn := h.n2
  have hs := h.src
  unfold Net.node at hs
  rw [← sumS_netAt s n.nodes.toNat n.arcs fl h.ends]
  exact (sumS_single s (netAt n.arcs fl) n.nodes.toNat n.src (by omega) h1 (fun x x0 xn sx xs => hf.con x ⟨x0, by omega⟩ xs (fun e => by rw [e, h2] at sx; cases sx)) n.nodes.toNat (Nat.le_refl _) (by omega)).symm
theorem cross_le {s : Int → Bool} : ∀ (as : List Arc) (fs : List Int), (∀ (i : Nat) a φ, as[i]? = some a → fs[i]? = some φ → 0 ≤ φ ∧ φ ≤ a.c) → (∀ a ∈ as, 0 ≤ a.c) → cross as fs s ≤ capOf as s
  | [], fs, _, _ => by simp [cross, capOf]
  | a :: as, [], _, hc => by
    have : ∀ l : List Arc, (∀ a ∈ l, 0 ≤ a.c) → 0 ≤ capOf l s := by
      intro l
      induction l with
      | nil => intro _; simp [capOf]
      | cons b l ih => intro h; have := ih (fun x hx => h x (by simp [hx])); have := h b (by simp); simp only [capOf]; split <;> omega
    simp only [cross]; exact this _ hc
  | a :: as, φ :: fs, h, hc => by
    have h0 := h 0 a φ rfl rfl
    have := cross_le (s := s) as fs (fun i a φ ha hφ => h (i + 1) a φ (by simpa using ha) (by simpa using hφ)) (fun a ha => hc a (by simp [ha]))
    simp only [cross, capOf]
    cases s a.f <;> cases s a.t <;> simp <;> omega
theorem cross_eq {s : Int → Bool} : ∀ (as : List Arc) (fs : List Int), fs.length = as.length → (∀ (i : Nat) a φ, as[i]? = some a → fs[i]? = some φ → (s a.f = true → s a.t = false → φ = a.c) ∧ (s a.f = false → s a.t = true → φ = 0)) → cross as fs s = capOf as s
  | [], fs, _, _ => by simp [cross, capOf]
  | a :: as, [], hl, _ => by simp at hl
  | a :: as, φ :: fs, hl, h => by
    have h0 := h 0 a φ rfl rfl
    have := cross_eq (s := s) as fs (by simpa using hl) (fun i a φ ha hφ => h (i + 1) a φ (by simpa using ha) (by simpa using hφ))
    simp only [cross, capOf]
    cases hf : s a.f <;> cases ht : s a.t <;> simp [hf, ht] at h0 ⊢ <;> omega
theorem weak {n : Net} (h : n.Valid) {fl : List Int} (hf : IsFlow n fl) {s : Int → Bool} (h1 : s n.src = true) (h2 : s n.snk = false) : value n fl ≤ capOf n.arcs s := by
  rw [value_cross h hf h1 h2]
  exact cross_le _ _ hf.bnd.2 (fun a ha => (h.arc a ha).2.2.1)
theorem tight {n : Net} (h : n.Valid) {fl : List Int} (hf : IsFlow n fl) {s : Int → Bool} (h1 : s n.src = true) (h2 : s n.snk = false)
    (ht : ∀ (i : Nat) a φ, n.arcs[i]? = some a → fl[i]? = some φ → (s a.f = true → s a.t = false → φ = a.c) ∧ (s a.f = false → s a.t = true → φ = 0)) : value n fl = capOf n.arcs s := by
  rw [value_cross h hf h1 h2]
  exact cross_eq _ _ hf.bnd.1 ht
theorem capOf_le {s : Int → Bool} : ∀ (as : List Arc), (∀ a ∈ as, 0 ≤ a.c ∧ a.c ≤ 2147483647) → 0 ≤ capOf as s ∧ capOf as s ≤ as.length * 2147483647
  | [], _ => by simp [capOf]
  | a :: as, h => by
    have h0 := h a (by simp)
    have := capOf_le (s := s) as (fun b hb => h b (by simp [hb]))
    simp only [capOf, List.length_cons, Int.natCast_add, Int.add_mul]
    split <;> omega
/-- no flow is greater than this -/
theorem value_le {n : Net} (h : n.Valid) {fl : List Int} (hf : IsFlow n fl) : value n fl ≤ 5368709117500 := by
  have h1 := weak h hf (s := fun x => decide (x = n.src)) (by simp) (by have := h.ne; simp; omega)
  have h2 := (capOf_le (s := fun x => decide (x = n.src)) n.arcs (fun a ha => (h.arc a ha).2.2)).2
  have h3 := h.al
  have : (n.arcs.length : Int) * 2147483647 ≤ 2500 * 2147483647 := Int.mul_le_mul_of_nonneg_right (by omega) (by omega)
  omega

/-! residual steps -/
abbrev St := Nat × Bool
def stF (n : Net) (e : St) : Int := match n.arcs[e.1]? with | some a => if e.2 then a.f else a.t | none => -1
def stT (n : Net) (e : St) : Int := match n.arcs[e.1]? with | some a => if e.2 then a.t else a.f | none => -1
def room (n : Net) (fl : List Int) (e : St) : Int := match n.arcs[e.1]?, fl[e.1]? with | some a, some φ => if e.2 then a.c - φ else φ | _, _ => 0
theorem room_pos {n : Net} {fl : List Int} {e : St} (h : 0 < room n fl e) : ∃ a φ, n.arcs[e.1]? = some a ∧ fl[e.1]? = some φ := by
  unfold room at h
  split at h
  · rename_i a φ h1 h2; exact ⟨a, φ, h1, h2⟩
  · omega

/-- what a search from the source has found -/
structure Reached (n : Net) (fl : List Int) (seen : Int → Bool) (by_ : Int → St) : Prop where
  src : seen n.src = true
  back : ∃ rank : Int → Nat, ∀ x, seen x = true → x ≠ n.src → 0 < room n fl (by_ x) ∧ stT n (by_ x) = x ∧ seen (stF n (by_ x)) = true ∧ rank (stF n (by_ x)) < rank x
  closed : ∀ e, 0 < room n fl e → seen (stF n e) = true → seen (stT n e) = true

/-- where the sink is not reached, the flow is a greatest one and the nodes that are reached are a least cut -/
theorem Reached.opt {n : Net} (hV : n.Valid) {fl : List Int} (hf : IsFlow n fl) {seen : Int → Bool} {by_ : Int → St} (h : Reached n fl seen by_) (hs : seen n.snk = false) : value n fl = capOf n.arcs seen := by
  refine tight hV hf h.src hs fun i a φ ha hφ => ?_
  have hb := hf.bnd.2 i a φ ha hφ
  refine ⟨fun h1 h2 => ?_, fun h1 h2 => ?_⟩
  · have := h.closed (i, true)
    simp only [room, stF, stT, ha, hφ, if_true] at this
    by_cases hr : 0 < a.c - φ
    · rw [this hr h1] at h2; cases h2
    · omega
  · have := h.closed (i, false)
    simp only [room, stF, stT, ha, hφ] at this
    by_cases hr : 0 < φ
    · have := this (by simpa using hr) (by simpa using h2)
      simp at this; rw [this] at h1; cases h1
    · omega

/-- the way back to the source -/
inductive Path (n : Net) (by_ : Int → St) : Int → List St → Prop
  | src : Path n by_ n.src []
  | cons {x : Int} {l : List St} (hx : x ≠ n.src) (ht : stT n (by_ x) = x) (h : Path n by_ (stF n (by_ x)) l) : Path n by_ x (by_ x :: l)
theorem Reached.path {n : Net} {fl : List Int} {seen : Int → Bool} {by_ : Int → St} (h : Reached n fl seen by_) {x : Int} (hx : seen x = true) :
    ∃ l, Path n by_ x l ∧ (∀ e ∈ l, 0 < room n fl e) ∧ (l.map Prod.fst).Nodup := by
  obtain ⟨rank, hr⟩ := h.back
  have main : ∀ (k : Nat) (x : Int), rank x ≤ k → seen x = true → ∃ l, Path n by_ x l ∧ (∀ e ∈ l, 0 < room n fl e) ∧ (l.map Prod.fst).Nodup ∧ ∀ e ∈ l, rank (stT n e) ≤ rank x ∧ rank (stF n e) < rank (stT n e) := by
    intro k
    induction k with
    | zero =>
      intro x hk hx
      by_cases hs : x = n.src
      · subst hs; exact ⟨[], .src, by simp, by simp, by simp⟩
      · obtain ⟨_, _, _, h4⟩ := hr x hx hs; omega
    | succ k ih =>
      intro x hk hx
      by_cases hs : x = n.src
      · subst hs; exact ⟨[], .src, by simp, by simp, by simp⟩
      · obtain ⟨h1, h2, h3, h4⟩ := hr x hx hs
        obtain ⟨l, g1, g2, g3, g4⟩ := ih _ (by omega) h3
        refine ⟨by_ x :: l, .cons hs h2 g1, ?_, ?_, ?_⟩
        · intro e he
          rcases List.mem_cons.1 he with rfl | he
          · exact h1
          · exact g2 e he
        · simp only [List.map_cons, List.nodup_cons]
          refine ⟨fun hm => ?_, g3⟩
          obtain ⟨e, he, hee⟩ := List.mem_map.1 hm
          obtain ⟨q1, q2⟩ := g4 e he
          have hends : stT n e = x ∨ stF n e = x := by
            rw [← h2]
            unfold stT stF
            rw [hee]
            obtain ⟨a, φ, ha, _⟩ := room_pos h1
            rw [ha]
            cases e.2 <;> cases (by_ x).2 <;> simp
          rcases hends with e1 | e1
          · rw [e1] at q1; omega
          · rw [e1] at q2; omega
        · intro e he
          rcases List.mem_cons.1 he with rfl | he
          · rw [h2]; exact ⟨Nat.le_refl _, h4⟩
          · obtain ⟨q1, q2⟩ := g4 e he
            exact ⟨by omega, q2⟩
  obtain ⟨l, g1, g2, g3, _⟩ := main _ x (Nat.le_refl _) hx
  exact ⟨l, g1, g2, g3⟩

/-! sending along a path -/
def push (fl : List Int) (e : St) (d : Int) : List Int := match fl[e.1]? with | some φ => fl.set e.1 (if e.2 then φ + d else φ - d) | none => fl
def pushAll (fl : List Int) (l : List St) (d : Int) : List Int := l.foldl (fun fl e => push fl e d) fl
theorem netAt_set : ∀ (as : List Arc) (fs : List Int) (i : Nat) (a : Arc) (φ ψ x : Int), as[i]? = some a → fs[i]? = some φ → netAt as (fs.set i ψ) x = netAt as fs x + pt a.f x (ψ - φ) - pt a.t x (ψ - φ)
  | [], _, _, _, _, _, _, h, _ => by simp at h
  | _ :: _, [], _, _, _, _, _, _, h => by simp at h
  | b :: as, χ :: fs, 0, a, φ, ψ, x, h1, h2 => by
    simp at h1 h2; subst h1; subst h2
    simp only [List.set_cons_zero, netAt, pt]
    split <;> split <;> omega
  | b :: as, χ :: fs, i + 1, a, φ, ψ, x, h1, h2 => by
    have := netAt_set as fs i a φ ψ x (by simpa using h1) (by simpa using h2)
    simp only [List.set_cons_succ, netAt, this]; omega
theorem push_net {n : Net} {fl : List Int} {e : St} (h : 0 < room n fl e) (d x : Int) : netAt n.arcs (push fl e d) x = netAt n.arcs fl x + pt (stF n e) x d - pt (stT n e) x d := by
  obtain ⟨a, φ, ha, hφ⟩ := room_pos h
  unfold push stF stT
  simp only [ha, hφ]
  rw [netAt_set _ _ _ a φ _ x ha hφ]
  cases e.2
  · simp only [Bool.false_eq_true, if_false]
    have : φ - d - φ = -d := by omega
    rw [this, pt_sub, pt_sub]; omega
  · simp only [if_true]
    have : φ + d - φ = d := by omega
    rw [this]
theorem push_len {fl : List Int} {e : St} {d : Int} : (push fl e d).length = fl.length := by
  unfold push; split <;> simp
theorem push_other {n : Net} {fl : List Int} {e e' : St} (h : e'.1 ≠ e.1) (d : Int) : room n (push fl e d) e' = room n fl e' := by
  have : (push fl e d)[e'.1]? = fl[e'.1]? := by
    unfold push
    split
    · rw [List.getElem?_set_ne (Ne.symm h)]
    · rfl
  unfold room
  rw [this]
theorem push_bnd {n : Net} {fl : List Int} {e : St} {d : Int} (hb : Bnd n fl) (h0 : 0 < room n fl e) (hd : 0 ≤ d) (h1 : d ≤ room n fl e) : Bnd n (push fl e d) := by
  refine ⟨by rw [push_len, hb.1], fun i a φ ha hφ => ?_⟩
  obtain ⟨b, ψ, hb1, hb2⟩ := room_pos h0
  unfold room at h1
  unfold push at hφ
  simp only [hb1, hb2] at h1 hφ
  rw [List.getElem?_set] at hφ
  split at hφ
  · rename_i hi
    subst hi
    rw [hb1] at ha; cases ha
    have := hb.2 _ _ _ hb1 hb2
    split at hφ
    · cases hφ
      cases he : e.2 <;> simp [he] at h1 ⊢ <;> omega
    · cases hφ
  · exact hb.2 i a φ ha hφ
theorem pushAll_spec {n : Net} {by_ : Int → St} {d : Int} (hd : 0 ≤ d) : ∀ {l : List St} {x : Int} {fl : List Int}, Path n by_ x l → Bnd n fl → (∀ e ∈ l, 0 < room n fl e ∧ d ≤ room n fl e) → (l.map Prod.fst).Nodup →
    Bnd n (pushAll fl l d) ∧ ∀ y, netAt n.arcs (pushAll fl l d) y = netAt n.arcs fl y + pt n.src y d - pt x y d
  | [], x, fl, hp, hb, hr, hn => by
    cases hp
    exact ⟨hb, fun y => by simp only [pushAll, List.foldl_nil]; omega⟩
  | e :: l, x, fl, hp, hb, hr, hn => by
    cases hp with
    | cons hx ht hp =>
      simp only [List.map_cons, List.nodup_cons] at hn
      obtain ⟨r1, r2⟩ := hr (by_ x) (by simp)
      have hb2 := push_bnd hb r1 hd r2
      have hr2 : ∀ e ∈ l, 0 < room n (push fl (by_ x) d) e ∧ d ≤ room n (push fl (by_ x) d) e := by
        intro e he
        rw [push_other (fun h => hn.1 (List.mem_map.2 ⟨e, he, h⟩))]
        exact hr e (by simp [he])
      obtain ⟨g1, g2⟩ := pushAll_spec hd hp hb2 hr2 hn.2
      refine ⟨g1, fun y => ?_⟩
      have := g2 y
      rw [push_net r1, ht] at this
      simp only [pushAll, List.foldl_cons] at this ⊢
      rw [this]; omega
/-- a flow with an augmenting path is augmented -/
theorem augmented {n : Net} (hV : n.Valid) {fl : List Int} (hf : IsFlow n fl) {by_ : Int → St} {l : List St} (hp : Path n by_ n.snk l) {d : Int} (hd : 0 ≤ d) (hr : ∀ e ∈ l, 0 < room n fl e ∧ d ≤ room n fl e) (hn : (l.map Prod.fst).Nodup) :
    IsFlow n (pushAll fl l d) ∧ value n (pushAll fl l d) = value n fl + d := by
  obtain ⟨g1, g2⟩ := pushAll_spec hd hp hf.bnd hr hn
  refine ⟨⟨g1, fun x hx h1 h2 => ?_⟩, ?_⟩
  · rw [g2, hf.con x hx h1 h2]
    simp only [pt]
    rw [if_neg (Ne.symm h1), if_neg (Ne.symm h2)]; rfl
  · unfold value
    rw [g2]
    simp only [pt, if_true]
    rw [if_neg (Ne.symm hV.ne)]; omega
theorem zero_flow {n : Net} (hV : n.Valid) : IsFlow n (List.replicate n.arcs.length 0) ∧ value n (List.replicate n.arcs.length 0) = 0 := by
  have hz : ∀ (as : List Arc) x, netAt as (List.replicate as.length 0) x = 0 := by
    intro as x
    induction as with
    | nil => rfl
    | cons a as ih => simp only [List.length_cons, List.replicate_succ, netAt, ih, pt]; split <;> split <;> rfl
  refine ⟨⟨⟨by simp, fun i a φ ha hφ => ?_⟩, fun x _ _ _ => hz _ x⟩, hz _ _⟩
  rw [List.getElem?_replicate] at hφ
  split at hφ
  · cases hφ; exact ⟨Int.le_refl _, (hV.arc a (List.mem_of_getElem? ha)).2.2.1⟩
  · cases hφ
end Go.Nets
