/-
  Changed networks, in plain Lean: one more unit, an arc less, all arcs turned; the numbers of the cuts.
-/
import Derived.Test.YtapnkfkpkcajjaaMfN
namespace Go.Proofs.Ytapnkfkpkcajjaa
open Go Go.DI Go.Nets
set_option linter.unusedSimpArgs false
set_option linter.unusedVariables false

/-- what a solution proves: its value is the capacity of a cut -/
def HasCut (n : Net) (V : Int) : Prop := (∃ fl, IsFlow n fl ∧ value n fl = V) ∧ ∃ s : Int → Bool, s n.src = true ∧ s n.snk = false ∧ capOf n.arcs s = V
theorem hasCut_of {n : Net} {fl : List Int} {cut : List Bool} (hf : IsFlow n fl) (h : capR n cut = (value n fl, true)) : HasCut n (value n fl) := by
  refine ⟨⟨fl, hf, rfl⟩, cutF cut, ?_⟩
  unfold capR at h
  split at h
  · rename_i hc
    simp only [Bool.and_eq_true, Bool.not_eq_true'] at hc
    exact ⟨hc.1.2, hc.2, by injection h⟩
  · simp at h
theorem HasCut.le {n : Net} (hV : n.Valid) {V : Int} (h : HasCut n V) {s : Int → Bool} (h1 : s n.src = true) (h2 : s n.snk = false) : V ≤ capOf n.arcs s := by
  obtain ⟨⟨fl, hf, rfl⟩, _⟩ := h
  exact weak hV hf h1 h2
theorem HasCut.unique {n : Net} (hV : n.Valid) {V W : Int} (h : HasCut n V) (h' : HasCut n W) : V = W := by
  obtain ⟨_, s, a1, a2, a3⟩ := id h
  obtain ⟨_, t, b1, b2, b3⟩ := id h'
  have := h.le hV b1 b2
  have := h'.le hV a1 a2
  omega
theorem HasCut.nonneg {n : Net} (hV : n.Valid) {V : Int} (h : HasCut n V) : 0 ≤ V ∧ V ≤ 5368709117500 := by
  obtain ⟨⟨fl, hf, hv⟩, s, h1, h2, h3⟩ := h
  have := value_le hV hf
  have := (capOf_le (s := s) n.arcs (fun a ha => (hV.arc a ha).2.2)).1
  omega
theorem capOf_app (s : Int → Bool) : ∀ (l k : List Arc), capOf (l ++ k) s = capOf l s + capOf k s
  | [], k => by simp [capOf]
  | a :: l, k => by simp only [List.cons_append, capOf, capOf_app s l k]; omega
theorem arcs_split {l : List Arc} {i : Nat} {a : Arc} (h : l[i]? = some a) : l = l.take i ++ a :: l.drop (i + 1) := by
  have hi := (List.getElem?_eq_some_iff.1 h).1
  have : l.drop i = a :: l.drop (i + 1) := by
    rw [List.drop_eq_getElem_cons hi]; rw [List.getElem?_eq_getElem hi] at h; cases h; rfl
  rw [← this, List.take_append_drop]
theorem arcs_set {l : List Arc} {i : Nat} {a b : Arc} (h : l[i]? = some a) : l.set i b = l.take i ++ b :: l.drop (i + 1) := by
  have hi := (List.getElem?_eq_some_iff.1 h).1
  rw [List.set_eq_take_append_cons_drop, if_pos hi]

/-- one arc has one unit more, or is taken away -/
theorem grows_law {n : Net} (hV : n.Valid) {i : Nat} {a : Arc} (ha : n.arcs[i]? = some a) {b : Arc} (hb : b.f = a.f ∧ b.t = a.t ∧ b.c = a.c + 1) {n1 n2 : Net} (h1 : n1 = ⟨n.nodes, n.src, n.snk, n.arcs.take i ++ b :: n.arcs.drop (i + 1)⟩) (h2 : n2 = ⟨n.nodes, n.src, n.snk, n.arcs.take i ++ n.arcs.drop (i + 1)⟩)
    (hV1 : n1.Valid) (hV2 : n2.Valid) {V W U : Int} (hv : HasCut n V) (hw : HasCut n1 W) (hu : HasCut n2 U) : (W = V ∨ W = V + 1) ∧ U ≤ V ∧ V ≤ U + a.c := by
  have hac := (hV.arc a (List.mem_of_getElem? ha)).2.2.1
  have split := arcs_split ha
  have c0 : ∀ s, capOf n.arcs s = capOf (n.arcs.take i) s + (if s a.f = true ∧ s a.t = false then a.c else 0) + capOf (n.arcs.drop (i + 1)) s := fun s => by
    conv => lhs; rw [split]
    rw [capOf_app]; simp only [capOf]; omega
  have c1 : ∀ s, capOf n1.arcs s = capOf (n.arcs.take i) s + (if s a.f = true ∧ s a.t = false then a.c + 1 else 0) + capOf (n.arcs.drop (i + 1)) s := fun s => by
    rw [h1, capOf_app]; simp only [capOf, hb.1, hb.2.1, hb.2.2]; omega
  have c2 : ∀ s, capOf n2.arcs s = capOf (n.arcs.take i) s + capOf (n.arcs.drop (i + 1)) s := fun s => by
    rw [h2, capOf_app]
  have e1 : n1.src = n.src ∧ n1.snk = n.snk := by rw [h1]; exact ⟨rfl, rfl⟩
  have e2 : n2.src = n.src ∧ n2.snk = n.snk := by rw [h2]; exact ⟨rfl, rfl⟩
  obtain ⟨_, s, s1, s2, s3⟩ := id hv
  obtain ⟨_, t, t1, t2, t3⟩ := id hw
  obtain ⟨_, u, u1, u2, u3⟩ := id hu
  rw [e1.1] at t1
  rw [e1.2] at t2
  rw [e2.1] at u1
  rw [e2.2] at u2
  have q1 := hv.le hV t1 t2
  have q2 := hw.le hV1 (s := s) (by rw [e1.1]; exact s1) (by rw [e1.2]; exact s2)
  have q3 := hv.le hV u1 u2
  have q4 := hu.le hV2 (s := s) (by rw [e2.1]; exact s1) (by rw [e2.2]; exact s2)
  rw [c0] at q1 q3 s3
  rw [c1] at q2 t3
  rw [c2] at q4 u3
  refine ⟨?_, ?_, ?_⟩
  · split at q1 <;> split at q2 <;> split at s3 <;> split at t3 <;> first | omega | (rename_i x1 x2; omega) | skip
    all_goals omega
  · split at s3 <;> omega
  · split at q3 <;> omega

def turnA (a : Arc) : Arc := ⟨a.t, a.f, a.c, 0⟩
theorem capOf_turn {s t : Int → Bool} (h : ∀ x, t x = !s x) : ∀ (l : List Arc), capOf (l.map turnA) t = capOf l s
  | [] => rfl
  | a :: l => by
    simp only [List.map_cons, capOf, capOf_turn h l, turnA, h]
    cases s a.f <;> cases s a.t <;> simp
theorem capOf_rev (s : Int → Bool) : ∀ (l : List Arc), capOf l.reverse s = capOf l s
  | [] => rfl
  | a :: l => by rw [List.reverse_cons, capOf_app, capOf_rev s l]; simp only [capOf]; omega
theorem turned_valid {n : Net} (hV : n.Valid) : (⟨n.nodes, n.snk, n.src, (n.arcs.reverse.map turnA)⟩ : Net).Valid := by
  refine ⟨hV.n2, hV.n7, by simpa using hV.al, hV.snk, hV.src, fun h => hV.ne h.symm, fun a ha => ?_⟩
  simp only [List.mem_map, List.mem_reverse] at ha
  obtain ⟨b, hb, rfl⟩ := ha
  obtain ⟨h1, h2, h3, h4⟩ := hV.arc b hb
  exact ⟨h2, h1, h3, h4⟩
theorem turned_law {n : Net} (hV : n.Valid) {V W : Int} (hv : HasCut n V) (hw : HasCut (⟨n.nodes, n.snk, n.src, (n.arcs.reverse.map turnA)⟩ : Net) W) : V = W := by
  obtain ⟨_, s, s1, s2, s3⟩ := id hv
  obtain ⟨_, t, t1, t2, t3⟩ := id hw
  simp only at t1 t2 t3
  have key : ∀ s : Int → Bool, capOf (n.arcs.reverse.map turnA) (fun x => !s x) = capOf n.arcs s := fun s => by
    rw [capOf_turn (fun x => rfl), capOf_rev]
  have q1 := hv.le hV (s := fun x => !t x) (by simp [t2]) (by simp [t1])
  have q2 := hw.le (turned_valid hV) (s := fun x => !s x) (by simp [s2]) (by simp [s1])
  simp only at q2
  rw [key] at q2
  have e : capOf n.arcs (fun x => !t x) = W := by
    rw [← key, ← t3]
    simp
  omega

/-! the numbers of the cuts -/
def cutS (N s : Nat) : List Bool := (List.range N).map fun i => s.testBit i
theorem bits_of : ∀ (l : List Bool), ∃ s, s < 2 ^ l.length ∧ cutS l.length s = l
  | [] => ⟨0, by simp, rfl⟩
  | b :: l => by
    obtain ⟨s, h1, h2⟩ := bits_of l
    refine ⟨2 * s + b.toNat, ?_, ?_⟩
    · rw [List.length_cons, Nat.pow_succ]
      cases b <;> simp <;> omega
    · unfold cutS at h2 ⊢
      rw [List.length_cons, List.range_succ_eq_map, List.map_cons, List.map_map]
      congr 1
      · cases b <;> simp
      · conv => rhs; rw [← h2]
        apply List.map_congr_left
        intro i _
        simp only [Function.comp, Nat.testBit_succ]
        congr 1
        cases b <;> simp <;> omega
theorem bit_test (s i : Nat) : decide ((s / 2 ^ i) % 2 = 1) = s.testBit i := by
  rw [Nat.testBit_eq_decide_div_mod_eq]
end Go.Proofs.Ytapnkfkpkcajjaa
