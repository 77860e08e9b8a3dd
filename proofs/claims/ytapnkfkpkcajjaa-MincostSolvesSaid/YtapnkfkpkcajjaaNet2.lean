/-
  The search from the source, in plain Lean.
-/
import Derived.Test.YtapnkfkpkcajjaaNet
namespace Go.Nets
set_option linter.unusedSimpArgs false
set_option linter.unusedVariables false

/-- an arc's code: i forwards, -1 - i backwards -/
def dec (z : Int) : St := if 0 ≤ z then (z.toNat, true) else ((-1 - z).toNat, false)
def enc (e : St) : Int := if e.2 then (e.1 : Int) else -1 - (e.1 : Int)
theorem dec_enc (e : St) : dec (enc e) = e := by
  obtain ⟨i, b⟩ := e
  cases b
  · have h : ¬ (0 : Int) ≤ -1 - (i : Int) := by omega
    have h2 : (-1 - (-1 - (i : Int))).toNat = i := by omega
    simp only [enc, dec, h, h2, if_false, Bool.false_eq_true]
  · simp [enc, dec]

def setF {α : Type} (f : Int → α) (x : Int) (v : α) : Int → α := fun y => if y = x then v else f y
structure Bfs (n : Net) (fl : List Int) (se : Int → Bool) (by_ : Int → St) (q : List Int) : Prop where
  src : se n.src = true
  node : ∀ x, se x = true → n.node x
  back : ∃ rank : Int → Nat, ∀ x, se x = true → x ≠ n.src → 0 < room n fl (by_ x) ∧ stT n (by_ x) = x ∧ se (stF n (by_ x)) = true ∧ rank (stF n (by_ x)) < rank x
  qs : ∀ x ∈ q, se x = true
  closed : ∀ e, 0 < room n fl e → se (stF n e) = true → stF n e ∉ q → se (stT n e) = true
theorem Bfs.add {n : Net} {fl : List Int} {se : Int → Bool} {by_ : Int → St} {q : List Int} (h : Bfs n fl se by_ q) {e : St} (h1 : 0 < room n fl e) (h2 : se (stF n e) = true) (h3 : se (stT n e) = false) (h4 : n.node (stT n e)) :
    Bfs n fl (setF se (stT n e) true) (setF by_ (stT n e) e) (q ++ [stT n e]) := by
  have up : ∀ x, se x = true → setF se (stT n e) true x = true := fun x hx => by unfold setF; split <;> first | rfl | exact hx
  refine ⟨up _ h.src, fun x hx => ?_, ?_, fun x hx => ?_, fun e' g1 g2 g3 => ?_⟩
  · unfold setF at hx
    split at hx
    · rename_i hx'; rw [hx']; exact h4
    · exact h.node x hx
  · obtain ⟨rank, hr⟩ := h.back
    refine ⟨fun y => if y = stT n e then rank (stF n e) + 1 else rank y, fun x hx hs => ?_⟩
    by_cases hxe : x = stT n e
    · subst hxe
      have hne : stF n e ≠ stT n e := fun hh => by rw [hh, h3] at h2; cases h2
      have hb : setF by_ (stT n e) e (stT n e) = e := by unfold setF; rw [if_pos rfl]
      rw [hb]
      refine ⟨h1, rfl, up _ h2, ?_⟩
      simp only [if_neg hne, if_true]; omega
    · have hx0 : se x = true := by unfold setF at hx; rw [if_neg hxe] at hx; exact hx
      obtain ⟨a1, a2, a3, a4⟩ := hr x hx0 hs
      have hb : setF by_ (stT n e) e x = by_ x := by unfold setF; rw [if_neg hxe]
      rw [hb]
      have hne : stF n (by_ x) ≠ stT n e := fun hh => by rw [hh, h3] at a3; cases a3
      refine ⟨a1, a2, up _ a3, ?_⟩
      simp only [if_neg hne, if_neg hxe]; exact a4
  · rcases List.mem_append.1 hx with hx | hx
    · exact up _ (h.qs x hx)
    · simp at hx; subst hx; unfold setF; rw [if_pos rfl]
  · have hne : stF n e' ≠ stT n e := fun hh => g3 (by rw [hh]; simp)
    have g2' : se (stF n e') = true := by unfold setF at g2; rw [if_neg hne] at g2; exact g2
    exact up _ (h.closed e' g1 g2' (fun hh => g3 (by simp [hh])))
theorem Bfs.pop {n : Net} {fl : List Int} {se : Int → Bool} {by_ : Int → St} {u : Int} {q : List Int} (h : Bfs n fl se by_ (u :: q)) (hu : ∀ e, 0 < room n fl e → stF n e = u → se (stT n e) = true) : Bfs n fl se by_ q := by
  refine ⟨h.src, h.node, h.back, fun x hx => h.qs x (by simp [hx]), fun e g1 g2 g3 => ?_⟩
  by_cases hh : stF n e = u
  · exact hu e g1 hh
  · exact h.closed e g1 g2 (fun hm => by
      rcases List.mem_cons.1 hm with h | h
      · exact hh h
      · exact g3 h)
theorem Bfs.reached {n : Net} {fl : List Int} {se : Int → Bool} {by_ : Int → St} (h : Bfs n fl se by_ []) : Reached n fl se by_ :=
  ⟨h.src, h.back, fun e g1 g2 => h.closed e g1 g2 (by simp)⟩
theorem Bfs.start {n : Net} (hV : n.Valid) (fl : List Int) (by_ : Int → St) : Bfs n fl (setF (fun _ => false) n.src true) by_ [n.src] := by
  have only : ∀ x, setF (fun _ => false) n.src true x = true → x = n.src := fun x hx => by
    unfold setF at hx
    split at hx
    · assumption
    · cases hx
  refine ⟨by unfold setF; rw [if_pos rfl], fun x hx => by rw [only x hx]; exact hV.src, ⟨fun _ => 0, fun x hx hs => absurd (only x hx) hs⟩, fun x hx => by simp at hx; subst hx; unfold setF; rw [if_pos rfl], fun e g1 g2 g3 => ?_⟩
  exact absurd (by simp [only _ g2]) g3
/-- how many are not seen -/
def cntU (se : Int → Bool) : Nat → Nat
  | 0 => 0
  | k + 1 => cntU se k + if se k = true then 0 else 1
theorem cntU_le (se : Int → Bool) : ∀ k, cntU se k ≤ k
  | 0 => Nat.le_refl _
  | k + 1 => by have := cntU_le se k; simp only [cntU]; split <;> omega
theorem cntU_set_out (se : Int → Bool) (x : Int) : ∀ k : Nat, (k : Int) ≤ x → cntU (setF se x true) k = cntU se k
  | 0, _ => rfl
  | k + 1, h => by
    have e : setF se x true (k : Int) = se k := by unfold setF; rw [if_neg (by omega)]
    simp only [cntU, cntU_set_out se x k (by omega), e]
theorem cntU_set (se : Int → Bool) (x : Int) (h0 : 0 ≤ x) (hx : se x = false) : ∀ k : Nat, x < k → cntU (setF se x true) k + 1 = cntU se k
  | 0, h => by omega
  | k + 1, h => by
    by_cases hk : x = k
    · subst hk
      have e : setF se (k : Int) true (k : Int) = true := by unfold setF; rw [if_pos rfl]
      simp only [cntU, cntU_set_out se k k (Int.le_refl _), e, hx, if_true]; simp
    · have e : setF se x true (k : Int) = se k := by unfold setF; rw [if_neg (by omega)]
      have := cntU_set se x h0 hx k (by omega)
      simp only [cntU, e]; omega
/-- the arcs at each node -/
structure OutOk (n : Net) (out : Int → List Int) : Prop where
  from_ : ∀ x, n.node x → ∀ z ∈ out x, (dec z).1 < n.arcs.length ∧ stF n (dec z) = x ∧ -2500 ≤ z ∧ z ≤ 2500
  all : ∀ e : St, e.1 < n.arcs.length → ∃ z ∈ out (stF n e), dec z = e
theorem st_node {n : Net} (hV : n.Valid) {e : St} (h : e.1 < n.arcs.length) : n.node (stF n e) ∧ n.node (stT n e) := by
  obtain ⟨a, ha⟩ : ∃ a, n.arcs[e.1]? = some a := ⟨n.arcs[e.1]'h, by simp⟩
  obtain ⟨h1, h2, _⟩ := hV.arc a (List.mem_of_getElem? ha)
  unfold stF stT
  rw [ha]
  cases e.2 <;> exact ⟨by assumption, by assumption⟩
end Go.Nets
