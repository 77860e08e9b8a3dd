/-
  A call in a part of the memory: what the callee's contract does not name stays.
-/
import Derived.Test.YticjcminhkgabaaGreatDoorTvK
namespace Go.DI
open Go
set_option linter.unusedSimpArgs false
set_option linter.unusedVariables false
def cutL (t : Mem) (l : List Nat) : Mem := ⟨t.next, fun b => if b ∈ l then none else t.blk b, t.mp⟩
def joinL (t t1 : Mem) (l : List Nat) : Mem := ⟨t1.next, fun b => if b ∈ l then t.blk b else t1.blk b, t1.mp⟩
structure SubM (t1 t' : Mem) : Prop where
  next : t'.next = t1.next
  get : ∀ b x, t1.get b = some x → t'.get b = some x
  map : ∀ b es, t1.getM b = some es → t'.getM b = some es
section
variable {P : Program} {t t1 : Mem} {l : List Nat}
@[simp] theorem cutL_next : (cutL t l).next = t.next := rfl
theorem cutL_in {b : Nat} (h : b ∈ l) : (cutL t l).get b = none := by simp [cutL, Mem.get, h]
theorem cutL_out {b : Nat} (h : b ∉ l) : (cutL t l).get b = t.get b := by simp [cutL, Mem.get, h]
theorem cutL_some {b : Nat} {x : Blk} (h : (cutL t l).get b = some x) : b ∉ l ∧ t.get b = some x := by
  by_cases hb : b ∈ l
  · rw [cutL_in hb] at h; cases h
  · rw [cutL_out hb] at h; exact ⟨hb, h⟩
theorem cutL_outM {b : Nat} (h : b ∉ l) : (cutL t l).getM b = t.getM b := by
  have h1 : (cutL t l).get b = t.get b := cutL_out h
  unfold Mem.getM; rw [h1]; rfl
theorem joinL_in {b : Nat} (h : b ∈ l) (hn : t.next ≤ t1.next) (hb : b < t.next) : (joinL t t1 l).get b = t.get b := by
  have : b < t1.next := by omega
  simp [joinL, Mem.get, h, hb, this]
theorem joinL_out {b : Nat} (h : b ∉ l) : (joinL t t1 l).get b = t1.get b := by simp [joinL, Mem.get, h]
theorem joinL_outM {b : Nat} (h : b ∉ l) : (joinL t t1 l).getM b = t1.getM b := by
  have h1 : (joinL t t1 l).get b = t1.get b := joinL_out h
  unfold Mem.getM; rw [h1]; rfl
theorem WPTC.frame {f : Nat} {args : List Value} {Φ : Value → Mem → Prop} (hl : ∀ o ∈ l, ∃ x, t.get o = some x ∧ x.cells ≠ []) (h : WPTC P f args (cutL t l) Φ) :
    WPTC P f args t fun r t' => ∃ t1, Φ r t1 ∧ SubM t1 (cutL t' l) ∧ t.next ≤ t'.next ∧ ∀ o ∈ l, t'.get o = t.get o := fun E F as m hs ha => by
  have hs0 : Sim E F (cutL t l) m := ⟨fun o x hx => hs.obj o x (cutL_some hx).2, fun o es he => by
      have hb := (cutL_some (getM_cells he).1).1
      rw [cutL_outM hb] at he; exact hs.maps o es he, hs.mp0, hs.inj, hs.lt, fun b cs hb => ⟨(hs.fr b cs hb).1, fun o x hE hx => (hs.fr b cs hb).2 o x hE (cutL_some hx).2⟩⟩
  refine (h E F as m hs0 ha).mono fun r' m1 hh => ?_
  obtain ⟨E1, F1, r, t1, h1, h2, h3, h4⟩ := hh
  have hn : t.next ≤ t1.next := h4.tnx
  have ex : ∀ o ∈ l, ∃ x b cs w, t.get o = some x ∧ x.cells ≠ [] ∧ E o = some b ∧ m.get b = some ⟨cs, w⟩ ∧ (x.own = true → w = true) ∧ LR F E x.cells cs := fun o ho => by
    obtain ⟨x, hx, hc⟩ := hl o ho
    rcases hs.obj o x hx with ⟨b, cs, w, a1, a2, a3, a4⟩ | ⟨_, a2⟩
    · exact ⟨x, b, cs, w, hx, hc, a1, a2, a3, a4⟩
    · exact absurd a2 hc
  have nal : ∀ o ∈ l, ∀ b, E o = some b → ¬ Al E (cutL t l) b := fun o ho b hb ⟨p, x, hp, hx⟩ => by
    have := hs.inj p o b hp hb
    subst this; rw [cutL_in ho] at hx; cases hx
  have fresh : ∀ o ∈ l, t1.get o = none := fun o ho => by
    obtain ⟨x, b, cs, w, a1, a2, a3, a4, a5, a6⟩ := ex o ho
    cases hg : t1.get o with
    | none => rfl
    | some y => exact absurd (h4.am b (hs.lt o b a3).2 ⟨o, y, h4.e o b a3, hg⟩) (nal o ho b a3)
  have gi : ∀ o ∈ l, (joinL t t1 l).get o = t.get o := fun o ho => by
    obtain ⟨x, b, cs, w, a1, _⟩ := ex o ho
    exact joinL_in ho hn (get_lt a1)
  have hsub : SubM t1 (cutL (joinL t t1 l) l) := ⟨rfl, fun b x hb => by
      have : b ∉ l := fun hm => by rw [fresh b hm] at hb; cases hb
      rw [cutL_out this, joinL_out this]; exact hb, fun b es hb => by
      have : b ∉ l := fun hm => by have := (getM_cells hb).1; rw [fresh b hm] at this; cases this
      rw [cutL_outM this, joinL_outM this]; exact hb⟩
  refine ⟨E1, F1, r, joinL t t1 l, ⟨t1, h1, hsub, hn, gi⟩, ?_, h3, ?_⟩
  · refine ⟨fun o x hx => ?_, fun o es he => ?_, h2.mp0, h2.inj, h2.lt, fun b cs hb => ⟨(h2.fr b cs hb).1, fun o x hE hx => ?_⟩⟩
    · by_cases ho : o ∈ l
      · rw [gi o ho] at hx
        obtain ⟨y, b, cs, w, a1, a2, a3, a4, a5, a6⟩ := ex o ho
        rw [a1] at hx; cases hx
        exact .inl ⟨b, cs, w, h4.e o b a3, by rw [h4.keep b (hs.lt o b a3).2 fun ⟨p, z, q1, q2, _⟩ => nal o ho b a3 ⟨p, z, q1, q2⟩]; exact a4, a5, a6.mono h4.f h4.e⟩
      · rw [joinL_out ho] at hx; exact h2.obj o x hx
    · by_cases ho : o ∈ l
      · have := (getM_cells he).1
        rw [gi o ho] at this
        obtain ⟨y, hy, hc⟩ := hl o ho
        rw [hy] at this; cases this; exact absurd rfl hc
      · rw [joinL_outM ho] at he; exact h2.maps o es he
    · by_cases ho : o ∈ l
      · rw [gi o ho] at hx
        obtain ⟨y, b', cs', w, a1, a2, a3, a4, a5, a6⟩ := ex o ho
        have hb' := h4.e o b' a3
        rw [hE] at hb'; cases hb'
        rcases h4.fn b cs hb with q | q | q
        · exact (hs.fr b cs q).2 o x a3 hx
        · have := (hs.lt o b a3).2; omega
        · exact absurd q (nal o ho b a3)
      · rw [joinL_out ho] at hx; exact (h2.fr b cs hb).2 o x hE hx
  · refine ⟨h4.e, h4.f, h4.en, fun b cs hb => ?_, hn, h4.mnx, fun b hb hw => h4.keep b hb fun ⟨p, z, q1, q2, q3⟩ => hw ⟨p, z, q1, (cutL_some q2).2, q3⟩, fun b hb ⟨o, x, q1, q2, q3⟩ => ?_, fun b hb ⟨o, x, q1, q2⟩ => ?_⟩
    · rcases h4.fn b cs hb with q | q | ⟨p, z, q1, q2⟩
      · exact .inl q
      · exact .inr (.inl q)
      · exact .inr (.inr ⟨p, z, q1, (cutL_some q2).2⟩)
    · by_cases ho : o ∈ l
      · obtain ⟨y, b', cs', w, a1, a2, a3, _⟩ := ex o ho
        have hb' := h4.e o b' a3
        rw [q1] at hb'; cases hb'
        rw [gi o ho] at q2; exact ⟨o, x, a3, q2, q3⟩
      · rw [joinL_out ho] at q2
        obtain ⟨p, z, r1, r2, r3⟩ := h4.wm b hb ⟨o, x, q1, q2, q3⟩
        exact ⟨p, z, r1, (cutL_some r2).2, r3⟩
    · by_cases ho : o ∈ l
      · obtain ⟨y, b', cs', w, a1, a2, a3, _⟩ := ex o ho
        have hb' := h4.e o b' a3
        rw [q1] at hb'; cases hb'
        rw [gi o ho] at q2; exact ⟨o, x, a3, q2⟩
      · rw [joinL_out ho] at q2
        obtain ⟨p, z, r1, r2⟩ := h4.am b hb ⟨o, x, q1, q2⟩
        exact ⟨p, z, r1, (cutL_some r2).2⟩
theorem cutL_sub : SubM (cutL t l) t := ⟨rfl, fun b x hb => (cutL_some hb).2, fun b es hb => by
  have h := (cutL_some (getM_cells hb).1).1
  rw [cutL_outM h] at hb; exact hb⟩
/-- a value that says less than another -/
def VW (r r' : Value) : Prop := ∀ (F : Frz) (E : Emb) (v : Value), VR F E r v → VR F E r' v
theorem VW.refl (r : Value) : VW r r := fun _ _ _ h => h
theorem VW.nil {z : Nat} : VW (.slice none 0 0) (immS [] z) := fun F E v h => by rw [h.inv_flat rfl]; exact .immN rfl
def VWs : List Value → List Value → Prop
  | [], [] => True
  | x :: xs, y :: ys => VW x y ∧ VWs xs ys
  | _, _ => False
theorem VWs.len : ∀ {xs ys : List Value}, VWs xs ys → xs.length = ys.length
  | [], [], _ => rfl
  | x :: xs, y :: ys, h => by simp [VWs.len h.2]
  | [], _ :: _, h => h.elim
  | _ :: _, [], h => h.elim
theorem VWs.get : ∀ {xs ys : List Value}, VWs xs ys → ∀ (i : Nat) (x y : Value), xs[i]? = some x → ys[i]? = some y → VW x y
  | [], [], _, i, x, y, h1, _ => by simp at h1
  | x :: xs, y :: ys, h, 0, a, b, h1, h2 => by simp at h1 h2; subst h1; subst h2; exact h.1
  | x :: xs, y :: ys, h, i + 1, a, b, h1, h2 => VWs.get h.2 i a b (by simpa using h1) (by simpa using h2)
  | [], _ :: _, h, _, _, _, _, _ => h.elim
  | _ :: _, [], h, _, _, _, _, _ => h.elim
theorem VWs.lr {xs ys zs : List Value} (h : VWs xs ys) {F : Frz} {E : Emb} (hl : LR F E xs zs) : LR F E ys zs := by
  refine ⟨by rw [← h.len]; exact hl.1, fun i y z hy hz => ?_⟩
  have hi := (List.getElem?_eq_some_iff.1 hy).1
  have hx : xs[i]? = some (xs[i]'(by rw [h.len]; exact hi)) := List.getElem?_eq_getElem _
  exact h.get i _ y hx hy F E z (hl.2 i _ z hx hz)
theorem VW.agg {xs ys : List Value} (h : VWs xs ys) : VW (.agg xs.toArray) (.agg ys.toArray) := fun F E v hv => by
  obtain ⟨zs, rfl, hl⟩ := hv.inv_agg
  have := (h.lr (by simpa using hl)).agg
  simpa using this
theorem VW.tuple {xs ys : List Value} (h : VWs xs ys) : VW (.tuple xs.toArray) (.tuple ys.toArray) := fun F E v hv => by
  obtain ⟨zs, rfl, hl⟩ := hv.inv_tuple
  have := (h.lr (by simpa using hl)).tuple
  simpa using this
theorem TPure.vw {f : Nat} {args : List Value} {r r' : Value} (h : TPure P f args r) (hw : VW r r') : TPure P f args r' := fun F m as hF ha => (h F m as hF ha).mono fun x m' hh => by
  obtain ⟨h1, h2, F', h3, h4, h5⟩ := hh
  exact ⟨h1, h2, F', h3, h4, hw F' _ _ h5⟩
end
end Go.DI
