/-
  From contracts over the abstract memory to contracts over whole contents; a law's arguments.
-/
import Derived.Test.YticjcminhkgabaaGreatDoorTvH
namespace Go.DI
open Go Go.RowKit
set_option linter.unusedSimpArgs false
set_option linter.unusedVariables false
set_option linter.unnecessarySimpa false

/-- all blocks of a memory -/
def full (m : Mem) : Frz := fun b => (m.get b).map (·.cells)
section
variable {P : Program} {F : Frz} {m m' : Mem}
theorem full_fs (m : Mem) : Fs (full m) m := fun b cs h => by
  simp only [full] at h
  cases hg : m.get b with
  | none => rw [hg] at h; cases h
  | some x => rw [hg] at h; cases h; exact ⟨x.own, rfl⟩
theorem full_of {b : Nat} {cs : List Value} {w : Bool} (h : m.get b = some ⟨cs, w⟩) : full m b = some cs := by simp [full, h]
theorem full_ge (h : Fs F m) : FLe F (full m) := fun b cs hb => by obtain ⟨w, hw⟩ := h b cs hb; exact full_of hw
theorem full_mono (hs : Sub m m') : FLe (full m) (full m') := fun b cs hb => by obtain ⟨w, hw⟩ := full_fs m b cs hb; exact full_of (hs.get _ _ hw)
/-- what a value of the abstract memory holds -/
abbrev Holds (m : Mem) (v v' : Value) : Prop := VR (full m) noE v v'
abbrev HoldsL (m : Mem) (vs vs' : List Value) : Prop := LR (full m) noE vs vs'
theorem tpure_lift {f : Nat} {ts : List Value} {r : Value} (h : ∀ m as, HoldsL m ts as → WPCall P f as m fun r' m' => (m.next ≤ m'.next ∧ ∀ b, b < m.next → m'.get b = m.get b) ∧ Holds m' r r') : TPure P f ts r := fun F m as hF ha => by
  refine (h m as (ha.mono (full_ge hF) (ELe.refl _))).mono fun r' m' hh => ?_
  obtain ⟨⟨h1, h2⟩, h3⟩ := hh
  exact ⟨h1, h2, full m', fun b cs hb => by obtain ⟨w, hw⟩ := hF b cs hb; exact full_of (by rw [h2 b (get_lt hw)]; exact hw), full_fs m', h3⟩
/-- the way back: a contract over whole contents, below -/
theorem TPure.below {f : Nat} {ts as : List Value} {r : Value} (h : TPure P f ts r) (ha : HoldsL m ts as) : WPCall P f as m fun r' m' => (m.next ≤ m'.next ∧ ∀ b, b < m.next → m'.get b = m.get b) ∧ Holds m' r r' := by
  refine (h (full m) m as (full_fs m) ha).mono fun r' m' hh => ?_
  obtain ⟨h1, h2, F', h3, h4, h5⟩ := hh
  exact ⟨⟨h1, h2⟩, h5.mono (full_ge h4) (ELe.refl _)⟩

theorem LR.one {E : Emb} {x : Value} {ys : List Value} (h : LR F E [x] ys) : ∃ y, ys = [y] ∧ VR F E x y := by
  match ys, h with
  | [y], h => exact ⟨y, rfl, h.2 0 x y rfl rfl⟩
  | [], h => simp [LR] at h
  | _ :: _ :: _, h => simp [LR] at h
theorem LR.two {E : Emb} {x y : Value} {zs : List Value} (h : LR F E [x, y] zs) : ∃ a b, zs = [a, b] ∧ VR F E x a ∧ VR F E y b := by
  match zs, h with
  | [a, b], h => exact ⟨a, b, rfl, h.2 0 x a rfl rfl, h.2 1 y b rfl rfl⟩
  | [], h => simp [LR] at h
  | [_], h => simp [LR] at h
  | _ :: _ :: _ :: _, h => simp [LR] at h
theorem LR.three {E : Emb} {x y z : Value} {zs : List Value} (h : LR F E [x, y, z] zs) : ∃ a b c, zs = [a, b, c] ∧ VR F E x a ∧ VR F E y b ∧ VR F E z c := by
  match zs, h with
  | [a, b, c], h => exact ⟨a, b, c, rfl, h.2 0 x a rfl rfl, h.2 1 y b rfl rfl, h.2 2 z c rfl rfl⟩
  | [], h => simp [LR] at h
  | [_], h => simp [LR] at h
  | [_, _], h => simp [LR] at h
  | _ :: _ :: _ :: _ :: _, h => simp [LR] at h
/-- the cells of a predicate, as whole contents -/
structure Enc {α : Type} (q : Rp α) (enc : α → List Value) (ok : α → Prop) : Prop where
  z : ∀ x, (enc x).length = q.z
  to : ∀ m cs x, ok x → HoldsL m (enc x) cs → q.R m cs x
  of : ∀ m cs x, q.R m cs x → HoldsL m (enc x) cs
theorem Enc.to_slice {α : Type} {q : Rp α} {enc : α → List Value} {ok : α → Prop} (h : Enc q enc ok) {l : List α} {v : Value} (hok : ∀ x ∈ l, ok x) (hv : Holds m (immS (l.map enc) q.z) v) : q.S m v l := by
  obtain ⟨rows, z, e, h1⟩ := hv.inv_imm rfl
  rw [immS_inj] at e
  obtain ⟨e1, e2⟩ := e
  subst e2
  rcases h1 with ⟨h1, rfl⟩ | ⟨b, off, cs, rfl, hF, hl, hz, hc⟩
  · rw [h1] at e1
    exact .inl ⟨rfl, by simpa using e1⟩
  · obtain ⟨w, hw⟩ := full_fs m b cs hF
    have elen : rows.length = l.length := by rw [← e1]; simp
    refine .inr ⟨b, off, cs, w, by rw [elen], hw, by rw [← elen]; exact hl, fun i x hx => ?_⟩
    refine h.to _ _ _ (hok x (List.mem_of_getElem? hx)) ?_
    have hr : rows[i]? = some (enc x) := by rw [← e1, List.getElem?_map, hx]; rfl
    have hi := (List.getElem?_eq_some_iff.1 hr).1
    have hm : (i + 1) * q.z ≤ rows.length * q.z := Nat.mul_le_mul_right _ hi
    rw [Nat.add_mul] at hm
    refine ⟨by rw [h.z]; simp; omega, fun j u y hu hy => ?_⟩
    rw [List.getElem?_take] at hy
    split at hy
    · rw [List.getElem?_drop] at hy; exact hc i j _ u y hr hu hy
    · cases hy
theorem Enc.of_slice {α : Type} {q : Rp α} {enc : α → List Value} {ok : α → Prop} (h : Enc q enc ok) {l : List α} {v : Value} (hv : q.S m v l) : Holds m (immS (l.map enc) q.z) v := by
  rcases hv with ⟨rfl, rfl⟩ | ⟨b, o, cs, w, rfl, h2, h3, h4⟩
  · exact .immN rfl
  · have := VR.imm (F := full m) (E := noE) (v := immS (l.map enc) q.z) (b := b) (off := o) (z := q.z) (cs := cs) (rows := l.map enc) rfl (full_of h2) (by simpa using h3) (fun i r hr => ?_) fun i j r x y hr hx hy => ?_
    · simpa using this
    · rw [List.getElem?_map, Option.map_eq_some_iff] at hr
      obtain ⟨x, _, rfl⟩ := hr; exact h.z x
    · rw [List.getElem?_map, Option.map_eq_some_iff] at hr
      obtain ⟨x0, hx0, rfl⟩ := hr
      have := h.of _ _ _ (h4 i x0 hx0)
      refine this.2 j x y hx ?_
      have hj := (List.getElem?_eq_some_iff.1 hx).1
      rw [h.z] at hj
      rw [List.getElem?_take, if_pos hj, List.getElem?_drop]
      exact hy
/-- a list of such -/
theorem Enc.list {α : Type} {q : Rp α} {enc : α → List Value} {ok : α → Prop} (h : Enc q enc ok) : Enc q.list (fun l => [immS (l.map enc) q.z]) (fun l => ∀ x ∈ l, ok x) where
  z _ := rfl
  to m cs l hok hl := by
    obtain ⟨y, rfl, hv⟩ := hl.one
    exact ⟨y, rfl, h.to_slice hok hv⟩
  of m cs l hl := by
    obtain ⟨v, rfl, hv⟩ := hl
    exact LR.cons (h.of_slice hv) LR.nil

/-! a law's arguments -/
/-- the cells of a datum of a shape -/
def encT : (s : Sh) → s.D → List Value
  | .int k, n => [.int k n]
  | .bool, b => [.bool b]
  | .str, s => [.string s]
  | .slice e, l => [immS ((asL l).map (encT e)) e.cells]
  | .unit, _ => []
  | .pair a b, d => encT a d.1 ++ encT b d.2
theorem encT_len : ∀ (s : Sh) (d : s.D), (encT s d).length = s.cells
  | .int _, _ => rfl
  | .bool, _ => rfl
  | .str, _ => rfl
  | .slice _, _ => rfl
  | .unit, _ => rfl
  | .pair a b, d => by simp [encT, encT_len a, encT_len b, Sh.cells]
theorem abs_tv : ∀ {s : Sh} {cs : List Value} {d : s.D}, Abs m s cs d → HoldsL m (encT s d) cs
  | .int k, cs, d, h => by rw [h.1]; exact LR.cons (.flat rfl) LR.nil
  | .bool, cs, d, h => by have : cs = [.bool d] := h; rw [this]; exact LR.cons (.flat rfl) LR.nil
  | .str, cs, d, h => by rw [h.1]; exact LR.cons (.flat rfl) LR.nil
  | .unit, cs, d, h => by have : cs = [] := h; rw [this]; exact LR.nil
  | .pair a b, cs, d, h => by obtain ⟨c1, c2, rfl, h1, h2⟩ := h; exact (abs_tv h1).append (abs_tv h2)
  | .slice e, cs, l, h => by
    simp only [encT]
    rcases h with ⟨rfl, h⟩ | ⟨b, rows, rfl, h2, h3, h4, h5⟩
    · rw [h]; exact LR.cons (.immN rfl) LR.nil
    · refine LR.cons ?_ LR.nil
      have hz : ∀ r ∈ rows, r.length = e.cells := fun r hr => by
        obtain ⟨i, hi, rfl⟩ := List.getElem_of_mem hr
        exact (h5 i _ _ (List.getElem?_eq_getElem hi) (List.getElem?_eq_getElem (by omega))).len
      have hfl : rows.flatten.length = rows.length * e.cells := flatten_len hz
      have := VR.imm (F := full m) (E := noE) (v := immS ((asL l).map (encT e)) e.cells) (b := b) (off := 0) (z := e.cells) (cs := rows.flatten) (rows := (asL l).map (encT e)) rfl (full_of h2) (by rw [hfl, h4, List.length_map]; omega) (fun i r hr => ?_) fun i j r x y hr hx hy => ?_
      · simpa using this
      · rw [List.getElem?_map, Option.map_eq_some_iff] at hr
        obtain ⟨x, _, rfl⟩ := hr; exact encT_len e x
      · rw [List.getElem?_map, Option.map_eq_some_iff] at hr
        obtain ⟨x0, hx0, rfl⟩ := hr
        have hi := (List.getElem?_eq_some_iff.1 hx0).1
        have hi' : i < rows.length := by rw [h4]; exact hi
        have hrow := h5 i _ _ (List.getElem?_eq_getElem hi') hx0
        refine (abs_tv hrow).2 j x y hx ?_
        have hj := (List.getElem?_eq_some_iff.1 hx).1
        rw [encT_len] at hj
        have hq := flatten_row hz (List.getElem?_eq_getElem hi')
        rw [← hq, List.getElem?_take, if_pos hj, List.getElem?_drop, ← hy, Nat.zero_add]
def argT (s : Sh) (d : s.D) : Value := if s.isAgg then .agg (encT s d).toArray else (encT s d).headD undef
theorem absV_tv {s : Sh} {v : Value} {d : s.D} (h : AbsV m s v d) : Holds m (argT s d) v := by
  obtain ⟨cs, h1, rfl⟩ := h
  have := abs_tv h1
  unfold argT
  split
  · exact this.agg
  · exact this.headD
/-- what a law's arguments are -/
inductive ArgsT : List Sh → List Value → Prop
  | nil : ArgsT [] []
  | cons {s : Sh} {d : s.D} {ss : List Sh} {vs : List Value} (ok : okS s d) (hs : ArgsT ss vs) : ArgsT (s :: ss) (argT s d :: vs)
theorem absArgs_tv {ss : List Sh} {us : List Value} (h : AbsArgs m ss us) : ∃ ts, ArgsT ss ts ∧ HoldsL m ts us := by
  induction h with
  | nil => exact ⟨[], .nil, LR.nil⟩
  | cons h hs ih =>
    obtain ⟨ts, h1, h2⟩ := ih
    obtain ⟨cs, h3, h4⟩ := h
    exact ⟨_, .cons h3.ok h1, LR.cons (absV_tv ⟨cs, h3, h4⟩) h2⟩
/-- a law, from its contract over whole contents -/
theorem law_tv {f : Nat} {ss : List Sh} (h : ∀ ts, ArgsT ss ts → TPure P f ts (.bool true)) (m : Mem) (us : List Value) (ha : AbsArgs m ss us) : WPCall P f us m fun r _ => r = .bool true := by
  obtain ⟨ts, h1, h2⟩ := absArgs_tv ha
  exact ((h ts h1).below h2).mono fun r m' hh => hh.2.inv_bool
end
end Go.DI
