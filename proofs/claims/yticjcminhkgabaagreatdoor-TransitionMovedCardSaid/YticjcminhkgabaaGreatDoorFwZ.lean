/-
  A law's frame for arguments with slices: shapes of types, their data, read-only blocks of the abstract memory.
-/
import Derived.SizedLaws
import Derived.Test.YticjcminhkgabaaGreatDoorFwY
import Derived.ChangeOld
import Derived.WideShapes
import Derived.OpenShut
namespace Go.DI
open Go Go.RowKit

inductive Sh where
  | int (k : IntKind)
  | bool
  | str
  | slice (e : Sh)
  | unit
  | pair (a b : Sh)

abbrev Sh.D : Sh → Type
  | .int _ => Int
  | .bool => Bool
  | .str => ByteArray
  | .slice e => List e.D
  | .unit => Unit
  | .pair a b => a.D × b.D
def Sh.cells : Sh → Nat
  | .unit => 0
  | .pair a b => a.cells + b.cells
  | _ => 1
/-- at least so many bytes -/
def Sh.lo : Sh → Nat
  | .int .u32 => 4
  | _ => 1
theorem Sh.lo_pos (s : Sh) : 1 ≤ s.lo := by
  unfold Sh.lo; split <;> omega
theorem Sh.lo_le (s : Sh) {n k : Nat} (h : n * s.lo ≤ k) : n ≤ k := Nat.le_trans (Nat.le_mul_of_pos_right n s.lo_pos) h
def Sh.isAgg : Sh → Bool
  | .unit | .pair _ _ => true
  | _ => false

def hasFs (P : Program) (h : TypeId → Sh → Bool) : Nat → List Field → Sh → Bool
  | _, [], .unit => true
  | off, f :: fs, .pair a b => f.offset == off && h f.type a && P.cellsOf f.type == a.cells && hasFs P h (off + a.cells) fs b
  | _, _, _ => false
def hasArr (h : Sh → Bool) (z : Nat) : Nat → Sh → Bool
  | 0, .unit => true
  | n + 1, .pair a b => h a && a.cells == z && hasArr h z n b
  | _, _ => false
def hasSh (P : Program) : Nat → TypeId → Sh → Bool
  | 0, _, _ => false
  | n + 1, t, s => match P.underlying t, s with
    | some (.int k), .int k' => decide (k = k')
    | some .bool, .bool => true
    | some .string, .str => true
    | some (.slice e), .slice s' => hasSh P n e s' && P.cellsOf e == s'.cells && decide (0 < s'.cells) && decide (s'.lo ≤ P.bytesOf e)
    | some (.struct fs), s => s.isAgg && P.cellsOf t == s.cells && hasFs P (hasSh P n) 0 fs.toList s
    | some (.array k e), s => s.isAgg && P.cellsOf t == s.cells && hasArr (hasSh P n e) (P.cellsOf e) k s
    | _, _ => false

abbrev asL {e : Sh} (l : (Sh.slice e).D) : List e.D := l

/-- what stands in cells of a shape, read in the abstract memory -/
def Abs (m : Mem) : (s : Sh) → List Value → s.D → Prop
  | .int k, cs, n => cs = [.int k n] ∧ (Lit.int k n).wf = true
  | .bool, cs, b => cs = [.bool b]
  | .str, cs, s => cs = [.string s] ∧ s.size ≤ reachBytes
  | .slice e, cs, l => (cs = [.slice none 0 0] ∧ asL l = []) ∨ ∃ (b : Nat) (rows : List (List Value)), cs = [.slice (some ⟨b, 0, none⟩) (asL l).length e.cells] ∧ m.get b = some ⟨rows.flatten, false⟩ ∧ (asL l).length * e.lo ≤ reachBytes ∧ rows.length = (asL l).length ∧ (∀ (i : Nat) (r : List Value) (d : e.D), rows[i]? = some r → (asL l)[i]? = some d → Abs m e r d)
  | .unit, cs, _ => cs = []
  | .pair a b, cs, d => ∃ c1 c2, cs = c1 ++ c2 ∧ Abs m a c1 d.1 ∧ Abs m b c2 d.2

theorem Abs.len {m : Mem} : ∀ {s : Sh} {cs : List Value} {d : s.D}, Abs m s cs d → cs.length = s.cells
  | .int _, _, _, h => by rw [h.1]; rfl
  | .bool, cs, d, h => by have : cs = [.bool d] := h; rw [this]; rfl
  | .str, _, _, h => by rw [h.1]; rfl
  | .slice _, _, _, h => by rcases h with ⟨rfl, _⟩ | ⟨b, rows, rfl, _⟩ <;> rfl
  | .unit, cs, _, h => by have : cs = [] := h; rw [this]; rfl
  | .pair a b, _, _, h => by obtain ⟨c1, c2, rfl, h1, h2⟩ := h; simp [Sh.cells, h1.len, h2.len]
theorem Abs.mono {m m' : Mem} (hm : ∀ b x, m.get b = some x → x.own = false → m'.get b = some x) : ∀ {s : Sh} {cs : List Value} {d : s.D}, Abs m s cs d → Abs m' s cs d
  | .int _, _, _, h => h
  | .bool, _, _, h => h
  | .str, _, _, h => h
  | .slice e, _, _, h => by
    rcases h with h | ⟨b, rows, h1, h2, h3, h4, h5⟩
    · exact .inl h
    · exact .inr ⟨b, rows, h1, hm _ _ h2 rfl, h3, h4, fun i r d hr hd => (h5 i r d hr hd).mono hm⟩
  | .unit, _, _, h => h
  | .pair a b, _, _, h => by obtain ⟨c1, c2, h0, h1, h2⟩ := h; exact ⟨c1, c2, h0, h1.mono hm, h2.mono hm⟩

/-- shapes in which no slice lies: their cells -/
def Sh.flat : Sh → Bool
  | .slice _ => false
  | .pair a b => a.flat && b.flat
  | _ => true
def encS : (s : Sh) → s.D → List Value
  | .int k, n => [.int k n]
  | .bool, b => [.bool b]
  | .str, s => [.string s]
  | .slice _, _ => []
  | .unit, _ => []
  | .pair a b, d => encS a d.1 ++ encS b d.2
/-- the bounds that a datum keeps -/
def okS : (s : Sh) → s.D → Prop
  | .int k, n => (Lit.int k n).wf = true
  | .bool, _ => True
  | .str, s => s.size ≤ reachBytes
  | .slice e, l => (asL l).length * e.lo ≤ reachBytes ∧ ∀ x ∈ asL l, okS e x
  | .unit, _ => True
  | .pair a b, d => okS a d.1 ∧ okS b d.2
theorem Abs.enc {m : Mem} : ∀ {s : Sh} {cs : List Value} {d : s.D}, s.flat = true → Abs m s cs d → cs = encS s d
  | .int _, _, _, _, h => h.1
  | .bool, _, _, _, h => h
  | .str, _, _, _, h => h.1
  | .slice _, _, _, hf, _ => by cases hf
  | .unit, _, _, _, h => h
  | .pair a b, _, _, hf, h => by
    simp only [Sh.flat, Bool.and_eq_true] at hf
    obtain ⟨c1, c2, rfl, h1, h2⟩ := h
    rw [h1.enc hf.1, h2.enc hf.2]; rfl
theorem Abs.ok {m : Mem} : ∀ {s : Sh} {cs : List Value} {d : s.D}, Abs m s cs d → okS s d
  | .int _, _, _, h => h.2
  | .bool, _, _, _ => trivial
  | .str, _, _, h => h.2
  | .slice e, _, l, h => by
    rcases h with ⟨_, h⟩ | ⟨b, rows, h1, h2, h3, h4, h5⟩
    · subst h; exact ⟨by simp [asL], fun x hx => by cases hx⟩
    · refine ⟨h3, fun x hx => ?_⟩
      obtain ⟨i, hi, rfl⟩ := List.getElem_of_mem hx
      exact (h5 i (rows[i]'(by omega)) _ (by simp) (by simp)).ok
  | .unit, _, _, _ => trivial
  | .pair a b, _, _, h => by obtain ⟨c1, c2, h0, h1, h2⟩ := h; exact ⟨h1.ok, h2.ok⟩
theorem Abs.rows {m : Mem} {e : Sh} (hf : e.flat = true) {rows : List (List Value)} {l : List e.D} (hl : rows.length = l.length) (h : ∀ (i : Nat) r d, rows[i]? = some r → l[i]? = some d → Abs m e r d) : rows = l.map (encS e) := by
  apply List.ext_getElem
  · simp [hl]
  · intro i h1 h2
    simp only [List.getElem_map]
    exact (h i _ _ (List.getElem?_eq_getElem h1) (List.getElem?_eq_getElem (by omega))).enc hf
/-- a slice whose elements hold no slice -/
theorem Abs.flatSlice {m : Mem} {e : Sh} (hf : e.flat = true) {cs : List Value} {l : List e.D} (h : Abs m (.slice e) cs l) :
    (cs = [.slice none 0 0] ∧ l = []) ∨ ∃ b, cs = [.slice (some ⟨b, 0, none⟩) l.length e.cells] ∧ m.get b = some ⟨(l.map (encS e)).flatten, false⟩ ∧ l.length ≤ reachBytes := by
  rcases h with h | ⟨b, rows, h1, h2, h3, h4, h5⟩
  · exact .inl h
  · exact .inr ⟨b, h1, by rw [h2, Abs.rows hf h4 h5], e.lo_le h3⟩

def AbsV (m : Mem) (s : Sh) (v : Value) (d : s.D) : Prop := ∃ cs, Abs m s cs d ∧ v = if s.isAgg then .agg cs.toArray else cs.headD undef
inductive AbsArgs (m : Mem) : List Sh → List Value → Prop
  | nil : AbsArgs m [] []
  | cons {s : Sh} {v : Value} {d : s.D} {ss : List Sh} {vs : List Value} (h : AbsV m s v d) (hs : AbsArgs m ss vs) : AbsArgs m (s :: ss) (v :: vs)
theorem AbsArgs.mono {m m' : Mem} (hm : ∀ b x, m.get b = some x → x.own = false → m'.get b = some x) {ss : List Sh} {vs : List Value} (h : AbsArgs m ss vs) : AbsArgs m' ss vs := by
  induction h with
  | nil => exact .nil
  | cons h hs ih => obtain ⟨cs, h1, h2⟩ := h; exact .cons ⟨cs, h1.mono hm, h2⟩ ih

section
variable {B : Nat} {ρ : Ren} {m : Mem} {w : World}
theorem MRel.addRO (hm : MRel B ρ m w) (ho : ∀ b x, m.get b = some x → x.own = false) {xs : List Value} {l : Loc} (hl : l.c < w.heap.size) (hn : xs.length ≤ l.n)
    (hx : ∀ i v, xs[i]? = some v → oneC v = true ∧ ∃ v', w.cell? ⟨l.c, l.o + i, none⟩ = some v' ∧ VRel ρ v v') :
    MRel B (updR ρ m.next l) ((m.bump 1).put m.next (some ⟨xs, false⟩)) w ∧ RenLe ρ (updR ρ m.next l) ∧ (∀ b x, m.get b = some x → ((m.bump 1).put m.next (some ⟨xs, false⟩)).get b = some x) ∧
      (∀ b x, ((m.bump 1).put m.next (some ⟨xs, false⟩)).get b = some x → x.own = false) ∧ ((m.bump 1).put m.next (some ⟨xs, false⟩)).get m.next = some ⟨xs, false⟩ := by
  have hr : ρ m.next = none := by
    cases h : ρ m.next with
    | none => rfl
    | some l => have := hm.dom _ _ h; omega
  have hle := updR_le (l := l) hr
  have hself : ((m.bump 1).put m.next (some ⟨xs, false⟩)).get m.next = some ⟨xs, false⟩ := zql (by simp)
  have hold : ∀ b x, m.get b = some x → ((m.bump 1).put m.next (some ⟨xs, false⟩)).get b = some x := fun b x hb => by
    have := get_lt hb
    rw [zqm (by omega), zqn this, hb]
  have hcase : ∀ b x, ((m.bump 1).put m.next (some ⟨xs, false⟩)).get b = some x → (b = m.next ∧ x = ⟨xs, false⟩) ∨ m.get b = some x := fun b x hb => by
    by_cases e : b = m.next
    · subst e; rw [hself] at hb; cases hb; exact .inl ⟨rfl, rfl⟩
    · rw [zqm e, Mem.zqn] at hb; exact .inr hb
  have hown : ∀ b x, ((m.bump 1).put m.next (some ⟨xs, false⟩)).get b = some x → x.own = false := fun b x hb => by
    rcases hcase b x hb with ⟨_, rfl⟩ | h
    · rfl
    · exact ho _ _ h
  refine ⟨⟨fun b l' hb => ?_, fun b l' hb => ?_, fun b x hb => ?_, fun b x b' x' l1 l2 h1 h2 => ?_, fun b es hb => ?_, fun b es hb => ?_⟩, hle, hold, hown, hself⟩
  · unfold updR at hb
    split at hb
    · rename_i e; rw [e]; simp
    · have := hm.dom _ _ hb; simp; omega
  · unfold updR at hb
    split at hb
    · cases hb; exact hl
    · exact hm.inb _ _ hb
  · rcases hcase b x hb with ⟨rfl, rfl⟩ | h
    · exact ⟨l, by simp [updR], hn, fun i v hv => by obtain ⟨q1, v', q2, q3⟩ := hx i v hv; exact ⟨q1, v', q2, q3.mono hle⟩, fun h => by cases h⟩
    · obtain ⟨l', g1, g2, g3, g4⟩ := hm.live b x h
      exact ⟨l', hle _ _ g1, g2, fun i v hv => by obtain ⟨q1, v', q2, q3⟩ := g3 i v hv; exact ⟨q1, v', q2, q3.mono hle⟩, g4⟩
  · rw [hown _ _ h1] at h2; cases h2
  · obtain ⟨l', h⟩ := hm.mdom b es hb; exact ⟨l', hle _ _ h⟩
  · exfalso
    unfold Mem.getM at hb
    split at hb
    · rename_i h; have := hown _ _ h; cases this
    · cases hb
end

section
variable {H : Type} {enc : TypeId × Value → H} {P : Program} {W : World}

theorem weightsAll_mem {P : Program} {e : TypeId} {d : DataW H} {n : Nat} : ∀ {l : List (DataW H)}, d ∈ l → n ∈ d.weights P e → n ∈ DataW.weightsAll P e l
  | [], h, _ => by cases h
  | x :: r, h, hn => by
    simp only [DataW.weightsAll, List.mem_append]
    rcases List.mem_cons.1 h with rfl | h
    · exact .inl hn
    · exact .inr (weightsAll_mem h hn)
/-- what an opening leaves -/
structure Opened (W : World) (ρ : Ren) (m : Mem) (s : Sh) (cs : List Value) (ρ' : Ren) (m' : Mem) (as : List Value) (d : s.D) : Prop where
  rel : MRel W.heap.size ρ' m' W
  le : RenLe ρ ρ'
  old : ∀ b x, m.get b = some x → m'.get b = some x
  own : ∀ b x, m'.get b = some x → x.own = false
  vals : LRel ρ' as cs
  one : ∀ v ∈ as, oneC v = true
  abs : Abs m' s as d
def HeapOk (W : World) (cs : List Value) : Prop := ∀ a len cap, .slice (some a) len cap ∈ cs → 0 < W.heap.size
def OpenLaw (enc : TypeId × Value → H) (P : Program) (W : World) (t : TypeId) (s : Sh) : Prop :=
  ∀ fuel cs x, DataW.trod enc P W 0 (fun _ => true) true fuel t cs = some x → (∀ n ∈ x.1.weights P t, n ≤ reachBytes) → HeapOk W cs → ∀ ρ m, MRel W.heap.size ρ m W → (∀ b x, m.get b = some x → x.own = false) → ∃ ρ' m' as d, Opened W ρ m s cs ρ' m' as d

theorem open_fs {h : TypeId → Sh → Bool} (hh : ∀ t s, h t s = true → OpenLaw enc P W t s) : ∀ (fs : List Field) (s : Sh) (off fuel : Nat) (cs : List Value), hasFs P h off fs s = true → off + s.cells ≤ cs.length →
    (∀ f ∈ fs, ∃ x, DataW.trod enc P W 0 (fun _ => true) true fuel f.type ((cs.drop f.offset).take (P.cellsOf f.type)) = some x ∧ ∀ n ∈ x.1.weights P f.type, n ≤ reachBytes) → HeapOk W cs →
    ∀ ρ m, MRel W.heap.size ρ m W → (∀ b x, m.get b = some x → x.own = false) → ∃ ρ' m' as d, Opened W ρ m s ((cs.drop off).take s.cells) ρ' m' as d
  | [], .unit, off, fuel, cs, hs, hl, hx, hz, ρ, m, hm, ho => ⟨ρ, m, [], (), hm, RenLe.refl ρ, fun _ _ h => h, ho, by simpa [Sh.cells] using LRel.nil ρ, by simp, rfl⟩
  | f :: fs, .pair a b, off, fuel, cs, hs, hl, hx, hz, ρ, m, hm, ho => by
    simp only [hasFs, Bool.and_eq_true, beq_iff_eq] at hs
    obtain ⟨⟨⟨rfl, h1⟩, h2⟩, h3⟩ := hs
    simp only [Sh.cells] at hl ⊢
    obtain ⟨x, hx0, hw0⟩ := hx f (by simp)
    rw [h2] at hx0
    obtain ⟨ρ1, m1, as1, d1, o1⟩ := hh _ _ h1 _ _ _ hx0 hw0 (fun A len cap hA => hz A len cap (List.mem_of_mem_drop (List.mem_of_mem_take hA))) ρ m hm ho
    obtain ⟨ρ2, m2, as2, d2, o2⟩ := open_fs hh fs b (f.offset + a.cells) fuel cs h3 (by omega) (fun f' hf' => hx f' (by simp [hf'])) hz ρ1 m1 o1.rel o1.own
    refine ⟨ρ2, m2, as1 ++ as2, (d1, d2), o2.rel, o1.le.trans o2.le, fun b x hb => o2.old _ _ (o1.old _ _ hb), o2.own, ?_, ?_, ⟨as1, as2, rfl, o1.abs.mono (fun b x hb _ => o2.old _ _ hb), o2.abs⟩⟩
    · rw [List.take_add, List.drop_drop]
      exact (o1.vals.mono o2.le).append o2.vals
    · intro v hv
      rcases List.mem_append.1 hv with h | h
      · exact o1.one v h
      · exact o2.one v h
  | [], .int _, _, _, _, hs, _, _, _, _, _, _, _ => by simp [hasFs] at hs
  | [], .bool, _, _, _, hs, _, _, _, _, _, _, _ => by simp [hasFs] at hs
  | [], .str, _, _, _, hs, _, _, _, _, _, _, _ => by simp [hasFs] at hs
  | [], .slice _, _, _, _, hs, _, _, _, _, _, _, _ => by simp [hasFs] at hs
  | [], .pair _ _, _, _, _, hs, _, _, _, _, _, _, _ => by simp [hasFs] at hs
  | _ :: _, .int _, _, _, _, hs, _, _, _, _, _, _, _ => by simp [hasFs] at hs
  | _ :: _, .bool, _, _, _, hs, _, _, _, _, _, _, _ => by simp [hasFs] at hs
  | _ :: _, .str, _, _, _, hs, _, _, _, _, _, _, _ => by simp [hasFs] at hs
  | _ :: _, .slice _, _, _, _, hs, _, _, _, _, _, _, _ => by simp [hasFs] at hs
  | _ :: _, .unit, _, _, _, hs, _, _, _, _, _, _, _ => by simp [hasFs] at hs

theorem open_arr {h : Sh → Bool} {e : TypeId} {z : Nat} (hh : ∀ s, h s = true → OpenLaw enc P W e s) : ∀ (n : Nat) (s : Sh) (i fuel : Nat) (cs : List Value), hasArr h z n s = true → i * z + s.cells ≤ cs.length →
    (∀ j, i ≤ j → j < i + n → ∃ x, DataW.trod enc P W 0 (fun _ => true) true fuel e ((cs.drop (j * z)).take z) = some x ∧ ∀ n ∈ x.1.weights P e, n ≤ reachBytes) → HeapOk W cs →
    ∀ ρ m, MRel W.heap.size ρ m W → (∀ b x, m.get b = some x → x.own = false) → ∃ ρ' m' as d, Opened W ρ m s ((cs.drop (i * z)).take s.cells) ρ' m' as d
  | 0, .unit, i, fuel, cs, hs, hl, hx, hz, ρ, m, hm, ho => ⟨ρ, m, [], (), hm, RenLe.refl ρ, fun _ _ h => h, ho, by simpa [Sh.cells] using LRel.nil ρ, by simp, rfl⟩
  | n + 1, .pair a b, i, fuel, cs, hs, hl, hx, hz, ρ, m, hm, ho => by
    simp only [hasArr, Bool.and_eq_true, beq_iff_eq] at hs
    obtain ⟨⟨h1, rfl⟩, h3⟩ := hs
    simp only [Sh.cells] at hl ⊢
    obtain ⟨x, hx0, hw0⟩ := hx i (Nat.le_refl _) (by omega)
    obtain ⟨ρ1, m1, as1, d1, o1⟩ := hh _ h1 _ _ _ hx0 hw0 (fun A len cap hA => hz A len cap (List.mem_of_mem_drop (List.mem_of_mem_take hA))) ρ m hm ho
    have e1 : (i + 1) * a.cells = i * a.cells + a.cells := by rw [Nat.add_mul]; omega
    obtain ⟨ρ2, m2, as2, d2, o2⟩ := open_arr hh n b (i + 1) fuel cs h3 (by omega) (fun j h1 h2 => hx j (by omega) (by omega)) hz ρ1 m1 o1.rel o1.own
    refine ⟨ρ2, m2, as1 ++ as2, (d1, d2), o2.rel, o1.le.trans o2.le, fun b x hb => o2.old _ _ (o1.old _ _ hb), o2.own, ?_, ?_, ⟨as1, as2, rfl, o1.abs.mono (fun b x hb _ => o2.old _ _ hb), o2.abs⟩⟩
    · rw [List.take_add, List.drop_drop, ← e1]
      exact (o1.vals.mono o2.le).append o2.vals
    · intro v hv
      rcases List.mem_append.1 hv with h | h
      · exact o1.one v h
      · exact o2.one v h
  | 0, .int _, _, _, _, hs, _, _, _, _, _, _, _ => by simp [hasArr] at hs
  | 0, .bool, _, _, _, hs, _, _, _, _, _, _, _ => by simp [hasArr] at hs
  | 0, .str, _, _, _, hs, _, _, _, _, _, _, _ => by simp [hasArr] at hs
  | 0, .slice _, _, _, _, hs, _, _, _, _, _, _, _ => by simp [hasArr] at hs
  | 0, .pair _ _, _, _, _, hs, _, _, _, _, _, _, _ => by simp [hasArr] at hs
  | _ + 1, .int _, _, _, _, hs, _, _, _, _, _, _, _ => by simp [hasArr] at hs
  | _ + 1, .bool, _, _, _, hs, _, _, _, _, _, _, _ => by simp [hasArr] at hs
  | _ + 1, .str, _, _, _, hs, _, _, _, _, _, _, _ => by simp [hasArr] at hs
  | _ + 1, .slice _, _, _, _, hs, _, _, _, _, _, _, _ => by simp [hasArr] at hs
  | _ + 1, .unit, _, _, _, hs, _, _, _, _, _, _, _ => by simp [hasArr] at hs

/-- the rows of a slice, one after the other -/
theorem open_rows {e : TypeId} {s : Sh} (hh : OpenLaw enc P W e s) {a : Addr} (hs : a.spot = none) {fuel : Nat} (hW : 0 < W.heap.size) : ∀ (k : Nat), (∀ i, i < k → ∃ cs x, W.cells? 0 (a.add (i * s.cells)) s.cells = some cs ∧ DataW.trod enc P W 0 (fun _ => true) true fuel e cs = some x ∧ ∀ n ∈ x.1.weights P e, n ≤ reachBytes) →
    ∀ ρ m, MRel W.heap.size ρ m W → (∀ b x, m.get b = some x → x.own = false) →
    ∃ (ρ' : Ren) (m' : Mem) (rows : List (List Value)) (ds : List s.D), MRel W.heap.size ρ' m' W ∧ RenLe ρ ρ' ∧ (∀ b x, m.get b = some x → m'.get b = some x) ∧ (∀ b x, m'.get b = some x → x.own = false) ∧ rows.length = k ∧ ds.length = k ∧ (rows.flatten).length = k * s.cells ∧
      (∀ i v, rows.flatten[i]? = some v → oneC v = true ∧ ∃ v', W.cell? ⟨a.block, a.off + i, none⟩ = some v' ∧ VRel ρ' v v') ∧ (∀ (i : Nat) (r : List Value) (d : s.D), rows[i]? = some r → ds[i]? = some d → Abs m' s r d)
  | 0, _, ρ, m, hm, ho => ⟨ρ, m, [], [], hm, RenLe.refl ρ, fun _ _ h => h, ho, rfl, rfl, by simp, by simp, by simp⟩
  | k + 1, hk, ρ, m, hm, ho => by
    obtain ⟨ρ1, m1, rows, ds, g1, g2, g3, g4, g5, g6, g7, g8, g9⟩ := open_rows hh hs hW k (fun i hi => hk i (by omega)) ρ m hm ho
    obtain ⟨cs, x, hc, hx, hwx⟩ := hk k (by omega)
    obtain ⟨_, hlen, hcell⟩ := World.cells?_some hc
    obtain ⟨ρ2, m2, as, d, o⟩ := hh _ _ _ hx hwx (fun _ _ _ _ => hW) ρ1 m1 g1 g4
    have hal : as.length = s.cells := o.abs.len
    refine ⟨ρ2, m2, rows ++ [as], ds ++ [d], o.rel, g2.trans o.le, fun b x hb => o.old _ _ (g3 _ _ hb), o.own, by simp [g5], by simp [g6], ?_, ?_, ?_⟩
    · simp [g7, hal, Nat.add_mul]
    · intro i v hv
      rw [List.flatten_append, List.getElem?_append] at hv
      split at hv
      · obtain ⟨q1, v', q2, q3⟩ := g8 i v hv; exact ⟨q1, v', q2, q3.mono o.le⟩
      · rename_i hi
        rw [g7] at hi hv
        simp only [List.flatten_cons, List.flatten_nil, List.append_nil] at hv
        refine ⟨o.one v (List.mem_of_getElem? hv), ?_⟩
        obtain ⟨v', hv', hr⟩ := o.vals.get hv
        have hi2 : i - k * s.cells < s.cells := by have := (List.getElem?_eq_some_iff.1 hv).1; omega
        have := hcell _ hi2
        rw [hv'] at this
        refine ⟨v', ?_, hr⟩
        rw [← this]
        congr 1
        obtain ⟨ab, ao, asp⟩ := a
        simp only at hs; subst hs
        unfold Addr.add
        split <;> split <;> simp <;> omega
    · intro i r d' hr hd
      rw [List.getElem?_append] at hr hd
      rw [g5] at hr
      rw [g6] at hd
      split at hr
      · rename_i hi; rw [if_pos hi] at hd
        exact (g9 i r d' hr hd).mono (fun b x hb _ => o.old _ _ hb)
      · rename_i hi; rw [if_neg hi] at hd
        have : i - k = 0 := by
          have := (List.getElem?_eq_some_iff.1 hr).1
          simp at this; omega
        rw [this] at hr hd
        simp at hr hd
        subst hr; subst hd
        exact o.abs

theorem open_sh : ∀ (n : Nat) (t : TypeId) (s : Sh), hasSh P n t s = true → OpenLaw enc P W t s
  | 0, _, _, h => by cases h
  | n + 1, t, s, h => by
    have ih := open_sh n
    intro fuel cs x hx hwt hz ρ m hm ho
    unfold hasSh at h
    split at h
    · rename_i k k' hu
      simp only [decide_eq_true_eq] at h; subst h
      obtain ⟨v, rfl, rfl, hw⟩ := DataW.trod_int hu hx
      exact ⟨ρ, m, [.int k v], v, hm, RenLe.refl ρ, fun _ _ h => h, ho, LRel.cons (.flat rfl) (LRel.nil ρ), by simp [oneC], ⟨rfl, hw⟩⟩
    · rename_i hu
      obtain ⟨b, rfl, rfl⟩ := DataW.trod_bool hu hx
      exact ⟨ρ, m, [.bool b], b, hm, RenLe.refl ρ, fun _ _ h => h, ho, LRel.cons (.flat rfl) (LRel.nil ρ), by simp [oneC], rfl⟩
    · rename_i hu
      obtain ⟨v, rfl, rfl, hw⟩ := DataW.trod_string hu hx
      exact ⟨ρ, m, [.string v], v, hm, RenLe.refl ρ, fun _ _ h => h, ho, LRel.cons (.flat rfl) (LRel.nil ρ), by simp [oneC], ⟨rfl, by have := hwt v.data.toList.length (by simp [DataW.weights]); simpa using this⟩⟩
    · rename_i e s' hu
      simp only [Bool.and_eq_true, beq_iff_eq, decide_eq_true_eq] at h
      obtain ⟨⟨⟨h1, h2⟩, h3⟩, hbe⟩ := h
      rcases DataW.trod_slice hu hx with ⟨rfl, rfl⟩ | ⟨a, len, cap, elems, rest, n', _, rfl, rfl, _, hlc, hcm, hel, hE, hR, _⟩
      · exact ⟨ρ, m, [.slice none 0 0], [], hm, RenLe.refl ρ, fun _ _ h => h, ho, LRel.cons (.flat rfl) (LRel.nil ρ), by simp [oneC], .inl ⟨rfl, rfl⟩⟩
      · have hW : 0 < W.heap.size := hz a len cap (by simp)
        have hwl : len * s'.lo ≤ reachBytes := by
          have h5 := hwt ((elems.length + rest.length) * P.bytesOf e) (by simp [DataW.weights, hu])
          have h6 : len * s'.lo ≤ (elems.length + rest.length) * P.bytesOf e := Nat.mul_le_mul (by omega) hbe
          omega
        have hwe : ∀ y ∈ elems, ∀ n ∈ y.1.weights P e, n ≤ reachBytes := fun y hy n hn => hwt n (by
          simp only [DataW.weights, hu]
          exact List.mem_cons_of_mem _ (List.mem_append_left _ (weightsAll_mem (List.mem_map_of_mem hy) hn)))
        rw [h2] at hE hR
        have hR := hR rfl
        -- where there is a cell, the address is plain
        have hcap : 0 < cap → a.spot = none ∧ a.block < W.heap.size := by
          intro hc
          have : ∃ cs, W.cells? 0 a s'.cells = some cs := by
            by_cases hl : 0 < len
            · have := hE 0 hl
              obtain ⟨y, hy⟩ : ∃ y, elems[0]? = some y := ⟨elems[0]'(by omega), by simp⟩
              rw [hy, Option.bind_eq_some_iff] at this
              obtain ⟨cs, hcs, _⟩ := this
              exact ⟨cs, by simpa [Addr.add] using hcs⟩
            · have := hR.2 0 (by omega)
              obtain ⟨y, hy⟩ : ∃ y, rest[0]? = some y := ⟨rest[0]'(by omega), by simp⟩
              rw [hy, Option.bind_eq_some_iff] at this
              obtain ⟨cs, hcs, _⟩ := this
              exact ⟨cs, by simpa [Addr.add, show len = 0 by omega] using hcs⟩
          obtain ⟨cs, hcs⟩ := this
          refine ⟨?_, World.cells?_block hcs h3⟩
          obtain ⟨_, hl, hcell⟩ := World.cells?_some hcs
          have h0 := hcell 0 h3
          obtain ⟨c0, hc0⟩ : ∃ c0, cs[0]? = some c0 := ⟨cs[0]'(by omega), by simp⟩
          rw [hc0] at h0
          simp only [Addr.add, if_true] at h0
          unfold World.cell? at h0
          split at h0
          · split at h0
            · cases h0
            · rename_i hsp; simpa using hsp
          · cases h0
        by_cases hc0 : cap = 0
        · obtain rfl : len = 0 := by omega
          subst hc0
          obtain ⟨r1, r2, r3, r4, r5⟩ := hm.addRO ho (xs := []) (l := ⟨0, 0, 0⟩) hW (Nat.le_refl _) (by simp)
          refine ⟨_, _, [.slice (some ⟨m.next, 0, none⟩) 0 s'.cells], [], r1, r2, r3, r4, LRel.cons (.slice (l := ⟨0, 0, 0⟩) (by simp [updR]) (.inl ⟨rfl, rfl⟩) (Nat.le_refl _) (Nat.zero_le _)) (LRel.nil _), by simp [oneC], .inr ⟨m.next, [], rfl, r5, by simp [asL], rfl, by simp⟩⟩
        · obtain ⟨hsp, hbk⟩ := hcap (by omega)
          have hel' : ∀ i, i < len → ∃ cs x, W.cells? 0 (a.add (i * s'.cells)) s'.cells = some cs ∧ DataW.trod enc P W 0 (fun _ => true) true n' e cs = some x ∧ ∀ n ∈ x.1.weights P e, n ≤ reachBytes := by
            intro i hi
            have := hE i hi
            obtain ⟨y, hy⟩ : ∃ y, elems[i]? = some y := ⟨elems[i]'(by omega), by simp⟩
            have hyy := hy
            rw [hy, Option.bind_eq_some_iff] at this
            obtain ⟨cs, hcs, hy⟩ := this
            exact ⟨cs, y, hcs, hy, hwe y (List.mem_of_getElem? hyy)⟩
          obtain ⟨ρ1, m1, rows, ds, g1, g2, g3, g4, g5, g6, g7, g8, g9⟩ := open_rows (ih _ _ h1) hsp hW len hel' ρ m hm ho
          have hle : len * s'.cells ≤ cap * s'.cells := Nat.mul_le_mul_right _ hlc
          have g6' : (asL ds).length = len := g6
          obtain ⟨r1, r2, r3, r4, r5⟩ := g1.addRO g4 (xs := rows.flatten) (l := ⟨a.block, a.off, cap * s'.cells⟩) hbk (by rw [g7]; exact hle) g8
          refine ⟨_, _, [.slice (some ⟨m1.next, 0, none⟩) len s'.cells], ds, r1, g2.trans r2, fun b x hb => r3 _ _ (g3 _ _ hb), r4, LRel.cons (.slice (l := ⟨a.block, a.off, cap * s'.cells⟩) (by simp [updR]) (.inr ⟨?_, by simp⟩) hlc hcm) (LRel.nil _), by simp [oneC],
            
            .inr ⟨m1.next, rows, by rw [g6'], r5, by rw [g6']; exact hwl, by omega, fun i r d hr hd => (g9 i r d hr hd).mono (fun b x hb _ => r3 _ _ hb)⟩⟩
          obtain ⟨ab, ao, asp⟩ := a
          simp only at hsp; subst hsp; rfl
    · rename_i s' fs hu
      simp only [Bool.and_eq_true, beq_iff_eq] at h
      obtain ⟨⟨h0, h1⟩, h2⟩ := h
      obtain ⟨xs, n', _, rfl, hl, hxl, hf⟩ := DataW.trod_struct hu hx
      have := open_fs (fun t s h => ih t s h) fs.toList _ 0 n' cs h2 (by rw [hl, h1]; omega) (fun f hf' => ?_) hz ρ m hm ho
      · rw [List.drop_zero, List.take_of_length_le (by omega)] at this; exact this
      · obtain ⟨i, hi, rfl⟩ := List.getElem_of_mem hf'
        have hi' : i < fs.size := by simpa using hi
        have := hf i fs[i] (by simp [hi'])
        refine ⟨xs[i]'(by omega), ?_, fun n hn => hwt n ?_⟩
        · rw [List.getElem?_eq_getElem (by omega)] at this
          simpa using this
        · simp only [DataW.weights, hu]
          exact DataW.weights_mem_each (j := i) (t := fs[i].type) (d := xs[i].1) (by simp [hi']) (by simp [List.getElem?_eq_getElem (show i < xs.length by omega)]) n (by simpa using hn)
    · rename_i s' k e hu
      simp only [Bool.and_eq_true, beq_iff_eq] at h
      obtain ⟨⟨h0, h1⟩, h2⟩ := h
      obtain ⟨xs, n', _, rfl, hl, hxl, hf⟩ := DataW.trod_array hu hx
      have := open_arr (fun s h => ih e s h) k _ 0 n' cs h2 (by rw [hl, h1]; omega) (fun j _ hj => ?_) hz ρ m hm ho
      · rw [Nat.zero_mul, List.drop_zero, List.take_of_length_le (by omega)] at this; exact this
      · have := hf j (by omega)
        refine ⟨xs[j]'(by omega), ?_, fun n hn => hwt n ?_⟩
        · rw [List.getElem?_eq_getElem (by omega)] at this
          simpa using this
        · simp only [DataW.weights, hu]
          exact weightsAll_mem (List.mem_map_of_mem (List.getElem_mem (show j < xs.length by omega))) hn
    · cases h

/-- the arguments of a call: their own cells -/
theorem heapOk_of {B : Nat} {t : TypeId} {v : Value} (hv : Value.okWide P W .any B t v) : HeapOk W v.cells.toList := by
  have cell : ∀ u a len cap, Cell.okWide P W .any B u (.slice (some a) len cap) → 0 < W.heap.size := by
    intro u a len cap h
    unfold Cell.okWide at h
    split at h <;> try (rename_i h1; cases h1)
    unfold Cell.ok at h
    split at h <;> rename_i h1 <;> try cases h1
    · obtain ⟨_, _, _, _, row, cells, hs, _⟩ := h
      unfold World.shape? at hs
      split at hs
      · rename_i hh; have := (Array.getElem?_eq_some_iff.1 hh).1; omega
      · cases hs
    · cases h
  intro a len cap hm
  unfold Value.okWide at hv
  split at hv
  · obtain ⟨cs, rfl, _, ts, _, _, hr⟩ := hv
    obtain ⟨i, hi, he⟩ := List.getElem_of_mem hm
    obtain ⟨u, _, hc⟩ := hr i (.slice (some a) len cap) (by
      have : i < cs.size := by simpa [Value.cells] using hi
      rw [Array.getElem?_eq_getElem this]
      simpa [Value.cells] using he)
    exact cell u a len cap hc
  · obtain ⟨cs, rfl, _, ts, _, _, hr⟩ := hv
    obtain ⟨i, hi, he⟩ := List.getElem_of_mem hm
    obtain ⟨u, _, hc⟩ := hr i (.slice (some a) len cap) (by
      have : i < cs.size := by simpa [Value.cells] using hi
      rw [Array.getElem?_eq_getElem this]
      simpa [Value.cells] using he)
    exact cell u a len cap hc
  · cases v <;> simp [Value.cells] at hm
    · obtain ⟨rfl, rfl, rfl⟩ := hm; exact cell _ _ _ _ hv
    · exfalso; unfold Cell.okWide at hv; split at hv <;> try (rename_i h1; cases h1)
      unfold Cell.ok at hv; split at hv <;> try (rename_i h1; cases h1)
      cases hv

/-- one argument -/
theorem open_arg {n : Nat} {t : TypeId} {s : Sh} (hs : hasSh P n t s = true) {B : Nat} {v : Value} {d : DataW H} {ps : List MemPlace} (hv : Value.okWide P W .any B t v) (hd : DataW.Trod enc P W 0 (fun _ => true) true t v d ps) (hwt : ∀ n ∈ d.weights P t, n ≤ reachBytes)
    {ρ : Ren} {m : Mem} (hm : MRel W.heap.size ρ m W) (ho : ∀ b x, m.get b = some x → x.own = false) :
    ∃ ρ' m' u dd, MRel W.heap.size ρ' m' W ∧ RenLe ρ ρ' ∧ (∀ b x, m.get b = some x → m'.get b = some x) ∧ (∀ b x, m'.get b = some x → x.own = false) ∧ VRel ρ' u v ∧ AbsV m' s u dd := by
  obtain ⟨fuel, hx⟩ := hd
  obtain ⟨ρ', m', as, dd, o⟩ := open_sh n t s hs fuel _ _ hx hwt (heapOk_of hv) ρ m hm ho
  refine ⟨ρ', m', if s.isAgg then .agg as.toArray else as.headD undef, dd, o.rel, o.le, o.old, o.own, ?_, as, o.abs, rfl⟩
  cases n with
  | zero => cases hs
  | succ n =>
    unfold hasSh at hs
    have single : ∀ w : Value, v.cells.toList = [w] → w = v → s.isAgg = false → VRel ρ' (if s.isAgg then .agg as.toArray else as.headD undef) v := by
      intro w hw he ha
      rw [ha]
      have h1 := o.vals
      rw [hw] at h1
      have h2 := h1.1
      cases as with
      | nil => simp at h2
      | cons a as => have := h1.2 0 a w rfl rfl; rw [he] at this; simpa using this
    have agg : (∃ cs, v = .agg cs) → s.isAgg = true → VRel ρ' (if s.isAgg then .agg as.toArray else as.headD undef) v := by
      rintro ⟨cs, rfl⟩ ha
      rw [ha]
      have h1 := o.vals
      simp only [Value.cells] at h1
      have := h1.agg o.one
      simpa using this
    split at hs
    · rename_i k k' hu
      obtain ⟨n, rfl⟩ := WideShapes.okWide_int hu hv
      exact single _ rfl rfl rfl
    · rename_i hu
      obtain ⟨n, rfl⟩ := WideShapes.okWide_bool hu hv
      exact single _ rfl rfl rfl
    · rename_i hu
      obtain ⟨n, rfl⟩ := WideShapes.okWide_string hu hv
      exact single _ rfl rfl rfl
    · rename_i e s' hu
      obtain ⟨a, l, c, rfl⟩ := WideShapes.okWide_slice hu hv
      exact single _ rfl rfl rfl
    · rename_i fs hu
      simp only [Bool.and_eq_true] at hs
      obtain ⟨cs, rfl, _⟩ := WideShapes.okWide_struct hu hv
      exact agg ⟨cs, rfl⟩ hs.1.1
    · rename_i k e hu
      simp only [Bool.and_eq_true] at hs
      unfold Value.okWide at hv
      rw [hu] at hv
      obtain ⟨cs, rfl, _⟩ := hv
      exact agg ⟨cs, rfl⟩ hs.1.1
    · cases hs

def hasShs (P : Program) (n : Nat) : List TypeId → List Sh → Bool
  | [], [] => true
  | t :: ts, s :: ss => hasSh P n t s && hasShs P n ts ss
  | _, _ => false
theorem open_args {n : Nat} {B : Nat} : ∀ (ts : List TypeId) (ss : List Sh) (vs : List Value) (ds : List (DataW H)) (ps : List MemPlace), hasShs P n ts ss = true → (∀ (j : Nat) t v, ts[j]? = some t → vs[j]? = some v → Value.okWide P W .any B t v) →
    DataW.TrodAll enc P W 0 (fun _ => true) true ts vs ds ps → (∀ n ∈ DataW.weightsEach P ts ds, n ≤ reachBytes) → ∀ ρ m, MRel W.heap.size ρ m W → (∀ b x, m.get b = some x → x.own = false) →
    ∃ ρ' m' us, MRel W.heap.size ρ' m' W ∧ RenLe ρ ρ' ∧ (∀ b x, m.get b = some x → m'.get b = some x) ∧ LRel ρ' us vs ∧ AbsArgs m' ss us
  | [], [], [], [], _, _, _, _, _, ρ, m, hm, ho => ⟨ρ, m, [], hm, RenLe.refl ρ, fun _ _ h => h, LRel.nil ρ, .nil⟩
  | t :: ts, s :: ss, v :: vs, d :: ds, ps, hs, hv, ht, hwt, ρ, m, hm, ho => by
    simp only [hasShs, Bool.and_eq_true] at hs
    obtain ⟨p, q, h1, h2, rfl⟩ := ht
    obtain ⟨ρ1, m1, u, dd, g1, g2, g3, g4, g5, g6⟩ := open_arg hs.1 (hv 0 t v rfl rfl) h1 (fun n hn => hwt n (by simp only [DataW.weightsEach]; exact List.mem_append_left _ hn)) hm ho
    obtain ⟨ρ2, m2, us, k1, k2, k3, k4, k5⟩ := open_args ts ss vs ds q hs.2 (fun j t v a b => hv (j + 1) t v (by simpa using a) (by simpa using b)) h2 (fun n hn => hwt n (by simp only [DataW.weightsEach]; exact List.mem_append_right _ hn)) ρ1 m1 g1 g4
    obtain ⟨cs, g6, g7⟩ := g6
    exact ⟨ρ2, m2, u :: us, k1, g2.trans k2, fun b x hb => k3 _ _ (g3 _ _ hb), LRel.cons (g5.mono k2) k4, .cons ⟨cs, g6.mono (fun b x hb _ => k3 _ _ hb), g7⟩ k5⟩
  | [], _ :: _, _, _, _, hs, _, _, _, _, _, _, _ => by simp [hasShs] at hs
  | _ :: _, [], _, _, _, hs, _, _, _, _, _, _, _ => by simp [hasShs] at hs
  | [], [], _ :: _, _, _, _, _, ht, _, _, _, _, _ => by simp [DataW.TrodAll] at ht
  | [], [], [], _ :: _, _, _, _, ht, _, _, _, _, _ => by simp [DataW.TrodAll] at ht
  | _ :: _, _ :: _, [], _, _, _, _, ht, _, _, _, _, _ => by simp [DataW.TrodAll] at ht
  | _ :: _, _ :: _, _ :: _, [], _, _, _, ht, _, _, _, _, _ => by simp [DataW.TrodAll] at ht

/-- a law's frame, whatever its arguments -/
theorem law_abs (hmix : P.follows .mixedOrders = true) {f n B : Nat} {ts : List TypeId} {ss : List Sh} (hs : hasShs P n ts ss = true) {args : Array Value} {ds : List (DataW H)} {ps : List MemPlace}
    (hv : ∀ (j : Nat) t v, ts[j]? = some t → args[j]? = some v → Value.okWide P W .any B t v) (ht : DataW.TrodAll enc P W 0 (fun _ => true) true ts args.toList ds ps) (hwt : ∀ n ∈ DataW.weightsEach P ts ds, n ≤ reachBytes)
    (h : ∀ m us, AbsArgs m ss us → WPCall P f us m fun r _ => r = .bool true) :
    Calls P f args W fun e w' => e = .returned (.bool true) ∧ Below W.heap.size W w' := by
  obtain ⟨ρ, m, us, g1, _, _, g4, g5⟩ := open_args ts ss args.toList ds ps hs (fun j t v a b => hv j t v a (by simpa using b)) ht hwt _ _ MRel.empty (fun b x h => by unfold Mem.get at h; split at h <;> cases h)
  obtain ⟨k, r, m', h1, rfl⟩ := h m us g5
  have := (call_all hmix k W.heap.size f us _ _ _ h1).2.2.2.2 ρ W args g4 g1 (Nat.le_refl _)
  refine this.mono fun e w' hh => ?_
  obtain ⟨v, ρ', rfl, _, _, hv, _, hb⟩ := hh
  exact ⟨by rw [hv.inv_bool], hb⟩
end

theorem flat_ints (k : IntKind) : ∀ l : List Int, ((l.map (encS (.int k))).flatten : List Value) = l.map (Value.int k ·)
  | [] => rfl
  | x :: xs => by
    have := flat_ints k xs
    simp only [List.map_cons, List.flatten_cons, this]; rfl
theorem flat_bools : ∀ l : List Bool, ((l.map (encS .bool)).flatten : List Value) = l.map (Value.bool ·)
  | [] => rfl
  | x :: xs => by
    have := flat_bools xs
    simp only [List.map_cons, List.flatten_cons, this]; rfl
theorem AbsV.ints {m : Mem} {k : IntKind} {v : Value} {l : List Int} (h : AbsV m (.slice (.int k)) v l) :
    ((v = .slice none 0 0 ∧ l = []) ∨ ∃ b, v = .slice (some ⟨b, 0, none⟩) l.length 1 ∧ m.get b = some ⟨l.map (Value.int k ·), false⟩) ∧ l.length ≤ reachBytes ∧ ∀ n ∈ l, (Lit.int k n).wf = true := by
  obtain ⟨cs, h, rfl⟩ := h
  refine ⟨?_, Sh.lo_le _ h.ok.1, h.ok.2⟩
  rcases h.flatSlice rfl with ⟨rfl, h0⟩ | ⟨b, rfl, hb, _⟩
  · exact .inl ⟨rfl, h0⟩
  · exact .inr ⟨b, rfl, by rw [hb, ← flat_ints]⟩
theorem AbsV.bools {m : Mem} {v : Value} {l : List Bool} (h : AbsV m (.slice .bool) v l) :
    ((v = .slice none 0 0 ∧ l = []) ∨ ∃ b, v = .slice (some ⟨b, 0, none⟩) l.length 1 ∧ m.get b = some ⟨l.map (Value.bool ·), false⟩) ∧ l.length ≤ reachBytes := by
  obtain ⟨cs, h, rfl⟩ := h
  refine ⟨?_, Sh.lo_le _ h.ok.1⟩
  rcases h.flatSlice rfl with ⟨rfl, h0⟩ | ⟨b, rfl, hb, _⟩
  · exact .inl ⟨rfl, h0⟩
  · exact .inr ⟨b, rfl, by rw [hb, ← flat_bools]⟩
theorem AbsV.int {m : Mem} {k : IntKind} {v : Value} {n : Int} (h : AbsV m (.int k) v n) : v = .int k n ∧ (Lit.int k n).wf = true := by
  obtain ⟨cs, h, rfl⟩ := h
  obtain ⟨rfl, h⟩ := h
  exact ⟨rfl, h⟩
theorem AbsV.bool {m : Mem} {v : Value} {b : Bool} (h : AbsV m .bool v b) : v = .bool b := by
  obtain ⟨cs, h, rfl⟩ := h
  have : cs = [.bool b] := h
  subst this; rfl
theorem AbsV.str {m : Mem} {v : Value} {s : ByteArray} (h : AbsV m .str v s) : v = .string s ∧ s.size ≤ reachBytes := by
  obtain ⟨cs, h, rfl⟩ := h
  obtain ⟨rfl, h⟩ := h
  exact ⟨rfl, h⟩
theorem u8_wf {n : Int} (h : (Lit.int .u8 n).wf = true) : 0 ≤ n ∧ n < 256 := by
  simp [Lit.wf, IntKind.min, IntKind.max, IntKind.signed, IntKind.bits] at h; omega
theorem i64_wf {n : Int} (h : (Lit.int .i64 n).wf = true) : -9223372036854775808 ≤ n ∧ n ≤ 9223372036854775807 := by
  simp [Lit.wf, IntKind.min, IntKind.max, IntKind.signed, IntKind.bits] at h; omega
end Go.DI
