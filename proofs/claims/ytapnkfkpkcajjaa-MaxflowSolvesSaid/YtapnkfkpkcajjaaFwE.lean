/-
  The operations that touch no memory, the rest: slicing, structs, min and max, comparison of structs.
-/
import Derived.Test.YtapnkfkpkcajjaaFwD
namespace Go.DI
open Go Go.RowKit

section
variable {P : Program} {w : World} {o : Oper} {a : Act}

/-- a slice expression's bound, as the model reads it -/
def BoundIs (x : Option Value) (dflt : Nat) (n : Nat) : Prop := (x = none ∧ n = dflt) ∨ ∃ (k : IntKind) (i : Int), x = some (.int k i) ∧ 0 ≤ i ∧ i.toNat = n

theorem run_bound {k : IntKind} {i : Int} {y n : Nat} {c : BoundsCode} (h0 : 0 ≤ i) (h1 : i.toNat = n) (h2 : n ≤ y) : (Instr.sliceBound (.int k i) y c).run P w = .ok n w := by
  have : i ≤ (y : Int) := by omega
  simp [Instr.sliceBound, asIntOf, h0, this, h1]

theorem run_bounds {isS : Bool} {len cap l h : Nat} {lo hi : Option Value} (hl : BoundIs lo 0 l) (hh : BoundIs hi len h) (h1 : l ≤ h) (h2 : h ≤ cap) :
    (Instr.sliceBounds isS len cap lo hi none).run P w = .ok (l, h, cap) w := by
  rcases hl with ⟨rfl, rfl⟩ | ⟨k, i, rfl, hi0, hi1⟩ <;> rcases hh with ⟨rfl, rfl⟩ | ⟨k', i', rfl, hj0, hj1⟩
  · simp [Instr.sliceBounds]
  · simp [Instr.sliceBounds, run_bound hj0 hj1 h2]
  · simp [Instr.sliceBounds, run_bound hi0 hi1 h1]
  · simp [Instr.sliceBounds, run_bound hj0 hj1 h2, run_bound hi0 hi1 h1]

theorem y_sliceStr {t : TypeId} {x : Operand} {lo hi : Option Operand} {s : ByteArray} {l h : Nat} (hop : o.op = .slice t x lo hi none) (ht : P.underlying t = some .string) (hx : a.eval x = .string s)
    (hl : BoundIs (lo.map a.eval) 0 l) (hh : BoundIs (hi.map a.eval) s.size h) (h1 : l ≤ h) (h2 : h ≤ s.size) : Yields P o a w (.string (s.extract l h)) w := by
  refine .inl ?_
  simp [execOp, hop, hx, Instr.sliceAt, Instr.slice, run_underlying ht, run_bounds hl hh h1 h2]

theorem y_sliceS {t e : TypeId} {x : Operand} {lo hi : Option Operand} {p : Option Addr} {len cap : Nat} {inf : TypeInfo} {l h : Nat} (hop : o.op = .slice t x lo hi none) (ht : P.underlying t = some (.slice e)) (hi' : P.info? e = some inf)
    (hx : a.eval x = .slice p len cap) (hl : BoundIs (lo.map a.eval) 0 l) (hh : BoundIs (hi.map a.eval) len h) (h1 : l ≤ h) (h2 : h ≤ cap) :
    Yields P o a w (.slice (if cap = l then p else p.map (·.add (l * inf.size))) (h - l) (cap - l)) w := by
  refine .inl ?_
  simp [execOp, hop, hx, Instr.sliceAt, Instr.slice, run_underlying ht, run_bounds hl hh h1 h2, sizeOf, typeInfo, hi']

theorem boundIs_of {ρ : Ren} {nt : Nat} {σ : Slots} (hs : SRel ρ nt σ a) {x : Option Operand} (hx : optArgOk x = true) (hok : optOk σ x = true) (d : Nat) (h0 : 0 ≤ optI σ x d) : BoundIs (x.map a.eval) d (optI σ x d).toNat := by
  cases x with
  | none => exact .inl ⟨rfl, by simp [optI]⟩
  | some x =>
    have hr := hs.ev (x := x) hx
    simp only [optOk] at hok
    simp only [optI] at h0 ⊢
    cases hv : ev σ x <;> simp [hv, isI] at hok
    rw [hv] at hr
    refine .inr ⟨_, _, by simp [hr.inv_int]; exact ⟨rfl, rfl⟩, ?_, ?_⟩
    · simpa [hv, asI] using h0
    · simp [asI]

/-! structs and arrays -/
theorem foldl_blit (off : Nat) : ∀ (vs : List Value) (j : Nat) (cs : Array Value), ((vs.zipIdx j).foldl (fun cs (c, j) => cs.setIfInBounds (off + j) c) cs).toList = blit cs.toList (off + j) vs
  | [], _, _ => rfl
  | v :: vs, j, cs => by
    simp only [List.zipIdx_cons, List.foldl_cons, blit]
    rw [foldl_blit off vs (j + 1)]
    simp [Nat.add_assoc]
theorem foldl_blit' (off : Nat) (v : Value) (cs : Array Value) : (v.cells.zipIdx.foldl (fun cs (c, j) => cs.setIfInBounds (off + j) c) cs).toList = blit cs.toList off v.cells.toList := by
  have := foldl_blit off v.cells.toList 0 cs
  simp only [Nat.add_zero] at this
  rw [← this, ← Array.foldl_toList]
  simp [Array.toList_zipIdx]
theorem blit_length : ∀ (vs : List Value) (off : Nat) (cs : List Value), (blit cs off vs).length = cs.length
  | [], _, _ => rfl
  | v :: vs, off, cs => by simp only [blit]; rw [blit_length vs]; simp

theorem blit_all (p : Value → Prop) : ∀ (vs : List Value) (off : Nat) (cs : List Value), (∀ x ∈ cs, p x) → (∀ x ∈ vs, p x) → ∀ x ∈ blit cs off vs, p x
  | [], _, _, h, _ => h
  | v :: vs, off, cs, h, h2 => by
    simp only [blit]
    refine blit_all p vs _ _ (fun x hx => ?_) (fun x hx => h2 x (by simp [hx]))
    rcases List.mem_or_eq_of_mem_set hx with h3 | h3
    · exact h x h3
    · subst h3; exact h2 _ (by simp)

/-- a literal's parts, laid in -/
theorem fill_sound {ρ : Ren} {nt : Nat} {σ : Slots} (hs : SRel ρ nt σ a) (place : Nat → Option (Nat × Nat)) : ∀ (ps : List (Nat × Operand)) (qs : List (Nat × Nat × Operand)) (cs : List Value) (ds : Array Value),
    (ps.length = qs.length ∧ ∀ (i : Nat) p q, ps[i]? = some p → qs[i]? = some q → p.2 = q.2.2 ∧ argOk p.2 = true ∧ place p.1 = some (q.1, q.2.1)) →
    LRel ρ cs ds.toList → (∀ x ∈ cs, oneC x = true) → partsOk cs σ qs = true → ∃ ds' : Array Value, Instr.fill place ds (ps.map fun p => (p.1, a.eval p.2)) = some ds' ∧ LRel ρ (partsV cs σ qs) ds'.toList ∧ (∀ x ∈ partsV cs σ qs, oneC x = true)
  | [], [], cs, ds, _, hr, ho, _ => ⟨ds, rfl, hr, ho⟩
  | [], _ :: _, _, _, hpq, _, _, _ => by simp at hpq
  | _ :: _, [], _, _, hpq, _, _, _ => by simp at hpq
  | p :: ps, (q1, q2, q3) :: qs, cs, ds, hpq, hr, ho, hok => by
    obtain ⟨e1, e2, e3⟩ := hpq.2 0 p (q1, q2, q3) rfl rfl
    dsimp only at e1 e3
    simp only [partsOk, List.all_cons, Bool.and_eq_true, decide_eq_true_eq] at hok
    have hv := hs.ev (x := p.2) e2
    rw [e1] at hv
    have hc := vcells_rel hv
    have hl : (a.eval q3).cells.size = q2 := by have := hc.1; simp only [Array.length_toList] at this; rw [← this]; exact hok.1.1.2
    have hd : ds.size = cs.length := by have := hr.1; simp at this; exact this.symm
    have hr2 : LRel ρ (blit cs q1 (vcells (ev σ q3))) ((a.eval q3).cells.zipIdx.foldl (fun cs (c, j) => cs.setIfInBounds (q1 + j) c) ds).toList := by
      rw [foldl_blit']
      exact hr.blit _ hc
    have ho2 : ∀ x ∈ blit cs q1 (vcells (ev σ q3)), oneC x = true := blit_all (fun x => oneC x = true) _ _ _ ho (vcells_one hv hok.1.1.1)
    obtain ⟨ds', h1, h2, h3⟩ := fill_sound hs place ps qs _ _ ⟨by simpa using hpq.1, fun i x y hx hy => hpq.2 (i + 1) x y (by simpa using hx) (by simpa using hy)⟩ hr2 ho2 (by
      have h3 := hok.2
      simp only [partsOk, blit_length] at h3 ⊢
      exact h3)
    refine ⟨ds', ?_, by simpa only [partsV] using h2, by simpa only [partsV] using h3⟩
    simp only [List.map_cons, Instr.fill, e1, e3, hl, ne_eq, not_true_eq_false, decide_false, Bool.false_or]
    rw [if_neg (by simp; omega)]
    exact h1

theorem fieldParts_spec {fs : Array Field} : ∀ (ps : List (Nat × Operand)) (qs : List (Nat × Nat × Operand)), fieldParts P fs ps = some qs →
    ps.length = qs.length ∧ ∀ (i : Nat) p q, ps[i]? = some p → qs[i]? = some q → p.2 = q.2.2 ∧ argOk p.2 = true ∧ ∃ f inf, fs[p.1]? = some f ∧ P.info? f.type = some inf ∧ q.1 = f.offset ∧ q.2.1 = inf.size
  | [], qs, h => by simp [fieldParts] at h; subst h; simp
  | (j, x) :: ps, qs, h => by
    simp only [fieldParts] at h
    split at h
    · rename_i f hf
      split at h
      · rename_i n rs hn hrs
        split at h
        · rename_i hx
          cases h
          obtain ⟨h1, h2⟩ := fieldParts_spec ps rs hrs
          refine ⟨by simp [h1], fun i p q hp hq => ?_⟩
          cases i with
          | zero =>
            simp at hp hq
            subst hp; subst hq
            unfold tySize at hn
            cases hi : P.info? f.type with
            | none => simp [hi] at hn
            | some inf => exact ⟨rfl, hx, f, inf, hf, hi, rfl, by simpa [hi] using hn.symm⟩
          | succ i => exact h2 i p q (by simpa using hp) (by simpa using hq)
        · cases h
      · cases h
    · cases h

theorem elemParts_spec {z : Nat} : ∀ (ps : List (Nat × Operand)) (qs : List (Nat × Nat × Operand)), elemParts z ps = some qs →
    ps.length = qs.length ∧ ∀ (i : Nat) p q, ps[i]? = some p → qs[i]? = some q → p.2 = q.2.2 ∧ argOk p.2 = true ∧ q.1 = p.1 * z ∧ q.2.1 = z
  | [], qs, h => by simp [elemParts] at h; subst h; simp
  | (j, x) :: ps, qs, h => by
    simp only [elemParts] at h
    split at h
    · rename_i rs hrs
      split at h
      · rename_i hx
        cases h
        obtain ⟨h1, h2⟩ := elemParts_spec ps rs hrs
        refine ⟨by simp [h1], fun i p q hp hq => ?_⟩
        cases i with
        | zero => simp at hp hq; subst hp; subst hq; exact ⟨rfl, hx, rfl, rfl⟩
        | succ i => exact h2 i p q (by simpa using hp) (by simpa using hq)
      · cases h
    · cases h

theorem tyZero_spec {t : TypeId} {z : List Value} (h : tyZero P t = some z) : ∃ inf zv, P.info? t = some inf ∧ inf.zero = some zv ∧ zv.cells.toList = z ∧ z.all flat1 = true ∧ z.length = inf.size := by
  unfold tyZero at h
  split at h
  · rename_i inf hi
    split at h
    · rename_i zv hz
      simp only at h
      split at h
      · rename_i hc
        cases h
        simp only [Bool.and_eq_true, decide_eq_true_eq] at hc
        exact ⟨inf, zv, hi, hz, rfl, hc.1, hc.2⟩
      · cases h
    · cases h
  · cases h
theorem tySize_spec {t : TypeId} {n : Nat} (h : tySize P t = some n) : ∃ inf, P.info? t = some inf ∧ inf.size = n := by
  unfold tySize at h
  cases hi : P.info? t with
  | none => simp [hi] at h
  | some inf => exact ⟨inf, rfl, by simpa [hi] using h⟩
theorem tyAgg_spec {t : TypeId} {b : Bool} (h : tyAgg P t = some b) : (isAgg t).run P w = .ok b w := by
  unfold tyAgg at h
  unfold isAgg
  split at h <;> first | cases h | skip
  · rename_i hu; simp [run_underlying hu]
  · rename_i hu; simp [run_underlying hu]
  · rename_i d h1 h2 hu
    simp only [Sem.run_bind, run_underlying hu, Result.andThen_ok]
    rfl

theorem mapM_places (fs : List Field) (h : fs.all (fun f => (tySize P f.type).isSome) = true) :
    ∃ pl : List (Nat × Nat), (fs.mapM (m := Sem) fun (f : Field) => do pure (f.offset, ← sizeOf f.type)).run P w = .ok pl w ∧ ∀ i : Nat, pl[i]? = (fs[i]?).bind fun (f : Field) => (P.info? f.type).map fun inf => (f.offset, inf.size) := by
  induction fs with
  | nil => exact ⟨[], by simp, by simp⟩
  | cons f fs ih =>
    simp only [List.all_cons, Bool.and_eq_true] at h
    obtain ⟨pl, h1, h2⟩ := ih h.2
    obtain ⟨n, hn⟩ := Option.isSome_iff_exists.1 h.1
    obtain ⟨inf, hi, _⟩ := tySize_spec hn
    refine ⟨(f.offset, inf.size) :: pl, ?_, fun i => ?_⟩
    · simp [List.mapM_cons, sizeOf, typeInfo, hi] at h1 ⊢
      simp [h1]
    · cases i with
      | zero => simp [hi]
      | succ i => simpa using h2 i

end
end Go.DI
