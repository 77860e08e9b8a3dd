/-
  Structs, min and max, comparison of structs; and all operations that touch no memory, in one theorem.
-/
import Derived.Test.YtapnkfkpkcajjaaFwE
namespace Go.DI
open Go Go.RowKit

section
variable {P : Program} {w : World} {o : Oper} {a : Act}

theorem y_build {t : TypeId} {ps : Array (Nat × Operand)} {cells : Array Value} {inf : TypeInfo} {z : Value} {fs : Array Field} (hop : o.op = .build t ps) (hi : P.info? t = some inf) (hz : inf.zero = some z)
    (ht : P.underlying t = some (.struct fs)) (hall : fs.toList.all (fun f => (tySize P f.type).isSome) = true)
    (hf : ∀ place : Nat → Option (Nat × Nat), (∀ i, place i = (fs[i]?).bind fun (f : Field) => (P.info? f.type).map fun inf => (f.offset, inf.size)) → Instr.fill place z.cells (ps.toList.map fun p => (p.1, a.eval p.2)) = some cells) :
    Yields P o a w (.agg cells) w := by
  refine .inl ?_
  obtain ⟨pl, h1, h2⟩ := mapM_places (P := P) (w := w) fs.toList hall
  have h3 := hf (fun i => pl.toArray[i]?) (fun i => by simpa using h2 i)
  have h5 : (fs.mapM (m := Sem) fun (f : Field) => do pure (f.offset, ← sizeOf f.type)).run P w = .ok pl.toArray w := by
    rw [Array.mapM_eq_mapM_toList]
    simp only [Sem.run_map, h1]
    rfl
  simp only [execOp, hop, Instr.build, Sem.run_bind, run_underlying ht, zeroValue, typeInfo, run_program, hi, hz, Sem.run_pure, Result.andThen_ok, h5]
  have h6 : Instr.fill (fun x => pl[x]?) z.cells (List.map (fun x => (x.fst, a.eval x.snd)) ps.toList) = some cells := by simpa using h3
  simp [h6]

theorem y_field {t : TypeId} {x : Operand} {i : Nat} {fs : Array Field} {f : Field} {inf : TypeInfo} {b : Bool} {cs : Array Value} (hop : o.op = .field t x i) (ht : P.underlying t = some (.struct fs)) (hf : fs[i]? = some f)
    (hi : P.info? f.type = some inf) (hb : tyAgg P f.type = some b) (hx : a.eval x = .agg cs) (hn : f.offset + inf.size ≤ cs.size) (h1 : b = true ∨ inf.size = 1) :
    Yields P o a w (if b then .agg (cs.toList.drop f.offset |>.take inf.size).toArray else cs.toList.getD f.offset undef) w := by
  refine .inl ?_
  have h2 := tyAgg_spec (w := w) hb
  simp only [execOp, hop, hx, Instr.field, Sem.run_bind, run_underlying ht, Result.andThen_ok, hf, asAgg, Sem.run_pure, part, h2]
  cases b
  · have h3 : inf.size = 1 := by simpa using h1
    have h4 : f.offset < cs.size := by omega
    simp [h4]
  · simp only [if_true, Sem.run_bind, sizeOf, typeInfo, run_program, hi, Sem.run_pure, Result.andThen_ok]
    congr 3
    apply Array.toList_inj.1
    simp [Array.toList_extract]

theorem y_buildArr {t e : TypeId} {n : Nat} {ps : Array (Nat × Operand)} {cells : Array Value} {inf ie : TypeInfo} {z : Value} (hop : o.op = .build t ps) (hi : P.info? t = some inf) (hz : inf.zero = some z)
    (ht : P.underlying t = some (.array n e)) (he : P.info? e = some ie)
    (hf : Instr.fill (fun i => some (i * ie.size, ie.size)) z.cells (ps.toList.map fun p => (p.1, a.eval p.2)) = some cells) : Yields P o a w (.agg cells) w := by
  refine .inl ?_
  simp [execOp, hop, Instr.build, run_underlying ht, zeroValue, sizeOf, typeInfo, hi, hz, he, hf]

theorem run_minmax (mx : Bool) : ∀ (xs : List Value) (acc : Value), isI acc = true → (∀ x ∈ xs, isI x = true) →
    (xs.foldlM (m := Sem) (if mx then Builtin.max2 else Builtin.min2) acc).run P w = .ok (xs.foldl (fun acc y => if mx then maxI acc y else minI acc y) acc) w
  | [], _, _, _ => by simp
  | x :: xs, acc, h, hx => by
    have h1 : ((if mx then Builtin.max2 else Builtin.min2) acc x).run P w = .ok (if mx then maxI acc x else minI acc x) w := by
      have hx1 := hx x (by simp)
      cases acc <;> simp [isI] at h
      cases x <;> simp [isI] at hx1
      cases mx <;> simp [Builtin.max2, Builtin.min2, maxI, minI]
    have h2 : isI (if mx then maxI acc x else minI acc x) = true := by
      have hx1 := hx x (by simp)
      cases acc <;> simp [isI] at h
      cases x <;> simp [isI] at hx1
      cases mx <;> simp [maxI, minI, isI]
    simp only [List.foldlM_cons, Sem.run_bind, h1, Result.andThen_ok, List.foldl_cons]
    exact run_minmax mx xs _ h2 (fun y hy => hx y (by simp [hy]))

theorem y_minmax {c : Call} {mx : Bool} {x : Operand} {xs : List Operand} (hop : o.op = .call c) (hc : c.callee = .builtin (if mx then .max else .min)) (ha : c.args.toList = x :: xs)
    (h1 : isI (a.eval x) = true) (h2 : ∀ y ∈ xs, isI (a.eval y) = true) : Yields P o a w (xs.foldl (fun acc y => if mx then maxI acc (a.eval y) else minI acc (a.eval y)) (a.eval x)) w := by
  refine .inl ?_
  have h3 : (c.args.map a.eval).toList = a.eval x :: xs.map a.eval := by simp [ha]
  have h4 := run_minmax (P := P) (w := w) mx (xs.map a.eval) (a.eval x) h1 (by simpa using h2)
  rw [List.foldl_map] at h4
  cases mx
  · simp only [execOp, hop, resolve, hc, invoke, builtin, Sem.run_bind, Sem.run_pure, Result.andThen_ok, Bool.false_eq_true, if_false, Builtin.min_, h3]
    simp only [Bool.false_eq_true, if_false] at h4
    simp [h4]
  · simp only [execOp, hop, resolve, hc, invoke, builtin, Sem.run_bind, Sem.run_pure, Result.andThen_ok, if_true, Builtin.max_, h3]
    simp only [if_true] at h4
    simp [h4]

/-! structs compared -/
theorem cellsLike_append : ∀ (k1 k2 : List CK) (xs ys : List Value), cellsLike (k1 ++ k2) xs ys = true → cellsLike k1 (xs.take k1.length) (ys.take k1.length) = true ∧ cellsLike k2 (xs.drop k1.length) (ys.drop k1.length) = true ∧
    cellsEq xs ys = (cellsEq (xs.take k1.length) (ys.take k1.length) && cellsEq (xs.drop k1.length) (ys.drop k1.length))
  | [], k2, xs, ys, h => by simpa [cellsLike, cellsEq] using h
  | k :: k1, k2, [], ys, h => by simp [cellsLike] at h
  | k :: k1, k2, x :: xs, [], h => by simp [cellsLike] at h
  | k :: k1, k2, x :: xs, y :: ys, h => by
    simp only [List.cons_append, cellsLike, Bool.and_eq_true] at h
    obtain ⟨h1, h2, h3⟩ := cellsLike_append k1 k2 xs ys h.2
    exact ⟨by simp [cellsLike, h.1, h1], by simpa using h2, by simp [cellsEq, h3, Bool.and_assoc]⟩
theorem cellsLike_length : ∀ (ks : List CK) (xs ys : List Value), cellsLike ks xs ys = true → xs.length = ks.length ∧ ys.length = ks.length
  | [], [], [], _ => by simp
  | [], [], _ :: _, h => by simp [cellsLike] at h
  | [], _ :: _, _, h => by simp [cellsLike] at h
  | _ :: _, [], _, h => by simp [cellsLike] at h
  | _ :: _, _ :: _, [], h => by simp [cellsLike] at h
  | k :: ks, x :: xs, y :: ys, h => by
    simp only [cellsLike, Bool.and_eq_true] at h
    have := cellsLike_length ks xs ys h.2
    simp [this]

/-- the value of type t that these cells are -/
def asVal (ag : Bool) (xs : List Value) : Value := if ag then .agg xs.toArray else xs.headD undef

theorem len1 {xs : List Value} (h : xs.length = 1) : ∃ x, xs = [x] := by
  match xs, h with
  | [x], _ => exact ⟨x, rfl⟩

theorem part_run {t : TypeId} {b : Bool} {n off : Nat} {xs : List Value} (hb : tyAgg P t = some b) (hn : tySize P t = some n) (h1 : b = true ∨ n = 1) (hl : off + n ≤ xs.length) :
    (part t xs.toArray off).run P w = .ok (asVal b ((xs.drop off).take n)) w := by
  obtain ⟨inf, hi, rfl⟩ := tySize_spec hn
  simp only [part, Sem.run_bind, tyAgg_spec hb, Result.andThen_ok]
  cases b
  · have h2 : inf.size = 1 := by simpa using h1
    have h3 : off < xs.length := by omega
    simp only [Bool.false_eq_true, if_false, asVal, h2]
    simp [List.getElem?_eq_getElem h3, List.take_one, List.headD]
  · simp only [if_true, Sem.run_bind, sizeOf, typeInfo, run_program, hi, Sem.run_pure, Result.andThen_ok, asVal]
    congr 2
    apply Array.toList_inj.1
    simp

theorem eq_sound : ∀ (d D : Nat) (t : TypeId) (ks : List CK) (xs ys : List Value), eqFlat P d t = some ks → d ≤ D → cellsLike ks xs ys = true →
    ∃ b, tyAgg P t = some b ∧ tySize P t = some ks.length ∧ (b = true ∨ ks.length = 1) ∧ (Op.equalIn D t (asVal b xs) (asVal b ys)).run P w = .ok (cellsEq xs ys) w
  | 0, _, _, _, _, _, h, _, _ => by simp [eqFlat] at h
  | d + 1, 0, _, _, _, _, _, h, _ => by omega
  | d + 1, D + 1, t, ks, xs, ys, h, hD, hl => by
    obtain ⟨lx, ly⟩ := cellsLike_length ks xs ys hl
    unfold eqFlat at h
    split at h
    · rename_i n hu hn
      split at h <;> cases h
      rename_i e; subst e
      obtain ⟨x, rfl⟩ := len1 lx
      obtain ⟨y, rfl⟩ := len1 ly
      refine ⟨false, by simp [tyAgg, hu], hn, .inr rfl, ?_⟩
      cases x <;> cases y <;> simp [cellsLike, cellLike] at hl
      simp only [asVal, Bool.false_eq_true, if_false, List.headD_cons, cellsEq, cellEq, Bool.and_true]
      exact run_equalIn_bool' w D t _ _ hu
    · rename_i k n hu hn
      split at h <;> cases h
      rename_i e; subst e
      obtain ⟨x, rfl⟩ := len1 lx
      obtain ⟨y, rfl⟩ := len1 ly
      refine ⟨false, by simp [tyAgg, hu], hn, .inr rfl, ?_⟩
      cases x <;> cases y <;> simp [cellsLike, cellLike] at hl
      subst hl
      simp only [asVal, Bool.false_eq_true, if_false, List.headD_cons, cellsEq, cellEq, Bool.and_true]
      exact run_equalIn_int w D t _ _ _ _ hu
    · rename_i n hu hn
      split at h <;> cases h
      rename_i e; subst e
      obtain ⟨x, rfl⟩ := len1 lx
      obtain ⟨y, rfl⟩ := len1 ly
      refine ⟨false, by simp [tyAgg, hu], hn, .inr rfl, ?_⟩
      cases x <;> cases y <;> simp [cellsLike, cellLike] at hl
      simp only [asVal, Bool.false_eq_true, if_false, List.headD_cons, cellsEq, cellEq, Bool.and_true]
      rw [run_equalIn_string w D t _ _ hu, toList_beq]
    · rename_i fs n hu hn
      split at h
      · rename_i ks' hks
        split at h
        · rename_i hc
          cases h
          simp only [Bool.and_eq_true, decide_eq_true_eq, Bool.not_eq_true'] at hc
          obtain ⟨rfl, hst⟩ := hc
          refine ⟨true, by simp [tyAgg, hu], hn, .inl rfl, ?_⟩
          simp only [asVal, if_true]
          have hfo : P.fieldsOf t = fs := by simp [Program.fieldsOf, hu]
          rw [run_equalIn_struct w D t _ _ (by rw [hfo]; exact hu) hst, hfo]
          -- the fields, one behind the other
          have key : ∀ (fl : List Field) (off : Nat) (kr : List CK), eqFieldsW (eqFlat P d) fl off = some kr → cellsLike kr (xs.drop off) (ys.drop off) = true →
              (Op.eqFields D xs.toArray ys.toArray fl).run P w = .ok (cellsEq (xs.drop off) (ys.drop off)) w := by
            intro fl
            induction fl with
            | nil =>
              intro off kr h1 h2
              simp [eqFieldsW] at h1
              subst h1
              cases hx : xs.drop off <;> cases hy : ys.drop off <;> simp [hx, hy, cellsLike] at h2
              simp [Op.eqFields, cellsEq]
            | cons f fl ih =>
              intro off kr h1 h2
              simp only [eqFieldsW] at h1
              split at h1
              · rename_i hc
                simp only [Bool.and_eq_true, bne_iff_ne, ne_eq, beq_iff_eq] at hc
                obtain ⟨hnm, hoff⟩ := hc
                split at h1
                · rename_i k1 hk1
                  split at h1
                  · rename_i k2 hk2
                    split at h1 <;> cases h1
                    rename_i hpos
                    obtain ⟨g1, g2, g3⟩ := cellsLike_append k1 k2 _ _ h2
                    obtain ⟨b, e1, e2, e3, e4⟩ := eq_sound d D f.type k1 _ _ hk1 (by omega) g1
                    have l1 := (cellsLike_length _ _ _ h2)
                    simp only [List.length_drop, List.length_append] at l1
                    have p1 := part_run (w := w) (off := off) (xs := xs) e1 e2 e3 (by omega)
                    have p2 := part_run (w := w) (off := off) (xs := ys) e1 e2 e3 (by omega)
                    simp only [List.drop_drop] at g2 g3
                    have h3 := ih (off + k1.length) k2 hk2 g2
                    simp only [Op.eqFields, hnm, ne_eq, not_false_eq_true, if_true, Sem.run_bind, hoff, p1, p2, Result.andThen_ok, e4, g3, Sem.run_ite, Sem.run_pure, h3]
                    cases cellsEq (List.take k1.length (List.drop off xs)) (List.take k1.length (List.drop off ys)) <;> simp
                  · cases h1
                · cases h1
              · cases h1
          have := key fs.toList 0 _ hks (by simpa using hl)
          simpa using this
        · cases h
      · cases h
    · cases h
termination_by d => d

theorem y_eqAgg {op : BinOp} {t yt : TypeId} {x y : Operand} {ks : List CK} {xs ys : Array Value} (neg : Bool) (hop : o.op = .binOp op t x y yt) (he : op = if neg then .neq else .eql) (hf : eqFlat P 8 t = some ks)
    (hg : P.eqGuardType P.depth t = false) (hT : tyC P t = .agg) (hx : a.eval x = .agg xs) (hy : a.eval y = .agg ys) (hl : cellsLike ks xs.toList ys.toList = true) :
    Yields P o a w (.bool (if neg then !cellsEq xs.toList ys.toList else cellsEq xs.toList ys.toList)) w := by
  obtain ⟨b, h1, _, _, h4⟩ := eq_sound (P := P) (w := w) 8 10000 t ks xs.toList ys.toList hf (by omega) hl
  have hb : b = true := by
    unfold tyC at hT
    unfold tyAgg at h1
    split at hT <;> first | cases hT | skip
    · rename_i hu; simp only [hu] at h1; cases h1; rfl
    · rename_i hu; simp only [hu] at h1; cases h1; rfl
  subst hb
  simp only [asVal, if_true, Array.toArray_toList] at h4
  refine y_bin hop (by rw [hx, hy]; exact run_eqGuard_agg w op t x y xs ys hg) ?_
  rw [hx, hy]
  cases neg
  · simp only [Bool.false_eq_true, if_false] at he ⊢; subst he; rw [run_eql_struct, h4]; rfl
  · simp only [if_true] at he ⊢; subst he; rw [run_neq_struct, h4]; rfl
end
end Go.DI
