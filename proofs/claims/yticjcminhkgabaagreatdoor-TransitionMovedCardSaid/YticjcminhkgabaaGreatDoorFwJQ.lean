/-
  The operations that touch memory, continued: slices made, strings and bytes, append.
  append, and a string made into bytes.
  A string made into bytes.
  Maps: made, read, written.
  Every operation, in one theorem; calls; one step of a region.
  One step of a region; a region in the text's order.
  Two operations of a region that may come up in either order.
  A call does not mind a new block that it does not know.
  A region that draws its order: whatever order is drawn, the outcome is that of our own order.
  Draw regions, whatever order is drawn.
-/
import Derived.Test.YticjcminhkgabaaGreatDoorFwBI
import Derived.MapKept
namespace Go.DI
open Go Go.RowKit

theorem flat_get {z : List Value} (hz : 0 < z.length) : ∀ (n i : Nat), i < n * z.length → ((List.replicate n z).flatten)[i]? = z[i % z.length]?
  | 0, i, h => by omega
  | n + 1, i, h => by
    rw [List.replicate_succ, List.flatten_cons, List.getElem?_append]
    split
    · rename_i hi; rw [Nat.mod_eq_of_lt hi]
    · rename_i hi
      have h2 : i - z.length < n * z.length := by rw [Nat.add_mul] at h; omega
      rw [flat_get hz n _ h2, Nat.mod_eq_sub_mod (by omega : z.length ≤ i)]
theorem flat_len (z : List Value) (n : Nat) : ((List.replicate n z).flatten).length = n * z.length := by simp [List.length_flatten]
theorem made_eq {z : Array Value} (hz : 0 < z.size) (n : Nat) : (madeCells z (n * z.size)).toList = (List.replicate n z.toList).flatten := by
  apply List.ext_getElem?
  intro i
  by_cases hi : i < n * z.size
  · rw [flat_get (by simpa using hz) n i (by simpa using hi)]
    have hm : i % z.size < z.size := Nat.mod_lt _ hz
    simp [madeCells, hi, hm]
  · rw [List.getElem?_eq_none (by rw [Array.length_toList, size_madeCells]; omega), List.getElem?_eq_none (by rw [flat_len]; simp; omega)]

theorem flat_all {z : List Value} (p : Value → Prop) (h : ∀ v ∈ z, p v) (n : Nat) : ∀ v ∈ (List.replicate n z).flatten, p v := by
  intro v hv
  simp only [List.mem_flatten, List.mem_replicate] at hv
  obtain ⟨l, ⟨_, rfl⟩, h2⟩ := hv
  exact h v h2

section
variable {P : Program} {w : World} {o : Oper} {a : Act} {ρ : Ren} {nt : Nat} {σ : Slots} {m : Mem} {B id : Nat}

theorem s_bslice {t e : TypeId} {n : Nat} {ps : Array (Nat × Operand)} {z : List Value} {qs : List (Nat × Nat × Operand)} (hop : o.op = .buildSlice t n ps) (ht : P.underlying t = some (.slice e)) (hz : tyZero P e = some z)
    (hq : elemParts z.length ps.toList = some qs) (h0 : 0 < z.length) (h24 : n * z.length ≤ 16777216) (hs : SRel ρ nt σ a) (hm : MRel B ρ m w) (hB : B ≤ w.heap.size) (hid : id < m.next) (hr : ρ id = none)
    (hok : (IK.bslice z.length n (List.replicate n z).flatten qs).ok σ m = true) : Sound P o (.bslice z.length n (List.replicate n z).flatten qs) a B ρ σ m w id := by
  obtain ⟨inf, zv, hi, hzv, hzl, hfl, hlen⟩ := tyZero_spec hz
  obtain ⟨g1, g2⟩ := elemParts_spec _ _ hq
  have hzs : zv.cells.size = inf.size := by rw [← hlen, ← hzl]; simp
  have hcs : (madeCells zv.cells (n * zv.cells.size)).toList = (List.replicate n z).flatten := by rw [made_eq (by omega), hzl]
  have hfa : ∀ v ∈ (List.replicate n z).flatten, flat1 v = true := flat_all (fun v => flat1 v = true) (fun v hv => List.all_eq_true.1 hfl v hv) n
  simp only [IK.ok] at hok
  obtain ⟨ds, h1, h2, h2o⟩ := fill_sound hs (fun i => some (i * inf.size, inf.size)) ps.toList qs (List.replicate n z).flatten (madeCells zv.cells (n * zv.cells.size)) ⟨g1, fun i p q hp' hq => by
    obtain ⟨e1, e2, e3, e4⟩ := g2 i p q hp' hq
    exact ⟨e1, e2, by rw [e3, e4, hlen]⟩⟩ (by rw [hcs]; exact LRel.flat ρ (List.all_eq_true.2 hfa)) (fun v hv => flat_one (hfa v hv)) hok
  have hdl : (partsV (List.replicate n z).flatten σ qs).length = ds.size := by have := h2.1; simpa using this
  have hpl : (partsV (List.replicate n z).flatten σ qs).length = n * z.length := by
    have key : ∀ (qs : List (Nat × Nat × Operand)) (cs : List Value), (partsV cs σ qs).length = cs.length := by
      intro qs
      induction qs with
      | nil => intro cs; rfl
      | cons q qs ih => intro cs; obtain ⟨q1, q2, q3⟩ := q; simp only [partsV]; rw [ih, blit_length]
    rw [key, flat_len]
  refine ⟨.slice (some ⟨w.heap.size, 0, none⟩) n n, w.alloc (.cells ds e), updR ρ id ⟨w.heap.size, 0, ds.size⟩, .inl ?_, updR_le hr, updR_other, ?_, ?_, below_alloc rfl rfl rfl rfl hB _⟩
  · have h3 : (ps.map fun p => (p.1, a.eval p.2)).toList = ps.toList.map fun p => (p.1, a.eval p.2) := by simp
    have hzero : (zeroValue e).run P w = .ok zv w := by simp [zeroValue, typeInfo, hi, hzv]
    have h24' : ¬ (2 ^ 24 < n * inf.size) := by rw [← hlen]; omega
    rw [← h3] at h1
    simp only [execOp, hop, Instr.buildSlice, Sem.run_bind, run_underlying ht, sizeOf, typeInfo, run_program, hi, Sem.run_pure, Result.andThen_ok, gt_iff_lt, h24', if_false, Sem.run_ite]
    by_cases hn0 : n * inf.size = 0
    · have hmk : madeCells zv.cells (n * zv.cells.size) = #[] := by rw [hzs, hn0]; simp [madeCells]
      rw [hmk] at h1
      simp only [hn0, if_true]
      have hmk2 : Array.map (fun x => (#[] : Array Value)[x % (#[] : Array Value).size]!) (Array.range 0) = #[] := by simp
      rw [hmk2, h1]
      simp only [newRow, Sem.run_bind]
      rfl
    · have hmk : Array.map (fun x => zv.cells[x % zv.cells.size]!) (Array.range (n * inf.size)) = madeCells zv.cells (n * zv.cells.size) := by unfold madeCells; rw [hzs]
      simp only [hn0, if_false, hzero, Result.andThen_ok, hmk, h1]
      simp only [newRow, Sem.run_bind]
      rfl
  · exact .slice (off := 0) (l := ⟨w.heap.size, 0, ds.size⟩) (by simp [updR]) (.inr ⟨rfl, by show 0 + n * z.length ≤ ds.size; omega⟩) (Nat.le_refl _) (by have : n * 1 ≤ n * z.length := Nat.mul_le_mul_left _ h0; unfold maxLen; omega)
  · simp only [IK.mem]
    exact hm.newBlock rfl hB hid hr (by omega) (Nat.le_refl _) (cells_list h2 h2o) (fun i _ => by simp)

theorem s_mkslice {t e : TypeId} {inf : TypeInfo} {z : List Value} {l c : Operand} (hop : o.op = .makeSlice t l c) (ht : P.underlying t = some (.slice e)) (hz : tyZero P e = some z) (hi : P.info? e = some inf) (hl : argOk l = true) (hc : argOk c = true)
    (hs : SRel ρ nt σ a) (hm : MRel B ρ m w) (hB : B ≤ w.heap.size) (hid : id < m.next) (hr : ρ id = none)
    (hok : (IK.mkslice z.length inf.bytes z l c).ok σ m = true) : Sound P o (.mkslice z.length inf.bytes z l c) a B ρ σ m w id := by
  obtain ⟨inf', zv, hi', hzv, hzl, hfl, hlen⟩ := tyZero_spec hz
  rw [hi] at hi'; cases hi'
  have hzs : zv.cells.size = inf.size := by rw [← hlen, ← hzl]; simp
  simp only [IK.ok, Bool.and_eq_true, decide_eq_true_eq] at hok
  obtain ⟨⟨⟨⟨⟨⟨h1, h2⟩, h3⟩, h4⟩, h5⟩, h6⟩, h7⟩ := hok
  obtain ⟨e1, kl, L, hL⟩ := isI_rel (hs.ev hl) h1
  obtain ⟨e2, kc, C, hC⟩ := isI_rel (hs.ev hc) h2
  simp only [hL, hC, asI] at h3 h4 h5 h6
  have hrun := run_make (P := P) w t e inf zv ht hi hzv kl kc L C h3 h4 (by rw [Int.mul_comm]; omega) h6
  have hfa : ∀ v ∈ (List.replicate L.toNat z).flatten, flat1 v = true := flat_all (fun v => flat1 v = true) (fun v hv => List.all_eq_true.1 hfl v hv) _
  have hle : L.toNat * z.length ≤ C.toNat * z.length := Nat.mul_le_mul_right _ (by omega)
  refine ⟨_, _, updR ρ id ⟨w.heap.size, 0, C.toNat * z.length⟩, .inl (by
    simp only [execOp, hop, e1, e2, hL, hC, Sem.run_bind, hrun, Result.andThen_ok]; rfl), updR_le hr, updR_other, ?_, ?_, below_alloc rfl rfl rfl rfl hB _⟩
  · simp only [IK.val, hL, asI]
    exact .slice (off := 0) (l := ⟨w.heap.size, 0, C.toNat * z.length⟩) (by simp [updR]) (.inr ⟨by simp, by simp⟩) (by omega) (by unfold maxLen; omega)
  · simp only [IK.mem, hL, asI]
    refine hm.newBlock rfl hB hid hr (by rw [flat_len]; exact hle) (by rw [size_madeCells, hlen]; exact Nat.le_refl _) (fun i v hv => ?_) (fun i _ => by simp)
    have hi2 : i < L.toNat * z.length := by have := (List.getElem?_eq_some_iff.1 hv).1; rwa [flat_len] at this
    refine ⟨flat_one (hfa v (List.mem_of_getElem? hv)), v, ?_, .flat (hfa v (List.mem_of_getElem? hv))⟩
    have h8 : (madeCells zv.cells (C.toNat * inf.size)).toList = (List.replicate C.toNat z).flatten := by rw [← hzs, made_eq (by omega), hzl]
    rw [← Array.getElem?_toList, h8, flat_get h7 _ _ (by omega)]
    rw [flat_get h7 _ _ hi2] at hv
    exact hv

/-! strings and bytes -/
theorem push_toBytes : ∀ (ns : List Int) (acc : ByteArray), ns.foldl (fun r n => r.push (UInt8.ofNat n.toNat)) acc = acc ++ ⟨(ns.map fun n => UInt8.ofNat n.toNat).toArray⟩
  | [], acc => by
    simp only [List.foldl_nil, List.map_nil]
    apply ByteArray.ext
    simp
  | n :: ns, acc => by
    simp only [List.foldl_cons, List.map_cons]
    rw [push_toBytes ns]
    apply ByteArray.ext
    simp [ByteArray.push]

theorem s_convBS {s d e : TypeId} {x : Operand} (hop : o.op = .convert s d x) (hS : P.underlying s = some (.slice e)) (hD : P.underlying d = some .string) (hE : P.underlying e = some (.int .u8)) (hx : argOk x = true)
    (hs : SRel ρ nt σ a) (hm : MRel B ρ m w) (hok : (IK.convBS x).ok σ m = true) : Sound P o (.convBS x) a B ρ σ m w id := by
  simp only [IK.ok, Bool.and_eq_true] at hok
  obtain ⟨h1, h2⟩ := hok
  have hr := hs.ev hx
  have conv : ∀ v, a.eval x = v → (∃ p l c, v = .slice p l c) → ∀ b : ByteArray, (Conv.bytesToString v).run P w = .ok (.string b) w → Yields P o a w (.string b) w := by
    intro v hv ⟨p, l, c, hp⟩ b hb
    subst hp
    refine .inl ?_
    cases p <;> simp [execOp, hop, hv, convert, underlying, hS, hD, hE, hb]
  cases hu : ev σ x <;> simp only [hu, sliceOk] at h1 <;> try cases h1
  rename_i p len c
  rw [hu] at hr
  refine ⟨.string (toBytes (sliceCells m 1 (ev σ x))), w, ρ, ?_, RenLe.refl ρ, fun _ _ => rfl, .flat rfl, hm, Below.refl _ _⟩
  cases p with
  | none =>
    have hv := hr.inv_flat (by simpa [flat1] using h1)
    refine conv _ hv ⟨_, _, _, rfl⟩ _ ?_
    simp only [Conv.bytesToString, hu, sliceCells, toBytes]
    rfl
  | some ad =>
    simp only [Bool.and_eq_true, Option.isNone_iff_eq_none, beq_iff_eq] at h1
    obtain ⟨⟨hsp, hc1⟩, h1⟩ := h1
    split at h1
    · rename_i y hy
      simp only [Nat.mul_one, decide_eq_true_eq] at h1
      obtain ⟨l, a', cap, hl, _, hv, hn, hlc, hcm⟩ := hr.inv_slice
      refine conv _ hv ⟨_, _, _, rfl⟩ _ ?_
      simp only [hu, sliceCells, Nat.mul_one] at h2 ⊢
      obtain ⟨ds, r1, r2, r3, r4⟩ := hm.cells hy hl h1
      have hds : ∃ ns : List Int, ds = ns.map (Value.int .u8) ∧ cellsAt m ad.block ad.off len = ns.map (Value.int .u8) := by
        have gen : ∀ (us vs : List Value), us.all isU8 = true → LRel ρ us vs → ∃ ns : List Int, vs = ns.map (Value.int .u8) ∧ us = ns.map (Value.int .u8) := by
          intro us
          induction us with
          | nil => intro vs _ h; have := h.1; simp at this; exact ⟨[], by simp [List.length_eq_zero_iff.1 this.symm], rfl⟩
          | cons u us ih =>
            intro vs ha h
            cases vs with
            | nil => have := h.1; simp at this
            | cons v vs =>
              simp only [List.all_cons, Bool.and_eq_true] at ha
              obtain ⟨ns, g1, g2⟩ := ih vs ha.2 ⟨by simpa using h.1, fun i p q hp hq => h.2 (i + 1) p q (by simpa using hp) (by simpa using hq)⟩
              have h0 := h.2 0 u v rfl rfl
              have hu8 := ha.1
              cases u <;> simp [isU8] at hu8
              rename_i k n
              cases k <;> simp at hu8
              exact ⟨n :: ns, by simp [g1, h0.inv_int], by simp [g2]⟩
        exact gen _ _ h2 r1
      obtain ⟨ns, hns, hns2⟩ := hds
      subst hns
      rcases hn with ⟨rfl, rfl⟩ | ⟨rfl, hn⟩
      · have hn0 : ns = [] := by simp at r2; exact r2
        subst hn0
        have := run_bytesToString (P := P) w a' 0 0 [] (by simp [loadCells, loadCellsFrom])
        rw [this, hns2]
        rfl
      · have hload := run_loadCells_list (P := P) w ⟨l.c, l.o + ad.off, none⟩ _ r3
        rw [r2] at hload
        rw [run_bytesToString w _ len cap ns (by rw [hload]), push_toBytes, hns2]
        congr 2
        apply ByteArray.ext
        simp [toBytes, byteOf, Function.comp_def]
    · cases h1

end
end Go.DI
namespace Go.DI
open Go Go.RowKit

section
variable {P : Program} {w : World} {o : Oper} {a : Act} {ρ : Ren} {nt : Nat} {σ : Slots} {m : Mem} {B id : Nat}

theorem run_append_zero (t ty e : TypeId) (i : TypeInfo) (ht : P.underlying t = some (.slice e)) (hi : P.info? e = some i) (base q : Option Addr) (sLen sCap c : Nat) (hc : sLen ≤ sCap) :
    (Builtin.append_ #[t, t] ty #[.slice base sLen sCap, .slice q 0 c]).run P w = .ok (.slice base sLen sCap) w := by
  have hf : (Builtin.firstCells i.size 0 (.slice q 0 c)).run P w = .ok #[] w := by cases q <;> simp [Builtin.firstCells, loadCells, loadCellsFrom]
  cases base <;> simp [Builtin.append_, run_underlying ht, sizeOf, typeInfo, hi, Builtin.lenOf, hc, hf, storeCells]

theorem run_append_fit (t ty e : TypeId) (i : TypeInfo) (ht : P.underlying t = some (.slice e)) (hi : P.info? e = some i) (c o sLen sCap : Nat) (ad : Addr) (n cp : Nat) (news : List Value) (hl : news.length = n * i.size)
    (hnews : ∀ (j : Nat) u, news[j]? = some u → w.cell? (ad.add j) = some u) (h1 : ∀ u ∈ news, u.oneCell' = true) (hroom : sLen + n ≤ sCap)
    (hcell : ∀ j, j < news.length → (w.cell? ⟨c, o + sLen * i.size + j, none⟩).isSome = true) (hfr : ∀ j, j < news.length → w.frozen? ⟨c, o + sLen * i.size + j, none⟩ = false) :
    (Builtin.append_ #[t, t] ty #[.slice (some ⟨c, o, none⟩) sLen sCap, .slice (some ad) n cp]).run P w = .ok (.slice (some ⟨c, o, none⟩) (sLen + n) sCap) (w.setCells c (o + sLen * i.size) news) := by
  have hf := run_firstCells_some (P := P) w i.size n ad n cp news hl hnews
  have hst := run_storeCells_cells (P := P) c (o + sLen * i.size) news 0 w (by simpa using hcell) (by simpa using hfr) h1
  simp only [Nat.add_zero] at hst
  simp [Builtin.append_, run_underlying ht, sizeOf, typeInfo, hi, Builtin.lenOf, hroom, hf, addr_add, hst]

theorem y_app {c : Call} {x y : Operand} {t : TypeId} {u v r : Value} {w' : World} (hop : o.op = .call c) (hc : c.callee = .builtin .append) (ha : c.args.toList = [x, y]) (hT : c.argTypes.toList = [t, t])
    (hx : a.eval x = u) (hy : a.eval y = v) (h : (Builtin.append_ #[t, t] o.type #[u, v]).run P w = .ok r w') : Yields P o a w r w' := by
  refine .inl ?_
  have ha' : c.args = #[x, y] := by rw [← Array.toArray_toList (xs := c.args), ha]
  have hT' : c.argTypes = #[t, t] := by rw [← Array.toArray_toList (xs := c.argTypes), hT]
  simp [execOp, hop, resolve, hc, ha', hT', invoke, builtin, hx, hy, h]

theorem sliceOk_spec {z : Nat} {v : Value} (h : sliceOk m z v = true) : v = .slice none 0 0 ∨ ∃ b off len x, v = .slice (some ⟨b, off, none⟩) len z ∧ m.get b = some x ∧ off + len * z ≤ x.cells.length := by
  unfold sliceOk at h
  split at h
  · simp only [Bool.and_eq_true, beq_iff_eq] at h
    obtain ⟨rfl, rfl⟩ := h
    exact .inl rfl
  · rename_i ad l c
    simp only [Bool.and_eq_true, Option.isNone_iff_eq_none, beq_iff_eq] at h
    obtain ⟨⟨hsp, rfl⟩, h⟩ := h
    split at h
    · rename_i x hx
      obtain ⟨b, off, sp⟩ := ad
      simp only at hsp hx h
      subst hsp
      exact .inr ⟨b, off, l, x, rfl, hx, by simpa using h⟩
    · cases h
  · cases h

/-- Sound, and no cell that is known changes -/
def SoundK (P : Program) (o : Oper) (z bytes : Nat) (x y : Operand) (a : Act) (B : Nat) (ρ : Ren) (σ : Slots) (m : Mem) (w : World) (id : Nat) : Prop :=
  ∃ v' w' ρ', Yields P o a w v' w' ∧ RenLe ρ ρ' ∧ (∀ b, b ≠ id → ρ' b = ρ b) ∧ VRel ρ' ((IK.app z bytes x y).val id σ m) v' ∧ MRel B ρ' ((IK.app z bytes x y).mem id σ m) w' ∧ Below B w w' ∧
    (tight z m (ev σ x) = true → ∀ b u l, m.get b = some u → ρ b = some l → ∀ i, i < u.cells.length → w'.cell? ⟨l.c, l.o + i, none⟩ = w.cell? ⟨l.c, l.o + i, none⟩)
theorem below_cell {n : Nat} {w w' : World} (h : Below n w w') {ad : Addr} (ha : ad.block < n) : w'.cell? ad = w.cell? ad := by
  simp only [World.cell?, h.block _ ha]

theorem s_appK {c : Call} {x y : Operand} {t e : TypeId} {inf : TypeInfo} {z : List Value} (hop : o.op = .call c) (hc : c.callee = .builtin .append) (ha : c.args.toList = [x, y]) (hT : c.argTypes.toList = [t, t])
    (ht : P.underlying t = some (.slice e)) (hi : P.info? e = some inf) (hz : tyZero P e = some z) (hx : argOk x = true) (hy : argOk y = true)
    (hs : SRel ρ nt σ a) (hm : MRel B ρ m w) (hB : B ≤ w.heap.size) (hid : id < m.next) (hr : ρ id = none)
    (hok : (IK.app inf.size inf.bytes x y).ok σ m = true) : SoundK P o inf.size inf.bytes x y a B ρ σ m w id := by
  obtain ⟨inf', zv, hi', hzv, hzl, hfl, hlen⟩ := tyZero_spec hz
  rw [hi] at hi'; cases hi'
  have hzs : zv.cells.size = inf.size := by rw [← hlen, ← hzl]; simp
  simp only [IK.ok, Bool.and_eq_true, decide_eq_true_eq] at hok
  obtain ⟨⟨⟨⟨⟨h1, h2⟩, h3⟩, h4⟩, h5⟩, h6⟩ := hok
  have rx := hs.ev hx
  have ry := hs.ev hy
  -- the source
  have hyv : ∃ q cy, a.eval y = .slice q (zqr (ev σ y)) cy := by
    rcases sliceOk_spec h3 with e1 | ⟨b, off, len, yb, e1, _, _⟩
    · rw [e1] at ry; exact ⟨none, 0, by rw [e1]; exact ry.inv_flat rfl⟩
    · rw [e1] at ry; obtain ⟨_, _, _, _, _, g, _⟩ := ry.inv_slice; exact ⟨_, _, by rw [e1]; exact g⟩
  obtain ⟨q, cy, hyv⟩ := hyv
  have hxv : ∃ p cx, a.eval x = .slice p (zqr (ev σ x)) cx ∧ zqr (ev σ x) ≤ cx := by
    rcases sliceOk_spec h1 with e1 | ⟨b, off, len, yb, e1, _, _⟩
    · rw [e1] at rx; exact ⟨none, 0, by rw [e1]; exact rx.inv_flat rfl, by rw [e1]; exact Nat.le_refl _⟩
    · rw [e1] at rx; obtain ⟨_, _, _, _, _, g, _, g2, _⟩ := rx.inv_slice; exact ⟨_, _, by rw [e1]; exact g, by rw [e1]; exact g2⟩
  by_cases hn : zqr (ev σ y) = 0
  · obtain ⟨p, cx, hxv, hle⟩ := hxv
    rw [hn] at hyv
    refine ⟨a.eval x, w, ρ, ?_, RenLe.refl ρ, fun _ _ => rfl, by simpa only [IK.val, hn, if_true] using rx, by simpa only [IK.mem, hn, if_true] using hm, Below.refl _ _, fun _ _ _ _ _ _ _ _ => rfl⟩
    rw [hxv]
    exact y_app hop hc ha hT hxv hyv (run_append_zero t _ e inf ht hi _ _ _ _ _ hle)
  · -- something to append
    rcases sliceOk_spec h3 with e1 | ⟨by_, offy, leny, yb, ey, hyb, hyl⟩
    · rw [e1] at hn; exact absurd rfl hn
    rw [ey] at ry
    obtain ⟨ly, ay', capy, hly, _, hyv, hny, hlcy, _⟩ := ry.inv_slice
    replace hly : ρ by_ = some ly := hly
    replace hny : (capy = 0 ∧ leny = 0) ∨ (ay' = ⟨ly.c, ly.o + offy, none⟩ ∧ offy + capy * inf.size ≤ ly.n) := hny
    have hleny : zqr (ev σ y) = leny := by rw [ey]; rfl
    have hyc : sliceCells m inf.size (ev σ y) = cellsAt m by_ offy (leny * inf.size) := by rw [ey]; rfl
    rw [hleny] at hn h5 h6
    obtain ⟨news, n1, n2, n3, n4⟩ := hm.cells hyb hly hyl
    rcases hny with ⟨_, h0⟩ | ⟨rfl, _⟩
    · omega
    have hval : (IK.app inf.size inf.bytes x y).val id σ m = .slice (some ⟨id, 0, none⟩) (zqr (ev σ x) + leny) inf.size := by simp only [IK.val, hleny, hn, if_false]
    have hmem : (IK.app inf.size inf.bytes x y).mem id σ m = (kill m (ev σ x)).put id (some ⟨sliceCells m inf.size (ev σ x) ++ cellsAt m by_ offy (leny * inf.size), true⟩) := by simp only [IK.mem, hleny, hn, if_false, hyc]
    -- the new block, wherever the old one was
    have grown : ∀ (old : Nat) (olds : List Value) (m0 : Mem), MRel B ρ m0 w → id < m0.next → LRel ρ (sliceCells m inf.size (ev σ x)) olds → (∀ v ∈ sliceCells m inf.size (ev σ x), oneC v = true) → olds.length = zqr (ev σ x) * inf.size →
        old < zqr (ev σ x) + leny →
        VRel (updR ρ id ⟨w.heap.size, 0, grownCap w (zqr (ev σ x) + leny) old e * inf.size⟩) (.slice (some ⟨id, 0, none⟩) (zqr (ev σ x) + leny) inf.size) (.slice (some ⟨w.heap.size, 0, none⟩) (zqr (ev σ x) + leny) (grownCap w (zqr (ev σ x) + leny) old e)) ∧
        MRel B (updR ρ id ⟨w.heap.size, 0, grownCap w (zqr (ev σ x) + leny) old e * inf.size⟩) (m0.put id (some ⟨sliceCells m inf.size (ev σ x) ++ cellsAt m by_ offy (leny * inf.size), true⟩))
          (w.drew.alloc (.cells (olds.toArray ++ news.toArray ++ Builtin.zeroCells zv.cells (grownCap w (zqr (ev σ x) + leny) old e - (zqr (ev σ x) + leny))) e)) := by
      intro old olds m0 hm0 hid0 ho ho1 hol hold
      have hge := grownCap_ge w (zqr (ev σ x) + leny) old e
      have hcm : grownCap w (zqr (ev σ x) + leny) old e ≤ maxLen := grownCap_le_maxLen w _ old e (by unfold maxLen; omega)
      refine ⟨.slice (off := 0) (l := ⟨w.heap.size, 0, grownCap w (zqr (ev σ x) + leny) old e * inf.size⟩) (by simp [updR]) (.inr ⟨by simp, by simp⟩) hge hcm, ?_⟩
      have hsz : (olds.toArray ++ news.toArray ++ Builtin.zeroCells zv.cells (grownCap w (zqr (ev σ x) + leny) old e - (zqr (ev σ x) + leny))).size = grownCap w (zqr (ev σ x) + leny) old e * inf.size := by
        simp only [Array.size_append, List.size_toArray, size_zeroCells, hzs, hol, n2, ← Nat.add_mul]
        congr 1
        omega
      have hl12 : LRel ρ (sliceCells m inf.size (ev σ x) ++ cellsAt m by_ offy (leny * inf.size)) (olds ++ news) := ho.append n1
      refine hm0.newBlock (w1 := w.drew) rfl hB hid0 hr ?_ (by rw [hsz]; exact Nat.le_refl _) (fun i v hv => ?_) (fun i _ => by simp)
      · rw [hl12.1, List.length_append, hol, n2, ← Nat.add_mul]
        exact Nat.mul_le_mul_right _ hge
      · obtain ⟨u, hu, huv⟩ := hl12.get hv
        refine ⟨?_, u, ?_, huv⟩
        · have : v ∈ sliceCells m inf.size (ev σ x) ++ cellsAt m by_ offy (leny * inf.size) := List.mem_of_getElem? hv
          rcases List.mem_append.1 this with h | h
          · exact ho1 v h
          · obtain ⟨l', hl', q1, q2, q3⟩ := hm.live by_ yb hyb
            simp only [cellsAt, hyb] at h
            obtain ⟨j, hj, hjv⟩ := List.getElem_of_mem (List.mem_of_mem_drop (List.mem_of_mem_take h))
            exact (q2 j v (by rw [List.getElem?_eq_getElem hj, hjv])).1
        · rw [Array.getElem?_append_left (by
            have := (List.getElem?_eq_some_iff.1 hu).1
            simpa using this)]
          simpa using hu
    rcases sliceOk_spec h1 with ex | ⟨b, off, len, xb, ex, hxb, hxl⟩
    · -- nil
      rw [ex] at rx
      have hxv := rx.inv_flat rfl
      have hl0 : zqr (ev σ x) = 0 := by rw [ex]; rfl
      have hc0 : sliceCells m inf.size (ev σ x) = [] := by rw [ex]; rfl
      obtain ⟨g1, g2⟩ := grown 0 [] m hm hid (by rw [hc0]; exact LRel.nil ρ) (by rw [hc0]; simp) (by rw [hl0]; simp) (by omega)
      simp only [hl0, Nat.zero_add] at g1 g2 h5 h6
      have hrun := run_append_nil (P := P) w t o.type e inf zv ht hi hzv ⟨ly.c, ly.o + offy, none⟩ leny capy news n2 n3 (by omega) (by omega) (by omega)
      refine ⟨_, _, updR ρ id ⟨w.heap.size, 0, grownCap w leny 0 e * inf.size⟩, y_app hop hc ha hT hxv hyv hrun, updR_le hr, updR_other, ?_, ?_, below_alloc (w := w) (w1 := w.drew) rfl rfl rfl rfl hB _, fun _ b u l _ hl i _ => below_cell (below_alloc (w := w) (w1 := w.drew) rfl rfl rfl rfl (Nat.le_refl _) _) (hm.inb b l hl)⟩
      · rw [hval, hl0, Nat.zero_add]; exact g1
      · rw [hmem, ex]
        simpa only [kill, sliceCells, List.nil_append, Array.empty_append, ex] using g2
    · -- a slice of the call's own
      rw [ex] at rx
      obtain ⟨l, a', cap, hl, _, hxv, hnx, hlc, hcm⟩ := rx.inv_slice
      replace hl : ρ b = some l := hl
      replace hnx : (cap = 0 ∧ len = 0) ∨ (a' = ⟨l.c, l.o + off, none⟩ ∧ off + cap * inf.size ≤ l.n) := hnx
      have hl0 : zqr (ev σ x) = len := by rw [ex]; rfl
      have hc0 : sliceCells m inf.size (ev σ x) = cellsAt m b off (len * inf.size) := by rw [ex]; rfl
      have hown : xb.own = true := by simpa [ex, sliceOwn, hxb] using h2
      obtain ⟨l', hl', q1, q2, q3⟩ := hm.live b xb hxb
      rw [hl] at hl'; cases hl'
      obtain ⟨olds, o1, o2, o3, o4⟩ := hm.cells hxb hl hxl
      have hone : ∀ v ∈ cellsAt m b off (len * inf.size), oneC v = true := by
        intro v hv
        simp only [cellsAt, hxb] at hv
        obtain ⟨j, hj, hjv⟩ := List.getElem_of_mem (List.mem_of_mem_drop (List.mem_of_mem_take hv))
        exact (q2 j v (by rw [List.getElem?_eq_getElem hj, hjv])).1
      have hk : kill m (ev σ x) = m.put b none := by rw [ex]; rfl
      rw [hl0] at h5 h6
      by_cases hroom : len + leny ≤ cap
      · -- there is room
        rcases hnx with ⟨h0, _⟩ | ⟨rfl, hnx⟩
        · omega
        have hmul : (len + leny) * inf.size ≤ cap * inf.size := Nat.mul_le_mul_right _ hroom
        rw [Nat.add_mul] at hmul
        have hrun := run_append_fit (P := P) (w := w) t o.type e inf ht hi l.c (l.o + off) len cap ⟨ly.c, ly.o + offy, none⟩ leny capy news n2 n3 n4 hroom
          (fun j hj => by
            have := ((q3 hown).2 (off + len * inf.size + j) (by rw [n2] at hj; omega)).1
            rwa [show l.o + (off + len * inf.size + j) = l.o + off + len * inf.size + j by omega] at this)
          (fun j hj => by
            have := ((q3 hown).2 (off + len * inf.size + j) (by rw [n2] at hj; omega)).2
            rwa [show l.o + (off + len * inf.size + j) = l.o + off + len * inf.size + j by omega] at this)
        refine ⟨_, _, updR ρ id ⟨l.c, l.o + off, l.n - off⟩, y_app hop hc ha hT hxv hyv hrun, updR_le hr, updR_other, ?_, ?_, below_setCells (q3 hown).1 _ _ _, fun ht b' u l' hu hl' i hi => World.cell?_setCells_out _ _ _ _ _ (fun h _ => ?_)⟩
        · rw [hval, hl0]
          exact .slice (off := 0) (l := ⟨l.c, l.o + off, l.n - off⟩) (by simp [updR]) (.inr ⟨by simp, by show 0 + cap * inf.size ≤ l.n - off; omega⟩) hroom hcm
        · rw [hmem, hk, hc0]
          have hl12 : LRel ρ (cellsAt m b off (len * inf.size) ++ cellsAt m by_ offy (leny * inf.size)) (olds ++ news) := o1.append n1
          have hin : ∀ j (hj : j < news.length), (w.setCells l.c (l.o + off + len * inf.size) news).cell? ⟨l.c, l.o + off + len * inf.size + j, none⟩ = some news[j] := fun j hj =>
            World.cell?_setCells_in l.c news (l.o + off + len * inf.size) w (fun i hi' => by
              have := ((q3 hown).2 (off + len * inf.size + i) (by rw [n2] at hi'; omega)).1
              rwa [show l.o + (off + len * inf.size + i) = l.o + off + len * inf.size + i by omega] at this) j hj
          have hout : ∀ i, i < len * inf.size ∨ len * inf.size + news.length ≤ i → (w.setCells l.c (l.o + off + len * inf.size) news).cell? ⟨l.c, l.o + off + i, none⟩ = w.cell? ⟨l.c, l.o + off + i, none⟩ := fun i hi' =>
            World.cell?_setCells_out _ _ _ _ _ (fun _ _ => by show l.o + off + i < _ ∨ _ ≤ l.o + off + i; omega)
          refine (hm.kill b).adopt (by rw [Mem.put_next]; exact hid) hr (fun b' x' l' hx' hl' => ?_) (by rw [setCells_heap]; exact Nat.le_refl _) (by rw [setCells_heap]; exact hm.inb b l hl) (q3 hown).1 (fun ad _ hne => ⟨World.cell?_setCells_out _ _ _ _ _ (fun h _ => absurd h hne), World.frozen?_setCells _ _ _ _ _⟩) (fun k _ hk => setCells_obj _ _ hk _ _ _) ?_ (fun i v hv => ?_) (fun i hi' => ?_)
          · rw [Mem.get_put] at hx'
            split at hx'
            · split at hx' <;> cases hx'
            · rename_i hne
              exact Ne.symm (hm.excl b xb b' x' l l' hxb hown hx' (Ne.symm hne) hl hl')
          · rw [hl12.1, List.length_append, o2, n2]; omega
          · obtain ⟨u, hu, huv⟩ := hl12.get hv
            have hmem' : v ∈ cellsAt m b off (len * inf.size) ++ cellsAt m by_ offy (leny * inf.size) := List.mem_of_getElem? hv
            refine ⟨?_, u, ?_, huv⟩
            · rcases List.mem_append.1 hmem' with h | h
              · exact hone v h
              · obtain ⟨l', hl', p1, p2, p3⟩ := hm.live by_ yb hyb
                simp only [cellsAt, hyb] at h
                obtain ⟨j, hj, hjv⟩ := List.getElem_of_mem (List.mem_of_mem_drop (List.mem_of_mem_take h))
                exact (p2 j v (by rw [List.getElem?_eq_getElem hj, hjv])).1
            · rw [List.getElem?_append] at hu
              split at hu
              · rename_i hlt
                rw [o2] at hlt
                rw [hout i (.inl hlt)]
                have := o3 i u hu
                rwa [addr_add] at this
              · rename_i hlt
                rw [o2] at hlt hu
                have hj : i - len * inf.size < news.length := (List.getElem?_eq_some_iff.1 hu).1
                have := hin _ hj
                rw [show l.o + off + len * inf.size + (i - len * inf.size) = l.o + off + i by omega] at this
                rw [this]
                rw [List.getElem?_eq_getElem hj] at hu
                exact hu
          · have hq := (q3 hown).2 (off + i) (by omega)
            rw [← Nat.add_assoc] at hq
            refine ⟨?_, by rw [World.frozen?_setCells]; exact hq.2⟩
            by_cases hi2 : i < len * inf.size ∨ len * inf.size + news.length ≤ i
            · rw [hout i hi2]; exact hq.1
            · have hj : i - len * inf.size < news.length := by omega
              have := hin _ hj
              rw [show l.o + off + len * inf.size + (i - len * inf.size) = l.o + off + i by omega] at this
              rw [this]; rfl
        · left
          by_cases e : b' = b
          · subst e
            rw [hxb] at hu; cases hu
            rw [hl] at hl'; cases hl'
            simp only [ex, tight, hxb, decide_eq_true_eq] at ht
            show l.o + i < l.o + off + len * inf.size
            omega
          · exact absurd h (Ne.symm (hm.excl b xb b' u l l' hxb hown hu (Ne.symm e) hl hl'))
      · -- it grows
        obtain ⟨g1, g2⟩ := grown cap olds (m.put b none) (hm.kill b) (by rw [Mem.put_next]; exact hid) (by rw [hc0]; exact o1) (by rw [hc0]; exact hone) (by rw [hl0]; exact o2) (by omega)
        rw [hl0] at g1 g2
        have holds : ∀ (j : Nat) v, olds[j]? = some v → w.cell? (a'.add j) = some v := by
          intro j v hv
          rcases hnx with ⟨_, h0⟩ | ⟨rfl, _⟩
          · subst h0
            simp at o2
            rw [o2] at hv
            simp at hv
          · exact o3 j v hv
        have hrun := run_append_grow (P := P) w t o.type e inf zv ht hi hzv a' len cap olds o2 holds ⟨ly.c, ly.o + offy, none⟩ leny capy news n2 n3 (by omega) (by omega) (growslice_fits (by omega) h5)
        refine ⟨_, _, updR ρ id ⟨w.heap.size, 0, grownCap w (len + leny) cap e * inf.size⟩, y_app hop hc ha hT hxv hyv hrun, updR_le hr, updR_other, ?_, ?_, below_alloc (w := w) (w1 := w.drew) rfl rfl rfl rfl hB _, fun _ b u l _ hl i _ => below_cell (below_alloc (w := w) (w1 := w.drew) rfl rfl rfl rfl (Nat.le_refl _) _) (hm.inb b l hl)⟩
        · rw [hval, hl0]; exact g1
        · rw [hmem, hk]; exact g2

theorem s_app {c : Call} {x y : Operand} {t e : TypeId} {inf : TypeInfo} {z : List Value} (hop : o.op = .call c) (hc : c.callee = .builtin .append) (ha : c.args.toList = [x, y]) (hT : c.argTypes.toList = [t, t])
    (ht : P.underlying t = some (.slice e)) (hi : P.info? e = some inf) (hz : tyZero P e = some z) (hx : argOk x = true) (hy : argOk y = true)
    (hs : SRel ρ nt σ a) (hm : MRel B ρ m w) (hB : B ≤ w.heap.size) (hid : id < m.next) (hr : ρ id = none)
    (hok : (IK.app inf.size inf.bytes x y).ok σ m = true) : Sound P o (.app inf.size inf.bytes x y) a B ρ σ m w id := by
  obtain ⟨v', w', ρ', g1, g2, g3, g4, g5, g6, _⟩ := s_appK hop hc ha hT ht hi hz hx hy hs hm hB hid hr hok
  exact ⟨v', w', ρ', g1, g2, g3, g4, g5, g6⟩

end
end Go.DI
namespace Go.DI
open Go Go.RowKit

section
variable {P : Program} {w : World} {o : Oper} {a : Act} {ρ : Ren} {nt : Nat} {σ : Slots} {m : Mem} {B id : Nat}

theorem modify_push {α : Type} (xs : Array α) (x : α) (f : α → α) : (xs.push x).modify xs.size f = xs.push (f x) := by
  apply Array.ext_getElem?
  intro i
  rw [Array.getElem?_modify, Array.getElem?_push, Array.getElem?_push]
  by_cases h : xs.size = i
  · simp [h]
  · have : ¬ i = xs.size := fun e => h e.symm
    simp [h, this]

theorem s_convSB {s d e : TypeId} {x : Operand} (hop : o.op = .convert s d x) (hS : P.underlying s = some .string) (hD : P.underlying d = some (.slice e)) (hE : P.underlying e = some (.int .u8)) (hx : argOk x = true)
    (hs : SRel ρ nt σ a) (hm : MRel B ρ m w) (hB : B ≤ w.heap.size) (hid : id < m.next) (hr : ρ id = none) (hok : (IK.convSB x).ok σ m = true) : Sound P o (.convSB x) a B ρ σ m w id := by
  simp only [IK.ok, Bool.and_eq_true, decide_eq_true_eq] at hok
  obtain ⟨h1, h2⟩ := hok
  obtain ⟨e1, b, hv⟩ := str_of (hs.ev hx) h1
  rw [hv] at h2
  simp only [asS] at h2
  have hge := grownCap_ge w b.size 0 e
  have hcm : grownCap w b.size 0 e ≤ maxLen := grownCap_le_maxLen w _ 0 e (by unfold maxLen; omega)
  generalize hcap : grownCap w b.size 0 e = cap at hge hcm
  let arr : Array Value := (b.data.map fun (x : UInt8) => Value.int .u8 x.toNat) ++ Array.replicate (cap - b.size) (Value.int .u8 0)
  have hsz : arr.size = cap := by
    show ((b.data.map fun (x : UInt8) => Value.int .u8 x.toNat) ++ Array.replicate (cap - b.size) (Value.int .u8 0)).size = cap
    simp only [Array.size_append, Array.size_map, Array.size_replicate]
    have : b.data.size = b.size := rfl
    omega
  have hfz : (w.drew.alloc (.cells arr e)).freeze ⟨w.heap.size, arr.size, none⟩ 1 = w.drew.alloc (.cells arr e (arr.size, arr.size + 1)) := by
    simp only [World.freeze, Nat.one_ne_zero, if_false, World.alloc]
    congr 1
    show (w.heap.push _).modify w.heap.size _ = w.heap.push _
    rw [modify_push]
    simp
  have hrun : (Conv.stringToBytes e b).run P w = .ok (.slice (some ⟨w.heap.size, 0, none⟩) b.size cap) (w.drew.alloc (.cells arr e (arr.size, arr.size + 1))) := by
    have hch : (choose (.appendCap b.size 0 e)).run P w = .ok cap w.drew := by
      rw [← hcap]
      rfl
    have hnew : (newRow e arr).run P w.drew = .ok ⟨w.heap.size, 0, none⟩ (w.drew.alloc (.cells arr e)) := rfl
    have hshape : (w.drew.alloc (.cells arr e)).shape? w.heap.size = some (e, arr.size) := by
      show (match (w.heap.push (Obj.cells arr e))[w.heap.size]? with | some (.cells c elem _) => some (elem, c.size) | _ => none) = _
      simp
    have hmark : (markStringish ⟨w.heap.size, 0, none⟩).run P (w.drew.alloc (.cells arr e)) = .ok () (w.drew.alloc (.cells arr e (arr.size, arr.size + 1))) := by
      simp only [markStringish, Sem.run_bind]
      have : (shape w.heap.size).run P (w.drew.alloc (.cells arr e)) = .ok (some (e, arr.size)) (w.drew.alloc (.cells arr e)) := by
        simp only [shape, Sem.run, hshape]
      rw [this]
      simp only [Result.andThen_ok]
      show Result.ok () ((w.drew.alloc (.cells arr e)).freeze ⟨w.heap.size, arr.size, none⟩ 1) = _
      rw [hfz]
    simp only [Conv.stringToBytes, Sem.run_bind, hch, Result.andThen_ok]
    have e2 : (b.data.map fun (b : UInt8) => Value.int .u8 b.toNat) ++ Array.replicate (cap - b.size) (Value.int .u8 0) = arr := rfl
    rw [e2, hnew]
    simp only [Result.andThen_ok, hmark]
    rfl
  refine ⟨.slice (some ⟨w.heap.size, 0, none⟩) b.size cap, _, updR ρ id ⟨w.heap.size, 0, cap⟩, .inl ?_, updR_le hr, updR_other, ?_, ?_, below_alloc (w := w) (w1 := w.drew) rfl rfl rfl rfl hB (.cells arr e (arr.size, arr.size + 1))⟩
  · simp [execOp, hop, e1, hv, convert, underlying, hS, hD, hE, hrun]
  · simp only [IK.val, hv, asS]
    exact .slice (off := 0) (l := ⟨w.heap.size, 0, cap⟩) (by simp [updR]) (.inr ⟨by simp, by simp⟩) hge hcm
  · simp only [IK.mem, hv, asS]
    refine hm.newBlock (w1 := w.drew) rfl hB hid hr (by simp only [ofBytes, List.length_map, Array.length_toList]; exact hge) (by rw [hsz]; exact Nat.le_refl _) (fun i v hv' => ?_) (fun i hi' => by simp only; omega)
    have hi2 : i < b.data.size := by have := (List.getElem?_eq_some_iff.1 hv').1; simpa [ofBytes] using this
    have hvv : v = .int .u8 (b.data[i]).toNat := by
      simp only [ofBytes, List.getElem?_map, Array.getElem?_toList, Array.getElem?_eq_getElem hi2, Option.map_some, Option.some.injEq] at hv'
      exact hv'.symm
    subst hvv
    refine ⟨rfl, _, ?_, .flat rfl⟩
    show ((b.data.map fun (x : UInt8) => Value.int .u8 x.toNat) ++ Array.replicate (cap - b.size) (Value.int .u8 0))[i]? = _
    rw [Array.getElem?_append_left (by simpa using hi2), Array.getElem?_map, Array.getElem?_eq_getElem hi2]
    rfl

end
end Go.DI
namespace Go.DI
open Go Go.RowKit
set_option linter.unusedSimpArgs false

def KK.desc : KK → TypeDesc
  | .int k => .int k
  | .str => .string
theorem isKeyB_key {kk : KK} {v : Value} (h : isKeyB kk v = true) : MapKept.IsKey kk.desc v := by
  cases kk <;> cases v <;> simp_all [isKeyB, MapKept.IsKey, KK.desc]
theorem isKeyB_flat {kk : KK} {v : Value} (h : isKeyB kk v = true) : flat1 v = true := by
  cases kk <;> cases v <;> simp_all [isKeyB, flat1]
theorem cellEq_keys {kk : KK} {a b : Value} (ha : isKeyB kk a = true) (hb : isKeyB kk b = true) : Instr.sameNow kk.desc a b = some (cellEq a b) ∧ (cellEq a b = true → a = b) := by
  cases kk with
  | int k0 =>
    cases a <;> simp [isKeyB] at ha
    cases b <;> simp [isKeyB] at hb
    rename_i k1 n1 k2 n2
    subst ha; subst hb
    have e : (n1 == n2) = decide (n1 = n2) := by by_cases h : n1 = n2 <;> simp [h]
    exact ⟨by simp only [KK.desc, Instr.sameNow, cellEq, e, if_true], fun h => by simp only [cellEq, decide_eq_true_eq] at h; rw [h]⟩
  | str =>
    cases a <;> simp [isKeyB] at ha
    cases b <;> simp [isKeyB] at hb
    rename_i x y
    have e : (x == y) = decide (x = y) := by
      have := MapKept.bytes_beq x y
      by_cases h : x = y
      · rw [this.2 h]; simp [h]
      · cases hc : (x == y)
        · simp [h]
        · exact absurd (this.1 hc) h
    exact ⟨by simp only [KK.desc, Instr.sameNow, cellEq, e], fun h => by simp only [cellEq, decide_eq_true_eq] at h; rw [h]⟩
theorem ckOfTy_spec {P : Program} {t : TypeId} {kk : KK} (h : ckOfTy P t = some kk) : P.underlying t = some kk.desc := by
  unfold ckOfTy at h
  split at h <;> cases h
  · rename_i k hk; exact hk
  · rename_i hk; exact hk

theorem findNow_rel {ρ : Ren} {kk : KK} {k : Value} (hk : isKeyB kk k = true) : ∀ (es : List (Value × Value)) (es' : List MapEntry) (i : Nat), ERel ρ es es' → (es.all fun e => isKeyB kk e.1) = true →
    (mget k es = none ∧ Instr.findNow kk.desc k es' i = some none ∧ ∀ v, mset k v es = es ++ [(k, v)]) ∨
    (∃ j e e', es[j]? = some e ∧ es'[j]? = some e' ∧ e'.key = k ∧ mget k es = some e.2 ∧ Instr.findNow kk.desc k es' i = some (some (i + j, e'.val)) ∧ ∀ v, mset k v es = es.set j (k, v))
  | [], es', i, h, _ => by
    have : es' = [] := List.length_eq_zero_iff.1 h.1.symm
    subst this
    exact .inl ⟨rfl, rfl, fun _ => rfl⟩
  | e :: es, es', i, h, ha => by
    cases es' with
    | nil => have := h.1; simp at this
    | cons e' es' =>
      simp only [List.all_cons, Bool.and_eq_true] at ha
      obtain ⟨h1, h2, h3, h4⟩ := h.2 0 e e' rfl rfl
      have hrel : ERel ρ es es' := ⟨by simpa using h.1, fun j a b h1 h2 => h.2 (j + 1) a b (by simpa using h1) (by simpa using h2)⟩
      obtain ⟨c1, c2⟩ := cellEq_keys hk ha.1
      cases hc : cellEq k e.1
      · rw [hc, ← h2] at c1
        rcases findNow_rel hk es es' (i + 1) hrel ha.2 with ⟨g1, g2, g3⟩ | ⟨j, x, x', g1, g2, g3, g4, g5, g6⟩
        · exact .inl ⟨by simp [mget, hc, g1], by simp [Instr.findNow, c1, g2], fun v => by simp [mset, hc, g3]⟩
        · exact .inr ⟨j + 1, x, x', by simpa using g1, by simpa using g2, g3, by simp [mget, hc, g4], by simp [Instr.findNow, c1, g5]; omega, fun v => by simp [mset, hc, g6]⟩
      · rw [hc, ← h2] at c1
        exact .inr ⟨0, e, e', rfl, rfl, by rw [h2]; exact (c2 hc).symm, by simp [mget, hc], by simp [Instr.findNow, c1], fun v => by simp [mset, hc]⟩

section
variable {P : Program} {w : World} {o : Oper} {a : Act} {ρ : Ren} {nt : Nat} {σ : Slots} {m : Mem} {B id : Nat}

theorem zero_one {e : TypeId} {z : Value} (hz : tyZero1 P e = some z) : (zeroValue e).run P w = .ok z w ∧ flat1 z = true := by
  unfold tyZero1 at hz
  split at hz
  · rename_i i hi
    split at hz
    · rename_i zv hzv
      split at hz <;> cases hz
      rename_i hf
      exact ⟨by simp [zeroValue, typeInfo, hi, hzv], hf⟩
    · cases hz
  · cases hz

theorem MRel.newMap (hm : MRel B ρ m w) (hB : B ≤ w.heap.size) (hid : id < m.next) (hr : ρ id = none) : MRel B (updR ρ id ⟨w.heap.size, 0, 0⟩) (m.putM id []) (w.alloc (.map #[] 0)) := by
  have hle := updR_le (l := ⟨w.heap.size, 0, 0⟩) hr
  have hsz : (w.alloc (.map #[] 0)).heap.size = w.heap.size + 1 := by show (w.heap.push _).size = _; rw [Array.size_push]
  have hold : ∀ k, k < w.heap.size → (w.alloc (.map #[] 0)).heap[k]? = w.heap[k]? := fun k hk => by show (w.heap.push _)[k]? = _; rw [Array.getElem?_push, if_neg (by omega)]
  have hget : ∀ b, (m.putM id []).get b = if b = id then some ⟨[], true⟩ else m.get b := fun b => by
    unfold Mem.get Mem.putM
    by_cases h : b = id
    · subst h; simp [hid]
    · simp [h]
  have hloc : ∀ b l, updR ρ id ⟨w.heap.size, 0, 0⟩ b = some l → (b = id ∧ l = ⟨w.heap.size, 0, 0⟩) ∨ (b ≠ id ∧ ρ b = some l) := fun b l h => by
    unfold updR at h
    split at h
    · rename_i e; cases h; exact .inl ⟨e, rfl⟩
    · rename_i e; exact .inr ⟨e, h⟩
  refine ⟨fun b l hb => ?_, fun b l hb => ?_, fun b x hx => ?_, fun b x b' x' l l' h1 h2 h3 h4 h5 h6 => ?_, fun b es hb => ?_, fun b es hb => ?_⟩
  · rcases hloc b l hb with ⟨rfl, _⟩ | ⟨_, h⟩
    · exact hid
    · exact hm.dom b l h
  · rcases hloc b l hb with ⟨_, rfl⟩ | ⟨_, h⟩
    · rw [hsz]; exact Nat.lt_succ_self _
    · rw [hsz]; have := hm.inb b l h; omega
  · rw [hget] at hx
    split at hx
    · rename_i e
      cases hx
      exact ⟨⟨w.heap.size, 0, 0⟩, by simp [updR, e], Nat.le_refl _, fun i v hv => by simp at hv, fun _ => ⟨hB, fun i hi => by simp at hi⟩⟩
    · obtain ⟨l, g1, g2, g3, g4⟩ := hm.live b x hx
      have hlb := hm.inb b l g1
      have hc : ∀ i, (w.alloc (.map #[] 0)).cell? ⟨l.c, l.o + i, none⟩ = w.cell? ⟨l.c, l.o + i, none⟩ := fun i => World.cell?_of_block (w := w) (hold l.c hlb)
      have hf : ∀ i, (w.alloc (.map #[] 0)).frozen? ⟨l.c, l.o + i, none⟩ = w.frozen? ⟨l.c, l.o + i, none⟩ := fun i => World.frozen?_of_block (w := w) (hold l.c hlb)
      exact ⟨l, hle _ _ g1, g2, fun i v hv => by obtain ⟨q1, v', q2, q3⟩ := g3 i v hv; exact ⟨q1, v', by rw [hc]; exact q2, q3.mono hle⟩, fun ho => ⟨(g4 ho).1, fun i hi => by rw [hc, hf]; exact (g4 ho).2 i hi⟩⟩
  · rw [hget] at h1 h3
    rcases hloc b l h5 with ⟨rfl, rfl⟩ | ⟨e, h5⟩
    · rcases hloc b' l' h6 with ⟨e', _⟩ | ⟨e', h6⟩
      · exact absurd e'.symm h4
      · have := hm.inb b' l' h6
        simp only; omega
    · rcases hloc b' l' h6 with ⟨e', rfl⟩ | ⟨e', h6⟩
      · have := hm.inb b l h5
        simp only; omega
      · rw [if_neg e] at h1
        rw [if_neg e'] at h3
        exact hm.excl b x b' x' l l' h1 h2 h3 h4 h5 h6
  · by_cases e : b = id
    · exact ⟨⟨w.heap.size, 0, 0⟩, by simp [updR, e]⟩
    · have : m.mp b = some es := by simpa [Mem.putM, e] using hb
      obtain ⟨l, hl⟩ := hm.mdom b es this
      exact ⟨l, hle _ _ hl⟩
  · obtain ⟨g1, g2⟩ := Mem.getM_get hb
    by_cases e : b = id
    · subst e
      have : es = [] := by simpa [Mem.putM] using g2.symm
      subst this
      exact ⟨⟨w.heap.size, 0, 0⟩, #[], 0, by simp [updR], hB, by show (w.heap.push _)[w.heap.size]? = _; simp, ⟨rfl, fun i e e' h => by simp at h⟩⟩
    · rw [hget, if_neg e] at g1
      have g2' : m.mp b = some es := by simpa [Mem.putM, e] using g2
      obtain ⟨l, es', ck, p1, p2, p3, p4⟩ := hm.maps b es (Mem.getM_of g1 g2')
      exact ⟨l, es', ck, hle _ _ p1, p2, by rw [hold _ (hm.inb b l p1)]; exact p3, p4.mono hle⟩

theorem s_mkmap {t : TypeId} (hop : o.op = .makeMap t none) (hm : MRel B ρ m w) (hB : B ≤ w.heap.size) (hid : id < m.next) (hr : ρ id = none) : Sound P o .mkmap a B ρ σ m w id := by
  refine ⟨.map (some w.heap.size), w.alloc (.map #[] 0), updR ρ id ⟨w.heap.size, 0, 0⟩, .inl ?_, updR_le hr, updR_other, ?_, hm.newMap hB hid hr, below_alloc rfl rfl rfl rfl hB _⟩
  · simp only [execOp, hop, Option.map_none, Instr.makeMap, Sem.run_bind]
    rfl
  · exact .map (l := ⟨w.heap.size, 0, 0⟩) (by simp [updR])

theorem MRel.setMap (hm : MRel B ρ m w) {b : Nat} {es : List (Value × Value)} {l : Loc} {es' : Array MapEntry} {ck : Nat} (hg : m.getM b = some es) (hl : ρ b = some l) (hB : B ≤ l.c) (hh : w.heap[l.c]? = some (.map es' ck))
    {fs : List (Value × Value)} {fs' : Array MapEntry} {ck' : Nat} (hr : ERel ρ fs fs'.toList) : MRel B ρ (m.putM b fs) { w with heap := w.heap.setIfInBounds l.c (.map fs' ck') } := by
  obtain ⟨gb, gm⟩ := Mem.getM_get hg
  have hb := Mem.get_lt gb
  obtain ⟨hs1, hs2⟩ := MapKept.heap_set (o' := .map fs' ck') hh
  have hget : ∀ b', (m.putM b fs).get b' = m.get b' := fun b' => by
    by_cases h : b' = b
    · subst h
      rw [gb]
      unfold Mem.get Mem.putM
      simp [hb]
    · unfold Mem.get Mem.putM
      simp [h]
  have hc : ∀ ad : Addr, World.cell? { w with heap := w.heap.setIfInBounds l.c (.map fs' ck') } ad = w.cell? ad := fun ad => by
    by_cases h : ad.block = l.c
    · simp only [World.cell?, h, hs1, hh]
    · exact World.cell?_of_block (w := w) (hs2 _ h)
  have hf : ∀ ad : Addr, World.frozen? { w with heap := w.heap.setIfInBounds l.c (.map fs' ck') } ad = w.frozen? ad := fun ad => by
    by_cases h : ad.block = l.c
    · simp only [World.frozen?, h, hs1, hh]
    · exact World.frozen?_of_block (w := w) (hs2 _ h)
  refine ⟨hm.dom, fun b' l' h' => by show l'.c < (w.heap.setIfInBounds _ _).size; rw [Array.size_setIfInBounds]; exact hm.inb b' l' h', fun b' x hx => ?_, fun b1 x1 b2 x2 l1 l2 h1 h2 h3 => hm.excl b1 x1 b2 x2 l1 l2 (by rw [← hget]; exact h1) h2 (by rw [← hget]; exact h3), fun b' es2 hb' => ?_, fun b' es2 hb' => ?_⟩
  · rw [hget] at hx
    simpa only [hc, hf] using hm.live b' x hx
  · by_cases e : b' = b
    · exact ⟨l, by rw [e]; exact hl⟩
    · exact hm.mdom b' es2 (by simpa [Mem.putM, e] using hb')
  · obtain ⟨g1, g2⟩ := Mem.getM_get hb'
    rw [hget] at g1
    by_cases e : b' = b
    · subst e
      have : es2 = fs := by simpa [Mem.putM] using g2.symm
      subst this
      exact ⟨l, fs', ck', hl, hB, hs1, hr⟩
    · have g2' : m.mp b' = some es2 := by simpa [Mem.putM, e] using g2
      obtain ⟨l2, es3, ck3, p1, p2, p3, p4⟩ := hm.maps b' es2 (Mem.getM_of g1 g2')
      have hne : l2.c ≠ l.c := hm.excl b' _ b _ l2 l g1 rfl gb e p1 hl
      exact ⟨l2, es3, ck3, p1, p2, by rw [hs2 _ hne]; exact p3, p4⟩

theorem s_mput {t kt e : TypeId} {kk : KK} {x k v : Operand} (hop : o.op = .mapUpdate t x k v) (ht : P.underlying t = some (.map kt e)) (hd : P.underlying kt = some kk.desc) (hx : argOk x = true) (hk : argOk k = true) (hv : argOk v = true)
    (hs : SRel ρ nt σ a) (hm : MRel B ρ m w) (hok : (IK.mput kk x k v).ok σ m = true) : Sound P o (.mput kk x k v) a B ρ σ m w id := by
  simp only [IK.ok] at hok
  have hr := hs.ev hx
  cases hu : ev σ x <;> simp only [hu] at hok <;> try cases hok
  rename_i p
  cases p with
  | none => simp at hok
  | some b =>
    simp only at hok
    rw [hu] at hr
    obtain ⟨l, hl, hxv⟩ := hr.inv_map
    cases hg : m.getM b with
    | none => simp [hg] at hok
    | some es =>
      simp only [hg, keyLike, Bool.and_eq_true] at hok
      obtain ⟨⟨hk1, hk2⟩, hv1⟩ := hok
      obtain ⟨l', es', ck, p1, p2, p3, p4⟩ := hm.maps b es hg
      rw [hl] at p1; cases p1
      have hkv : a.eval k = ev σ k := (hs.ev hk).inv_flat (isKeyB_flat hk1)
      have hkey := isKeyB_key hk1
      have hvr := hs.ev hv
      have hmem : (IK.mput kk x k v).mem id σ m = m.putM b (mset (ev σ k) (ev σ v) es) := by simp only [IK.mem, hu, mapBlk, hg, Option.getD_some]
      have hck : (Instr.checkKey false 10000 kt (ev σ k)).run P w = .ok () w := MapKept.run_checkKey hd hkey false 9999
      have hbel : ∀ o', Below B w { w with heap := w.heap.setIfInBounds l.c o' } := fun o' => ⟨rfl, rfl, rfl, by show _ ≤ (w.heap.setIfInBounds _ _).size; rw [Array.size_setIfInBounds]; exact Nat.le_refl _, fun k hk => by
        show (w.heap.setIfInBounds _ _)[k]? = _
        simp [show l.c ≠ k by omega]⟩
      rcases findNow_rel hk1 es es'.toList 0 p4 hk2 with ⟨_, g2, g3⟩ | ⟨j, x1, x2, g1, g2, g3, _, g5, g6⟩
      · have hrun : (Instr.mapUpdate t (a.eval x) (a.eval k) (a.eval v)).run P w = .ok () { w with heap := w.heap.setIfInBounds l.c (.map (es'.push { key := ev σ k, val := a.eval v, born := ck }) (ck + 1)) } := by
          simp [Instr.mapUpdate, hxv, hkv, run_underlying ht, MapKept.run_getObj_map p3, hck, MapKept.run_findKey hd g2, MapKept.run_setObj_map _ p3]
        refine ⟨undef, _, ρ, .inr ⟨by simp only [execOp, hop, hrun, Sem.run_bind, Result.andThen_ok]; rfl, rfl⟩, RenLe.refl ρ, fun _ _ => rfl, VRel.undef ρ, ?_, hbel _⟩
        rw [hmem, g3]
        refine hm.setMap hg hl p2 p3 ⟨by simp [p4.1], fun i e e' h1 h2 => ?_⟩
        simp only [Array.toList_push] at h2
        rw [List.getElem?_append] at h1 h2
        rw [← p4.1] at h2
        split at h1
        · rename_i hi; rw [if_pos hi] at h2; exact p4.2 i e e' h1 h2
        · rename_i hi
          rw [if_neg hi] at h2
          have hi0 : i - es.length = 0 := by have := (List.getElem?_eq_some_iff.1 h1).1; simp at this; omega
          rw [hi0] at h1 h2
          simp at h1 h2
          subst h1; subst h2
          exact ⟨isKeyB_flat hk1, rfl, hv1, hvr⟩
      · have hj : es'[j]? = some x2 := by simpa using g2
        have hrun : (Instr.mapUpdate t (a.eval x) (a.eval k) (a.eval v)).run P w = .ok () { w with heap := w.heap.setIfInBounds l.c (.map (es'.modify j fun e => { e with key := ev σ k, val := a.eval v }) ck) } := by
          simp [Instr.mapUpdate, hxv, hkv, run_underlying ht, MapKept.run_getObj_map p3, hck, MapKept.run_findKey hd g5, hj, g3, MapKept.run_keyThatStays hkey, MapKept.run_setObj_map _ p3]
        refine ⟨undef, _, ρ, .inr ⟨by simp only [execOp, hop, hrun, Sem.run_bind, Result.andThen_ok]; rfl, rfl⟩, RenLe.refl ρ, fun _ _ => rfl, VRel.undef ρ, ?_, hbel _⟩
        rw [hmem, g6]
        refine hm.setMap hg hl p2 p3 ⟨by simpa using p4.1, fun i e e' h1 h2 => ?_⟩
        simp only [Array.getElem?_toList, Array.getElem?_modify] at h2
        rw [List.getElem?_set] at h1
        by_cases hij : j = i
        · subst hij
          rw [if_pos rfl, if_pos (by have := (List.getElem?_eq_some_iff.1 g1).1; exact this)] at h1
          rw [if_pos rfl, hj] at h2
          simp at h1 h2
          subst h1; subst h2
          exact ⟨isKeyB_flat hk1, rfl, hv1, hvr⟩
        · rw [if_neg hij] at h1 h2
          exact p4.2 i e e' h1 (by simpa using h2)

theorem s_mlook {t kt e : TypeId} {kk : KK} {z : Value} {ok : Bool} {x k : Operand} (hop : o.op = .lookup t x k ok) (ht : P.underlying t = some (.map kt e)) (hd : P.underlying kt = some kk.desc) (hz : tyZero1 P e = some z) (hx : argOk x = true) (hk : argOk k = true)
    (hs : SRel ρ nt σ a) (hm : MRel B ρ m w) (hok : (IK.mlook kk z ok x k).ok σ m = true) : Sound P o (.mlook kk z ok x k) a B ρ σ m w id := by
  obtain ⟨hzr, hzf⟩ := zero_one (w := w) hz
  simp only [IK.ok] at hok
  have hex : ∃ (es : List (Value × Value)) (es' : Array MapEntry), mapOf m (ev σ x) = some es ∧ ERel ρ es es'.toList ∧ ((a.eval x = .map none ∧ es' = #[]) ∨ ∃ r ck, a.eval x = .map (some r) ∧ w.heap[r]? = some (.map es' ck)) := by
    have hr := hs.ev hx
    cases hu : ev σ x <;> simp only [hu, mapOf] at hok <;> try cases hok
    rename_i p
    cases p with
    | none =>
      rw [hu] at hr
      exact ⟨[], #[], rfl, ⟨rfl, fun i e e' h => by simp at h⟩, .inl ⟨hr.inv_flat rfl, rfl⟩⟩
    | some b =>
      rw [hu] at hr
      obtain ⟨l, hl, hv⟩ := hr.inv_map
      cases hg : m.getM b with
      | none => simp [mapOf, hg] at hok
      | some es =>
        obtain ⟨l', es', ck, p1, p2, p3, p4⟩ := hm.maps b es hg
        rw [hl] at p1; cases p1
        exact ⟨es, es', hg, p4, .inr ⟨l.c, ck, hv, p3⟩⟩
  obtain ⟨es, es', hes, hrel, hcase⟩ := hex
  rw [hes] at hok
  simp only [keyLike, Bool.and_eq_true] at hok
  obtain ⟨hk1, hk2⟩ := hok
  have hkv : a.eval k = ev σ k := (hs.ev hk).inv_flat (isKeyB_flat hk1)
  have hkey := isKeyB_key hk1
  have hfind := findNow_rel hk1 es es'.toList 0 hrel hk2
  have hfin : ∃ (v : Value) (u : Nat × Value) (b : Bool), (Instr.findKey kt (ev σ k) es'.toList).run P w = .ok (if b then some (u.1, u.2) else none : Option (Nat × Value)) w ∧ (mget (ev σ k) es).isSome = b ∧ (b = true → mget (ev σ k) es = some v ∧ VRel ρ v u.2) := by
    rcases hfind with ⟨g1, g2, _⟩ | ⟨j, x1, x2, g1, g2, g3, g4, g5, _⟩
    · exact ⟨undef, (0, undef), false, by rw [MapKept.run_findKey hd g2]; rfl, by rw [g1]; rfl, fun h => by cases h⟩
    · obtain ⟨_, _, _, h4⟩ := hrel.2 j x1 x2 g1 g2
      exact ⟨x1.2, (0 + j, x2.val), true, by rw [MapKept.run_findKey hd g5]; rfl, by rw [g4]; rfl, fun _ => ⟨g4, h4⟩⟩
  obtain ⟨v, u, b, f1, f2, f3⟩ := hfin
  have hval : (IK.mlook kk z ok x k).val id σ m = if ok then .tuple #[(mget (ev σ k) es).getD z, .bool (mget (ev σ k) es).isSome] else (mget (ev σ k) es).getD z := by
    simp only [IK.val, hes, Option.bind_some]
  have hrun : (Instr.lookup t (a.eval x) (a.eval k) ok).run P w = .ok (if ok then .tuple #[if b then u.2 else z, .bool b] else if b then u.2 else z) w := by
    have hck : ∀ e, (Instr.checkKey e 10000 kt (ev σ k)).run P w = .ok () w := fun e => MapKept.run_checkKey hd hkey e 9999
    rcases hcase with ⟨h1, h2⟩ | ⟨r, ck, h1, h2⟩
    · subst h2
      cases b
      · simp [Instr.lookup, h1, hkv, run_underlying ht, hck, f1, hzr]
      · simp [Instr.lookup, h1, hkv, run_underlying ht, hck, f1, hzr]
    · cases b
      · simp [Instr.lookup, h1, hkv, run_underlying ht, MapKept.run_getObj_map h2, hck, f1, hzr]
      · simp [Instr.lookup, h1, hkv, run_underlying ht, MapKept.run_getObj_map h2, hck, f1, hzr]
  refine ⟨_, w, ρ, .inl (by simp only [execOp, hop, hrun, Sem.run_bind, Result.andThen_ok]; rfl), RenLe.refl ρ, fun _ _ => rfl, ?_, hm, Below.refl _ _⟩
  rw [hval]
  have hv1 : VRel ρ ((mget (ev σ k) es).getD z) (if b then u.2 else z) := by
    cases b
    · have : mget (ev σ k) es = none := by simpa using f2
      rw [this]; exact .flat hzf
    · obtain ⟨g1, g2⟩ := f3 rfl
      rw [g1]; exact g2
  cases ok
  · exact hv1
  · simp only [if_true]
    rw [f2]
    exact LRel.tuple (xs := [_, _]) (ys := [_, _]) (LRel.cons hv1 (LRel.cons (.flat rfl) (LRel.nil ρ)))
end
end Go.DI
namespace Go.DI
open Go Go.RowKit

section
variable {P : Program} {w : World} {o : Oper} {a : Act} {ρ : Ren} {nt : Nat} {σ : Slots} {m : Mem} {B id : Nat}

theorem pure_mem {k : IK} (h : k.pure = true) : k.mem id σ m = m := by
  cases k <;> first | rfl | (simp [IK.pure] at h)

set_option maxHeartbeats 1000000 in
theorem op_sound {k : IK} (hk : cKind P o = some k) (hc : k.isCall = false) (hs : SRel ρ nt σ a) (hm : MRel B ρ m w) (hB : B ≤ w.heap.size) (hid : k.isAlloc = true → id < m.next) (hr : k.isAlloc = true → ρ id = none) (hok : k.ok σ m = true) : Sound P o k a B ρ σ m w id := by
  by_cases hp : k.pure = true
  · obtain ⟨v', h1, h2⟩ := pure_sound (w := w) (m := m) hk hp hs hok id
    exact ⟨v', w, ρ, h1, RenLe.refl ρ, fun _ _ => rfl, h2, by rw [pure_mem hp]; exact hm, Below.refl _ _⟩
  · rcases cKind_cases hk with hk | rfl
    rotate_left
    · rw [trap_bad] at hok; cases hok
    unfold cKind0 at hk
    split at hk
    · split at hk <;> cases hk; exact absurd rfl hp
    · split at hk <;> cases hk; exact absurd rfl hp
    · split at hk <;> cases hk; exact absurd rfl hp
    · split at hk <;> cases hk; exact absurd rfl hp
    · -- alloc
      rename_i e hop
      split at hk <;> cases hk
      rename_i z hz
      exact s_alloc hop hz hm hB (hid rfl) (hr rfl)
    · -- box
      rename_i e x hop
      split at hk <;> cases hk
      rename_i hx
      exact s_box hop hx hs hok hm hB (hid rfl) (hr rfl)
    · (repeat' split at hk) <;> cases hk <;> exact absurd rfl hp
    · -- buildSlice
      rename_i t n ps hop
      split at hk
      · rename_i e ht
        split at hk
        · rename_i z hz
          split at hk
          · rename_i qs hq
            split at hk <;> cases hk
            rename_i hc'
            simp only [Bool.and_eq_true, decide_eq_true_eq] at hc'
            exact s_bslice hop ht hz hq hc'.1 hc'.2 hs hm hB (hid rfl) (hr rfl) hok
          · cases hk
        · cases hk
      · cases hk
    · -- load
      rename_i t x hop
      split at hk
      · rename_i ag n hag hn
        split at hk <;> cases hk
        rename_i hx
        exact s_load hop hag hn hx hs hm hok
      · cases hk
    · -- store
      rename_i t x v hop
      split at hk
      · rename_i n hn
        split at hk <;> cases hk
        rename_i hx
        simp only [Bool.and_eq_true] at hx
        exact s_store hop hn hx.1 hx.2 hs hm hok
      · cases hk
    · (repeat' split at hk) <;> cases hk <;> exact absurd rfl hp
    · (repeat' split at hk) <;> cases hk <;> exact absurd rfl hp
    · -- convert
      rename_i s d x hop
      split at hk
      · split at hk <;> cases hk; exact absurd rfl hp
      · split at hk <;> cases hk; exact absurd rfl hp
      · rename_i e hS hD
        split at hk
        · rename_i hE
          split at hk <;> cases hk
          rename_i hx
          exact s_convBS hop hS hD hE hx hs hm hok
        · cases hk
      · rename_i e hS hD
        split at hk
        · rename_i hE
          split at hk <;> cases hk
          rename_i hx
          exact s_convSB hop hS hD hE hx hs hm hB (hid rfl) (hr rfl) hok
        · cases hk
      · cases hk
    · -- makeSlice
      rename_i t l c hop
      split at hk
      · rename_i e ht
        split at hk
        · rename_i z inf hz hi
          split at hk <;> cases hk
          rename_i hx
          simp only [Bool.and_eq_true] at hx
          exact s_mkslice hop ht hz hi hx.1 hx.2 hs hm hB (hid rfl) (hr rfl) hok
        · cases hk
      · cases hk
    · -- slice
      rename_i t x lo hi mx hop
      split at hk
      · split at hk <;> cases hk; exact absurd rfl hp
      · (repeat' split at hk) <;> cases hk <;> exact absurd rfl hp
      · rename_i n e ha
        split at hk
        · rename_i z hz
          split at hk <;> cases hk
          rename_i hc'
          simp only [Bool.and_eq_true, Option.isNone_iff_eq_none] at hc'
          exact s_sliceA hop ha hz hc'.1.1.1 hc'.1.1.2 hc'.1.2 hc'.2 hs hm hok
        · cases hk
      · cases hk
    · (repeat' split at hk) <;> cases hk <;> exact absurd rfl hp
    · (repeat' split at hk) <;> cases hk <;> exact absurd rfl hp
    · (repeat' split at hk) <;> cases hk <;> exact absurd rfl hp
    · (repeat' split at hk) <;> cases hk <;> exact absurd rfl hp
    · (repeat' split at hk) <;> cases hk <;> exact absurd rfl hp
    · (repeat' split at hk) <;> cases hk <;> exact absurd rfl hp
    · (repeat' split at hk) <;> cases hk <;> exact absurd rfl hp
    · -- makeMap
      rename_i t r hop
      split at hk
      · rename_i k e ht
        cases hk
        exact s_mkmap hop hm hB (hid rfl) (hr rfl)
      · cases hk
    · -- lookup
      rename_i t x i ok hop
      split at hk
      · rename_i k e ht
        split at hk
        · rename_i ck z hck hz
          split at hk <;> cases hk
          rename_i hx
          simp only [Bool.and_eq_true] at hx
          exact s_mlook hop ht (ckOfTy_spec hck) hz hx.1 hx.2 hs hm hok
        · cases hk
      · cases hk
    · -- mapUpdate
      rename_i t x k v hop
      split at hk
      · rename_i kt e ht
        split at hk
        · rename_i ck hck
          split at hk <;> cases hk
          rename_i hx
          simp only [Bool.and_eq_true] at hx
          exact s_mput hop ht (ckOfTy_spec hck) hx.1.1 hx.1.2 hx.2 hs hm hok
        · cases hk
      · cases hk
    · (repeat' split at hk) <;> cases hk <;> exact absurd rfl hp
    · -- call
      rename_i c hop
      unfold cCall at hk
      split at hk
      · split at hk <;> cases hk; simp [IK.isCall] at hc
      · (repeat' split at hk) <;> cases hk <;> simp [IK.isCall] at hc
      · (repeat' split at hk) <;> cases hk <;> simp [IK.isCall] at hc
      · (repeat' split at hk) <;> cases hk <;> exact absurd rfl hp
      · rename_i hcl
        split at hk
        · rename_i x y t u ha hT
          split at hk
          · rename_i e ht
            split at hk
            · rename_i inf hi
              split at hk <;> cases hk
              rename_i hx
              simp only [Bool.and_eq_true, decide_eq_true_eq] at hx
              obtain ⟨⟨⟨rfl, h1⟩, h2⟩, h3⟩ := hx
              obtain ⟨z, hz⟩ := Option.isSome_iff_exists.1 h3
              exact s_app hop hcl ha hT ht hi hz h1 h2 hs hm hB (hid rfl) (hr rfl) hok
            · cases hk
          · cases hk
        · cases hk
      · (repeat' split at hk) <;> cases hk <;> exact absurd rfl hp
      · (repeat' split at hk) <;> cases hk <;> exact absurd rfl hp
      · cases hk
    · cases hk

theorem app_soundK {z bytes : Nat} {x y : Operand} (hk : cKind P o = some (.app z bytes x y)) (hs : SRel ρ nt σ a) (hm : MRel B ρ m w) (hB : B ≤ w.heap.size) (hid : id < m.next) (hr : ρ id = none) (hok : (IK.app z bytes x y).ok σ m = true) :
    SoundK P o z bytes x y a B ρ σ m w id := by
  rcases cKind_cases hk with hk | h0
  rotate_left
  · cases h0
  unfold cKind0 at hk
  split at hk
  case h_27 c hop =>
    unfold cCall at hk
    split at hk
    case h_5 hcl =>
      split at hk
      · rename_i x y t u ha hT
        split at hk
        · rename_i e ht
          split at hk
          · rename_i inf hi
            split at hk <;> cases hk
            rename_i hx
            simp only [Bool.and_eq_true, decide_eq_true_eq] at hx
            obtain ⟨⟨⟨rfl, h1⟩, h2⟩, h3⟩ := hx
            obtain ⟨z, hz⟩ := Option.isSome_iff_exists.1 h3
            exact s_appK hop hcl ha hT ht hi hz h1 h2 hs hm hB hid hr hok
          · cases hk
        · cases hk
      · cases hk
    all_goals ((repeat' split at hk) <;> cases hk)
  all_goals ((repeat' split at hk) <;> cases hk)

/-! calls -/
def Callable (P : Program) (f : Nat) : Prop := ∃ fn, P.funcs[f]? = some fn ∧ fn.body.isSome = true ∧ (fn.name == "runtime.NumGoroutine") = false

theorem mRows_mem {name : String} {r : TypeId × Nat × Option (Bool × Nat)} (h : r ∈ mRows P name) : mRow P name r.1 = some r ∧ r.1 < P.types.size := by
  unfold mRows at h
  obtain ⟨t, h1, h2⟩ := List.mem_filterMap.1 h
  have : r.1 = t := by
    unfold mRow at h2
    (repeat' split at h2) <;> cases h2 <;> rfl
  subst this
  exact ⟨h2, by simpa using h1⟩

theorem run_method_none {name : String} {t f : Nat} {v : Value} (h : mRow P name t = some (t, f, none) ∧ t < P.types.size) :
    (method (P.types.size + Made.depth) t v name).run P w = .ok (f, v) w := by
  obtain ⟨h, hlt⟩ := h
  unfold mRow at h
  (repeat' split at h) <;> cases h
  rename_i hinf _ mt hfind hp _ _ _ el hu hfn
  obtain ⟨n, hn⟩ : ∃ n, P.types.size + Made.depth = n + 1 := ⟨P.types.size + Made.depth - 1, by omega⟩
  have hpath : mt.path.toList = [] := by simpa using hp
  rw [hn]
  simp [method, typeInfo, hinf, hfind, hpath, follow, hfn, receiverAt, underlying, hu, Place.get]

theorem run_callFunc {f : Nat} {args : Array Value} (h : Callable P f) : (callFunc f args).run P w = .ok (.enter f args) w := by
  obtain ⟨fn, h1, h2, h3⟩ := h
  have h4 : fn.body ≠ none := by intro hb; simp [hb] at h2
  have h5 : fn.name ≠ "runtime.NumGoroutine" := by simpa using h3
  simp [callFunc, h1, h4, h5]

theorem run_wrap {as : Array TypeId} {t : TypeId} {ad : Addr} {x y : String} : Builtin.ssaWrapNilChk_ as t #[.pointer (some ad), strVal x, strVal y] = pure (.pointer (some ad)) := rfl

theorem run_method_some {name : String} {t f n : Nat} {ag : Bool} {ad : Addr} {ds : List Value} (h : mRow P name t = some (t, f, some (ag, n)) ∧ t < P.types.size)
    (h1 : ag = true ∨ n = 1) (hl : ds.length = n) (hc : ∀ (j : Nat) u, ds[j]? = some u → w.cell? (ad.add j) = some u) :
    (method (P.types.size + Made.depth) t (.pointer (some ad)) name).run P w = .ok (f, if ag then .agg ds.toArray else ds.headD undef) w := by
  obtain ⟨h, hlt⟩ := h
  unfold mRow at h
  (repeat' split at h) <;> cases h
  rename_i hinf _ mt hfind hp _ _ _ el hu _ _ hfn hag hn
  obtain ⟨n, hn'⟩ : ∃ n, P.types.size + Made.depth = n + 1 := ⟨P.types.size + Made.depth - 1, by omega⟩
  have hpath : mt.path.toList = [] := by simpa using hp
  have hlv := run_loadVar (P := P) (w := w) hag hn h1 hl hc
  have hpe' : mt.path = #[] := by simpa using hp
  rw [hn']
  simp [method, typeInfo, hinf, hfind, follow, hfn, receiverAt, underlying, hu, Place.get, hpe', run_wrap, asAddr, hlv]

theorem run_invoke {name : String} {t f : Nat} {v recv : Value} {args : Array Value} (hm : (method (P.types.size + Made.depth) t v name).run P w = .ok (f, recv) w) (hf : Callable P f) :
    (invoke (.fn (.method name) #[]) (#[.iface t v] ++ args)).run P w = .ok (.enter f (#[recv] ++ args)) w := by
  have h0 : (#[Value.iface t v] ++ args)[0]? = some (.iface t v) := by rw [Array.getElem?_append_left (by simp)]; rfl
  have h1 : (#[Value.iface t v] ++ args).extract 1 (#[Value.iface t v] ++ args).size = args := by simp
  simp only [invoke, h0, h1, callMethod, Sem.run_bind, run_program, Result.andThen_ok, hm, run_callFunc hf]

/-- what is known of a callee -/
def ClSound (P : Program) (B : Nat) (cl : Callee) : Prop := ∀ f args m r m', cl f args m = some (r, m') → Callable P f ∧ m.next ≤ m'.next ∧ (∀ b, b < m.next → m.get b = none → m'.get b = none) ∧
  (∀ id x, id < m.next → m.get id = none → cl f args (m.put id x) = some (r, m'.put id x)) ∧
  ∀ ρ w (args' : Array Value), LRel ρ args args'.toList → MRel B ρ m w → B ≤ w.heap.size →
    Calls P f args' w fun e w' => ∃ v ρ', e = .returned v ∧ RenLe ρ ρ' ∧ (∀ b, b < m.next → ρ' b = ρ b) ∧ VRel ρ' r v ∧ MRel B ρ' m' w' ∧ Below B w w'

/-- an operation that calls -/
theorem call_sound {k : IK} (hk : cKind P o = some k) (hs : SRel ρ nt σ a) (hm : MRel B ρ m w) {f : Nat} {args : List Value} (hcal : k.callee σ m = some (f, args)) (hf : Callable P f) :
    ∃ args' : Array Value, (execOp a.eval o).run P w = .ok (.enter f args') w ∧ LRel ρ args args'.toList := by
  rcases cKind_cases hk with hk | rfl
  rotate_left
  · cases hcal
  unfold cKind0 at hk
  split at hk
  case h_27 c hop =>
    unfold cCall at hk
    split at hk
    · -- a method of an interface value
      rename_i t name hcl
      split at hk <;> cases hk
      rename_i hc'
      simp only [IK.callee] at hcal
      have hr := hs.ev (x := .tmp t) rfl
      split at hcal
      · rename_i ty v hv
        rw [hv] at hr
        obtain ⟨v', e1, r1⟩ := hr.inv_iface
        split at hcal
        · rename_i row g hfi
          simp only [Option.some.injEq, Prod.mk.injEq] at hcal
          obtain ⟨rfl, rfl⟩ := hcal
          have hty : row = ty := by have := List.find?_some hfi; simpa using this
          subst hty
          refine ⟨#[v'] ++ c.args.map a.eval, ?_, by simpa using LRel.cons r1 (list_rel hs _ hc')⟩
          have hmt := run_method_none (w := w) (v := v') (mRows_mem (List.mem_of_find?_eq_some hfi))
          simp only [execOp, hop, resolve, hcl, Sem.run_bind, e1, Sem.run_pure, Result.andThen_ok]
          exact run_invoke hmt hf
        · rename_i row g ag n hfi
          split at hcal
          · rename_i hok
            simp only [Option.some.injEq, Prod.mk.injEq] at hcal
            obtain ⟨rfl, rfl⟩ := hcal
            have hty : row = ty := by have := List.find?_some hfi; simpa using this
            subst hty
            simp only [Bool.and_eq_true, Bool.or_eq_true, decide_eq_true_eq] at hok
            obtain ⟨ad, ds, h1, h2, h3, h4⟩ := loadV_rel hm r1 hok.1 hok.2
            refine ⟨#[if ag then .agg ds.toArray else ds.headD undef] ++ c.args.map a.eval, ?_, by simpa using LRel.cons h4 (list_rel hs _ hc')⟩
            have hmt := run_method_some (w := w) (mRows_mem (List.mem_of_find?_eq_some hfi)) hok.2 h2 h3
            simp only [execOp, hop, resolve, hcl, Sem.run_bind, e1, Sem.run_pure, Result.andThen_ok, h1]
            exact run_invoke hmt hf
          · cases hcal
        · cases hcal
      · cases hcal
    · -- a named function
      rename_i g hcl
      split at hk
      · rename_i fn hfn
        split at hk <;> cases hk
        rename_i hc'
        simp only [Bool.and_eq_true] at hc'
        simp only [IK.callee, Option.some.injEq, Prod.mk.injEq] at hcal
        obtain ⟨rfl, rfl⟩ := hcal
        refine ⟨c.args.map a.eval, ?_, by simpa using list_rel hs _ hc'.2⟩
        have h1 : a.eval (.func g) = .func (.func g) #[] #[] := rfl
        simp only [execOp, hop, resolve, hcl, Sem.run_bind, h1, Deferred.ofValue, Sem.run_pure, Result.andThen_ok, invoke]
        rw [run_callFunc hf]
        simp
      · cases hk
    · -- a function value
      rename_i t hcl
      split at hk <;> cases hk
      rename_i hc'
      simp only [IK.callee] at hcal
      have hr := hs.ev (x := .tmp t) rfl
      split at hcal
      · rename_i g first caps hv
        simp only [Option.some.injEq, Prod.mk.injEq] at hcal
        obtain ⟨rfl, rfl⟩ := hcal
        rw [hv] at hr
        obtain ⟨ys, ds, h1, h2, h3⟩ := hr.inv_func
        refine ⟨ys ++ c.args.map a.eval ++ ds, ?_, by simpa using (h2.append (list_rel hs _ hc')).append h3⟩
        simp only [execOp, hop, resolve, hcl, Sem.run_bind, h1, Deferred.ofValue, Sem.run_pure, Result.andThen_ok, invoke]
        rw [run_callFunc hf]
      · cases hcal
    all_goals ((repeat' split at hk) <;> cases hk <;> simp [IK.callee] at hcal)
  all_goals ((repeat' split at hk) <;> cases hk <;> simp [IK.callee] at hcal)

end
end Go.DI
namespace Go.DI
open Go Go.RowKit

section
variable {P : Program} {w : World} {o : Oper} {a : Act} {ρ : Ren} {nt : Nat} {σ : Slots} {m : Mem} {B : Nat} {ops : Array Oper} {cl : Callee} {base : Nat}

def CompAt (P : Program) (ops : Array Oper) (nt : Nat) (io : IOp) (o : Oper) : Prop :=
  ops[io.ix]? = some o ∧ cKind P o = some io.k ∧ cGuard ops o = some io.g ∧ o.dst = io.d ∧ io.d.all (fun d => decide (d < nt)) = true

theorem wanted_rel {g : Option (Nat × Bool)} (hg : cGuard ops o = some g) (hs : SRel ρ nt σ a) : Region.wanted o (yielded ops a.tmps) = wantedI σ g := by
  unfold cGuard at hg
  split at hg
  · rename_i h; cases hg; simp [Region.wanted, h, wantedI]
  · rename_i j b h
    split at hg
    · rename_i t ht
      cases hg
      have hr := hs.rel t
      simp only [Region.wanted, h, wantedI, yielded, ht, Option.bind_some]
      rw [Array.getD_eq_getD_getElem?] at hr
      cases hv : a.tmps[t]? with
      | none =>
        rw [hv] at hr
        simp only [Option.getD_none] at hr
        cases hu : σ t <;> try rfl
        rw [hu] at hr
        have := hr.inv_bool
        simp [undef] at this
      | some v =>
        rw [hv] at hr
        simp only [Option.getD_some] at hr
        cases hu : σ t
        case bool c =>
          rw [hu] at hr
          rw [hr.inv_bool]
          simp
        all_goals
          rw [hu] at hr
          cases v
          case bool c => cases hr
          all_goals rfl
    · cases hg

theorem ok_not_call {k : IK} (h : k.ok σ m = true) : k.isCall = false := by cases k <;> first | rfl | (simp [IK.ok] at h)

theorem step_sound {io : IOp} {σ' : Slots} {m' : Mem} (hcl : ClSound P B cl) (hc : CompAt P ops nt io o) (hs : SRel ρ nt σ a) (hm : MRel B ρ m w) (hB : B ≤ w.heap.size) (hid : io.k.isAlloc = true → base + io.ix < m.next) (hr : io.k.isAlloc = true → ρ (base + io.ix) = none)
    (hstep : stepOp cl base io σ m = some (σ', m')) {K : Act → World → Prop} {Q : Exit → Act → World → Prop}
    (hK : ∀ a' w' ρ', RenLe ρ ρ' → (∀ b, b < m.next → b ≠ base + io.ix → ρ' b = ρ b) → SRel ρ' nt σ' a' → MRel B ρ' m' w' → Below B w w' → K a' w') : wpOp P ops Q io.ix K a w := by
  obtain ⟨h1, h2, h3, h4, h5⟩ := hc
  unfold wpOp
  simp only [h1]
  rw [wanted_rel h3 hs]
  unfold stepOp at hstep
  by_cases hw : wantedI σ io.g = true
  · rw [if_pos hw] at hstep ⊢
    refine .inl ?_
    unfold Oper.wp
    cases hcal : io.k.callee σ m with
    | some fa =>
      obtain ⟨f, args⟩ := fa
      rw [hcal] at hstep
      simp only at hstep
      cases hf : cl f args m with
      | none => rw [hf] at hstep; cases hstep
      | some vm =>
        obtain ⟨v, m2⟩ := vm
        rw [hf] at hstep
        simp only [Option.some.injEq, Prod.mk.injEq] at hstep
        obtain ⟨rfl, rfl⟩ := hstep
        obtain ⟨g1, g2, g3, _, g4⟩ := hcl f args m v m2 hf
        obtain ⟨args', e1, e2⟩ := call_sound (w := w) h2 hs hm hcal g1
        rw [e1, Oper.upon_enter]
        refine (g4 ρ w args' e2 hm hB).mono fun e w' hh => ?_
        obtain ⟨v', ρ', rfl, q1, q2, q3, q4, q5⟩ := hh
        rw [h4]
        exact hK _ _ ρ' q1 (fun b hb _ => q2 b hb) ((hs.mono q1).put h5 q3) q4 q5
    | none =>
      rw [hcal] at hstep
      simp only at hstep
      split at hstep
      · rename_i hok
        simp only [Option.some.injEq, Prod.mk.injEq] at hstep
        obtain ⟨rfl, rfl⟩ := hstep
        obtain ⟨v', w', ρ', y, q1, q2, q3, q4, q5⟩ := op_sound h2 (ok_not_call hok) hs hm hB hid hr hok
        have hk := hK (a.put io.d v') w' ρ' q1 (fun b _ hb => q2 b hb) ((hs.mono q1).put h5 q3) q4 q5
        rcases y with y | ⟨y, rfl⟩
        · rw [y, Oper.upon_value, h4]; exact hk
        · rw [y, Oper.upon_skip, h4]; exact hk
      · cases hstep
  · rw [if_neg hw] at hstep ⊢
    simp only [Option.some.injEq, Prod.mk.injEq] at hstep
    obtain ⟨rfl, rfl⟩ := hstep
    rw [h4]
    exact hK _ _ ρ (RenLe.refl ρ) (fun _ _ _ => rfl) (hs.put h5 (VRel.undef ρ)) hm (Below.refl _ _)

/-! what a step does to names -/
theorem stepOp_next {io : IOp} {σ' : Slots} {m' : Mem} (hcl : ClSound P B cl) (hstep : stepOp cl base io σ m = some (σ', m')) : m.next ≤ m'.next := by
  unfold stepOp at hstep
  split at hstep
  · split at hstep
    · split at hstep
      · rename_i hf
        cases hstep
        exact (hcl _ _ _ _ _ hf).2.1
      · cases hstep
    · split at hstep
      · cases hstep
        cases io.k <;> simp only [IK.mem] <;> try exact Nat.le_refl _
        · unfold storeM; split <;> try exact Nat.le_refl _
          split <;> exact Nat.le_refl _
        · split
          · exact Nat.le_refl _
          · unfold kill; split <;> exact Nat.le_refl _
      · cases hstep
  · cases hstep; exact Nat.le_refl _

theorem get_none_put {b b' : Nat} {x : Option Blk} (h : m.get b = none) (hne : b ≠ b') : (m.put b' x).get b = none := by
  rw [Mem.get_put, if_neg hne]; exact h

theorem get_none_putM {b b' : Nat} {es : List (Value × Value)} (h : m.get b = none) (hne : b ≠ b') : (m.putM b' es).get b = none := by
  unfold Mem.get Mem.putM at *
  simp only [if_neg hne]; exact h
theorem stepOp_none {io : IOp} {σ' : Slots} {m' : Mem} (hcl : ClSound P B cl) (hstep : stepOp cl base io σ m = some (σ', m')) {b : Nat} (hb : b < m.next) (hne : b ≠ base + io.ix) (hg : m.get b = none) : m'.get b = none := by
  unfold stepOp at hstep
  split at hstep
  · split at hstep
    · split at hstep
      · rename_i hf
        cases hstep
        exact (hcl _ _ _ _ _ hf).2.2.1 b hb hg
      · cases hstep
    · split at hstep
      · rename_i hok
        cases hstep
        cases hk : io.k <;> simp only [IK.mem] <;> try exact hg
        all_goals try exact get_none_put hg hne
        all_goals try exact get_none_putM hg hne
        · unfold storeM
          split
          · rename_i ad
            split
            · rename_i x hx
              exact get_none_put hg (fun e => by rw [e, hx] at hg; cases hg)
            · exact hg
          · exact hg
        · split
          · exact hg
          · refine get_none_put ?_ hne
            unfold kill
            split
            · rw [Mem.get_put]
              split
              · split <;> rfl
              · exact hg
            · exact hg
        · rename_i ck x k v
          rw [hk] at hok
          simp only [IK.ok] at hok
          cases hu : ev σ x <;> simp only [hu] at hok <;> try cases hok
          rename_i p
          cases p with
          | none => simp at hok
          | some b2 =>
            simp only at hok
            cases hgm : m.getM b2 with
            | none => simp [hgm] at hok
            | some es =>
              have h9 := (Mem.getM_get hgm).1
              exact get_none_putM hg (fun e => by
                have e' : b = b2 := e
                rw [e', h9] at hg; cases hg)
      · cases hstep
  · cases hstep; exact hg

theorem runOps_cons {io : IOp} {L : List IOp} {s : Slots × Mem} (h : runOps cl base (io :: L) σ m = some s) : ∃ σ1 m1, stepOp cl base io σ m = some (σ1, m1) ∧ ckProp io σ m m1 ∧ runOps cl base L σ1 m1 = some s := by
  unfold runOps at h
  split at h
  · rename_i σ1 m1 h1
    split at h
    · rename_i hck; exact ⟨σ1, m1, h1, hck, h⟩
    · cases h
  · cases h
theorem runOps_mk {io : IOp} {L : List IOp} {s : Slots × Mem} {σ1 : Slots} {m1 : Mem} (h1 : stepOp cl base io σ m = some (σ1, m1)) (h2 : ckProp io σ m m1) (h3 : runOps cl base L σ1 m1 = some s) : runOps cl base (io :: L) σ m = some s := by
  unfold runOps
  rw [h1]
  simp only [if_pos h2, h3]

theorem runOps_next (hcl : ClSound P B cl) : ∀ (L : List IOp) (σ : Slots) (m : Mem) (s : Slots × Mem), runOps cl base L σ m = some s → m.next ≤ s.2.next
  | [], σ, m, s, h => by simp [runOps] at h; subst h; exact Nat.le_refl _
  | io :: L, σ, m, s, h => by
    obtain ⟨σ1, m1, h1, _, h3⟩ := runOps_cons h
    exact Nat.le_trans (stepOp_next hcl h1) (runOps_next hcl L _ _ _ h3)
theorem runOps_none (hcl : ClSound P B cl) {b : Nat} (hb : b < base) : ∀ (L : List IOp) (σ : Slots) (m : Mem) (s : Slots × Mem), base ≤ m.next → runOps cl base L σ m = some s → m.get b = none → s.2.get b = none
  | [], σ, m, s, _, h, hg => by simp [runOps] at h; subst h; exact hg
  | io :: L, σ, m, s, hn, h, hg => by
    obtain ⟨σ1, m1, h1, _, h3⟩ := runOps_cons h
    exact runOps_none hcl hb L _ _ _ (Nat.le_trans hn (stepOp_next hcl h1)) h3 (stepOp_none hcl h1 (by omega) (by omega) hg)

/-- a region in the text's order; T: what follows -/
theorem ops_soundT (hcl : ClSound P B cl) {Q : Exit → Act → World → Prop} {T : List Nat} : ∀ (L : List IOp) (σ : Slots) (m : Mem) (a : Act) (w : World) (ρ : Ren) (σ' : Slots) (m' : Mem),
    (∀ io ∈ L, ∃ o, CompAt P ops nt io o) → (L.map (·.ix)).Nodup → SRel ρ nt σ a → MRel B ρ m w → B ≤ w.heap.size → (∀ io ∈ L, io.k.isAlloc = true → base + io.ix < m.next ∧ ρ (base + io.ix) = none) → runOps cl base L σ m = some (σ', m') →
    (∀ a' w' ρ', RenLe ρ ρ' → (∀ b, b < m.next → (∀ io ∈ L, b ≠ base + io.ix) → ρ' b = ρ b) → SRel ρ' nt σ' a' → MRel B ρ' m' w' → Below B w w' → wpOps P ops Q T a' w') → wpOps P ops Q (L.map (·.ix) ++ T) a w
  | [], σ, m, a, w, ρ, σ', m', _, _, hs, hm, _, _, h, hQ => by
    simp only [runOps, Option.some.injEq, Prod.mk.injEq] at h
    obtain ⟨rfl, rfl⟩ := h
    exact hQ a w ρ (RenLe.refl ρ) (fun _ _ _ => rfl) hs hm (Below.refl _ _)
  | io :: L, σ, m, a, w, ρ, σ', m', hco, hnd, hs, hm, hB, hid, h, hQ => by
    obtain ⟨σ1, m1, h1, _, h3⟩ := runOps_cons h
    obtain ⟨o, ho⟩ := hco io (by simp)
    simp only [List.map_cons, List.nodup_cons] at hnd
    rw [List.map_cons, List.cons_append, wpOps_cons]
    have hnx := stepOp_next hcl h1
    refine step_sound hcl ho hs hm hB (fun h => (hid io (by simp) h).1) (fun h => (hid io (by simp) h).2) h1 fun a' w' ρ' q1 q2 q3 q4 q5 => ?_
    refine ops_soundT hcl L σ1 m1 a' w' ρ' σ' m' (fun i hi => hco i (by simp [hi])) hnd.2 q3 q4 (Nat.le_trans hB q5.size) (fun i hi hal => ?_) h3 fun a2 w2 ρ2 p1 p2 p3 p4 p5 => ?_
    · have := hid i (by simp [hi]) hal
      refine ⟨by omega, ?_⟩
      rw [q2 _ this.1 (fun e => hnd.1 (List.mem_map.2 ⟨i, hi, by omega⟩))]
      exact this.2
    · exact hQ a2 w2 ρ2 (q1.trans p1) (fun b hb hne => (p2 b (by omega) (fun i hi => hne i (by simp [hi]))).trans (q2 b hb (hne io (by simp)))) p3 p4 (q5.trans p5)

/-- an append: what the memory held before it may still be read -/
theorem late_step {io : IOp} (hc : CompAt P ops nt io o) (hs : SRel ρ nt σ a) (hm : MRel B ρ m w) (hB : B ≤ w.heap.size) (hid : base + io.ix < m.next) (hr : ρ (base + io.ix) = none) (hl : lateOk io σ m = true)
    {K : Act → World → Prop} {Q : Exit → Act → World → Prop}
    (hK : ∀ a' w' ρ', RenLe ρ ρ' → (∀ b, b ≠ base + io.ix → ρ' b = ρ b) → SRel ρ' nt (putD σ io.d (io.k.val (base + io.ix) σ m)) a' → MRel B ρ' (io.k.mem (base + io.ix) σ m) w' → MRel w'.heap.size ρ' (icy m) w' → Below B w w' → K a' w') : wpOp P ops Q io.ix K a w := by
  obtain ⟨h1, h2, h3, h4, h5⟩ := hc
  obtain ⟨ix, d, g, k, ck⟩ := io
  simp only at h1 h2 h3 h4 h5 hid hr hK ⊢
  simp only [lateOk, Bool.and_eq_true, Option.isNone_iff_eq_none] at hl
  obtain ⟨⟨hg, ht⟩, hok⟩ := hl
  subst hg
  unfold wpOp
  simp only [h1]
  rw [wanted_rel h3 hs, if_pos (show wantedI σ none = true from rfl)]
  refine .inl ?_
  unfold Oper.wp
  split at ht
  · rename_i z bytes x y
    obtain ⟨v', w', ρ', yy, q1, q2, q3, q4, q5, q6⟩ := app_soundK h2 hs hm hB hid hr hok
    have hf : MRel w'.heap.size ρ' (icy m) w' := by
      have hget : ∀ b x, (icy m).get b = some x → ∃ u, m.get b = some u ∧ x = icyB u := by
        intro b x hb
        unfold Mem.get at hb ⊢
        change (if b < m.next then _ else _) = _ at hb
        split at hb
        · rename_i hlt
          rw [if_pos hlt]
          simp only [icy, Option.map_eq_some_iff] at hb
          obtain ⟨u, g1, g2⟩ := hb
          exact ⟨u, g1, g2.symm⟩
        · cases hb
      have hn : ((IK.app z bytes x y).mem (base + ix) σ m).next = m.next := by
        simp only [IK.mem]
        split
        · rfl
        · unfold kill; split <;> rfl
      refine ⟨fun b l hb => by have := q4.dom b l hb; rw [hn] at this; exact this, q4.inb, fun b x hb => ?_, fun b x b' x' l l' hb hown => ?_, fun b es hb => (by cases hb), fun b es hb => ?_⟩
      · obtain ⟨u, g1, rfl⟩ := hget b x hb
        obtain ⟨l, e1, e2, e3, _⟩ := hm.live b u g1
        refine ⟨l, q1 b l e1, e2, fun i v hv => ?_, fun h => by cases h⟩
        obtain ⟨e5, v', e6, e7⟩ := e3 i v hv
        exact ⟨e5, v', by rw [q6 ht b u l g1 e1 i (List.getElem?_eq_some_iff.1 hv).1]; exact e6, e7.mono q1⟩
      · obtain ⟨u, _, rfl⟩ := hget b x hb
        cases hown
      · obtain ⟨g1, _⟩ := Mem.getM_get hb
        obtain ⟨u, _, g2⟩ := hget b _ g1
        simp [icyB] at g2
    have hk := hK (a.put d v') w' ρ' q1 q2 ((hs.mono q1).put h5 q3) q4 hf q5
    rcases yy with y | ⟨y, rfl⟩
    · rw [y, Oper.upon_value, h4]; exact hk
    · rw [y, Oper.upon_skip, h4]; exact hk
  · cases ht

/-- what the calls behind a late append leave -/
theorem late_mem {B' : Nat} {ρ2 : Ren} {m1 m2 : Mem} {w1 w2 : World} (hB : B' = w1.heap.size) (h1 : MRel B ρ m1 w1) (h2 : MRel B' ρ2 m2 w2) (hle : RenLe ρ ρ2) (hn : m1.next ≤ m2.next) (hb : Below B' w1 w2) : MRel B ρ2 (m1.bump (m2.next - m1.next)) w2 := by
  subst hB
  have hc : ∀ b l, ρ b = some l → w2.heap[l.c]? = w1.heap[l.c]? := fun b l h => hb.block _ (h1.inb b l h)
  have hu : ∀ b l l', ρ b = some l → ρ2 b = some l' → l' = l := fun b l l' h h' => by have := hle b l h; rw [h'] at this; cases this; rfl
  refine ⟨fun b l h => by have := h2.dom b l h; rw [Mem.bump_next]; omega, h2.inb, fun b x hx => ?_, fun b x b' x' l l' hx ho hx' hne hl hl' => ?_, fun b es h => ?_, fun b es h => ?_⟩
  · rw [Mem.zqn] at hx
    obtain ⟨l, e1, e2, e3, e4⟩ := h1.live b x hx
    have hcell : ∀ i, w2.cell? ⟨l.c, l.o + i, none⟩ = w1.cell? ⟨l.c, l.o + i, none⟩ := fun i => by simp only [World.cell?, hc b l e1]
    have hfr : ∀ i, w2.frozen? ⟨l.c, l.o + i, none⟩ = w1.frozen? ⟨l.c, l.o + i, none⟩ := fun i => by simp only [World.frozen?, hc b l e1]
    refine ⟨l, hle b l e1, e2, fun i v hv => ?_, fun ho => ⟨(e4 ho).1, fun i hi => by rw [hcell, hfr]; exact (e4 ho).2 i hi⟩⟩
    obtain ⟨e5, v', e6, e7⟩ := e3 i v hv
    exact ⟨e5, v', by rw [hcell]; exact e6, e7.mono hle⟩
  · rw [Mem.zqn] at hx hx'
    obtain ⟨k, e1, _⟩ := h1.live b x hx
    obtain ⟨k', e1', _⟩ := h1.live b' x' hx'
    rw [hu b k l e1 hl, hu b' k' l' e1' hl']
    exact h1.excl b x b' x' k k' hx ho hx' hne e1 e1'
  · obtain ⟨l, e⟩ := h1.mdom b es h
    exact ⟨l, hle b l e⟩
  · obtain ⟨g1, g2⟩ := Mem.getM_get h
    rw [Mem.zqn] at g1
    obtain ⟨l, es', ck, e1, e2, e3, e4⟩ := h1.maps b es (Mem.getM_of g1 g2)
    exact ⟨l, es', ck, hle b l e1, e2, by rw [hc b l e1]; exact e3, e4.mono hle⟩

theorem ops_sound (hcl : ClSound P B cl) {Q : Exit → Act → World → Prop} (L : List IOp) (σ : Slots) (m : Mem) (a : Act) (w : World) (ρ : Ren) (σ' : Slots) (m' : Mem)
    (h1 : ∀ io ∈ L, ∃ o, CompAt P ops nt io o) (h2 : (L.map (·.ix)).Nodup) (hs : SRel ρ nt σ a) (hm : MRel B ρ m w) (hB : B ≤ w.heap.size) (h3 : ∀ io ∈ L, io.k.isAlloc = true → base + io.ix < m.next ∧ ρ (base + io.ix) = none) (h4 : runOps cl base L σ m = some (σ', m'))
    (hQ : ∀ a' w' ρ', RenLe ρ ρ' → (∀ b, b < base → b < m.next → ρ' b = ρ b) → SRel ρ' nt σ' a' → MRel B ρ' m' w' → Below B w w' → Q .normal a' w') : wpOps P ops Q (L.map (·.ix)) a w := by
  have := ops_soundT (T := []) (Q := Q) hcl L σ m a w ρ σ' m' h1 h2 hs hm hB h3 h4 fun a' w' ρ' q1 q2 q3 q4 q5 => hQ a' w' ρ' q1 (fun b hb hb2 => q2 b hb2 fun io _ => by omega) q3 q4 q5
  rwa [List.append_nil] at this

end
end Go.DI
namespace Go.DI
open Go Go.RowKit

def IK.wr (k : IK) (id : Nat) (σ : Slots) (m : Mem) : List (Nat × Option Blk) :=
  match k with
  | .alloc z => [(id, some ⟨z, true⟩)]
  | .box x => [(id, some ⟨vcells (ev σ x), true⟩)]
  | .bslice _ _ z ps => [(id, some ⟨partsV z σ ps, true⟩)]
  | .store _ x v => match ev σ x with
    | .pointer (some a) => (match m.get a.block with | some b => [(a.block, some ⟨blit b.cells a.off (vcells (ev σ v)), b.own⟩)] | none => [])
    | _ => []
  | .convSB x => [(id, some ⟨ofBytes (asS (ev σ x)), true⟩)]
  | .mkslice _ _ zero l _ => [(id, some ⟨(List.replicate (asI (ev σ l)).toNat zero).flatten, true⟩)]
  | .app z _ x y => if zqr (ev σ y) = 0 then [] else (match ev σ x with | .slice (some a) _ _ => [(a.block, none)] | _ => []) ++ [(id, some ⟨sliceCells m z (ev σ x) ++ sliceCells m z (ev σ y), true⟩)]
  | _ => []
def applyW (m : Mem) (l : List (Nat × Option Blk)) : Mem := l.foldl (fun m p => m.put p.1 p.2) m

section
variable {P : Program} {σ σ2 : Slots} {m m2 : Mem} {B : Nat} {cl : Callee} {base id : Nat} {k : IK}

theorem mem_wr (hmp : k.isMap = false) : k.mem id σ m = applyW m (k.wr id σ m) := by
  cases k <;> simp only [IK.isMap, Bool.true_eq_false] at hmp <;> simp only [IK.mem, IK.wr, applyW, List.foldl_nil, List.foldl_cons]
  · rename_i n x v
    generalize ev σ x = u
    cases u <;> try rfl
    rename_i p
    cases p with
    | none => rfl
    | some ad =>
      simp only [storeM]
      cases m.get ad.block <;> rfl
  · rename_i z by_ x y
    split
    · rfl
    · generalize ev σ x = u
      cases u <;> try rfl
      rename_i p l c
      cases p <;> rfl

theorem wr_keys : ∀ p ∈ k.wr id σ m, (k.isAlloc = true ∧ p.1 = id ∧ blkOf (k.val id σ m) = some id) ∨ ∃ x ∈ k.wro, blkOf (ev σ x) = some p.1 := by
  intro p hp
  cases k <;> simp only [IK.wr, List.not_mem_nil, List.mem_singleton] at hp
  case alloc => subst hp; exact .inl ⟨rfl, rfl, rfl⟩
  case box => subst hp; exact .inl ⟨rfl, rfl, rfl⟩
  case bslice => subst hp; exact .inl ⟨rfl, rfl, rfl⟩
  case convSB => subst hp; exact .inl ⟨rfl, rfl, rfl⟩
  case mkslice => subst hp; exact .inl ⟨rfl, rfl, rfl⟩
  case store n x v =>
    split at hp
    · rename_i ad h
      split at hp
      · simp only [List.mem_singleton] at hp
        subst hp
        exact .inr ⟨x, by simp [IK.wro], by simp [h, blkOf]⟩
      · cases hp
    · cases hp
  case app z by_ x y =>
    split at hp
    · cases hp
    · rename_i hn
      rcases List.mem_append.1 hp with h | h
      · split at h
        · rename_i ad l c hx
          simp only [List.mem_singleton] at h
          subst h
          exact .inr ⟨x, by simp [IK.wro], by simp [hx, blkOf]⟩
        · cases h
      · simp only [List.mem_singleton] at h
        subst h
        exact .inl ⟨rfl, rfl, by simp [IK.val, hn, blkOf]⟩

theorem get_applyW : ∀ (l : List (Nat × Option Blk)) (m : Mem) (b : Nat), (∀ p ∈ l, p.1 ≠ b) → (applyW m l).get b = m.get b
  | [], _, _, _ => rfl
  | p :: l, m, b, h => by
    show (applyW (m.put p.1 p.2) l).get b = _
    rw [get_applyW l _ b (fun q hq => h q (by simp [hq])), Mem.get_put, if_neg (Ne.symm (h p (by simp)))]
theorem put_comm {a b : Nat} {x y : Option Blk} (h : a ≠ b) : (m.put a x).put b y = (m.put b y).put a x := by
  unfold Mem.put
  simp only [Mem.mk.injEq, true_and, and_true]
  funext i
  by_cases h1 : i = b
  · subst h1; simp [Ne.symm h]
  · simp [h1]
theorem applyW_put : ∀ (l : List (Nat × Option Blk)) (m : Mem) (b : Nat) (x : Option Blk), (∀ p ∈ l, p.1 ≠ b) → applyW (m.put b x) l = (applyW m l).put b x
  | [], _, _, _, _ => rfl
  | p :: l, m, b, x, h => by
    show applyW ((m.put b x).put p.1 p.2) l = (applyW (m.put p.1 p.2) l).put b x
    rw [put_comm (Ne.symm (h p (by simp))), applyW_put l _ b x (fun q hq => h q (by simp [hq]))]
theorem applyW_comm : ∀ (l r : List (Nat × Option Blk)) (m : Mem), (∀ p ∈ l, ∀ q ∈ r, p.1 ≠ q.1) → applyW (applyW m l) r = applyW (applyW m r) l
  | [], _, _, _ => rfl
  | p :: l, r, m, h => by
    show applyW (applyW (m.put p.1 p.2) l) r = applyW ((applyW m r).put p.1 p.2) l
    rw [applyW_comm l r _ (fun p' hp' => h p' (by simp [hp'])), applyW_put r m p.1 p.2 (fun q hq => Ne.symm (h p (by simp) q hq))]
theorem applyW_next : ∀ (l : List (Nat × Option Blk)) (m : Mem), (applyW m l).next = m.next
  | [], _ => rfl
  | p :: l, m => by show (applyW (m.put p.1 p.2) l).next = _; rw [applyW_next l]; rfl

theorem cellsAt_congr {b : Nat} (h : m.get b = m2.get b) (off n : Nat) : cellsAt m b off n = cellsAt m2 b off n := by unfold cellsAt; rw [h]

/-- of the memory an operation sees what it reads alone -/
theorem congr_m (hmp : k.isMap = false) (h : ∀ x ∈ k.rd, ∀ b, blkOf (ev σ x) = some b → m.get b = m2.get b) : k.ok σ m = k.ok σ m2 ∧ k.val id σ m = k.val id σ m2 ∧ k.wr id σ m = k.wr id σ m2 := by
  cases k <;> simp only [IK.isMap, Bool.true_eq_false] at hmp <;> try exact ⟨rfl, rfl, rfl⟩
  case load ag n x =>
    have h1 := h x (by simp [IK.rd])
    cases hv : ev σ x <;> simp only [IK.ok, IK.val, IK.wr, hv, addrOk, loadV, and_self]
    rename_i p
    cases p with
    | none => simp
    | some ad =>
      have h2 := h1 ad.block (by simp [hv, blkOf])
      simp only [h2, cellsAt_congr h2, and_self]
  case sliceA z n x =>
    have h1 := h x (by simp [IK.rd])
    cases hv : ev σ x <;> simp only [IK.ok, IK.val, IK.wr, hv, addrOk, and_self]
    rename_i p
    cases p with
    | none => simp
    | some ad =>
      have h2 := h1 ad.block (by simp [hv, blkOf])
      simp only [h2, and_self]
  case store n x v =>
    have h1 := h x (by simp [IK.rd])
    cases hv : ev σ x <;> simp only [IK.ok, IK.val, IK.wr, hv, addrOk, addrOwn, true_and, and_self]
    rename_i p
    cases p with
    | none => simp
    | some ad =>
      have h2 := h1 ad.block (by simp [hv, blkOf])
      simp only [h2, and_self]
  case convBS x =>
    have h1 := h x (by simp [IK.rd])
    cases hv : ev σ x <;> simp only [IK.ok, IK.val, IK.wr, hv, sliceOk, sliceCells, and_self]
    rename_i p l c
    cases p with
    | none => simp
    | some ad =>
      have h2 := h1 ad.block (by simp [hv, blkOf])
      simp only [h2, cellsAt_congr h2, and_self]
  case app z by_ x y =>
    have h1 := h x (by simp [IK.rd])
    have h1' := h y (by simp [IK.rd])
    have s : ∀ v : Value, (∀ b, blkOf v = some b → m.get b = m2.get b) → sliceOk m z v = sliceOk m2 z v ∧ sliceOwn m v = sliceOwn m2 v ∧ sliceCells m z v = sliceCells m2 z v := by
      intro v hv
      cases v <;> simp only [sliceOk, sliceOwn, sliceCells, and_self]
      rename_i p l c
      cases p with
      | none => simp
      | some ad =>
        have h2 := hv ad.block (by simp [blkOf])
        simp only [h2, cellsAt_congr h2, and_self]
    obtain ⟨a1, a2, a3⟩ := s _ h1
    obtain ⟨b1, _, b3⟩ := s _ h1'
    simp only [IK.ok, IK.val, IK.wr, a1, a2, a3, b1, b3, and_self]

/-- living blocks -/
theorem ok_live (h : k.ok σ m = true) : ∀ x ∈ k.rd ++ k.wro, ∀ b, blkOf (ev σ x) = some b → (m.get b).isSome = true := by
  have ha : ∀ (v : Value) n, addrOk m v n = true → ∀ b, blkOf v = some b → (m.get b).isSome = true := by
    intro v n hv b hb
    obtain ⟨b', off, x, rfl, hx, _⟩ := addrOk_spec hv
    simp only [blkOf, Option.some.injEq] at hb
    subst hb; rw [hx]; rfl
  have hs : ∀ (v : Value) z, sliceOk m z v = true → ∀ b, blkOf v = some b → (m.get b).isSome = true := by
    intro v z hv b hb
    rcases sliceOk_spec hv with rfl | ⟨b', off, len, x, rfl, hx, _⟩
    · simp [blkOf] at hb
    · simp only [blkOf, Option.some.injEq] at hb
      subst hb; rw [hx]; rfl
  intro x hx b hb
  cases k <;> simp only [IK.rd, IK.wro, List.append_nil, List.not_mem_nil] at hx
  case load ag n y =>
    simp only [List.mem_singleton] at hx; subst hx
    simp only [IK.ok, Bool.and_eq_true] at h
    exact ha _ _ h.1 b hb
  case sliceA z n y =>
    simp only [List.mem_singleton] at hx; subst hx
    simp only [IK.ok, Bool.and_eq_true] at h
    exact ha _ _ h.1 b hb
  case store n y v =>
    simp at hx; subst hx
    simp only [IK.ok, Bool.and_eq_true] at h
    exact ha _ _ h.1.1.1 b hb
  case convBS y =>
    simp only [List.mem_singleton] at hx; subst hx
    simp only [IK.ok, Bool.and_eq_true] at h
    exact hs _ _ h.1 b hb
  case app z by_ y v =>
    simp only [IK.ok, Bool.and_eq_true] at h
    simp at hx
    rcases hx with rfl | rfl | rfl
    · exact hs _ _ h.1.1.1.1.1 b hb
    · exact hs _ _ h.1.1.1.2 b hb
    · exact hs _ _ h.1.1.1.1.1 b hb

theorem ev_congr {x : Operand} (h : ∀ t, x = .tmp t → σ t = σ2 t) : ev σ x = ev σ2 x := by cases x <;> first | rfl | exact h _ rfl

theorem parts_congr : ∀ (ps : List (Nat × Nat × Operand)) (cs : List Value), (∀ p ∈ ps, ev σ p.2.2 = ev σ2 p.2.2) → partsOk cs σ ps = partsOk cs σ2 ps ∧ partsV cs σ ps = partsV cs σ2 ps
  | [], _, _ => ⟨rfl, rfl⟩
  | (q1, q2, q3) :: ps, cs, h => by
    have h0 : ev σ q3 = ev σ2 q3 := h (q1, q2, q3) (by simp)
    have h1 := (parts_congr ps cs fun p hp => h p (by simp [hp])).1
    have h2 := (parts_congr ps (blit cs q1 (vcells (ev σ2 q3))) fun p hp => h p (by simp [hp])).2
    simp only [partsOk, List.all_cons, partsV, h0] at h1 ⊢
    exact ⟨by rw [h1], h2⟩

theorem opt_congr {l : Option Operand} {d : Int} (h : ∀ x ∈ l.toList, ev σ x = ev σ2 x) : optOk σ l = optOk σ2 l ∧ optI σ l d = optI σ2 l d := by
  cases l with
  | none => exact ⟨rfl, rfl⟩
  | some x => have := h x (by simp); simp [optOk, optI, this]

theorem congr_ev (h : ∀ x ∈ k.opnds, ev σ x = ev σ2 x) : k.ok σ m = k.ok σ2 m ∧ k.val id σ m = k.val id σ2 m ∧ k.wr id σ m = k.wr id σ2 m ∧ k.callee σ m = k.callee σ2 m := by
  cases k <;> simp only [IK.opnds, List.mem_cons, List.not_mem_nil, or_false, forall_eq_or_imp, forall_eq, List.mem_append] at h
  case build z ps =>
    obtain ⟨h1, h2⟩ := parts_congr ps z fun p hp => h _ (List.mem_map.2 ⟨p, hp, rfl⟩)
    simp only [IK.ok, IK.val, IK.wr, IK.callee, h1, h2, and_self]
  case bslice z n cs ps =>
    obtain ⟨h1, h2⟩ := parts_congr ps cs fun p hp => h _ (List.mem_map.2 ⟨p, hp, rfl⟩)
    simp only [IK.ok, IK.val, IK.wr, IK.callee, h1, h2, and_self]
  case sliceStr x l r =>
    have h1 := fun d => opt_congr (l := l) (d := d) fun y hy => h.2 y (.inl hy)
    have h2 := fun d => opt_congr (l := r) (d := d) fun y hy => h.2 y (.inr hy)
    simp only [IK.ok, IK.val, IK.wr, IK.callee, h.1, (h1 0).1, (h2 0).1, fun d => (h1 d).2, fun d => (h2 d).2, and_self]
  case sliceS z x l r =>
    have h1 := fun d => opt_congr (l := l) (d := d) fun y hy => h.2 y (.inl hy)
    have h2 := fun d => opt_congr (l := r) (d := d) fun y hy => h.2 y (.inr hy)
    simp only [IK.ok, IK.val, IK.wr, IK.callee, h.1, (h1 0).1, (h2 0).1, fun d => (h1 d).2, fun d => (h2 d).2, and_self]
  case sliceM z x l r mx =>
    have h1 := fun d => opt_congr (l := l) (d := d) fun y hy => h.2.2.2 y hy
    simp only [IK.ok, IK.val, IK.wr, IK.callee, h.1, h.2.1, h.2.2.1, (h1 0).1, fun d => (h1 d).2, and_self]
  case minmax mx x xs =>
    have h1 : ∀ (l : List Operand), (∀ y ∈ l, ev σ y = ev σ2 y) → (l.all fun y => isI (ev σ y)) = (l.all fun y => isI (ev σ2 y)) ∧
        ∀ acc, l.foldl (fun acc y => if mx then maxI acc (ev σ y) else minI acc (ev σ y)) acc = l.foldl (fun acc y => if mx then maxI acc (ev σ2 y) else minI acc (ev σ2 y)) acc := by
      intro l
      induction l with
      | nil => intro _; exact ⟨rfl, fun _ => rfl⟩
      | cons y l ih =>
        intro hl
        obtain ⟨g1, g2⟩ := ih fun z hz => hl z (by simp [hz])
        have := hl y (by simp)
        exact ⟨by simp only [List.all_cons, this, g1], fun acc => by simp only [List.foldl_cons, this, g2]⟩
    obtain ⟨g1, g2⟩ := h1 xs h.2
    simp only [IK.ok, IK.val, IK.wr, IK.callee, h.1, g1, g2, and_self]
  case mkfunc fn xs ys =>
    have h1 : xs.map (ev σ) = xs.map (ev σ2) := List.map_congr_left fun y hy => h y (.inl hy)
    have h2 : ys.map (ev σ) = ys.map (ev σ2) := List.map_congr_left fun y hy => h y (.inr hy)
    simp only [IK.ok, IK.val, IK.wr, IK.callee, h1, h2, and_self]
  case call f as =>
    have h1 : as.map (ev σ) = as.map (ev σ2) := List.map_congr_left h
    simp only [IK.ok, IK.val, IK.wr, IK.callee, h1, and_self]
  case callv x as =>
    have h1 : as.map (ev σ) = as.map (ev σ2) := List.map_congr_left h.2
    simp only [IK.ok, IK.val, IK.wr, IK.callee, h1, h.1, and_self]
  case icall rows x as =>
    have h1 : as.map (ev σ) = as.map (ev σ2) := List.map_congr_left h.2
    simp only [IK.ok, IK.val, IK.wr, IK.callee, h1, h.1, and_self]
  all_goals simp only [IK.ok, IK.val, IK.wr, IK.callee, h, and_self]

end
end Go.DI
namespace Go.DI
open Go Go.RowKit
namespace PE

theorem isCall_callee0 {σ : Slots} {m : Mem} {k : IK} (h : k.isCall = false) : k.callee σ m = none := by
  cases k <;> first | rfl | (simp [IK.isCall] at h)
theorem iter_step0 {f : Slots → Mem → Option (IExit × Slots × Mem)} {j : Nat} {σ : Slots} {m : Mem} {r : IExit × Slots × Mem} (h : iter f (j + 1) σ m = some r) :
    (∃ σ1 m1, f σ m = some (.normal, σ1, m1) ∧ iter f j σ1 m1 = some r) ∨ (f σ m = some r ∧ r.1 ≠ .normal) := by
  simp only [iter] at h
  split at h
  · rename_i σ1 m1 h1
    exact .inl ⟨σ1, m1, h1, h⟩
  · rename_i hne
    refine .inr ⟨h, fun h2 => ?_⟩
    obtain ⟨r1, r2, r3⟩ := r
    cases h2
    exact hne _ _ h

/-- M is m with a new block -/
structure PutE (id : Nat) (x : Option Blk) (m M : Mem) : Prop where
  eq : M = m.put id x
  lt : id < m.next
  no : m.get id = none
section
variable {id : Nat} {x : Option Blk} {m M : Mem}
theorem PutE.next (E : PutE id x m M) : M.next = m.next := by rw [E.eq]; rfl
theorem PutE.mp (E : PutE id x m M) : M.mp = m.mp := by rw [E.eq]; rfl
theorem PutE.nd (E : PutE id x m M) {b : Nat} {y : Blk} (h : m.get b = some y) : b ≠ id := fun hd => by subst hd; rw [E.no] at h; cases h
theorem PutE.get_ne (E : PutE id x m M) {b : Nat} (h : b ≠ id) : M.get b = m.get b := by rw [E.eq, Mem.get_put, if_neg h]
theorem PutE.get (E : PutE id x m M) {b : Nat} {y : Blk} (h : m.get b = some y) : M.get b = some y := by rw [E.get_ne (E.nd h), h]
theorem PutE.getM (E : PutE id x m M) {b : Nat} {e : List (Value × Value)} (h : m.getM b = some e) : M.getM b = some e := by
  unfold Mem.getM at h ⊢
  cases hg : m.get b with
  | none => rw [hg] at h; cases h
  | some y => rw [hg] at h; rw [E.get hg, E.mp]; exact h
theorem PutE.getM_nd (E : PutE id x m M) {b : Nat} {e : List (Value × Value)} (h : m.getM b = some e) : b ≠ id := by
  unfold Mem.getM at h
  cases hg : m.get b with
  | none => rw [hg] at h; cases h
  | some y => exact E.nd hg
theorem PutE.put (E : PutE id x m M) {b : Nat} (hb : b ≠ id) (y : Option Blk) : PutE id x (m.put b y) (M.put b y) where
  eq := by rw [E.eq]; exact put_comm (by omega)
  lt := E.lt
  no := by rw [Mem.get_put, if_neg (by omega)]; exact E.no
theorem PutE.putM (E : PutE id x m M) {b : Nat} (hb : b ≠ id) (e : List (Value × Value)) : PutE id x (m.putM b e) (M.putM b e) where
  eq := by
    rw [E.eq]
    simp only [Mem.putM, Mem.put, Mem.mk.injEq, true_and, and_true]
    funext i
    by_cases h1 : i = b
    · subst h1; simp [hb]
    · simp [h1]
  lt := E.lt
  no := by
    have := E.no
    simp only [Mem.get, Mem.putM, show ¬ id = b by omega, if_false] at this ⊢
    exact this
theorem PutE.bump (E : PutE id x m M) (k : Nat) : PutE id x (m.bump k) (M.bump k) where
  eq := by
    rw [E.eq]
    simp only [Mem.bump, Mem.put, Mem.mk.injEq, true_and, and_true]
    funext i
    by_cases h1 : i = id
    · subst h1; simp [E.lt]
    · simp [h1]
  lt := by have := E.lt; show id < m.next + k; omega
  no := by rw [Mem.zqn]; exact E.no

theorem PutE.addrOk (E : PutE id x m M) {v : Value} {n : Nat} (h : addrOk m v n = true) : addrOk M v n = true := by
  unfold DI.addrOk at h ⊢
  split at h
  · rename_i a
    simp only [Bool.and_eq_true] at h ⊢
    refine ⟨h.1, ?_⟩
    cases hg : m.get a.block with
    | none => rw [hg] at h; simp at h
    | some x => rw [hg] at h; rw [E.get hg]; exact h.2
  · cases h
theorem PutE.addrOwn (E : PutE id x m M) {v : Value} (h : addrOwn m v = true) : addrOwn M v = true := by
  unfold DI.addrOwn at h ⊢
  split at h
  · rename_i a
    cases hg : m.get a.block with
    | none => rw [hg] at h; cases h
    | some x => rw [hg] at h; rw [E.get hg]; exact h
  · cases h
theorem PutE.loadV (E : PutE id x m M) {v : Value} {n : Nat} {ag : Bool} (h : DI.addrOk m v n = true) : loadV M ag n v = loadV m ag n v := by
  unfold DI.addrOk at h
  split at h
  · rename_i a
    simp only [Bool.and_eq_true] at h
    cases hg : m.get a.block with
    | none => rw [hg] at h; simp at h
    | some x => simp only [DI.loadV, cellsAt, hg, E.get hg]
  · cases h
theorem PutE.storeM (E : PutE id x m M) {v : Value} {n : Nat} {cs : List Value} (h : DI.addrOk m v n = true) : PutE id x (storeM m v cs) (storeM M v cs) := by
  unfold DI.addrOk at h
  split at h
  · rename_i a
    simp only [Bool.and_eq_true] at h
    cases hg : m.get a.block with
    | none => rw [hg] at h; simp at h
    | some x => simp only [DI.storeM, hg, E.get hg]; exact E.put (E.nd hg) _
  · cases h
theorem PutE.sliceOk (E : PutE id x m M) {v : Value} {z : Nat} (h : sliceOk m z v = true) : sliceOk M z v = true := by
  unfold DI.sliceOk at h ⊢
  split at h
  · exact h
  · rename_i a l c
    simp only [Bool.and_eq_true] at h ⊢
    refine ⟨h.1, ?_⟩
    cases hg : m.get a.block with
    | none => rw [hg] at h; simp at h
    | some x => rw [hg] at h; rw [E.get hg]; exact h.2
  · cases h
theorem PutE.sliceOwn (E : PutE id x m M) {v : Value} (h : sliceOwn m v = true) : sliceOwn M v = true := by
  unfold DI.sliceOwn at h ⊢
  split at h
  · rfl
  · rename_i a l c
    cases hg : m.get a.block with
    | none => rw [hg] at h; cases h
    | some x => rw [hg] at h; rw [E.get hg]; exact h
  · cases h
theorem PutE.sliceCells (E : PutE id x m M) {v : Value} {z : Nat} (h : DI.sliceOk m z v = true) : sliceCells M z v = sliceCells m z v := by
  unfold DI.sliceOk at h
  split at h
  · rfl
  · rename_i a l c
    simp only [Bool.and_eq_true] at h
    cases hg : m.get a.block with
    | none => rw [hg] at h; simp at h
    | some x => simp only [DI.sliceCells, cellsAt, hg, E.get hg]
  · cases h
theorem PutE.kill (E : PutE id x m M) {v : Value} {z : Nat} (h : DI.sliceOk m z v = true) : PutE id x (kill m v) (kill M v) := by
  unfold DI.sliceOk at h
  split at h
  · exact E
  · rename_i a l c
    simp only [Bool.and_eq_true] at h
    cases hg : m.get a.block with
    | none => rw [hg] at h; simp at h
    | some x => exact E.put (E.nd hg) _
  · cases h
theorem PutE.mapOf (E : PutE id x m M) {v : Value} {es : List (Value × Value)} (h : mapOf m v = some es) : mapOf M v = some es := by
  unfold DI.mapOf at h ⊢
  split at h
  · exact h
  · exact E.getM h
  · cases h

theorem ok_ext (E : PutE id x m M) {k : IK} {σ : Slots} (h : k.ok σ m = true) : k.ok σ M = true := by
  cases k with
  | sliceA z n y => simp only [IK.ok, Bool.and_eq_true] at h ⊢; exact ⟨E.addrOk h.1, h.2⟩
  | load ag n y => simp only [IK.ok, Bool.and_eq_true] at h ⊢; exact ⟨E.addrOk h.1, h.2⟩
  | store n x v => simp only [IK.ok, Bool.and_eq_true] at h ⊢; exact ⟨⟨⟨E.addrOk h.1.1.1, E.addrOwn h.1.1.2⟩, h.1.2⟩, h.2⟩
  | convBS x => simp only [IK.ok, Bool.and_eq_true] at h ⊢; exact ⟨E.sliceOk h.1, by rw [E.sliceCells h.1]; exact h.2⟩
  | app z bytes x y => simp only [IK.ok, Bool.and_eq_true] at h ⊢; exact ⟨⟨⟨⟨⟨E.sliceOk h.1.1.1.1.1, E.sliceOwn h.1.1.1.1.2⟩, E.sliceOk h.1.1.1.2⟩, h.1.1.2⟩, h.1.2⟩, h.2⟩
  | mlook ck z o x kk =>
    simp only [IK.ok] at h ⊢
    cases hm : DI.mapOf m (ev σ x) with
    | none => rw [hm] at h; cases h
    | some es => rw [hm] at h; rw [E.mapOf hm]; exact h
  | mput ck x kk v =>
    simp only [IK.ok] at h ⊢
    split at h
    · rename_i x0 b hb
      cases hm : m.getM b with
      | none => rw [hm] at h; cases h
      | some es => rw [hm] at h; rw [E.getM hm]; exact h
    · cases h
  | _ => exact h
theorem val_ext (E : PutE id x m M) {k : IK} {σ : Slots} {nid : Nat} (h : k.ok σ m = true) : k.val nid σ M = k.val nid σ m := by
  cases k with
  | load ag n y => simp only [IK.ok, Bool.and_eq_true] at h; exact E.loadV h.1
  | convBS x => simp only [IK.ok, Bool.and_eq_true] at h; simp only [IK.val, E.sliceCells h.1]
  | mlook ck z o x kk =>
    simp only [IK.ok] at h
    cases hm : DI.mapOf m (ev σ x) with
    | none => rw [hm] at h; cases h
    | some es => simp only [IK.val, hm, E.mapOf hm]
  | _ => rfl
theorem mem_ext (E : PutE id x m M) {k : IK} {σ : Slots} {nid : Nat} (hid : nid ≠ id) (h : k.ok σ m = true) : PutE id x (k.mem nid σ m) (k.mem nid σ M) := by
  cases k with
  | alloc z => exact E.put hid _
  | box x => exact E.put hid _
  | bslice a b c d => exact E.put hid _
  | convSB x => exact E.put hid _
  | mkslice a b c d e => exact E.put hid _
  | store n x v => simp only [IK.ok, Bool.and_eq_true] at h; exact E.storeM h.1.1.1
  | app z bytes x y =>
    simp only [IK.ok, Bool.and_eq_true] at h
    simp only [IK.mem]
    split
    · exact E
    · rw [E.sliceCells h.1.1.1.1.1, E.sliceCells h.1.1.1.2]
      exact (E.kill h.1.1.1.1.1).put hid _
  | mkmap => exact E.putM hid _
  | mput ck x kk v =>
    simp only [IK.ok] at h
    split at h
    · rename_i x0 b hb
      cases hm : m.getM b with
      | none => rw [hm] at h; cases h
      | some es => simp only [IK.mem, hb, mapBlk, hm, E.getM hm]; exact E.putM (E.getM_nd hm) _
    · cases h
  | _ => exact E
theorem callee_ext (E : PutE id x m M) {k : IK} {σ : Slots} {fa : Nat × List Value} (h : k.callee σ m = some fa) : k.callee σ M = some fa := by
  cases k with
  | icall rows x args =>
    simp only [IK.callee] at h ⊢
    split at h
    · split at h
      · exact h
      · split at h
        · rename_i hc
          simp only [Bool.and_eq_true] at hc
          rw [if_pos (by simp only [Bool.and_eq_true]; exact ⟨E.addrOk hc.1, hc.2⟩), E.loadV hc.1]; exact h
        · cases h
      · cases h
    · cases h
  | _ => exact h
theorem calleeN_ext {m M : Mem} {k : IK} {σ : Slots} (h : k.callee σ m = none) (hok : k.ok σ m = true) : k.callee σ M = none := by
  refine isCall_callee0 ?_
  cases k with
  | call f a => simp [IK.ok] at hok
  | callv f a => simp [IK.ok] at hok
  | icall f a b => simp [IK.ok] at hok
  | _ => rfl

def PutCl (id : Nat) (x : Option Blk) (cl : Callee) : Prop := ∀ f a m r m', cl f a m = some (r, m') → ∀ M, PutE id x m M → ∃ M', cl f a M = some (r, M') ∧ PutE id x m' M'

theorem keepOk_ext {m' M' : Mem} (E : PutE id x m M) (E' : PutE id x m' M') {σ : Slots} {ck : List (Operand × Operand)} (h : keepOk σ ck m m') : keepOk σ ck M M' := fun p hp b hb => by
  by_cases hd : b = id
  · subst hd
    rw [E.eq, E'.eq, Mem.get_put, Mem.get_put, if_pos rfl, if_pos rfl, if_pos E.lt, if_pos E'.lt]
  · rw [E.get_ne hd, E'.get_ne hd]; exact h p hp b hb

theorem step_ext {cl : Callee} (hcl : PutCl id x cl) (E : PutE id x m M) {base : Nat} (hb : id < base) {o : IOp} {σ σ' : Slots} {m' : Mem} (h : stepOp cl base o σ m = some (σ', m')) (hk : ckProp o σ m m') :
    ∃ M', stepOp cl base o σ M = some (σ', M') ∧ PutE id x m' M' ∧ ckProp o σ M M' := by
  unfold stepOp at h ⊢
  unfold ckProp at hk ⊢
  by_cases hw : wantedI σ o.g = true
  · rw [if_pos hw] at h ⊢
    replace hk := hk hw
    cases hc : o.k.callee σ m with
    | none =>
      rw [hc] at h hk
      simp only at h hk
      split at h
      · rename_i hok
        cases h
        simp only [calleeN_ext hc hok]
        rw [if_pos (ok_ext E hok), val_ext E hok]
        exact ⟨_, rfl, mem_ext E (by omega) hok, fun _ => hk⟩
      · cases h
    | some fa =>
      obtain ⟨f, args⟩ := fa
      rw [hc] at h hk
      simp only at h hk
      cases hf : cl f args m with
      | none => rw [hf] at h; cases h
      | some vm =>
        obtain ⟨v, m1⟩ := vm
        rw [hf] at h
        cases h
        obtain ⟨M', h1, E'⟩ := hcl _ _ _ _ _ hf M E
        simp only [callee_ext E hc, h1]
        exact ⟨_, rfl, E', fun _ => keepOk_ext E E' hk⟩
  · rw [if_neg hw] at h ⊢
    cases h
    exact ⟨M, rfl, E, fun h => absurd h hw⟩
theorem ops_ext {cl : Callee} (hcl : PutCl id x cl) {base : Nat} (hb : id < base) : ∀ {L : List IOp} {σ σ' : Slots} {m m' M : Mem}, PutE id x m M → runOps cl base L σ m = some (σ', m') → ∃ M', runOps cl base L σ M = some (σ', M') ∧ PutE id x m' M'
  | [], _, _, _, _, M, E, h => by cases h; exact ⟨M, rfl, E⟩
  | _ :: _, _, _, _, _, M, E, h => by
    obtain ⟨σ1, m1, h1, h2, h3⟩ := runOps_cons h
    obtain ⟨M1, g1, E1, g2⟩ := step_ext hcl E hb h1 h2
    obtain ⟨M2, g3, E2⟩ := ops_ext hcl hb E1 h3
    exact ⟨M2, runOps_mk g1 g2 g3, E2⟩
theorem iter_ext {f : Slots → Mem → Option (IExit × Slots × Mem)} (hf : ∀ σ m e σ' m', f σ m = some (e, σ', m') → ∀ M, PutE id x m M → ∃ M', f σ M = some (e, σ', M') ∧ PutE id x m' M') :
    ∀ {n : Nat} {σ : Slots} {m : Mem} {e : IExit} {σ' : Slots} {m' M : Mem}, iter f n σ m = some (e, σ', m') → PutE id x m M → ∃ M', iter f n σ M = some (e, σ', M') ∧ PutE id x m' M'
  | 0, _, _, _, _, _, _, h, _ => by simp [iter] at h
  | n + 1, σ, m, e, σ', m', M, h, E => by
    rcases iter_step0 h with ⟨σ1, m1, h1, h2⟩ | ⟨h1, h2⟩
    · obtain ⟨M1, g1, E1⟩ := hf _ _ _ _ _ h1 M E
      obtain ⟨M2, g2, E2⟩ := iter_ext hf h2 E1
      exact ⟨M2, by simp only [iter, g1]; exact g2, E2⟩
    · obtain ⟨M1, g1, E1⟩ := hf _ _ _ _ _ h1 M E
      refine ⟨M1, ?_, E1⟩
      simp only [iter, g1]
      cases e with
      | normal => exact absurd rfl h2
      | exit id => rfl
      | ret => rfl
theorem PutE.icy (E : PutE id x m M) : PutE id (x.map icyB) (icy m) (icy M) where
  eq := by
    rw [E.eq]
    simp only [DI.icy, Mem.put, Mem.mk.injEq, true_and, and_true]
    funext b
    by_cases h : b = id
    · subst h; simp
    · simp [h]
  lt := E.lt
  no := by
    have := E.no
    unfold Mem.get at this ⊢
    have h := E.lt
    rw [if_pos h] at this
    show (if id < m.next then _ else _) = _
    rw [if_pos h]
    simp only [DI.icy, this, Option.map_none]
theorem PutE.tight (E : PutE id x m M) {z : Nat} {v : Value} (h : tight z m v = true) : tight z M v = true := by
  unfold DI.tight at h ⊢
  split at h
  · rename_i a l c
    cases hg : m.get a.block with
    | none => rw [hg] at h; cases h
    | some x => rw [hg] at h; rw [E.get hg]; exact h
  · rfl
theorem PutE.lateOk (E : PutE id x m M) {o : IOp} {σ : Slots} (h : lateOk o σ m = true) : lateOk o σ M = true := by
  unfold DI.lateOk at h ⊢
  simp only [Bool.and_eq_true] at h ⊢
  refine ⟨⟨h.1.1, ?_⟩, ok_ext E h.2⟩
  have := h.1.2
  split at this
  · exact E.tight this
  · cases this
theorem exec_ext {cl : Callee} (hcl : ∀ x, PutCl id x cl) {n : Nat} : ∀ {c : ICode} {σ σ' : Slots} {m m' M : Mem} {e : IExit}, exec cl n c σ m = some (e, σ', m') → PutE id x m M → ∃ M', exec cl n c σ M = some (e, σ', M') ∧ PutE id x m' M'
  | .skip, _, _, _, _, M, _, h, E => by cases h; exact ⟨M, rfl, E⟩
  | .region ops, σ, σ', m, m', M, e, h, E => by
    simp only [exec] at h ⊢
    split at h
    · rename_i σ1 m1 hr
      cases h
      have E' : PutE id x (regBump ops m) (regBump ops M) := by
        unfold regBump
        split
        · exact E.bump _
        · exact E
      obtain ⟨M', g, E2⟩ := ops_ext (hcl x) (base := m.next) E.lt E' hr
      refine ⟨M', ?_, E2⟩
      rw [E.next, g]
    · cases h
  | .late pre o rest, σ, σ', m, m', M, e, h, E => by
    simp only [exec] at h ⊢
    split at h
    · rename_i σ1 m1 h1
      split at h
      · rename_i hok
        split at h
        · rename_i σ2 m2 h2
          cases h
          obtain ⟨M1, g1, E1⟩ := ops_ext (hcl x) (base := m.next) E.lt (E.bump _) h1
          have hk : o.k.ok σ1 m1 = true := by unfold DI.lateOk at hok; simp only [Bool.and_eq_true] at hok; exact hok.2
          obtain ⟨M2, g2, E2⟩ := ops_ext (hcl _) (base := m.next) E.lt E1.icy h2
          rw [E.next, g1]
          simp only [E1.lateOk hok, if_true, val_ext E1 hk, g2, E2.next, E1.next]
          exact ⟨_, rfl, (mem_ext E1 (by have := E.lt; omega) hk).bump _⟩
        · cases h
      · cases h
    · cases h
  | .seq a b, σ, σ', m, m', M, e, h, E => by
    simp only [exec] at h ⊢
    split at h
    · rename_i σ1 m1 h1
      obtain ⟨M1, g1, E1⟩ := exec_ext hcl h1 E
      obtain ⟨M2, g2, E2⟩ := exec_ext hcl h E1
      exact ⟨M2, by rw [g1]; exact g2, E2⟩
    · rename_i hne
      obtain ⟨M1, g1, E1⟩ := exec_ext hcl h E
      refine ⟨M1, ?_, E1⟩
      rw [g1]
      cases e with
      | normal => exact absurd h (hne _ _)
      | exit id => rfl
      | ret => rfl
  | .cond x a b, σ, σ', m, m', M, e, h, E => by
    simp only [exec] at h ⊢
    split at h
    · rename_i h1
      rw [if_pos h1]
      split at h
      · rename_i h2; rw [if_pos h2]; exact exec_ext hcl h E
      · rename_i h2; rw [if_neg h2]; exact exec_ext hcl h E
    · cases h
  | .block id c, σ, σ', m, m', M, e, h, E => by
    simp only [exec] at h ⊢
    split at h
    · rename_i h1
      obtain ⟨M1, g1, E1⟩ := exec_ext hcl h1 E
      rw [g1]
      simp only
      split at h
      · rename_i hid; cases h; exact ⟨M1, by rw [if_pos hid], E1⟩
      · rename_i hid; cases h; exact ⟨M1, by rw [if_neg hid], E1⟩
    · rename_i hne
      obtain ⟨M1, g1, E1⟩ := exec_ext hcl h E
      refine ⟨M1, ?_, E1⟩
      rw [g1]
      cases e with
      | normal => rfl
      | exit id => exact absurd h (hne _ _ _)
      | ret => rfl
  | .loop c, σ, σ', m, m', M, e, h, E => by
    simp only [exec] at h ⊢
    exact iter_ext (f := exec cl n c) (fun σ m e σ' m' h1 M E => exec_ext hcl h1 E) h E
  | .exit id, _, _, _, _, M, _, h, E => by cases h; exact ⟨M, rfl, E⟩
  | .ret, _, _, _, _, M, _, h, E => by cases h; exact ⟨M, rfl, E⟩

theorem resOk_ext (E : PutE id x m M) {σ : Slots} {r : IRes} (h : resOk m σ r = true) : resOk M σ r = true ∧ resV M σ r = resV m σ r := by
  cases r with
  | tmp t => exact ⟨rfl, rfl⟩
  | cell t ag n =>
    simp only [resOk, Bool.and_eq_true] at h ⊢
    exact ⟨⟨E.addrOk h.1, h.2⟩, E.loadV h.1⟩
theorem ret_ext (E : PutE id x m M) {σ : Slots} {rs : List IRes} (h : retOk m σ rs = true) : retOk M σ rs = true ∧ retV M σ rs = retV m σ rs := by
  have hr : ∀ r ∈ rs, resOk m σ r = true := by simpa [retOk] using h
  refine ⟨by simp only [retOk, List.all_eq_true]; exact fun r hm => (resOk_ext E (hr r hm)).1, ?_⟩
  unfold retV
  split
  · exact (resOk_ext E (hr _ (by simp))).2
  · rw [List.map_congr_left fun r hm => (resOk_ext E (hr r hm)).2]
theorem call_ext {P : Program} : ∀ n x, PutCl id x (callF P n)
  | 0, _ => fun f a m r m' h => by simp [callF] at h
  | n + 1, x => fun f a m r m' h M E => by
    simp only [callF] at h ⊢
    split at h
    · rename_i F hF
      split at h
      · rename_i hle
        rw [if_pos hle]
        split at h
        · cases h
        · rename_i e σ' m1 hne hex
          obtain ⟨M1, g1, E1⟩ := exec_ext (call_ext n) hex E
          split at h
          · rename_i hr
            cases h
            obtain ⟨g2, g3⟩ := ret_ext E1 hr
            rw [g1]
            refine ⟨M1, ?_, E1⟩
            cases e with
            | normal => simp only [g2, g3, if_true]
            | ret => simp only [g2, g3, if_true]
            | exit id => exact absurd rfl (hne id)
          · cases h
        · cases h
      · cases h
    · cases h
end
end PE
end Go.DI
namespace Go.DI
open Go Go.RowKit

section
variable {P : Program} {σ σ2 : Slots} {m m2 : Mem} {B : Nat} {cl : Callee} {base : Nat}

theorem nin_some {l : List Nat} {d : Nat} (h : nin l (some d) = true) : d ∉ l := by simpa [nin] using h

theorem putD_other {d : Option Nat} {v : Value} {t : Nat} (h : d ≠ some t) : putD σ d v t = σ t := by
  cases d with
  | none => rfl
  | some d =>
    have : t ≠ d := fun e => h (by rw [e])
    simp [putD, upd, this]
theorem putD_comm {d e : Option Nat} {u v : Value} (h : ∀ x, d = some x → e ≠ some x) : putD (putD σ d u) e v = putD (putD σ e v) d u := by
  cases d with
  | none => rfl
  | some d =>
    cases e with
    | none => rfl
    | some e =>
      have hne : d ≠ e := fun x => h d rfl (by rw [x])
      funext t
      simp only [putD, upd]
      by_cases h1 : t = e
      · subst h1; simp [Ne.symm hne]
      · simp [h1]

theorem slotsOf_mem {l : List Operand} {x : Operand} {t : Nat} (hx : x ∈ l) (ht : x = .tmp t) : t ∈ slotsOf l := by
  subst ht
  exact List.mem_filterMap.2 ⟨_, hx, rfl⟩

/-- what an operation reads is not written between -/
theorem reads_ev {o : IOp} {d : Option Nat} {v : Value} (h : nin o.reads d = true) : ∀ x ∈ o.k.opnds, ev (putD σ d v) x = ev σ x := by
  intro x hx
  refine ev_congr fun t ht => putD_other fun hd => ?_
  subst hd
  exact nin_some h (List.mem_append_left _ (slotsOf_mem hx ht))
theorem reads_wanted {o : IOp} {d : Option Nat} {v : Value} (h : nin o.reads d = true) : wantedI (putD σ d v) o.g = wantedI σ o.g := by
  cases hg : o.g with
  | none => rfl
  | some tb =>
    obtain ⟨t, b⟩ := tb
    simp only [wantedI]
    rw [putD_other fun hd => ?_]
    subst hd
    exact nin_some h (List.mem_append_right _ (by simp [hg]))

theorem rd_opnds {k : IK} : ∀ x ∈ k.rd ++ k.wro, x ∈ k.opnds := by
  intro x hx
  cases k <;> simp [IK.rd, IK.wro] at hx <;> simp [IK.opnds, hx]
  · rcases hx with h | h | h <;> simp [h]

/-- a step that makes no call -/
theorem step_mem {o : IOp} (hw : wantedI σ o.g = true) (hc : o.k.callee σ m = none) {s : Slots × Mem} (h : stepOp cl base o σ m = some s) :
    o.k.ok σ m = true ∧ s = (putD σ o.d (o.k.val (base + o.ix) σ m), o.k.mem (base + o.ix) σ m) := by
  unfold stepOp at h
  rw [if_pos hw, hc] at h
  simp only at h
  split at h
  · rename_i hok; cases h; exact ⟨hok, rfl⟩
  · cases h
theorem step_mem_mk {o : IOp} (hw : wantedI σ o.g = true) (hc : o.k.callee σ m = none) (hok : o.k.ok σ m = true) :
    stepOp cl base o σ m = some (putD σ o.d (o.k.val (base + o.ix) σ m), o.k.mem (base + o.ix) σ m) := by
  unfold stepOp
  rw [if_pos hw, hc]
  simp only [hok, if_true]
theorem step_plain {o : IOp} (hmp : o.k.isMap = false) (hw : wantedI σ o.g = true) (hc : o.k.callee σ m = none) {s : Slots × Mem} (h : stepOp cl base o σ m = some s) :
    o.k.ok σ m = true ∧ s = (putD σ o.d (o.k.val (base + o.ix) σ m), applyW m (o.k.wr (base + o.ix) σ m)) := by
  unfold stepOp at h
  rw [if_pos hw, hc] at h
  simp only at h
  split at h
  · rename_i hok; cases h; exact ⟨hok, by rw [← mem_wr hmp]⟩
  · cases h
theorem step_plain_mk {o : IOp} (hmp : o.k.isMap = false) (hw : wantedI σ o.g = true) (hc : o.k.callee σ m = none) (hok : o.k.ok σ m = true) :
    stepOp cl base o σ m = some (putD σ o.d (o.k.val (base + o.ix) σ m), applyW m (o.k.wr (base + o.ix) σ m)) := by
  unfold stepOp
  rw [if_pos hw, hc]
  simp only [hok, if_true, mem_wr hmp]
theorem step_call {o : IOp} (hw : wantedI σ o.g = true) {f : Nat} {args : List Value} (hc : o.k.callee σ m = some (f, args)) {s : Slots × Mem} (h : stepOp cl base o σ m = some s) :
    ∃ v m', cl f args m = some (v, m') ∧ s = (putD σ o.d v, m') := by
  unfold stepOp at h
  rw [if_pos hw, hc] at h
  simp only at h
  split at h
  · rename_i v m' hf; cases h; exact ⟨v, m', hf, rfl⟩
  · cases h
theorem step_call_mk {o : IOp} (hw : wantedI σ o.g = true) {f : Nat} {args : List Value} (hc : o.k.callee σ m = some (f, args)) {v : Value} {m' : Mem} (h : cl f args m = some (v, m')) :
    stepOp cl base o σ m = some (putD σ o.d v, m') := by
  unfold stepOp
  rw [if_pos hw, hc]
  simp only [h]
theorem step_skip_ {o : IOp} (hw : wantedI σ o.g = false) : stepOp cl base o σ m = some (putD σ o.d undef, m) := by
  unfold stepOp
  rw [if_neg (by rw [hw]; simp)]

theorem callee_isCall {k : IK} {fa : Nat × List Value} (h : k.callee σ m = some fa) : k.isCall = true := by
  cases k <;> first | rfl | (simp [IK.callee] at h)
theorem isCall_callee {k : IK} (h : k.isCall = false) : k.callee σ m = none := by
  cases k <;> first | rfl | (simp [IK.isCall] at h)
theorem callee_none {o : IOp} (hw : wantedI σ o.g = true) (hc : o.k.callee σ m = none) {s : Slots × Mem} (h : stepOp cl base o σ m = some s) : o.k.isCall = false :=
  ok_not_call (step_mem hw hc h).1

/-- what must be apart, at the time of the later one -/
def ApartAt (k i : IOp) (σ : Slots) (m m' : Mem) : Prop :=
  wantedI σ i.g = true → match i.k.callee σ m with
    | some _ => ∀ p ∈ pairs k i, ∀ b, blkOf (ev σ p.1) = some b → m'.get b = m.get b
    | none => ∀ p ∈ pairs k i, ∀ a b, blkOf (ev σ p.1) = some a → blkOf (ev σ p.2) = some b → a ≠ b

theorem ckProp_slots {o : IOp} {d : Option Nat} {v : Value} {m' : Mem} (hr : nin (o.reads ++ o.ckSlots) d = true) {mA mB : Mem}
    (hsame : o.k.isCall = true → mA = m ∧ mB = m') (h : ckProp o σ m m') : ckProp o (putD σ d v) mA mB := by
  have h1 : nin o.reads d = true := by
    cases d with
    | none => rfl
    | some d => simp [nin] at hr ⊢; exact hr.1
  have hck : ∀ p ∈ o.ck, ev (putD σ d v) p.1 = ev σ p.1 ∧ ev (putD σ d v) p.2 = ev σ p.2 := by
    intro p hp
    constructor
    · refine ev_congr fun t ht => putD_other fun hd => ?_
      subst hd
      exact nin_some hr (List.mem_append_right _ (List.mem_append_left _ (slotsOf_mem (List.mem_map.2 ⟨p, hp, rfl⟩) ht)))
    · refine ev_congr fun t ht => putD_other fun hd => ?_
      subst hd
      exact nin_some hr (List.mem_append_right _ (List.mem_append_right _ (slotsOf_mem (List.mem_map.2 ⟨p, hp, rfl⟩) ht)))
  intro hw
  rw [reads_wanted h1] at hw
  have := h hw
  have hcal : o.k.callee (putD σ d v) mA = o.k.callee σ m := by
    rw [(congr_ev (m := mA) (id := 0) (reads_ev h1)).2.2.2]
    cases hcc : o.k.isCall with
    | true => rw [(hsame hcc).1]
    | false => rw [isCall_callee hcc, isCall_callee hcc]
  rw [hcal]
  cases hc : o.k.callee σ m with
  | some fa =>
    rw [hc] at this
    simp only at this ⊢
    obtain ⟨rfl, rfl⟩ := hsame (callee_isCall hc)
    intro p hp b hb
    rw [(hck p hp).1] at hb
    exact this p hp b hb
  | none =>
    rw [hc] at this
    simp only [ckOk, List.all_eq_true] at this ⊢
    intro p hp
    obtain ⟨x, y⟩ := p
    have := this (x, y) hp
    simp only at this ⊢
    rw [(hck _ hp).1, (hck _ hp).2]
    exact this

theorem swap {P : Program} {B : Nat} (hcl : ClSound P B cl) {k i : IOp} {btw : List Nat} {σ2 σ3 : Slots} {m2 m3 : Mem} (hcomp : compatB k i btw = true) (hix : k.ix ≠ i.ix) (hfresh : i.k.isAlloc = true → m.get (base + i.ix) = none) (hlt : i.k.isAlloc = true → base + i.ix < m.next)
    (h1 : stepOp cl base k σ m = some (σ2, m2)) (hck : ckProp k σ m m2) (h2 : stepOp cl base i σ2 m2 = some (σ3, m3)) (hF : ApartAt k i σ2 m2 m3) :
    ∃ σ1 m1, stepOp cl base i σ m = some (σ1, m1) ∧ stepOp cl base k σ1 m1 = some (σ3, m3) ∧ ckProp k σ1 m1 m3 ∧ (i.k.isCall = true → wantedI σ i.g = true → m = m2 ∧ m1 = m3) := by
  simp only [compatB, Bool.and_eq_true] at hcomp
  obtain ⟨⟨⟨⟨⟨hmk, hmi⟩, hc1⟩, hc2⟩, hc3⟩, hc4⟩ := hcomp
  replace hmk : k.k.isMap = false := by simpa using hmk
  replace hmi : i.k.isMap = false := by simpa using hmi
  have hkr : nin k.reads i.d = true := by
    cases hd : i.d with
    | none => rfl
    | some d => rw [hd] at hc1; simp [nin] at hc1 ⊢; exact hc1.1
  have hdd : ∀ x, k.d = some x → i.d ≠ some x := by
    intro x hx hy
    rw [hx, hy] at hc3
    simp at hc3
  by_cases hwk : wantedI σ k.g = true
  · by_cases hwi : wantedI σ i.g = true
    · cases hck' : k.k.callee σ m with
      | some fa =>
        -- k calls; i touches no memory
        obtain ⟨f, args⟩ := fa
        have hkc := callee_isCall hck'
        obtain ⟨v, m', e1, e2⟩ := step_call hwk hck' h1
        cases e2
        have hic : i.k.isCall = false := by
          by_cases h : i.k.isCall = true
          · rw [if_pos h] at hc4; simp [hkc] at hc4
          · simpa using h
        rw [if_neg (by rw [hic]; simp), if_pos hkc] at hc4
        simp only [Bool.and_eq_true, List.isEmpty_iff] at hc4
        obtain ⟨hrd, hwro⟩ := hc4
        have hwi2 : wantedI (putD σ k.d v) i.g = true := by rw [reads_wanted hc2]; exact hwi
        obtain ⟨hok, e3⟩ := step_plain hmi hwi2 (isCall_callee hic) h2
        cases e3
        obtain ⟨c1, c2, c3, _⟩ := congr_ev (k := i.k) (m := m2) (id := base + i.ix) (reads_ev (σ := σ) (v := v) hc2)
        obtain ⟨d1, d2, d3⟩ := congr_m (k := i.k) (σ := σ) (id := base + i.ix) (m := m2) (m2 := m) hmi (by rw [hrd]; simp)
        have hkeys : ∀ p ∈ i.k.wr (base + i.ix) σ m, i.k.isAlloc = true ∧ p.1 = base + i.ix := fun p hp => by
          rcases wr_keys (k := i.k) (id := base + i.ix) (σ := σ) (m := m) p hp with h | ⟨x, hx, _⟩
          · exact ⟨h.1, h.2.1⟩
          · rw [hwro] at hx; cases hx
        -- writes to the new block pass under the call
        have hpass : ∀ (l : List (Nat × Option Blk)) (ma mb : Mem), (∀ p ∈ l, i.k.isAlloc = true ∧ p.1 = base + i.ix) → cl f args ma = some (v, mb) → (l ≠ [] → base + i.ix < ma.next ∧ ma.get (base + i.ix) = none) →
            cl f args (applyW ma l) = some (v, applyW mb l) ∧ (l = [] ∨ ∃ y, applyW ma l = ma.put (base + i.ix) y ∧ applyW mb l = mb.put (base + i.ix) y) := by
          intro l ma mb hl hcall hma
          have hsame : ∀ (l : List (Nat × Option Blk)) (x : Option Blk), (∀ p ∈ l, p.1 = base + i.ix) → ∃ y, ∀ mm : Mem, applyW (mm.put (base + i.ix) x) l = mm.put (base + i.ix) y := by
            intro l
            induction l with
            | nil => intro x _; exact ⟨x, fun _ => rfl⟩
            | cons p l ih =>
              intro x hp
              obtain ⟨y, hy⟩ := ih p.2 (fun q hq => hp q (by simp [hq]))
              refine ⟨y, fun mm => ?_⟩
              have e : p.1 = base + i.ix := hp p (by simp)
              have : (mm.put (base + i.ix) x).put p.1 p.2 = mm.put (base + i.ix) p.2 := by
                rw [e]
                simp only [Mem.put, Mem.mk.injEq, true_and, and_true]
                funext j
                by_cases hj : j = base + i.ix <;> simp [hj]
              show applyW ((mm.put (base + i.ix) x).put p.1 p.2) l = _
              rw [this, hy]
          cases l with
          | nil => exact ⟨hcall, .inl rfl⟩
          | cons p l =>
            obtain ⟨y, hy⟩ := hsame l p.2 (fun q hq => (hl q (by simp [hq])).2)
            have e : p.1 = base + i.ix := (hl p (by simp)).2
            have ea : applyW ma (p :: l) = ma.put (base + i.ix) y := by show applyW (ma.put p.1 p.2) l = _; rw [e, hy]
            have eb : applyW mb (p :: l) = mb.put (base + i.ix) y := by show applyW (mb.put p.1 p.2) l = _; rw [e, hy]
            rw [ea, eb]
            obtain ⟨h5, h6⟩ := hma (by simp)
            exact ⟨(hcl _ _ _ _ _ hcall).2.2.2.1 _ y h5 h6, .inr ⟨y, rfl, rfl⟩⟩
        obtain ⟨p1, p2⟩ := hpass (i.k.wr (base + i.ix) σ m) m m2 hkeys e1 (fun hne => by
          obtain ⟨p, hp⟩ := List.exists_mem_of_ne_nil _ hne
          have := (hkeys p hp).1
          exact ⟨hlt this, hfresh this⟩)
        have hcal1 : k.k.callee σ (applyW m (i.k.wr (base + i.ix) σ m)) = some (f, args) := by
          rcases p2 with h | ⟨y, hy, _⟩
          · rw [h]; exact hck'
          · rw [hy]
            by_cases hal : i.k.isAlloc = true
            · exact PE.callee_ext ⟨rfl, hlt hal, hfresh hal⟩ hck'
            · have : i.k.wr (base + i.ix) σ m = [] := by
                cases hl : i.k.wr (base + i.ix) σ m with
                | nil => rfl
                | cons p l => exact absurd (hkeys p (by rw [hl]; simp)).1 hal
              rw [this] at hy
              rw [← hy]; exact hck'
        refine ⟨_, _, step_plain_mk hmi hwi (isCall_callee hic) (by rw [← d1, ← c1]; exact hok), ?_, ?_, fun h => by rw [hic] at h; cases h⟩
        · have hcal2 : k.k.callee (putD σ i.d (i.k.val (base + i.ix) σ m)) (applyW m (i.k.wr (base + i.ix) σ m)) = some (f, args) := by rw [(congr_ev (m := applyW m (i.k.wr (base + i.ix) σ m)) (id := 0) (reads_ev hkr)).2.2.2]; exact hcal1
          rw [c2, c3, d2, d3]
          have := step_call_mk (cl := cl) (base := base) (m := applyW m (i.k.wr (base + i.ix) σ m)) (by rw [reads_wanted hkr]; exact hwk) hcal2 p1
          rw [this, putD_comm hdd]
        · rw [c3, d3]
          refine ckProp_slots hc1 (fun _ => ⟨rfl, rfl⟩) (fun hw => ?_)
          have h0 := hck hw
          rw [hck'] at h0
          rw [hcal1]
          simp only at h0 ⊢
          rcases p2 with h | ⟨y, hy, hy2⟩
          · rw [h]; exact h0
          · rw [hy, hy2]
            intro q hq b hb
            have := h0 q hq b hb
            by_cases hbi : b = base + i.ix
            · subst hbi
              have hn : i.k.wr (base + i.ix) σ m = [] ∨ i.k.isAlloc = true := by
                cases hl : i.k.wr (base + i.ix) σ m with
                | nil => exact .inl rfl
                | cons p l => exact .inr (hkeys p (by rw [hl]; simp)).1
              rcases hn with hn | hal
              · rw [hn] at hy hy2
                rw [← hy, ← hy2]; exact this
              · rw [Mem.get_put, Mem.get_put, if_pos rfl, if_pos rfl, if_pos (hlt hal), if_pos (Nat.lt_of_lt_of_le (hlt hal) (hcl _ _ _ _ _ e1).2.1)]
            · rw [Mem.get_put, Mem.get_put, if_neg hbi, if_neg hbi]; exact this
      | none =>
        have hkc := callee_none hwk hck' h1
        obtain ⟨hokk, e1⟩ := step_plain hmk hwk hck' h1
        cases e1
        have hwi2 : wantedI (putD σ k.d (k.k.val (base + k.ix) σ m)) i.g = true := by rw [reads_wanted hc2]; exact hwi
        obtain ⟨c1, c2, c3, c4⟩ := congr_ev (k := i.k) (m := applyW m (k.k.wr (base + k.ix) σ m)) (id := base + i.ix) (reads_ev (σ := σ) (v := k.k.val (base + k.ix) σ m) hc2)
        have hF' := hF hwi2
        cases hcal : i.k.callee σ (applyW m (k.k.wr (base + k.ix) σ m)) with
        | some fa =>
          -- i calls; k writes nothing
          obtain ⟨f, args⟩ := fa
          have hic := callee_isCall hcal
          rw [if_pos hic] at hc4
          simp only [Bool.and_eq_true, Bool.not_eq_true', List.isEmpty_iff] at hc4
          obtain ⟨⟨⟨_, hal⟩, hwro⟩, hslots⟩ := hc4
          have hwr : k.k.wr (base + k.ix) σ m = [] := by
            cases hl : k.k.wr (base + k.ix) σ m with
            | nil => rfl
            | cons p l =>
              rcases wr_keys (k := k.k) (id := base + k.ix) (σ := σ) (m := m) p (by rw [hl]; simp) with h | ⟨x, hx, _⟩
              · rw [hal] at h; cases h.1
              · rw [hwro] at hx; cases hx
          rw [hwr] at h2 hF' hcal c4 ⊢
          have hm0 : applyW m [] = m := rfl
          rw [hm0] at h2 hF' hcal c4
          rw [c4, hcal] at hF'
          simp only at hF'
          obtain ⟨v, m', g1, g2⟩ := step_call hwi2 (by rw [c4]; exact hcal) h2
          cases g2
          refine ⟨_, _, step_call_mk hwi hcal g1, ?_, ?_, fun _ _ => ⟨rfl, rfl⟩⟩
          · obtain ⟨d1, d2, d3⟩ := congr_m (k := k.k) (σ := σ) (id := base + k.ix) (m := m) (m2 := m3) hmk (fun x hx b hb => by
              have hp : (x, x) ∈ pairs k i := by simp only [pairs, hic, if_true]; exact List.mem_map.2 ⟨x, hx, rfl⟩
              have hx2 : ev (putD σ k.d (k.k.val (base + k.ix) σ m)) x = ev σ x := ev_congr fun t ht => putD_other fun hd => by
                have := List.all_eq_true.1 hslots t (slotsOf_mem hx ht)
                simp [hd] at this
              exact (hF' (x, x) hp b (by rw [hx2]; exact hb)).symm)
            obtain ⟨f1, f2, f3, f4⟩ := congr_ev (k := k.k) (m := m3) (id := base + k.ix) (reads_ev (σ := σ) (d := i.d) (v := v) hkr)
            have := step_plain_mk (cl := cl) (base := base) (m := m3) (σ := putD σ i.d v) (o := k) hmk (by rw [reads_wanted hkr]; exact hwk) (isCall_callee hkc) (by rw [f1, ← d1]; exact hokk)
            rw [this, f2, f3, ← d2, ← d3, hwr, putD_comm hdd]
            rfl
          · exact ckProp_slots hc1 (fun h => by rw [hkc] at h; cases h) hck
        | none =>
          -- neither calls
          have hic := callee_none (by rw [← reads_wanted hc2 (σ := σ)] at hwi; exact hwi) (by rw [c4]; exact hcal) h2
          rw [c4, hcal] at hF'
          simp only at hF'
          rw [if_neg (by rw [hic]; simp), if_neg (by rw [hkc]; simp)] at hc4
          simp only [Bool.and_eq_true, Bool.or_eq_true, Bool.not_eq_true'] at hc4
          obtain ⟨hal, hslots⟩ := hc4
          obtain ⟨hoki, e3⟩ := step_plain hmi hwi2 (isCall_callee hic) h2
          rw [c1] at hoki
          rw [c2, c3] at e3
          -- the operands' blocks, at either time
          have hxk : ∀ x ∈ k.k.rd ++ k.k.wro, ev (putD σ k.d (k.k.val (base + k.ix) σ m)) x = ev σ x := by
            intro x hx
            refine ev_congr fun t ht => putD_other fun hd => ?_
            have := List.all_eq_true.1 hslots t (slotsOf_mem hx ht)
            simp [hd] at this
          have hyi : ∀ y ∈ i.k.rd ++ i.k.wro, ev (putD σ k.d (k.k.val (base + k.ix) σ m)) y = ev σ y := fun y hy => reads_ev hc2 y (rd_opnds y hy)
          have hpairs : pairs k i = ((k.k.wro ++ (if k.k.isAlloc then dOps k.d else [])).flatMap fun x => (i.k.rd ++ i.k.wro).map fun y => (x, y)) ++ k.k.rd.flatMap fun x => i.k.wro.map fun y => (x, y) := by
            simp only [pairs, hic, hkc, Bool.false_eq_true, if_false]
          -- k's writes do not meet what i touches
          have wk : ∀ p ∈ k.k.wr (base + k.ix) σ m, ∀ y ∈ i.k.rd ++ i.k.wro, ∀ b, blkOf (ev σ y) = some b → p.1 ≠ b := by
            intro p hp y hy b hb
            rcases wr_keys (k := k.k) p hp with ⟨ha, e, hblk⟩ | ⟨x, hx, hbx⟩
            · rcases hal with hal | hal
              · rw [hal] at ha; cases ha
              · obtain ⟨d, hd⟩ := Option.isSome_iff_exists.1 hal.1
                have := hF' (.tmp d, y) (by
                  rw [hpairs]
                  refine List.mem_append_left _ (List.mem_flatMap.2 ⟨.tmp d, ?_, List.mem_map.2 ⟨y, hy, rfl⟩⟩)
                  simp [ha, hd, dOps]) (base + k.ix) b (by simp only [ev, hd, putD, upd, if_true]; exact hblk) (by rw [hyi y hy]; exact hb)
                rw [e]; exact this
            · exact hF' (x, y) (by
                rw [hpairs]
                exact List.mem_append_left _ (List.mem_flatMap.2 ⟨x, List.mem_append_left _ hx, List.mem_map.2 ⟨y, hy, rfl⟩⟩)) p.1 b (by rw [hxk x (List.mem_append_right _ hx)]; exact hbx) (by rw [hyi y hy]; exact hb)
          obtain ⟨d1, d2, d3⟩ := congr_m (k := i.k) (σ := σ) (id := base + i.ix) (m := applyW m (k.k.wr (base + k.ix) σ m)) (m2 := m) hmi (fun y hy b hb => get_applyW _ _ _ fun p hp => wk p hp y (List.mem_append_left _ hy) b hb)
          rw [d1] at hoki
          rw [d2, d3] at e3
          cases e3
          -- i's writes do not meet what k touches
          have wi : ∀ p ∈ i.k.wr (base + i.ix) σ m, ∀ x ∈ k.k.rd ++ k.k.wro, ∀ b, blkOf (ev σ x) = some b → p.1 ≠ b := by
            intro p hp x hx b hb e
            rcases wr_keys (k := i.k) p hp with ⟨ha, e2, hblk⟩ | ⟨y, hy, hby⟩
            · have := ok_live hokk x hx b hb
              rw [← e, e2, hfresh ha] at this
              cases this
            · rcases List.mem_append.1 hx with hx' | hx'
              · exact hF' (x, y) (by
                  rw [hpairs]
                  exact List.mem_append_right _ (List.mem_flatMap.2 ⟨x, hx', List.mem_map.2 ⟨y, hy, rfl⟩⟩)) b p.1 (by rw [hxk x hx]; exact hb) (by rw [hyi y (List.mem_append_right _ hy)]; exact hby) e.symm
              · exact hF' (x, y) (by
                  rw [hpairs]
                  exact List.mem_append_left _ (List.mem_flatMap.2 ⟨x, List.mem_append_left _ hx', List.mem_map.2 ⟨y, List.mem_append_right _ hy, rfl⟩⟩)) b p.1 (by rw [hxk x hx]; exact hb) (by rw [hyi y (List.mem_append_right _ hy)]; exact hby) e.symm
          have wki : ∀ p ∈ k.k.wr (base + k.ix) σ m, ∀ q ∈ i.k.wr (base + i.ix) σ m, p.1 ≠ q.1 := by
            intro p hp q hq e
            rcases wr_keys (k := i.k) q hq with ⟨ha, e2, hblk⟩ | ⟨y, hy, hby⟩
            · rcases wr_keys (k := k.k) p hp with ⟨_, e3, _⟩ | ⟨x, hx, hbx⟩
              · omega
              · exact wi q hq x (List.mem_append_right _ hx) p.1 hbx e.symm
            · exact wk p hp y (List.mem_append_right _ hy) q.1 hby e
          refine ⟨_, _, step_plain_mk hmi hwi (isCall_callee hic) hoki, ?_, ?_, fun h => by rw [hic] at h; cases h⟩
          · obtain ⟨f1, f2, f3, f4⟩ := congr_ev (k := k.k) (m := applyW m (i.k.wr (base + i.ix) σ m)) (id := base + k.ix) (reads_ev (σ := σ) (d := i.d) (v := i.k.val (base + i.ix) σ m) hkr)
            obtain ⟨g1, g2, g3⟩ := congr_m (k := k.k) (σ := σ) (id := base + k.ix) (m := applyW m (i.k.wr (base + i.ix) σ m)) (m2 := m) hmk (fun x hx b hb => get_applyW _ _ _ fun p hp => wi p hp x (List.mem_append_left _ hx) b hb)
            have := step_plain_mk (cl := cl) (base := base) (m := applyW m (i.k.wr (base + i.ix) σ m)) (σ := putD σ i.d (i.k.val (base + i.ix) σ m)) (o := k) hmk (by rw [reads_wanted hkr]; exact hwk) (isCall_callee hkc) (by rw [f1, g1]; exact hokk)
            rw [this, f2, f3, g2, g3, putD_comm hdd, applyW_comm _ _ m wki]
          · exact ckProp_slots hc1 (fun h => by rw [hkc] at h; cases h) hck
    · -- i is passed over
      have hwi' : wantedI σ i.g = false := by simpa using hwi
      have hs2 : ∃ v, σ2 = putD σ k.d v := by
        cases hck' : k.k.callee σ m with
        | some fa => obtain ⟨v, m', _, e⟩ := step_call hwk hck' h1; cases e; exact ⟨v, rfl⟩
        | none => obtain ⟨_, e⟩ := step_plain hmk hwk hck' h1; cases e; exact ⟨_, rfl⟩
      obtain ⟨v, rfl⟩ := hs2
      rw [step_skip_ (by rw [reads_wanted hc2]; exact hwi')] at h2
      cases h2
      refine ⟨_, _, step_skip_ hwi', ?_, ckProp_slots hc1 (fun _ => ⟨rfl, rfl⟩) hck, fun _ h => absurd h hwi⟩
      have hwk2 : wantedI (putD σ i.d undef) k.g = true := by rw [reads_wanted hkr]; exact hwk
      obtain ⟨f1, f2, f3, f4⟩ := congr_ev (k := k.k) (m := m) (id := base + k.ix) (reads_ev (σ := σ) (d := i.d) (v := undef) hkr)
      cases hck' : k.k.callee σ m with
      | some fa =>
        obtain ⟨f, args⟩ := fa
        obtain ⟨u, m', g1, g2⟩ := step_call hwk hck' h1
        have e1 := congrArg Prod.fst g2
        have e2 := congrArg Prod.snd g2
        simp only at e1 e2
        subst e2
        have e3 : putD (putD σ i.d undef) k.d u = putD (putD σ k.d u) i.d undef := (putD_comm hdd).symm
        rw [step_call_mk hwk2 (by rw [f4]; exact hck') g1, e3, ← e1]
      | none =>
        obtain ⟨hok, g2⟩ := step_plain hmk hwk hck' h1
        have e1 := congrArg Prod.fst g2
        have e2 := congrArg Prod.snd g2
        simp only at e1 e2
        subst e2
        have e3 : putD (putD σ i.d undef) k.d (k.k.val (base + k.ix) σ m) = putD (putD σ k.d (k.k.val (base + k.ix) σ m)) i.d undef := (putD_comm hdd).symm
        rw [step_plain_mk hmk hwk2 (by rw [f4]; exact hck') (by rw [f1]; exact hok), f2, f3, e3, ← e1]
  · -- k is passed over
    have hwk' : wantedI σ k.g = false := by simpa using hwk
    rw [step_skip_ hwk'] at h1
    cases h1
    have hk2 : ∀ v mm, stepOp cl base k (putD σ i.d v) mm = some (putD (putD σ i.d v) k.d undef, mm) := fun v mm => step_skip_ (by rw [reads_wanted hkr]; exact hwk')
    have hck2 : ∀ v mA mB, ckProp k (putD σ i.d v) mA mB := fun v mA mB hw => by rw [reads_wanted hkr] at hw; exact absurd hw hwk
    obtain ⟨f1, f2, f3, f4⟩ := congr_ev (k := i.k) (m := m) (id := base + i.ix) (reads_ev (σ := σ) (d := k.d) (v := undef) hc2)
    by_cases hwi : wantedI σ i.g = true
    · have hwi2 : wantedI (putD σ k.d undef) i.g = true := by rw [reads_wanted hc2]; exact hwi
      cases hcal : i.k.callee σ m with
      | some fa =>
        obtain ⟨f, args⟩ := fa
        obtain ⟨u, m', g1, g2⟩ := step_call hwi2 (by rw [f4]; exact hcal) h2
        cases g2
        exact ⟨_, _, step_call_mk hwi hcal g1, by rw [hk2, putD_comm hdd], hck2 _ _ _, fun _ _ => ⟨rfl, rfl⟩⟩
      | none =>
        obtain ⟨hok, g2⟩ := step_plain hmi hwi2 (by rw [f4]; exact hcal) h2
        have hic := ok_not_call hok
        rw [f2, f3] at g2
        cases g2
        exact ⟨_, _, step_plain_mk hmi hwi hcal (by rw [← f1]; exact hok), by rw [hk2, putD_comm hdd], hck2 _ _ _, fun h => by rw [hic] at h; cases h⟩
    · have hwi' : wantedI σ i.g = false := by simpa using hwi
      rw [step_skip_ (by rw [reads_wanted hc2]; exact hwi')] at h2
      cases h2
      exact ⟨_, _, step_skip_ hwi', by rw [hk2, putD_comm hdd], hck2 _ _ _, fun _ h => absurd h hwi⟩

end
end Go.DI
namespace Go.DI
open Go Go.RowKit

def dsts (l : List IOp) : List Nat := l.filterMap (·.d)

section
variable {P : Program} {B : Nat} {cl : Callee} {base : Nat} {ops : Array Oper} {nt : Nat}

theorem compatB_mono {k i : IOp} {b b' : List Nat} (h : ∀ t ∈ b', t ∈ b) (hc : compatB k i b = true) : compatB k i b' = true := by
  have hnot : ∀ t, (!b.contains t) = true → (!b'.contains t) = true := by
    intro t ht
    simp at ht ⊢
    exact fun hh => ht (h t hh)
  have hall : ∀ l : List Nat, (l.all fun t => !b.contains t && k.d != some t) = true → (l.all fun t => !b'.contains t && k.d != some t) = true := by
    intro l hl
    rw [List.all_eq_true] at hl ⊢
    intro t ht
    have := hl t ht
    rw [Bool.and_eq_true] at this ⊢
    exact ⟨hnot t this.1, this.2⟩
  simp only [compatB, Bool.and_eq_true] at hc ⊢
  refine ⟨hc.1, ?_⟩
  have hc2 := hc.2
  split at hc2
  · rename_i h1
    rw [if_pos h1]
    simp only [Bool.and_eq_true] at hc2 ⊢
    exact ⟨hc2.1, hall _ hc2.2⟩
  · rename_i h1
    rw [if_neg h1]
    split at hc2
    · rename_i h2; rw [if_pos h2]; exact hc2
    · rename_i h2
      rw [if_neg h2]
      simp only [Bool.and_eq_true, Bool.or_eq_true] at hc2 ⊢
      refine ⟨hc2.1.imp id fun h3 => ⟨h3.1, ?_⟩, hall _ hc2.2⟩
      cases hd : k.d with
      | none => rfl
      | some d => rw [hd] at h3; exact hnot d h3.2

theorem stepOp_slots {o : IOp} {σ σ' : Slots} {m m' : Mem} (h : stepOp cl base o σ m = some (σ', m')) {t : Nat} (ht : o.d ≠ some t) : σ' t = σ t := by
  unfold stepOp at h
  split at h
  · split at h
    · split at h
      · cases h; exact putD_other ht
      · cases h
    · split at h
      · cases h; exact putD_other ht
      · cases h
  · cases h; exact putD_other ht

theorem move (hcl : ClSound P B cl) {i : IOp} {post : List IOp} {sf : Slots × Mem} : ∀ (pre : List IOp) (σ : Slots) (m : Mem), runOps cl base (pre ++ i :: post) σ m = some sf →
    (∀ A k C, pre = A ++ k :: C → compatB k i (dsts C) = true ∧ ∀ p ∈ pairs k i, p ∈ i.ck) → (∀ k ∈ pre, k.ix ≠ i.ix) → (i.k.isAlloc = true → m.get (base + i.ix) = none ∧ base + i.ix < m.next) →
    ∃ σ1 m1 σo mo mo', stepOp cl base i σ m = some (σ1, m1) ∧ runOps cl base (pre ++ post) σ1 m1 = some sf ∧ ckProp i σo mo mo' ∧ (∀ t, t ∉ dsts pre → σo t = σ t) ∧ (i.k.isCall = true → wantedI σ i.g = true → mo = m ∧ mo' = m1)
  | [], σ, m, h, _, _, _ => by
    obtain ⟨σ1, m1, h1, h2, h3⟩ := runOps_cons h
    exact ⟨σ1, m1, σ, m, m1, h1, h3, h2, fun _ _ => rfl, fun _ _ => ⟨rfl, rfl⟩⟩
  | k :: pre, σ, m, h, hc, hix, hf => by
    obtain ⟨σ2, m2, h1, h2, h3⟩ := runOps_cons h
    have hkx := hix k (by simp)
    have hck0 := hc [] k pre rfl
    obtain ⟨σ3, m3, σo, mo, mo', g1, g2, g3, g4, g5⟩ := move hcl pre σ2 m2 h3 (fun A k' C e => hc (k :: A) k' C (by rw [e]; rfl)) (fun k' hk' => hix k' (by simp [hk'])) (fun hal => ⟨stepOp_none hcl h1 (hf hal).2 (by omega) (hf hal).1, Nat.lt_of_lt_of_le (hf hal).2 (stepOp_next hcl h1)⟩)
    -- what i reads is not written by those before it
    have hri : ∀ t, t ∈ i.reads → t ∉ dsts pre := by
      intro t ht hd
      obtain ⟨k', hk', hkd⟩ := List.mem_filterMap.1 hd
      obtain ⟨A, C, e⟩ := List.append_of_mem hk'
      have := (hc (k :: A) k' C (by rw [e]; rfl)).1
      simp only [compatB, Bool.and_eq_true] at this
      rw [hkd] at this
      exact nin_some this.1.1.2 ht
    have hwo : wantedI σo i.g = wantedI σ2 i.g := by
      cases hg : i.g with
      | none => rfl
      | some tb => obtain ⟨t, b⟩ := tb; simp only [wantedI]; rw [g4 t (hri t (List.mem_append_right _ (by simp [hg])))]
    have hev : ∀ x ∈ i.k.opnds, ev σo x = ev σ2 x := fun x hx => ev_congr fun t ht => g4 t (hri t (List.mem_append_left _ (slotsOf_mem hx ht)))
    have hF : ApartAt k i σ2 m2 m3 := by
      intro hw
      have hck := g3 (by rw [hwo]; exact hw)
      have hcal : i.k.callee σo mo = i.k.callee σ2 m2 := by
        rw [(congr_ev (m := mo) (id := 0) hev).2.2.2]
        cases hcc : i.k.isCall with
        | true => rw [(g5 hcc hw).1]
        | false => rw [isCall_callee hcc, isCall_callee hcc]
      rw [hcal] at hck
      have hcB := hck0.1
      simp only [compatB, Bool.and_eq_true] at hcB
      obtain ⟨_, hcB⟩ := hcB
      cases hq : i.k.callee σ2 m2 with
      | some fa =>
        have hic := callee_isCall hq
        rw [hq] at hck
        simp only at hck ⊢
        obtain ⟨rfl, rfl⟩ := g5 hic hw
        rw [if_pos hic] at hcB
        simp only [Bool.and_eq_true] at hcB
        intro p hp b hb
        have hp2 := hp
        simp only [pairs, hic, if_true] at hp2
        obtain ⟨x, hx, rfl⟩ := List.mem_map.1 hp2
        refine hck _ (hck0.2 _ hp) b ?_
        rw [show ev σo x = ev σ2 x from ev_congr fun t ht => g4 t (fun hd => ?_)]
        · exact hb
        · have := List.all_eq_true.1 hcB.2 t (slotsOf_mem hx ht)
          simp at this
          exact this.1 hd
      | none =>
        rw [hq] at hck
        simp only [ckOk, List.all_eq_true] at hck
        simp only
        intro p hp a b ha hb e
        by_cases hic : i.k.isCall = true
        · -- an operation that should call but cannot: it has not run
          have := callee_none hw hq g1
          rw [hic] at this; cases this
        rw [if_neg hic] at hcB
        by_cases hkc : k.k.isCall = true
        · simp only [pairs, if_neg hic, if_pos hkc] at hp; cases hp
        rw [if_neg hkc] at hcB
        simp only [Bool.and_eq_true, Bool.or_eq_true, Bool.not_eq_true'] at hcB
        have hp2 := hp
        simp only [pairs, if_neg hic, if_neg hkc] at hp2
        have hslot : ∀ x ∈ k.k.rd ++ k.k.wro, ev σo x = ev σ2 x := fun x hx => ev_congr fun t ht => g4 t fun hd => by
          have := List.all_eq_true.1 hcB.2 t (slotsOf_mem hx ht)
          simp at this
          exact this.1 hd
        have hp1 : ev σo p.1 = ev σ2 p.1 ∧ ev σo p.2 = ev σ2 p.2 := by
          rcases List.mem_append.1 hp2 with h4 | h4
          · obtain ⟨x, hx, h5⟩ := List.mem_flatMap.1 h4
            obtain ⟨y, hy, rfl⟩ := List.mem_map.1 h5
            refine ⟨?_, hev y (rd_opnds y hy)⟩
            rcases List.mem_append.1 hx with h6 | h6
            · exact hslot x (List.mem_append_right _ h6)
            · split at h6
              · rename_i hal
                rcases hcB.1 with h7 | h7
                · rw [hal] at h7; cases h7
                · cases hd : k.d with
                  | none => rw [hd] at h6; cases h6
                  | some d =>
                    rw [hd] at h6 h7
                    simp only [dOps, List.mem_singleton] at h6
                    subst h6
                    exact g4 d (nin_some h7.2)
              · cases h6
          · obtain ⟨x, hx, h5⟩ := List.mem_flatMap.1 h4
            obtain ⟨y, hy, rfl⟩ := List.mem_map.1 h5
            exact ⟨hslot x (List.mem_append_left _ hx), hev y (rd_opnds y (List.mem_append_right _ hy))⟩
        have := hck p (hck0.2 p hp)
        obtain ⟨x, y⟩ := p
        simp only at this ha hb hp1
        rw [hp1.1, hp1.2, ha, hb] at this
        simp [e] at this
    obtain ⟨σ1, m1, q1, q2, q3, q4⟩ := swap hcl hck0.1 hkx (fun hal => (hf hal).1) (fun hal => (hf hal).2) h1 h2 g1 hF
    refine ⟨σ1, m1, σo, mo, mo', q1, runOps_mk q2 q3 g2, g3, fun t ht => ?_, fun h5 h6 => ?_⟩
    · have ht1 : t ∉ dsts pre := fun hd => ht (by
        obtain ⟨k', hk', hkd⟩ := List.mem_filterMap.1 hd
        exact List.mem_filterMap.2 ⟨k', by simp [hk'], hkd⟩)
      have ht2 : k.d ≠ some t := fun hd => ht (List.mem_filterMap.2 ⟨k, by simp, hd⟩)
      rw [g4 t ht1, stepOp_slots h1 ht2]
    · have hnk : nin i.reads k.d = true := by
        have := hck0.1
        simp only [compatB, Bool.and_eq_true] at this
        exact this.1.1.2
      have hw2 : wantedI σ2 i.g = true := by
        cases hg : i.g with
        | none => rfl
        | some tb =>
          obtain ⟨t, b⟩ := tb
          rw [hg] at h6
          simp only [wantedI] at h6 ⊢
          rw [stepOp_slots h1 (t := t) fun hd => ?_]
          · exact h6
          · rw [hd] at hnk
            exact nin_some hnk (List.mem_append_right _ (by simp [hg]))
      obtain ⟨rfl, rfl⟩ := g5 h5 hw2
      exact ⟨(q4 h5 h6).1.symm, (q4 h5 h6).2.symm⟩

/-! the static check, as a law -/
def GoodP (tab : List Nat) : List IOp → Prop
  | [] => True
  | k :: rest => (∀ pre i post, rest = pre ++ i :: post → (tab.getD i.ix 0).testBit k.ix = true ∨ (compatB k i (dsts pre) = true ∧ ∀ p ∈ pairs k i, p ∈ i.ck)) ∧ GoodP tab rest

theorem GoodP.at_ {tab : List Nat} : ∀ (A : List IOp) (k : IOp) (C : List IOp) (i : IOp) (D : List IOp), GoodP tab (A ++ k :: C ++ i :: D) → (tab.getD i.ix 0).testBit k.ix = true ∨ (compatB k i (dsts C) = true ∧ ∀ p ∈ pairs k i, p ∈ i.ck)
  | [], _, C, i, D, h => h.1 C i D rfl
  | _ :: A, k, C, i, D, h => GoodP.at_ A k C i D h.2

theorem GoodP.remove {tab : List Nat} : ∀ (A : List IOp) (x : IOp) (C : List IOp), GoodP tab (A ++ x :: C) → GoodP tab (A ++ C)
  | [], _, _, h => h.2
  | k :: A, x, C, h => by
    refine ⟨fun pre i post e => ?_, GoodP.remove A x C h.2⟩
    rcases List.append_eq_append_iff.1 e with ⟨as, e1, e2⟩ | ⟨bs, e1, e2⟩
    · -- i lies behind x
      have := h.1 (A ++ x :: as) i post (by rw [e2]; simp)
      refine this.imp id fun hh => ⟨compatB_mono (fun t ht => ?_) hh.1, hh.2⟩
      rw [e1] at ht
      obtain ⟨k', hk', hkd⟩ := List.mem_filterMap.1 ht
      refine List.mem_filterMap.2 ⟨k', ?_, hkd⟩
      rcases List.mem_append.1 hk' with h1 | h1
      · exact List.mem_append_left _ h1
      · exact List.mem_append_right _ (by simp [h1])
    · cases bs with
      | nil =>
        simp only [List.append_nil] at e1
        simp only [List.nil_append] at e2
        have := h.1 (A ++ [x]) i post (by rw [← e2]; simp)
        refine this.imp id fun hh => ⟨compatB_mono (fun t ht => ?_) hh.1, hh.2⟩
        rw [← e1] at ht
        obtain ⟨k', hk', hkd⟩ := List.mem_filterMap.1 ht
        exact List.mem_filterMap.2 ⟨k', List.mem_append_left _ hk', hkd⟩
      | cons b bs =>
        simp only [List.cons_append, List.cons.injEq] at e2
        obtain ⟨rfl, e2⟩ := e2
        exact h.1 pre i (bs ++ x :: C) (by rw [e1]; simp)

/-! what an operation waits for -/
theorem maskOf_spec {tab : List Nat} {o : Oper} {b : Nat} (h : (maskOf tab o).testBit b = true) : ∃ e ∈ o.after, Region.binds .any e = true ∧ (e.on = b ∨ (tab.getD e.on 0).testBit b = true) := by
  unfold maskOf at h
  have key : ∀ (l : List Edge) (s : Nat), (l.foldl (fun s e => if Region.binds .any e then s ||| 2 ^ e.on ||| tab.getD e.on 0 else s) s).testBit b = true → s.testBit b = true ∨ ∃ e ∈ l, Region.binds .any e = true ∧ (e.on = b ∨ (tab.getD e.on 0).testBit b = true) := by
    intro l
    induction l with
    | nil => intro s h; exact .inl h
    | cons e l ih =>
      intro s h
      simp only [List.foldl_cons] at h
      rcases ih _ h with h1 | ⟨e', he', h2⟩
      · split at h1
        · rename_i hb
          simp only [Nat.testBit_or, Bool.or_eq_true, Nat.testBit_two_pow, decide_eq_true_eq] at h1
          rcases h1 with (h1 | h1) | h1
          · exact .inl h1
          · exact .inr ⟨e, by simp, hb, .inl h1⟩
          · exact .inr ⟨e, by simp, hb, .inr h1⟩
        · exact .inl h1
      · exact .inr ⟨e', by simp [he'], h2⟩
  rcases key _ 0 h with h1 | ⟨e, he, h2⟩
  · simp at h1
  · exact ⟨e, by simpa using he, h2⟩

theorem masks_spec {listed : Nat → Prop} (hclosed : ∀ j oj, ops[j]? = some oj → listed j → ∀ e ∈ oj.after, Region.binds .any e = true → listed e.on) :
    ∀ (l : List Oper) (acc : List Nat), (∀ j, l[j]? = ops[acc.length + j]?) →
      (∀ j, j < acc.length → ∀ oj, ops[j]? = some oj → (∀ e ∈ oj.after, Region.binds .any e = true → listed e.on) → ∀ b, (acc.getD j 0).testBit b = true → listed b) →
      ∀ j oj, ops[j]? = some oj → (∀ e ∈ oj.after, Region.binds .any e = true → listed e.on) → ∀ b, ((masks l acc).getD j 0).testBit b = true → listed b
  | [], acc, hl, hacc, j, oj, hj, hd, b, hb => by
    simp only [masks] at hb
    by_cases h : j < acc.length
    · exact hacc j h oj hj hd b hb
    · rw [List.getD_eq_getElem?_getD, List.getElem?_eq_none (by omega)] at hb
      simp at hb
  | o :: l, acc, hl, hacc, j, oj, hj, hd, b, hb => by
    have ho : ops[acc.length]? = some o := by have := hl 0; simpa using this.symm
    refine masks_spec hclosed l (acc ++ [maskOf acc o]) (fun i => by have := hl (i + 1); simp at this ⊢; rw [this]; congr 1; omega) (fun i hi oi hoi hdi b' hb' => ?_) j oj hj hd b hb
    simp only [List.length_append, List.length_cons, List.length_nil] at hi
    by_cases h : i < acc.length
    · rw [List.getD_eq_getElem?_getD, List.getElem?_append_left h, ← List.getD_eq_getElem?_getD] at hb'
      exact hacc i h oi hoi hdi b' hb'
    · have hi2 : i = acc.length := by omega
      subst hi2
      rw [List.getD_eq_getElem?_getD, List.getElem?_append_right (Nat.le_refl _)] at hb'
      simp only [Nat.sub_self, List.getElem?_cons_zero, Option.getD_some] at hb'
      have : oi = o := Option.some.inj (hoi.symm.trans ho)
      subst this
      obtain ⟨e, he, hbi, h2⟩ := maskOf_spec hb'
      have hon := hdi e he hbi
      rcases h2 with rfl | h2
      · exact hon
      · by_cases h3 : e.on < acc.length
        · have hex : ∃ oe, ops[e.on]? = some oe := by
            have hs : acc.length < ops.size := (Array.getElem?_eq_some_iff.1 ho).1
            exact ⟨ops[e.on], Array.getElem?_eq_getElem (by omega)⟩
          obtain ⟨oe, hoe⟩ := hex
          exact hacc e.on h3 oe hoe (hclosed e.on oe hoe hon) b' h2
        · rw [List.getD_eq_getElem?_getD, List.getElem?_eq_none (by omega)] at h2
          simp at h2

end
end Go.DI
