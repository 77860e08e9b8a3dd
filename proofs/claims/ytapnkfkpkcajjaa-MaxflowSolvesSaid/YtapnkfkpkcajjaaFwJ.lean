/-
  The operations that touch memory, continued: slices made, strings and bytes, append.
-/
import Derived.Test.YtapnkfkpkcajjaaFwI
namespace Go.DI
open Go Go.RowKit

theorem flat_get {z : List Value} (hz : 0 < z.length) : ∀ (n i : Nat), i < n * z.length → ((List.replicate n z).flatten)[i]? = z[i % z.length]?
  | 0, i, h => by omega
  | n + 1, i, h => by
    rw [List.replicate_succ, List.flatten_cons, List.getElem?_append]
    split
    · rename_i hi; rw [Nat.mod_eq_of_lt hi]
    · rename_i hi
      have h2 : i - z.length < n * z.length := by rw [Nat.add_mul] at h; omega
      rw [flat_get hz n _ h2, Nat.mod_eq_sub_mod (by omega : z.length ≤ i)]
theorem flat_len (z : List Value) (n : Nat) : ((List.replicate n z).flatten).length = n * z.length := by simp [List.length_flatten]
theorem made_eq {z : Array Value} (hz : 0 < z.size) (n : Nat) : (madeCells z (n * z.size)).toList = (List.replicate n z.toList).flatten := by
  apply List.ext_getElem?
  intro i
  by_cases hi : i < n * z.size
  · rw [flat_get (by simpa using hz) n i (by simpa using hi)]
    have hm : i % z.size < z.size := Nat.mod_lt _ hz
    simp [madeCells, hi, hm]
  · rw [List.getElem?_eq_none (by rw [Array.length_toList, size_madeCells]; omega), List.getElem?_eq_none (by rw [flat_len]; simp; omega)]

theorem flat_all {z : List Value} (p : Value → Prop) (h : ∀ v ∈ z, p v) (n : Nat) : ∀ v ∈ (List.replicate n z).flatten, p v := by
  intro v hv
  simp only [List.mem_flatten, List.mem_replicate] at hv
  obtain ⟨l, ⟨_, rfl⟩, h2⟩ := hv
  exact h v h2

section
variable {P : Program} {w : World} {o : Oper} {a : Act} {ρ : Ren} {nt : Nat} {σ : Slots} {m : Mem} {B id : Nat}

theorem s_bslice {t e : TypeId} {n : Nat} {ps : Array (Nat × Operand)} {z : List Value} {qs : List (Nat × Nat × Operand)} (hop : o.op = .buildSlice t n ps) (ht : P.underlying t = some (.slice e)) (hz : tyZero P e = some z)
    (hq : elemParts z.length ps.toList = some qs) (h0 : 0 < z.length) (h24 : n * z.length ≤ 16777216) (hs : SRel ρ nt σ a) (hm : MRel B ρ m w) (hB : B ≤ w.heap.size) (hid : id < m.next) (hr : ρ id = none)
    (hok : (IK.bslice z.length n (List.replicate n z).flatten qs).ok σ m = true) : Sound P o (.bslice z.length n (List.replicate n z).flatten qs) a B ρ σ m w id := by
  obtain ⟨inf, zv, hi, hzv, hzl, hfl, hlen⟩ := tyZero_spec hz
  obtain ⟨g1, g2⟩ := elemParts_spec _ _ hq
  have hzs : zv.cells.size = inf.size := by rw [← hlen, ← hzl]; simp
  have hcs : (madeCells zv.cells (n * zv.cells.size)).toList = (List.replicate n z).flatten := by rw [made_eq (by omega), hzl]
  have hfa : ∀ v ∈ (List.replicate n z).flatten, flat1 v = true := flat_all (fun v => flat1 v = true) (fun v hv => List.all_eq_true.1 hfl v hv) n
  simp only [IK.ok] at hok
  obtain ⟨ds, h1, h2, h2o⟩ := fill_sound hs (fun i => some (i * inf.size, inf.size)) ps.toList qs (List.replicate n z).flatten (madeCells zv.cells (n * zv.cells.size)) ⟨g1, fun i p q hp' hq => by
    obtain ⟨e1, e2, e3, e4⟩ := g2 i p q hp' hq
    exact ⟨e1, e2, by rw [e3, e4, hlen]⟩⟩ (by rw [hcs]; exact LRel.flat ρ (List.all_eq_true.2 hfa)) (fun v hv => flat_one (hfa v hv)) hok
  have hdl : (partsV (List.replicate n z).flatten σ qs).length = ds.size := by have := h2.1; simpa using this
  have hpl : (partsV (List.replicate n z).flatten σ qs).length = n * z.length := by
    have key : ∀ (qs : List (Nat × Nat × Operand)) (cs : List Value), (partsV cs σ qs).length = cs.length := by
      intro qs
      induction qs with
      | nil => intro cs; rfl
      | cons q qs ih => intro cs; obtain ⟨q1, q2, q3⟩ := q; simp only [partsV]; rw [ih, blit_length]
    rw [key, flat_len]
  refine ⟨.slice (some ⟨w.heap.size, 0, none⟩) n n, w.alloc (.cells ds e), updR ρ id ⟨w.heap.size, 0, ds.size⟩, .inl ?_, updR_le hr, updR_other, ?_, ?_, below_alloc rfl rfl rfl rfl hB _⟩
  · have h3 : (ps.map fun p => (p.1, a.eval p.2)).toList = ps.toList.map fun p => (p.1, a.eval p.2) := by simp
    have hzero : (zeroValue e).run P w = .ok zv w := by simp [zeroValue, typeInfo, hi, hzv]
    have h24' : ¬ (2 ^ 24 < n * inf.size) := by rw [← hlen]; omega
    rw [← h3] at h1
    simp only [execOp, hop, Instr.buildSlice, Sem.run_bind, run_underlying ht, sizeOf, typeInfo, run_program, hi, Sem.run_pure, Result.andThen_ok, gt_iff_lt, h24', if_false, Sem.run_ite]
    by_cases hn0 : n * inf.size = 0
    · have hmk : madeCells zv.cells (n * zv.cells.size) = #[] := by rw [hzs, hn0]; simp [madeCells]
      rw [hmk] at h1
      simp only [hn0, if_true]
      have hmk2 : Array.map (fun x => (#[] : Array Value)[x % (#[] : Array Value).size]!) (Array.range 0) = #[] := by simp
      rw [hmk2, h1]
      simp only [newRow, Sem.run_bind]
      rfl
    · have hmk : Array.map (fun x => zv.cells[x % zv.cells.size]!) (Array.range (n * inf.size)) = madeCells zv.cells (n * zv.cells.size) := by unfold madeCells; rw [hzs]
      simp only [hn0, if_false, hzero, Result.andThen_ok, hmk, h1]
      simp only [newRow, Sem.run_bind]
      rfl
  · exact .slice (off := 0) (l := ⟨w.heap.size, 0, ds.size⟩) (by simp [updR]) (.inr ⟨rfl, by show 0 + n * z.length ≤ ds.size; omega⟩) (Nat.le_refl _) (by have : n * 1 ≤ n * z.length := Nat.mul_le_mul_left _ h0; unfold maxLen; omega)
  · simp only [IK.mem]
    exact hm.newBlock rfl hB hid hr (by omega) (Nat.le_refl _) (cells_list h2 h2o) (fun i _ => by simp)

theorem s_mkslice {t e : TypeId} {inf : TypeInfo} {z : List Value} {l c : Operand} (hop : o.op = .makeSlice t l c) (ht : P.underlying t = some (.slice e)) (hz : tyZero P e = some z) (hi : P.info? e = some inf) (hl : argOk l = true) (hc : argOk c = true)
    (hs : SRel ρ nt σ a) (hm : MRel B ρ m w) (hB : B ≤ w.heap.size) (hid : id < m.next) (hr : ρ id = none)
    (hok : (IK.mkslice z.length inf.bytes z l c).ok σ m = true) : Sound P o (.mkslice z.length inf.bytes z l c) a B ρ σ m w id := by
  obtain ⟨inf', zv, hi', hzv, hzl, hfl, hlen⟩ := tyZero_spec hz
  rw [hi] at hi'; cases hi'
  have hzs : zv.cells.size = inf.size := by rw [← hlen, ← hzl]; simp
  simp only [IK.ok, Bool.and_eq_true, decide_eq_true_eq] at hok
  obtain ⟨⟨⟨⟨⟨⟨h1, h2⟩, h3⟩, h4⟩, h5⟩, h6⟩, h7⟩ := hok
  obtain ⟨e1, kl, L, hL⟩ := isI_rel (hs.ev hl) h1
  obtain ⟨e2, kc, C, hC⟩ := isI_rel (hs.ev hc) h2
  simp only [hL, hC, asI] at h3 h4 h5 h6
  have hrun := run_make (P := P) w t e inf zv ht hi hzv kl kc L C h3 h4 (by rw [Int.mul_comm]; omega) h6
  have hfa : ∀ v ∈ (List.replicate L.toNat z).flatten, flat1 v = true := flat_all (fun v => flat1 v = true) (fun v hv => List.all_eq_true.1 hfl v hv) _
  have hle : L.toNat * z.length ≤ C.toNat * z.length := Nat.mul_le_mul_right _ (by omega)
  refine ⟨_, _, updR ρ id ⟨w.heap.size, 0, C.toNat * z.length⟩, .inl (by
    simp only [execOp, hop, e1, e2, hL, hC, Sem.run_bind, hrun, Result.andThen_ok]; rfl), updR_le hr, updR_other, ?_, ?_, below_alloc rfl rfl rfl rfl hB _⟩
  · simp only [IK.val, hL, asI]
    exact .slice (off := 0) (l := ⟨w.heap.size, 0, C.toNat * z.length⟩) (by simp [updR]) (.inr ⟨by simp, by simp⟩) (by omega) (by unfold maxLen; omega)
  · simp only [IK.mem, hL, asI]
    refine hm.newBlock rfl hB hid hr (by rw [flat_len]; exact hle) (by rw [size_madeCells, hlen]; exact Nat.le_refl _) (fun i v hv => ?_) (fun i _ => by simp)
    have hi2 : i < L.toNat * z.length := by have := (List.getElem?_eq_some_iff.1 hv).1; rwa [flat_len] at this
    refine ⟨flat_one (hfa v (List.mem_of_getElem? hv)), v, ?_, .flat (hfa v (List.mem_of_getElem? hv))⟩
    have h8 : (madeCells zv.cells (C.toNat * inf.size)).toList = (List.replicate C.toNat z).flatten := by rw [← hzs, made_eq (by omega), hzl]
    rw [← Array.getElem?_toList, h8, flat_get h7 _ _ (by omega)]
    rw [flat_get h7 _ _ hi2] at hv
    exact hv

/-! strings and bytes -/
theorem push_toBytes : ∀ (ns : List Int) (acc : ByteArray), ns.foldl (fun r n => r.push (UInt8.ofNat n.toNat)) acc = acc ++ ⟨(ns.map fun n => UInt8.ofNat n.toNat).toArray⟩
  | [], acc => by
    simp only [List.foldl_nil, List.map_nil]
    apply ByteArray.ext
    simp
  | n :: ns, acc => by
    simp only [List.foldl_cons, List.map_cons]
    rw [push_toBytes ns]
    apply ByteArray.ext
    simp [ByteArray.push]

theorem s_convBS {s d e : TypeId} {x : Operand} (hop : o.op = .convert s d x) (hS : P.underlying s = some (.slice e)) (hD : P.underlying d = some .string) (hE : P.underlying e = some (.int .u8)) (hx : argOk x = true)
    (hs : SRel ρ nt σ a) (hm : MRel B ρ m w) (hok : (IK.convBS x).ok σ m = true) : Sound P o (.convBS x) a B ρ σ m w id := by
  simp only [IK.ok, Bool.and_eq_true] at hok
  obtain ⟨h1, h2⟩ := hok
  have hr := hs.ev hx
  have conv : ∀ v, a.eval x = v → (∃ p l c, v = .slice p l c) → ∀ b : ByteArray, (Conv.bytesToString v).run P w = .ok (.string b) w → Yields P o a w (.string b) w := by
    intro v hv ⟨p, l, c, hp⟩ b hb
    subst hp
    refine .inl ?_
    cases p <;> simp [execOp, hop, hv, convert, underlying, hS, hD, hE, hb]
  cases hu : ev σ x <;> simp only [hu, sliceOk] at h1 <;> try cases h1
  rename_i p len c
  rw [hu] at hr
  refine ⟨.string (toBytes (sliceCells m 1 (ev σ x))), w, ρ, ?_, RenLe.refl ρ, fun _ _ => rfl, .flat rfl, hm, Below.refl _ _⟩
  cases p with
  | none =>
    have hv := hr.inv_flat (by simpa [flat1] using h1)
    refine conv _ hv ⟨_, _, _, rfl⟩ _ ?_
    simp only [Conv.bytesToString, hu, sliceCells, toBytes]
    rfl
  | some ad =>
    simp only [Bool.and_eq_true, Option.isNone_iff_eq_none, beq_iff_eq] at h1
    obtain ⟨⟨hsp, hc1⟩, h1⟩ := h1
    split at h1
    · rename_i y hy
      simp only [Nat.mul_one, decide_eq_true_eq] at h1
      obtain ⟨l, a', cap, hl, _, hv, hn, hlc, hcm⟩ := hr.inv_slice
      refine conv _ hv ⟨_, _, _, rfl⟩ _ ?_
      simp only [hu, sliceCells, Nat.mul_one] at h2 ⊢
      obtain ⟨ds, r1, r2, r3, r4⟩ := hm.cells hy hl h1
      have hds : ∃ ns : List Int, ds = ns.map (Value.int .u8) ∧ cellsAt m ad.block ad.off len = ns.map (Value.int .u8) := by
        have gen : ∀ (us vs : List Value), us.all isU8 = true → LRel ρ us vs → ∃ ns : List Int, vs = ns.map (Value.int .u8) ∧ us = ns.map (Value.int .u8) := by
          intro us
          induction us with
          | nil => intro vs _ h; have := h.1; simp at this; exact ⟨[], by simp [List.length_eq_zero_iff.1 this.symm], rfl⟩
          | cons u us ih =>
            intro vs ha h
            cases vs with
            | nil => have := h.1; simp at this
            | cons v vs =>
              simp only [List.all_cons, Bool.and_eq_true] at ha
              obtain ⟨ns, g1, g2⟩ := ih vs ha.2 ⟨by simpa using h.1, fun i p q hp hq => h.2 (i + 1) p q (by simpa using hp) (by simpa using hq)⟩
              have h0 := h.2 0 u v rfl rfl
              have hu8 := ha.1
              cases u <;> simp [isU8] at hu8
              rename_i k n
              cases k <;> simp at hu8
              exact ⟨n :: ns, by simp [g1, h0.inv_int], by simp [g2]⟩
        exact gen _ _ h2 r1
      obtain ⟨ns, hns, hns2⟩ := hds
      subst hns
      rcases hn with ⟨rfl, rfl⟩ | ⟨rfl, hn⟩
      · have hn0 : ns = [] := by simp at r2; exact r2
        subst hn0
        have := run_bytesToString (P := P) w a' 0 0 [] (by simp [loadCells, loadCellsFrom])
        rw [this, hns2]
        rfl
      · have hload := run_loadCells_list (P := P) w ⟨l.c, l.o + ad.off, none⟩ _ r3
        rw [r2] at hload
        rw [run_bytesToString w _ len cap ns (by rw [hload]), push_toBytes, hns2]
        congr 2
        apply ByteArray.ext
        simp [toBytes, byteOf, Function.comp_def]
    · cases h1

end
end Go.DI
