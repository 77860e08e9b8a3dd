/-
  append, and a string made into bytes.
-/
import Derived.Test.YtapnkfkpkcajjaaFwJ
namespace Go.DI
open Go Go.RowKit

section
variable {P : Program} {w : World} {o : Oper} {a : Act} {ρ : Ren} {nt : Nat} {σ : Slots} {m : Mem} {B id : Nat}

theorem run_append_zero (t ty e : TypeId) (i : TypeInfo) (ht : P.underlying t = some (.slice e)) (hi : P.info? e = some i) (base q : Option Addr) (sLen sCap c : Nat) (hc : sLen ≤ sCap) :
    (Builtin.append_ #[t, t] ty #[.slice base sLen sCap, .slice q 0 c]).run P w = .ok (.slice base sLen sCap) w := by
  have hf : (Builtin.firstCells i.size 0 (.slice q 0 c)).run P w = .ok #[] w := by cases q <;> simp [Builtin.firstCells, loadCells, loadCellsFrom]
  cases base <;> simp [Builtin.append_, run_underlying ht, sizeOf, typeInfo, hi, Builtin.lenOf, hc, hf, storeCells]

theorem run_append_fit (t ty e : TypeId) (i : TypeInfo) (ht : P.underlying t = some (.slice e)) (hi : P.info? e = some i) (c o sLen sCap : Nat) (ad : Addr) (n cp : Nat) (news : List Value) (hl : news.length = n * i.size)
    (hnews : ∀ (j : Nat) u, news[j]? = some u → w.cell? (ad.add j) = some u) (h1 : ∀ u ∈ news, u.oneCell' = true) (hroom : sLen + n ≤ sCap)
    (hcell : ∀ j, j < news.length → (w.cell? ⟨c, o + sLen * i.size + j, none⟩).isSome = true) (hfr : ∀ j, j < news.length → w.frozen? ⟨c, o + sLen * i.size + j, none⟩ = false) :
    (Builtin.append_ #[t, t] ty #[.slice (some ⟨c, o, none⟩) sLen sCap, .slice (some ad) n cp]).run P w = .ok (.slice (some ⟨c, o, none⟩) (sLen + n) sCap) (w.setCells c (o + sLen * i.size) news) := by
  have hf := run_firstCells_some (P := P) w i.size n ad n cp news hl hnews
  have hst := run_storeCells_cells (P := P) c (o + sLen * i.size) news 0 w (by simpa using hcell) (by simpa using hfr) h1
  simp only [Nat.add_zero] at hst
  simp [Builtin.append_, run_underlying ht, sizeOf, typeInfo, hi, Builtin.lenOf, hroom, hf, addr_add, hst]

theorem y_app {c : Call} {x y : Operand} {t : TypeId} {u v r : Value} {w' : World} (hop : o.op = .call c) (hc : c.callee = .builtin .append) (ha : c.args.toList = [x, y]) (hT : c.argTypes.toList = [t, t])
    (hx : a.eval x = u) (hy : a.eval y = v) (h : (Builtin.append_ #[t, t] o.type #[u, v]).run P w = .ok r w') : Yields P o a w r w' := by
  refine .inl ?_
  have ha' : c.args = #[x, y] := by rw [← Array.toArray_toList (xs := c.args), ha]
  have hT' : c.argTypes = #[t, t] := by rw [← Array.toArray_toList (xs := c.argTypes), hT]
  simp [execOp, hop, resolve, hc, ha', hT', invoke, builtin, hx, hy, h]

theorem sliceOk_spec {z : Nat} {v : Value} (h : sliceOk m z v = true) : v = .slice none 0 0 ∨ ∃ b off len x, v = .slice (some ⟨b, off, none⟩) len z ∧ m.get b = some x ∧ off + len * z ≤ x.cells.length := by
  unfold sliceOk at h
  split at h
  · simp only [Bool.and_eq_true, beq_iff_eq] at h
    obtain ⟨rfl, rfl⟩ := h
    exact .inl rfl
  · rename_i ad l c
    simp only [Bool.and_eq_true, Option.isNone_iff_eq_none, beq_iff_eq] at h
    obtain ⟨⟨hsp, rfl⟩, h⟩ := h
    split at h
    · rename_i x hx
      obtain ⟨b, off, sp⟩ := ad
      simp only at hsp hx h
      subst hsp
      exact .inr ⟨b, off, l, x, rfl, hx, by simpa using h⟩
    · cases h
  · cases h

theorem s_app {c : Call} {x y : Operand} {t e : TypeId} {inf : TypeInfo} {z : List Value} (hop : o.op = .call c) (hc : c.callee = .builtin .append) (ha : c.args.toList = [x, y]) (hT : c.argTypes.toList = [t, t])
    (ht : P.underlying t = some (.slice e)) (hi : P.info? e = some inf) (hz : tyZero P e = some z) (hx : argOk x = true) (hy : argOk y = true)
    (hs : SRel ρ nt σ a) (hm : MRel B ρ m w) (hB : B ≤ w.heap.size) (hid : id < m.next) (hr : ρ id = none)
    (hok : (IK.app inf.size inf.bytes x y).ok σ m = true) : Sound P o (.app inf.size inf.bytes x y) a B ρ σ m w id := by
  obtain ⟨inf', zv, hi', hzv, hzl, hfl, hlen⟩ := tyZero_spec hz
  rw [hi] at hi'; cases hi'
  have hzs : zv.cells.size = inf.size := by rw [← hlen, ← hzl]; simp
  simp only [IK.ok, Bool.and_eq_true, decide_eq_true_eq] at hok
  obtain ⟨⟨⟨⟨⟨h1, h2⟩, h3⟩, h4⟩, h5⟩, h6⟩ := hok
  have rx := hs.ev hx
  have ry := hs.ev hy
  -- the source
  have hyv : ∃ q cy, a.eval y = .slice q (sliceLen (ev σ y)) cy := by
    rcases sliceOk_spec h3 with e1 | ⟨b, off, len, yb, e1, _, _⟩
    · rw [e1] at ry; exact ⟨none, 0, by rw [e1]; exact ry.inv_flat rfl⟩
    · rw [e1] at ry; obtain ⟨_, _, _, _, _, g, _⟩ := ry.inv_slice; exact ⟨_, _, by rw [e1]; exact g⟩
  obtain ⟨q, cy, hyv⟩ := hyv
  have hxv : ∃ p cx, a.eval x = .slice p (sliceLen (ev σ x)) cx ∧ sliceLen (ev σ x) ≤ cx := by
    rcases sliceOk_spec h1 with e1 | ⟨b, off, len, yb, e1, _, _⟩
    · rw [e1] at rx; exact ⟨none, 0, by rw [e1]; exact rx.inv_flat rfl, by rw [e1]; exact Nat.le_refl _⟩
    · rw [e1] at rx; obtain ⟨_, _, _, _, _, g, _, g2, _⟩ := rx.inv_slice; exact ⟨_, _, by rw [e1]; exact g, by rw [e1]; exact g2⟩
  by_cases hn : sliceLen (ev σ y) = 0
  · obtain ⟨p, cx, hxv, hle⟩ := hxv
    rw [hn] at hyv
    refine ⟨a.eval x, w, ρ, ?_, RenLe.refl ρ, fun _ _ => rfl, by simpa only [IK.val, hn, if_true] using rx, by simpa only [IK.mem, hn, if_true] using hm, Below.refl _ _⟩
    rw [hxv]
    exact y_app hop hc ha hT hxv hyv (run_append_zero t _ e inf ht hi _ _ _ _ _ hle)
  · -- something to append
    rcases sliceOk_spec h3 with e1 | ⟨by_, offy, leny, yb, ey, hyb, hyl⟩
    · rw [e1] at hn; exact absurd rfl hn
    rw [ey] at ry
    obtain ⟨ly, ay', capy, hly, _, hyv, hny, hlcy, _⟩ := ry.inv_slice
    replace hly : ρ by_ = some ly := hly
    replace hny : (capy = 0 ∧ leny = 0) ∨ (ay' = ⟨ly.c, ly.o + offy, none⟩ ∧ offy + capy * inf.size ≤ ly.n) := hny
    have hleny : sliceLen (ev σ y) = leny := by rw [ey]; rfl
    have hyc : sliceCells m inf.size (ev σ y) = cellsAt m by_ offy (leny * inf.size) := by rw [ey]; rfl
    rw [hleny] at hn h5 h6
    obtain ⟨news, n1, n2, n3, n4⟩ := hm.cells hyb hly hyl
    rcases hny with ⟨_, h0⟩ | ⟨rfl, _⟩
    · omega
    have hval : (IK.app inf.size inf.bytes x y).val id σ m = .slice (some ⟨id, 0, none⟩) (sliceLen (ev σ x) + leny) inf.size := by simp only [IK.val, hleny, hn, if_false]
    have hmem : (IK.app inf.size inf.bytes x y).mem id σ m = (kill m (ev σ x)).put id (some ⟨sliceCells m inf.size (ev σ x) ++ cellsAt m by_ offy (leny * inf.size), true⟩) := by simp only [IK.mem, hleny, hn, if_false, hyc]
    -- the new block, wherever the old one was
    have grown : ∀ (old : Nat) (olds : List Value) (m0 : Mem), MRel B ρ m0 w → id < m0.next → LRel ρ (sliceCells m inf.size (ev σ x)) olds → (∀ v ∈ sliceCells m inf.size (ev σ x), oneC v = true) → olds.length = sliceLen (ev σ x) * inf.size →
        old < sliceLen (ev σ x) + leny →
        VRel (updR ρ id ⟨w.heap.size, 0, grownCap w (sliceLen (ev σ x) + leny) old e * inf.size⟩) (.slice (some ⟨id, 0, none⟩) (sliceLen (ev σ x) + leny) inf.size) (.slice (some ⟨w.heap.size, 0, none⟩) (sliceLen (ev σ x) + leny) (grownCap w (sliceLen (ev σ x) + leny) old e)) ∧
        MRel B (updR ρ id ⟨w.heap.size, 0, grownCap w (sliceLen (ev σ x) + leny) old e * inf.size⟩) (m0.put id (some ⟨sliceCells m inf.size (ev σ x) ++ cellsAt m by_ offy (leny * inf.size), true⟩))
          (w.drew.alloc (.cells (olds.toArray ++ news.toArray ++ Builtin.zeroCells zv.cells (grownCap w (sliceLen (ev σ x) + leny) old e - (sliceLen (ev σ x) + leny))) e)) := by
      intro old olds m0 hm0 hid0 ho ho1 hol hold
      have hge := grownCap_ge w (sliceLen (ev σ x) + leny) old e
      have hcm : grownCap w (sliceLen (ev σ x) + leny) old e ≤ maxLen := grownCap_le_maxLen w _ old e (by unfold maxLen; omega)
      refine ⟨.slice (off := 0) (l := ⟨w.heap.size, 0, grownCap w (sliceLen (ev σ x) + leny) old e * inf.size⟩) (by simp [updR]) (.inr ⟨by simp, by simp⟩) hge hcm, ?_⟩
      have hsz : (olds.toArray ++ news.toArray ++ Builtin.zeroCells zv.cells (grownCap w (sliceLen (ev σ x) + leny) old e - (sliceLen (ev σ x) + leny))).size = grownCap w (sliceLen (ev σ x) + leny) old e * inf.size := by
        simp only [Array.size_append, List.size_toArray, size_zeroCells, hzs, hol, n2, ← Nat.add_mul]
        congr 1
        omega
      have hl12 : LRel ρ (sliceCells m inf.size (ev σ x) ++ cellsAt m by_ offy (leny * inf.size)) (olds ++ news) := ho.append n1
      refine hm0.newBlock (w1 := w.drew) rfl hB hid0 hr ?_ (by rw [hsz]; exact Nat.le_refl _) (fun i v hv => ?_) (fun i _ => by simp)
      · rw [hl12.1, List.length_append, hol, n2, ← Nat.add_mul]
        exact Nat.mul_le_mul_right _ hge
      · obtain ⟨u, hu, huv⟩ := hl12.get hv
        refine ⟨?_, u, ?_, huv⟩
        · have : v ∈ sliceCells m inf.size (ev σ x) ++ cellsAt m by_ offy (leny * inf.size) := List.mem_of_getElem? hv
          rcases List.mem_append.1 this with h | h
          · exact ho1 v h
          · obtain ⟨l', hl', q1, q2, q3⟩ := hm.live by_ yb hyb
            simp only [cellsAt, hyb] at h
            obtain ⟨j, hj, hjv⟩ := List.getElem_of_mem (List.mem_of_mem_drop (List.mem_of_mem_take h))
            exact (q2 j v (by rw [List.getElem?_eq_getElem hj, hjv])).1
        · rw [Array.getElem?_append_left (by
            have := (List.getElem?_eq_some_iff.1 hu).1
            simpa using this)]
          simpa using hu
    rcases sliceOk_spec h1 with ex | ⟨b, off, len, xb, ex, hxb, hxl⟩
    · -- nil
      rw [ex] at rx
      have hxv := rx.inv_flat rfl
      have hl0 : sliceLen (ev σ x) = 0 := by rw [ex]; rfl
      have hc0 : sliceCells m inf.size (ev σ x) = [] := by rw [ex]; rfl
      obtain ⟨g1, g2⟩ := grown 0 [] m hm hid (by rw [hc0]; exact LRel.nil ρ) (by rw [hc0]; simp) (by rw [hl0]; simp) (by omega)
      simp only [hl0, Nat.zero_add] at g1 g2 h5 h6
      have hrun := run_append_nil (P := P) w t o.type e inf zv ht hi hzv ⟨ly.c, ly.o + offy, none⟩ leny capy news n2 n3 (by omega) (by omega) (by omega)
      refine ⟨_, _, updR ρ id ⟨w.heap.size, 0, grownCap w leny 0 e * inf.size⟩, y_app hop hc ha hT hxv hyv hrun, updR_le hr, updR_other, ?_, ?_, below_alloc (w := w) (w1 := w.drew) rfl rfl rfl rfl hB _⟩
      · rw [hval, hl0, Nat.zero_add]; exact g1
      · rw [hmem, ex]
        simpa only [kill, sliceCells, List.nil_append, Array.empty_append, ex] using g2
    · -- a slice of the call's own
      rw [ex] at rx
      obtain ⟨l, a', cap, hl, _, hxv, hnx, hlc, hcm⟩ := rx.inv_slice
      replace hl : ρ b = some l := hl
      replace hnx : (cap = 0 ∧ len = 0) ∨ (a' = ⟨l.c, l.o + off, none⟩ ∧ off + cap * inf.size ≤ l.n) := hnx
      have hl0 : sliceLen (ev σ x) = len := by rw [ex]; rfl
      have hc0 : sliceCells m inf.size (ev σ x) = cellsAt m b off (len * inf.size) := by rw [ex]; rfl
      have hown : xb.own = true := by simpa [ex, sliceOwn, hxb] using h2
      obtain ⟨l', hl', q1, q2, q3⟩ := hm.live b xb hxb
      rw [hl] at hl'; cases hl'
      obtain ⟨olds, o1, o2, o3, o4⟩ := hm.cells hxb hl hxl
      have hone : ∀ v ∈ cellsAt m b off (len * inf.size), oneC v = true := by
        intro v hv
        simp only [cellsAt, hxb] at hv
        obtain ⟨j, hj, hjv⟩ := List.getElem_of_mem (List.mem_of_mem_drop (List.mem_of_mem_take hv))
        exact (q2 j v (by rw [List.getElem?_eq_getElem hj, hjv])).1
      have hk : kill m (ev σ x) = m.put b none := by rw [ex]; rfl
      rw [hl0] at h5 h6
      by_cases hroom : len + leny ≤ cap
      · -- there is room
        rcases hnx with ⟨h0, _⟩ | ⟨rfl, hnx⟩
        · omega
        have hmul : (len + leny) * inf.size ≤ cap * inf.size := Nat.mul_le_mul_right _ hroom
        rw [Nat.add_mul] at hmul
        have hrun := run_append_fit (P := P) (w := w) t o.type e inf ht hi l.c (l.o + off) len cap ⟨ly.c, ly.o + offy, none⟩ leny capy news n2 n3 n4 hroom
          (fun j hj => by
            have := ((q3 hown).2 (off + len * inf.size + j) (by rw [n2] at hj; omega)).1
            rwa [show l.o + (off + len * inf.size + j) = l.o + off + len * inf.size + j by omega] at this)
          (fun j hj => by
            have := ((q3 hown).2 (off + len * inf.size + j) (by rw [n2] at hj; omega)).2
            rwa [show l.o + (off + len * inf.size + j) = l.o + off + len * inf.size + j by omega] at this)
        refine ⟨_, _, updR ρ id ⟨l.c, l.o + off, l.n - off⟩, y_app hop hc ha hT hxv hyv hrun, updR_le hr, updR_other, ?_, ?_, below_setCells (q3 hown).1 _ _ _⟩
        · rw [hval, hl0]
          exact .slice (off := 0) (l := ⟨l.c, l.o + off, l.n - off⟩) (by simp [updR]) (.inr ⟨by simp, by show 0 + cap * inf.size ≤ l.n - off; omega⟩) hroom hcm
        · rw [hmem, hk, hc0]
          have hl12 : LRel ρ (cellsAt m b off (len * inf.size) ++ cellsAt m by_ offy (leny * inf.size)) (olds ++ news) := o1.append n1
          have hin : ∀ j (hj : j < news.length), (w.setCells l.c (l.o + off + len * inf.size) news).cell? ⟨l.c, l.o + off + len * inf.size + j, none⟩ = some news[j] := fun j hj =>
            World.cell?_setCells_in l.c news (l.o + off + len * inf.size) w (fun i hi' => by
              have := ((q3 hown).2 (off + len * inf.size + i) (by rw [n2] at hi'; omega)).1
              rwa [show l.o + (off + len * inf.size + i) = l.o + off + len * inf.size + i by omega] at this) j hj
          have hout : ∀ i, i < len * inf.size ∨ len * inf.size + news.length ≤ i → (w.setCells l.c (l.o + off + len * inf.size) news).cell? ⟨l.c, l.o + off + i, none⟩ = w.cell? ⟨l.c, l.o + off + i, none⟩ := fun i hi' =>
            World.cell?_setCells_out _ _ _ _ _ (fun _ _ => by show l.o + off + i < _ ∨ _ ≤ l.o + off + i; omega)
          refine (hm.kill b).adopt (by rw [Mem.put_next]; exact hid) hr (fun b' x' l' hx' hl' => ?_) (by rw [setCells_heap]; exact Nat.le_refl _) (by rw [setCells_heap]; exact hm.inb b l hl) (q3 hown).1 (fun ad _ hne => ⟨World.cell?_setCells_out _ _ _ _ _ (fun h _ => absurd h hne), World.frozen?_setCells _ _ _ _ _⟩) ?_ (fun i v hv => ?_) (fun i hi' => ?_)
          · rw [Mem.get_put] at hx'
            split at hx'
            · split at hx' <;> cases hx'
            · rename_i hne
              exact Ne.symm (hm.excl b xb b' x' l l' hxb hown hx' (Ne.symm hne) hl hl')
          · rw [hl12.1, List.length_append, o2, n2]; omega
          · obtain ⟨u, hu, huv⟩ := hl12.get hv
            have hmem' : v ∈ cellsAt m b off (len * inf.size) ++ cellsAt m by_ offy (leny * inf.size) := List.mem_of_getElem? hv
            refine ⟨?_, u, ?_, huv⟩
            · rcases List.mem_append.1 hmem' with h | h
              · exact hone v h
              · obtain ⟨l', hl', p1, p2, p3⟩ := hm.live by_ yb hyb
                simp only [cellsAt, hyb] at h
                obtain ⟨j, hj, hjv⟩ := List.getElem_of_mem (List.mem_of_mem_drop (List.mem_of_mem_take h))
                exact (p2 j v (by rw [List.getElem?_eq_getElem hj, hjv])).1
            · rw [List.getElem?_append] at hu
              split at hu
              · rename_i hlt
                rw [o2] at hlt
                rw [hout i (.inl hlt)]
                have := o3 i u hu
                rwa [addr_add] at this
              · rename_i hlt
                rw [o2] at hlt hu
                have hj : i - len * inf.size < news.length := (List.getElem?_eq_some_iff.1 hu).1
                have := hin _ hj
                rw [show l.o + off + len * inf.size + (i - len * inf.size) = l.o + off + i by omega] at this
                rw [this]
                rw [List.getElem?_eq_getElem hj] at hu
                exact hu
          · have hq := (q3 hown).2 (off + i) (by omega)
            rw [← Nat.add_assoc] at hq
            refine ⟨?_, by rw [World.frozen?_setCells]; exact hq.2⟩
            by_cases hi2 : i < len * inf.size ∨ len * inf.size + news.length ≤ i
            · rw [hout i hi2]; exact hq.1
            · have hj : i - len * inf.size < news.length := by omega
              have := hin _ hj
              rw [show l.o + off + len * inf.size + (i - len * inf.size) = l.o + off + i by omega] at this
              rw [this]; rfl
      · -- it grows
        obtain ⟨g1, g2⟩ := grown cap olds (m.put b none) (hm.kill b) (by rw [Mem.put_next]; exact hid) (by rw [hc0]; exact o1) (by rw [hc0]; exact hone) (by rw [hl0]; exact o2) (by omega)
        rw [hl0] at g1 g2
        have holds : ∀ (j : Nat) v, olds[j]? = some v → w.cell? (a'.add j) = some v := by
          intro j v hv
          rcases hnx with ⟨_, h0⟩ | ⟨rfl, _⟩
          · subst h0
            simp at o2
            rw [o2] at hv
            simp at hv
          · exact o3 j v hv
        have hrun := run_append_grow (P := P) w t o.type e inf zv ht hi hzv a' len cap olds o2 holds ⟨ly.c, ly.o + offy, none⟩ leny capy news n2 n3 (by omega) (by omega) (growslice_fits (by omega) h5)
        refine ⟨_, _, updR ρ id ⟨w.heap.size, 0, grownCap w (len + leny) cap e * inf.size⟩, y_app hop hc ha hT hxv hyv hrun, updR_le hr, updR_other, ?_, ?_, below_alloc (w := w) (w1 := w.drew) rfl rfl rfl rfl hB _⟩
        · rw [hval, hl0]; exact g1
        · rw [hmem, hk]; exact g2

end
end Go.DI
