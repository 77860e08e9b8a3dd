/-
  All operations that touch no memory, in one theorem.
-/
import Derived.Test.YtapnkfkpkcajjaaFwF
namespace Go.DI
open Go Go.RowKit

def IK.pure : IK → Bool
  | .alloc _ | .box _ | .bslice _ _ _ _ | .load _ _ _ | .store _ _ _ | .convBS _ | .convSB _ | .mkslice _ _ _ _ _ | .app _ _ _ _ | .call _ _ | .callv _ _ => false
  | _ => true

section
variable {P : Program} {w : World} {o : Oper} {a : Act} {ρ : Ren} {nt : Nat} {σ : Slots} {m : Mem}

theorem list_rel (hs : SRel ρ nt σ a) : ∀ (xs : List Operand), xs.all argOk = true → LRel ρ (xs.map (ev σ)) (xs.map a.eval)
  | xs, h => LRel.map_ _ _ xs fun x hx => hs.ev (List.all_eq_true.1 h x hx)

theorem isI_flat {v : Value} (h : isI v = true) : flat1 v = true := by cases v <;> simp [isI] at h <;> rfl
theorem isI_rel {u v : Value} (h : VRel ρ u v) (hi : isI u = true) : v = u ∧ ∃ k n, u = .int k n := by
  cases u <;> simp [isI] at hi
  exact ⟨h.inv_int, _, _, rfl⟩

theorem minmax_rel (mx : Bool) (hs : SRel ρ nt σ a) : ∀ (xs : List Operand) (acc : Value), xs.all argOk = true → (xs.all fun y => isI (ev σ y)) = true →
    xs.foldl (fun acc y => if mx then maxI acc (a.eval y) else minI acc (a.eval y)) acc = xs.foldl (fun acc y => if mx then maxI acc (ev σ y) else minI acc (ev σ y)) acc
  | [], _, _, _ => rfl
  | x :: xs, acc, h1, h2 => by
    simp only [List.all_cons, Bool.and_eq_true] at h1 h2
    have := (isI_rel (hs.ev h1.1) h2.1).1
    simp only [List.foldl_cons, this]
    exact minmax_rel mx hs xs _ h1.2 h2.2
theorem minmax_int (mx : Bool) : ∀ (xs : List Operand) (acc : Value), isI acc = true → (xs.all fun y => isI (ev σ y)) = true →
    isI (xs.foldl (fun acc y => if mx then maxI acc (ev σ y) else minI acc (ev σ y)) acc) = true
  | [], _, h, _ => h
  | x :: xs, acc, h1, h2 => by
    simp only [List.all_cons, Bool.and_eq_true] at h2
    simp only [List.foldl_cons]
    refine minmax_int mx xs _ ?_ h2.2
    cases acc <;> simp [isI] at h1
    have h3 := h2.1
    cases hx : ev σ x <;> simp [hx, isI] at h3
    cases mx <;> simp [maxI, minI, isI]

theorem cellsLike_rel : ∀ (ks : List CK) (xs ys us vs : List Value), cellsLike ks xs ys = true → LRel ρ xs us → LRel ρ ys vs → us = xs ∧ vs = ys
  | [], [], [], us, vs, _, h1, h2 => by
    have e1 := h1.1; have e2 := h2.1
    simp at e1 e2
    exact ⟨List.length_eq_zero_iff.1 e1.symm, List.length_eq_zero_iff.1 e2.symm⟩
  | [], [], _ :: _, _, _, h, _, _ => by simp [cellsLike] at h
  | [], _ :: _, _, _, _, h, _, _ => by simp [cellsLike] at h
  | _ :: _, [], _, _, _, h, _, _ => by simp [cellsLike] at h
  | _ :: _, _ :: _, [], _, _, h, _, _ => by simp [cellsLike] at h
  | _ :: _, _ :: _, _ :: _, [], _, _, h, _ => by simp [LRel] at h
  | _ :: _, _ :: _, _ :: _, _ :: _, [], _, _, h => by simp [LRel] at h
  | k :: ks, x :: xs, y :: ys, u :: us, v :: vs, h, h1, h2 => by
    simp only [cellsLike, Bool.and_eq_true] at h
    obtain ⟨e1, e2⟩ := cellsLike_rel ks xs ys us vs h.2 ⟨by simpa using h1.1, fun i p q hp hq => h1.2 (i + 1) p q (by simpa using hp) (by simpa using hq)⟩ ⟨by simpa using h2.1, fun i p q hp hq => h2.2 (i + 1) p q (by simpa using hp) (by simpa using hq)⟩
    have r1 := h1.2 0 x u rfl rfl
    have r2 := h2.2 0 y v rfl rfl
    have hl := h.1
    have f1 : flat1 x = true ∧ flat1 y = true := by cases k <;> cases x <;> cases y <;> simp [cellLike] at hl <;> exact ⟨rfl, rfl⟩
    exact ⟨by rw [e1, r1.inv_flat f1.1], by rw [e2, r2.inv_flat f1.2]⟩

theorem eqAgg_sound {op : BinOp} {t yt : TypeId} {x y : Operand} {ks : List CK} (neg : Bool) (hop : o.op = .binOp op t x y yt) (he : op = if neg then .neq else .eql) (hf : eqFlat P 8 t = some ks)
    (hg : P.eqGuardType P.depth t = false) (hT : tyC P t = .agg) (hs : SRel ρ nt σ a) (hx : argOk x = true) (hy : argOk y = true) (hok : (IK.eqAgg neg ks x y).ok σ m = true) (id : Nat) :
    ∃ v', Yields P o a w v' w ∧ VRel ρ ((IK.eqAgg neg ks x y).val id σ m) v' := by
  simp only [IK.ok, Bool.and_eq_true] at hok
  obtain ⟨⟨h1, h2⟩, h3⟩ := hok
  have rx := hs.ev hx
  have ry := hs.ev hy
  simp only [IK.val]
  cases hu : ev σ x <;> simp only [hu, isAggV] at h1 <;> try cases h1
  cases hv : ev σ y <;> simp only [hv, isAggV] at h2 <;> try cases h2
  rename_i xs ys
  rw [hu] at rx
  rw [hv] at ry
  obtain ⟨us, e1, r1⟩ := rx.inv_agg
  obtain ⟨vs, e2, r2⟩ := ry.inv_agg
  simp only [hu, hv, vcells] at h3
  obtain ⟨g1, g2⟩ := cellsLike_rel ks _ _ _ _ h3 r1 r2
  have g1' := Array.toList_inj.1 g1
  have g2' := Array.toList_inj.1 g2
  subst g1'; subst g2'
  exact ⟨_, y_eqAgg neg hop he hf hg hT e1 e2 h3, .flat rfl⟩

theorem str_of {u v : Value} (h : VRel ρ u v) (hi : isStr u = true) : v = u ∧ ∃ s, u = .string s := by
  cases u <;> simp [isStr] at hi
  exact ⟨h.inv_string, _, rfl⟩

set_option maxHeartbeats 1000000 in
theorem pure_sound {k : IK} (hk : cKind P o = some k) (hp : k.pure = true) (hs : SRel ρ nt σ a) (hok : k.ok σ m = true) (id : Nat) :
    ∃ v', Yields P o a w v' w ∧ VRel ρ (k.val id σ m) v' := by
  unfold cKind at hk
  split at hk
  · -- move
    rename_i x hop
    split at hk <;> cases hk
    rename_i hx
    exact ⟨_, y_move hop, hs.ev hx⟩
  · rename_i x hop
    split at hk <;> cases hk
    rename_i hx
    exact ⟨_, y_assign hop, hs.ev hx⟩
  · -- pick
    rename_i c x y hop
    split at hk <;> cases hk
    rename_i hx
    simp only [Bool.and_eq_true] at hx
    have hc := hs.ev hx.1.1
    simp only [IK.ok] at hok
    cases hv : ev σ c <;> simp [hv, isB] at hok
    rw [hv] at hc
    refine ⟨_, y_pick hop hc.inv_bool, ?_⟩
    simp only [IK.val, hv, asB]
    split
    · exact hs.ev hx.1.2
    · exact hs.ev hx.2
  · -- nilCheck
    rename_i x hop
    split at hk <;> cases hk
    rename_i hx
    have hr := hs.ev hx
    simp only [IK.ok] at hok
    refine ⟨_, y_nilck hop ?_, hr⟩
    generalize ev σ x = u at hr hok
    generalize a.eval x = v at hr
    cases hr <;> simp_all [isNotNil]
    rename_i fn _ _ _ _ _ _ _ _; cases fn <;> simp_all
  · split at hk <;> cases hk; simp [IK.pure] at hp
  · split at hk <;> cases hk; simp [IK.pure] at hp
  · -- build
    rename_i t ps hop
    split at hk
    · rename_i fs z ht hz
      split at hk
      · rename_i qs hqs
        split at hk <;> cases hk
        rename_i hall
        obtain ⟨inf, zv, hi, hzv, hzl, hfl, hlen⟩ := tyZero_spec hz
        obtain ⟨g1, g2⟩ := fieldParts_spec _ _ hqs
        simp only [IK.ok] at hok
        let place : Nat → Option (Nat × Nat) := fun i => (fs[i]?).bind fun (f : Field) => (P.info? f.type).map fun inf => (f.offset, inf.size)
        obtain ⟨ds, h1, h2, h2o⟩ := fill_sound hs place ps.toList qs z zv.cells ⟨g1, fun i p q hp' hq => by
          obtain ⟨e1, e2, f, inf', e3, e4, e5, e6⟩ := g2 i p q hp' hq
          exact ⟨e1, e2, by simp [place, e3, e4, e5, e6]⟩⟩ (by rw [hzl]; exact LRel.flat ρ hfl) (fun v hv => flat_one (List.all_eq_true.1 hfl v hv)) hok
        refine ⟨_, y_build (cells := ds) hop hi hzv ht hall (fun pl hpl => by have : pl = place := funext hpl; rw [this]; exact h1), ?_⟩
        have := h2.agg h2o
        simp only [Array.toArray_toList] at this
        exact this
      · cases hk
    · rename_i n e z ht hz
      split at hk
      · rename_i sz hsz
        split at hk <;> cases hk
        rename_i qs hqs
        obtain ⟨inf, zv, hi, hzv, hzl, hfl, hlen⟩ := tyZero_spec hz
        obtain ⟨ie, he, rfl⟩ := tySize_spec hsz
        obtain ⟨g1, g2⟩ := elemParts_spec _ _ hqs
        simp only [IK.ok] at hok
        obtain ⟨ds, h1, h2, h2o⟩ := fill_sound hs (fun i => some (i * ie.size, ie.size)) ps.toList qs z zv.cells ⟨g1, fun i p q hp' hq => by
          obtain ⟨e1, e2, e3, e4⟩ := g2 i p q hp' hq
          exact ⟨e1, e2, by simp [e3, e4]⟩⟩ (by rw [hzl]; exact LRel.flat ρ hfl) (fun v hv => flat_one (List.all_eq_true.1 hfl v hv)) hok
        refine ⟨_, y_buildArr (cells := ds) hop hi hzv ht he h1, ?_⟩
        have := h2.agg h2o
        simp only [Array.toArray_toList] at this
        exact this
      · cases hk
    · cases hk
  · repeat (split at hk <;> try cases hk)
    simp [IK.pure] at hp
  · repeat (split at hk <;> try cases hk)
    simp [IK.pure] at hp
  · repeat (split at hk <;> try cases hk)
    simp [IK.pure] at hp
  · -- binOp
    rename_i op t x y yt hop
    split at hk
    · rename_i hx
      simp only [Bool.and_eq_true] at hx
      split at hk
      · rename_i hT
        split at hk
        · rename_i ks hf
          split at hk <;> cases hk
          rename_i hg
          exact eqAgg_sound false hop rfl hf (by simpa using hg) hT hs hx.1 hx.2 hok id
        · rename_i ks hf
          split at hk <;> cases hk
          rename_i hg
          exact eqAgg_sound true hop rfl hf (by simpa using hg) hT hs hx.1 hx.2 hok id
        · cases hk
      · cases hk
        exact y_binV hop (hs.ev hx.1) (hs.ev hx.2) hok
    · cases hk
  · -- unOp
    rename_i op t x hop
    split at hk <;> cases hk
    rename_i hx
    simp only [IK.ok] at hok
    have hr := hs.ev hx
    have he : a.eval x = ev σ x := by
      cases hu : ev σ x <;> cases op <;> simp [hu, unOk] at hok <;> rw [hu] at hr <;> first | exact hr.inv_int | exact hr.inv_bool
    refine ⟨_, y_un hop (by rw [he]; exact hok), ?_⟩
    simp only [IK.val, he]
    exact .flat (by cases hu : ev σ x <;> cases op <;> simp [hu, unOk] at hok <;> simp [unV, flat1])
  · -- convert
    rename_i s d x hop
    split at hk
    · rename_i k0 k hS hD
      split at hk <;> cases hk
      rename_i hx
      simp only [IK.ok] at hok
      obtain ⟨e, k', n, hv⟩ := isI_rel (hs.ev hx) hok
      refine ⟨_, y_convI hop hS hD (by rw [e, hv]), ?_⟩
      simp only [IK.val, hv, asI]
      exact .flat rfl
    · rename_i hS hD
      split at hk <;> cases hk
      rename_i hx
      simp only [IK.ok] at hok
      obtain ⟨e, b, hv⟩ := str_of (hs.ev hx) hok
      refine ⟨_, y_convId hop hS hD (by rw [e, hv]), ?_⟩
      simp only [IK.val, hv]
      exact .flat rfl
    · repeat (split at hk <;> try cases hk)
      simp [IK.pure] at hp
    · repeat (split at hk <;> try cases hk)
      simp [IK.pure] at hp
    · cases hk
  · repeat (split at hk <;> try cases hk)
    simp [IK.pure] at hp
  · -- slice
    rename_i t x lo hi mx hop
    split at hk
    · rename_i ht
      split at hk <;> cases hk
      rename_i hc
      simp only [Bool.and_eq_true, Option.isNone_iff_eq_none] at hc
      obtain ⟨⟨⟨hx, hlo⟩, hhi⟩, rfl⟩ := hc
      simp only [IK.ok, Bool.and_eq_true, decide_eq_true_eq] at hok
      obtain ⟨⟨⟨⟨⟨h1, h2⟩, h3⟩, h4⟩, h5⟩, h6⟩ := hok
      obtain ⟨e, b, hv⟩ := str_of (hs.ev hx) h1
      simp only [hv, lenOfV] at h5 h6
      refine ⟨_, y_sliceStr hop ht (by rw [e, hv]) (boundIs_of hs hlo h2 0 (by simpa using h4)) (boundIs_of hs hhi h3 b.size (by omega)) (by simp; omega) (by omega), ?_⟩
      simp only [IK.val, hv, asS, lenOfV]
      exact .flat rfl
    · rename_i e ht
      split at hk
      · rename_i z hz
        split at hk <;> cases hk
        rename_i hc
        simp only [Bool.and_eq_true, Option.isNone_iff_eq_none] at hc
        obtain ⟨⟨⟨hx, hlo⟩, hhi⟩, rfl⟩ := hc
        simp only [IK.ok, Bool.and_eq_true, decide_eq_true_eq] at hok
        obtain ⟨⟨⟨⟨⟨h1, h2⟩, h3⟩, h4⟩, h5⟩, h6⟩ := hok
        obtain ⟨inf, hi', rfl⟩ := tySize_spec hz
        have hr := hs.ev hx
        simp only [IK.val]
        cases hu : ev σ x <;> simp only [hu, slPlain] at h1 <;> try cases h1
        rename_i p len c
        rw [hu] at hr
        simp only [hu, lenOfV] at h5 h6
        cases p with
        | none =>
          simp only [Bool.and_eq_true, beq_iff_eq] at h1
          obtain ⟨rfl, rfl⟩ := h1
          have hv := hr.inv_flat rfl
          refine ⟨_, y_sliceS hop ht hi' hv (boundIs_of hs hlo h2 0 (by simpa using h4)) (boundIs_of hs hhi h3 0 (by omega)) (by simp; omega) (by omega), ?_⟩
          have e0 : (optI σ lo (0 : Nat)).toNat = 0 := by simp; omega
          have e1 : (optI σ hi (0 : Nat)).toNat = 0 := by simp; omega
          rw [e0, e1]
          simp only [slSub]
          exact .flat rfl
        | some ad =>
          simp only [Bool.and_eq_true, beq_iff_eq] at h1
          obtain ⟨l, a', cap, hl, hsp, hv, hn, hlc, hcm⟩ := hr.inv_slice
          obtain ⟨_, rfl⟩ := h1
          refine ⟨_, y_sliceS hop ht hi' hv (boundIs_of hs hlo h2 0 (by simpa using h4)) (boundIs_of hs hhi h3 len (by omega)) (by simp; omega) (by omega), ?_⟩
          simp only [slSub, lenOfV]
          have hz0 : optI σ lo ((0 : Nat) : Int) = optI σ lo 0 := rfl
          rw [hz0]
          generalize hL : (optI σ lo 0).toNat = L
          generalize hH : (optI σ hi (len : Int)).toNat = H
          have hLH : L ≤ H := by omega
          have hHl : H ≤ len := by omega
          by_cases hcl : cap = L
          · rw [if_pos hcl]
            exact .slice hl (.inl ⟨by omega, by omega⟩) (by omega) (by omega)
          · rw [if_neg hcl]
            rcases hn with ⟨rfl, rfl⟩ | ⟨rfl, hn⟩
            · omega
            · have ha : (⟨l.c, l.o + ad.off, none⟩ : Addr).add (L * inf.size) = ⟨l.c, l.o + (ad.off + L * inf.size), none⟩ := by
                unfold Addr.add
                split
                · rename_i h0; rw [h0]; simp
                · simp [Nat.add_assoc]
              simp only [Option.map_some, ha]
              refine .slice hl (.inr ⟨rfl, ?_⟩) (by omega) (by omega)
              have : L * inf.size + (cap - L) * inf.size = cap * inf.size := by rw [← Nat.add_mul]; congr 1; omega
              omega
      · cases hk
    · cases hk
  · -- fieldAddr
    rename_i s x i hop
    split at hk
    · rename_i fs ht
      split at hk
      · rename_i f hf
        split at hk
        · rename_i n hn
          split at hk <;> cases hk
          rename_i hc
          simp only [Bool.and_eq_true, decide_eq_true_eq] at hc
          obtain ⟨inf, hi, rfl⟩ := tySize_spec hn
          simp only [IK.ok] at hok
          have hr := hs.ev hc.1
          simp only [IK.val]
          cases hu : ev σ x <;> simp only [hu, ptrPlain] at hok <;> try cases hok
          rename_i p
          rw [hu] at hr
          cases p with
          | none => cases hok
          | some ad =>
            obtain ⟨l, hl, hsp, hv⟩ := hr.inv_ptr
            refine ⟨_, y_faddr hop ht hf hi hc.2 hv, ?_⟩
            simp only [ptrAdd, Nat.add_assoc]
            exact .ptr hl
        · cases hk
      · cases hk
    · cases hk
  · -- field
    rename_i t x i hop
    split at hk
    · rename_i fs ht
      split at hk
      · rename_i f hf
        split at hk
        · rename_i b n hb hn
          split at hk <;> cases hk
          rename_i hx
          obtain ⟨inf, hi, rfl⟩ := tySize_spec hn
          simp only [IK.ok, Bool.and_eq_true, Bool.or_eq_true, decide_eq_true_eq] at hok
          have hr := hs.ev hx
          simp only [IK.val]
          cases hu : ev σ x <;> simp only [hu, fieldOk] at hok <;> try cases hok.1
          rename_i xs
          rw [hu] at hr
          obtain ⟨ys, hv, hl⟩ := hr.inv_agg
          have hsz : ys.size = xs.size := by have := hl.1; simp at this; exact this.symm
          have hok1 : f.offset + inf.size ≤ xs.size := by simpa using hok.1
          refine ⟨_, y_field hop ht hf hi hb hv (by omega) hok.2, ?_⟩
          simp only [fieldV]
          cases b
          · simp only [Bool.false_eq_true, if_false]
            have h1 : inf.size = 1 := by simpa using hok.2
            have hlt : f.offset < xs.toList.length := by simp; omega
            obtain ⟨y, hy, hxy⟩ := hl.get (List.getElem?_eq_getElem hlt)
            rw [List.getD_eq_getElem?_getD, List.getD_eq_getElem?_getD, hy, List.getElem?_eq_getElem hlt]
            exact hxy
          · simp only [if_true]
            exact ((hl.drop _).take _).agg fun x hx => hr.agg_one x (List.mem_of_mem_drop (List.mem_of_mem_take hx))
        · cases hk
      · cases hk
    · cases hk
  · -- indexAddr
    rename_i t x i hop
    split at hk
    · rename_i e ht
      split at hk
      · rename_i z hz
        split at hk <;> cases hk
        rename_i hc
        simp only [Bool.and_eq_true] at hc
        obtain ⟨inf, hi, rfl⟩ := tySize_spec hz
        simp only [IK.ok, Bool.and_eq_true, decide_eq_true_eq] at hok
        obtain ⟨⟨⟨h1, h2⟩, h3⟩, h4⟩ := hok
        obtain ⟨e2, k, n, hn⟩ := isI_rel (hs.ev hc.2) h2
        have hr := hs.ev hc.1
        simp only [IK.val]
        cases hu : ev σ x <;> simp only [hu, slPlain] at h1 <;> try cases h1
        rename_i p len c
        rw [hu] at hr
        simp only [hn, asI] at h3 h4 ⊢
        simp only [hu, lenOfV] at h4
        cases p with
        | none =>
          simp only [Bool.and_eq_true, beq_iff_eq] at h1
          omega
        | some ad =>
          simp only [Bool.and_eq_true, beq_iff_eq] at h1
          obtain ⟨l, a', cap, hl, hsp, hv, hn', hlc, hcm⟩ := hr.inv_slice
          rcases hn' with ⟨rfl, rfl⟩ | ⟨rfl, hn'⟩
          · omega
          · refine ⟨_, y_iaddr hop ht hi hv (by rw [e2, hn]) h3 h4, ?_⟩
            simp only [slElem, Nat.add_assoc]
            exact .ptr hl
      · cases hk
    · rename_i len e ht
      split at hk
      · rename_i z hz
        split at hk <;> cases hk
        rename_i hc
        simp only [Bool.and_eq_true] at hc
        obtain ⟨inf, hi, rfl⟩ := tySize_spec hz
        simp only [IK.ok, Bool.and_eq_true, decide_eq_true_eq] at hok
        obtain ⟨⟨⟨h1, h2⟩, h3⟩, h4⟩ := hok
        obtain ⟨e2, k, n, hn⟩ := isI_rel (hs.ev hc.2) h2
        have hr := hs.ev hc.1
        simp only [IK.val]
        cases hu : ev σ x <;> simp only [hu, ptrPlain] at h1 <;> try cases h1
        rename_i p
        rw [hu] at hr
        simp only [hn, asI] at h3 h4 ⊢
        cases p with
        | none => cases h1
        | some ad =>
          obtain ⟨l, hl, hsp, hv⟩ := hr.inv_ptr
          refine ⟨_, y_iaddrA hop ht hi hv (by rw [e2, hn]) h3 h4, ?_⟩
          simp only [ptrAdd, Nat.add_assoc]
          exact .ptr hl
      · cases hk
    · cases hk
  · -- index
    rename_i t x i hop
    split at hk
    · rename_i ht
      split at hk <;> cases hk
      rename_i hc
      simp only [Bool.and_eq_true] at hc
      simp only [IK.ok, Bool.and_eq_true, decide_eq_true_eq] at hok
      obtain ⟨⟨⟨h1, h2⟩, h3⟩, h4⟩ := hok
      obtain ⟨e1, b, hv⟩ := str_of (hs.ev hc.1) h1
      obtain ⟨e2, k, n, hn⟩ := isI_rel (hs.ev hc.2) h2
      simp only [hn, asI] at h3 h4
      simp only [hv, lenOfV] at h4
      refine ⟨_, y_idxStr hop ht (by rw [e1, hv]) (by rw [e2, hn]) h3 h4, ?_⟩
      simp only [IK.val, hv, hn, asS, asI]
      exact .flat rfl
    · cases hk
  · -- extract
    rename_i x i hop
    split at hk <;> cases hk
    rename_i hx
    have hr := hs.ev hx
    simp only [IK.ok] at hok
    simp only [IK.val]
    cases hu : ev σ x <;> simp only [hu, tupOk] at hok <;> try cases hok
    rename_i xs
    rw [hu] at hr
    obtain ⟨ys, hv, hl⟩ := hr.inv_tuple
    have hi : i < xs.toList.length := by simpa using hok
    obtain ⟨y, hy, hxy⟩ := hl.get (List.getElem?_eq_getElem hi)
    have hi2 : i < ys.size := by have := hl.1; simp at this hi; omega
    refine ⟨_, y_ext hop hv hi2, ?_⟩
    rw [hv]
    simp only [tupAt]
    rw [List.getD_eq_getElem?_getD, List.getD_eq_getElem?_getD, hy, List.getElem?_eq_getElem hi]
    exact hxy
  · -- makeFunc
    rename_i fn x y hop
    split at hk <;> cases hk
    rename_i hc
    simp only [Bool.and_eq_true] at hc
    refine ⟨_, y_mkfunc hop, ?_⟩
    simp only [IK.val]
    have r1 := list_rel hs _ hc.1
    have r2 := list_rel hs _ hc.2
    exact .func (by simp) (by simpa using r1.2) (by simp) (by simpa using r2.2)
  · -- call
    rename_i c hop
    unfold cCall at hk
    split at hk
    · repeat (split at hk <;> try cases hk)
      simp [IK.pure] at hp
    · repeat (split at hk <;> try cases hk)
      simp [IK.pure] at hp
    · rename_i hc
      split at hk
      · rename_i x t ha hT
        split at hk
        · rename_i ht
          split at hk <;> cases hk
          rename_i hx
          simp only [IK.ok] at hok
          obtain ⟨e, b, hv⟩ := str_of (hs.ev hx) hok
          refine ⟨_, y_lenS hop hc ha hT ht (by rw [e, hv]), ?_⟩
          simp only [IK.val, hv, lenOfV]
          exact .flat rfl
        · rename_i e ht
          split at hk <;> cases hk
          rename_i hx
          simp only [IK.ok] at hok
          have hr := hs.ev hx
          simp only [IK.val]
          cases hu : ev σ x <;> simp only [hu, isSl] at hok <;> try cases hok
          rename_i p len c
          rw [hu] at hr
          have hv : ∃ q cap, a.eval x = .slice q len cap := by
            cases p with
            | none =>
              refine ⟨none, c, ?_⟩
              generalize a.eval x = v at hr
              cases hr with
              | flat h => rfl
            | some ad => obtain ⟨_, _, _, _, _, h, _⟩ := hr.inv_slice; exact ⟨_, _, h⟩
          obtain ⟨q, cap, hv⟩ := hv
          exact ⟨_, y_lenV hop hc ha hT ht hv, .flat rfl⟩
        · cases hk
      · cases hk
    · repeat (split at hk <;> try cases hk)
      simp [IK.pure] at hp
    · rename_i hc
      split at hk
      · rename_i x xs ha
        split at hk <;> cases hk
        rename_i hx
        simp only [Bool.and_eq_true] at hx
        simp only [IK.ok, Bool.and_eq_true] at hok
        have h1 := isI_rel (hs.ev hx.1) hok.1
        have h2 : ∀ y ∈ xs, isI (a.eval y) = true := fun y hy => by
          have := List.all_eq_true.1 hok.2 y hy
          rw [(isI_rel (hs.ev (List.all_eq_true.1 hx.2 y hy)) this).1]; exact this
        refine ⟨_, y_minmax (mx := false) hop (by simpa using hc) ha (by rw [h1.1]; exact hok.1) h2, ?_⟩
        rw [minmax_rel false hs xs _ hx.2 hok.2, h1.1]
        simp only [IK.val]
        have h3 := minmax_int (σ := σ) false xs (ev σ x) hok.1 hok.2
        exact .flat (isI_flat h3)
      · cases hk
    · rename_i hc
      split at hk
      · rename_i x xs ha
        split at hk <;> cases hk
        rename_i hx
        simp only [Bool.and_eq_true] at hx
        simp only [IK.ok, Bool.and_eq_true] at hok
        have h1 := isI_rel (hs.ev hx.1) hok.1
        have h2 : ∀ y ∈ xs, isI (a.eval y) = true := fun y hy => by
          have := List.all_eq_true.1 hok.2 y hy
          rw [(isI_rel (hs.ev (List.all_eq_true.1 hx.2 y hy)) this).1]; exact this
        refine ⟨_, y_minmax (mx := true) hop (by simpa using hc) ha (by rw [h1.1]; exact hok.1) h2, ?_⟩
        rw [minmax_rel true hs xs _ hx.2 hok.2, h1.1]
        simp only [IK.val]
        have h3 := minmax_int (σ := σ) true xs (ev σ x) hok.1 hok.2
        exact .flat (isI_flat h3)
      · cases hk
    · cases hk
  · cases hk
end
end Go.DI
