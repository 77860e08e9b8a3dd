/-
  All operations that touch no memory, in one theorem.
  The memory: what a load reads, and what a store, a new block and an append leave.
  The operations that touch memory: loads, stores, new blocks, make.
  The operations that touch memory, continued: slices made, strings and bytes, append.
  append, and a string made into bytes.
  A string made into bytes.
-/
import Derived.Test.YtkpifdkccdndcaaGreatFwBF
namespace Go.DI
open Go Go.RowKit

def IK.pure : IK → Bool
  | .alloc _ | .box _ | .bslice _ _ _ _ | .load _ _ _ | .sliceA _ _ _ | .store _ _ _ | .convBS _ | .convSB _ | .mkslice _ _ _ _ _ | .app _ _ _ _ | .call _ _ | .callv _ _ | .icall _ _ _ | .mkmap | .mlook _ _ _ _ _ | .mput _ _ _ _ => false
  | _ => true

section
variable {P : Program} {w : World} {o : Oper} {a : Act} {ρ : Ren} {nt : Nat} {σ : Slots} {m : Mem}

theorem list_rel (hs : SRel ρ nt σ a) : ∀ (xs : List Operand), xs.all argOk = true → LRel ρ (xs.map (ev σ)) (xs.map a.eval)
  | xs, h => LRel.map_ _ _ xs fun x hx => hs.ev (List.all_eq_true.1 h x hx)

theorem isI_flat {v : Value} (h : isI v = true) : flat1 v = true := by cases v <;> simp [isI] at h <;> rfl
theorem isI_rel {u v : Value} (h : VRel ρ u v) (hi : isI u = true) : v = u ∧ ∃ k n, u = .int k n := by
  cases u <;> simp [isI] at hi
  exact ⟨h.inv_int, _, _, rfl⟩

theorem minmax_rel (mx : Bool) (hs : SRel ρ nt σ a) : ∀ (xs : List Operand) (acc : Value), xs.all argOk = true → (xs.all fun y => isI (ev σ y)) = true →
    xs.foldl (fun acc y => if mx then maxI acc (a.eval y) else minI acc (a.eval y)) acc = xs.foldl (fun acc y => if mx then maxI acc (ev σ y) else minI acc (ev σ y)) acc
  | [], _, _, _ => rfl
  | x :: xs, acc, h1, h2 => by
    simp only [List.all_cons, Bool.and_eq_true] at h1 h2
    have := (isI_rel (hs.ev h1.1) h2.1).1
    simp only [List.foldl_cons, this]
    exact minmax_rel mx hs xs _ h1.2 h2.2
theorem minmax_int (mx : Bool) : ∀ (xs : List Operand) (acc : Value), isI acc = true → (xs.all fun y => isI (ev σ y)) = true →
    isI (xs.foldl (fun acc y => if mx then maxI acc (ev σ y) else minI acc (ev σ y)) acc) = true
  | [], _, h, _ => h
  | x :: xs, acc, h1, h2 => by
    simp only [List.all_cons, Bool.and_eq_true] at h2
    simp only [List.foldl_cons]
    refine minmax_int mx xs _ ?_ h2.2
    cases acc <;> simp [isI] at h1
    have h3 := h2.1
    cases hx : ev σ x <;> simp [hx, isI] at h3
    cases mx <;> simp [maxI, minI, isI]

theorem cellsLike_rel : ∀ (ks : List CK) (xs ys us vs : List Value), cellsLike ks xs ys = true → LRel ρ xs us → LRel ρ ys vs → us = xs ∧ vs = ys
  | [], [], [], us, vs, _, h1, h2 => by
    have e1 := h1.1; have e2 := h2.1
    simp at e1 e2
    exact ⟨List.length_eq_zero_iff.1 e1.symm, List.length_eq_zero_iff.1 e2.symm⟩
  | [], [], _ :: _, _, _, h, _, _ => by simp [cellsLike] at h
  | [], _ :: _, _, _, _, h, _, _ => by simp [cellsLike] at h
  | _ :: _, [], _, _, _, h, _, _ => by simp [cellsLike] at h
  | _ :: _, _ :: _, [], _, _, h, _, _ => by simp [cellsLike] at h
  | _ :: _, _ :: _, _ :: _, [], _, _, h, _ => by simp [LRel] at h
  | _ :: _, _ :: _, _ :: _, _ :: _, [], _, _, h => by simp [LRel] at h
  | k :: ks, x :: xs, y :: ys, u :: us, v :: vs, h, h1, h2 => by
    simp only [cellsLike, Bool.and_eq_true] at h
    obtain ⟨e1, e2⟩ := cellsLike_rel ks xs ys us vs h.2 ⟨by simpa using h1.1, fun i p q hp hq => h1.2 (i + 1) p q (by simpa using hp) (by simpa using hq)⟩ ⟨by simpa using h2.1, fun i p q hp hq => h2.2 (i + 1) p q (by simpa using hp) (by simpa using hq)⟩
    have r1 := h1.2 0 x u rfl rfl
    have r2 := h2.2 0 y v rfl rfl
    have hl := h.1
    have f1 : flat1 x = true ∧ flat1 y = true := by cases k <;> cases x <;> cases y <;> simp [cellLike] at hl <;> exact ⟨rfl, rfl⟩
    exact ⟨by rw [e1, r1.inv_flat f1.1], by rw [e2, r2.inv_flat f1.2]⟩

theorem eqAgg_sound {op : BinOp} {t yt : TypeId} {x y : Operand} {ks : List CK} (neg : Bool) (hop : o.op = .binOp op t x y yt) (he : op = if neg then .neq else .eql) (hf : eqFlat P 8 t = some ks)
    (hg : P.eqGuardType P.depth t = false) (hT : tyC P t = .agg) (hs : SRel ρ nt σ a) (hx : argOk x = true) (hy : argOk y = true) (hok : (IK.eqAgg neg ks x y).ok σ m = true) (id : Nat) :
    ∃ v', Yields P o a w v' w ∧ VRel ρ ((IK.eqAgg neg ks x y).val id σ m) v' := by
  simp only [IK.ok, Bool.and_eq_true] at hok
  obtain ⟨⟨h1, h2⟩, h3⟩ := hok
  have rx := hs.ev hx
  have ry := hs.ev hy
  simp only [IK.val]
  cases hu : ev σ x <;> simp only [hu, isAggV] at h1 <;> try cases h1
  cases hv : ev σ y <;> simp only [hv, isAggV] at h2 <;> try cases h2
  rename_i xs ys
  rw [hu] at rx
  rw [hv] at ry
  obtain ⟨us, e1, r1⟩ := rx.inv_agg
  obtain ⟨vs, e2, r2⟩ := ry.inv_agg
  simp only [hu, hv, vcells] at h3
  obtain ⟨g1, g2⟩ := cellsLike_rel ks _ _ _ _ h3 r1 r2
  have g1' := Array.toList_inj.1 g1
  have g2' := Array.toList_inj.1 g2
  subst g1'; subst g2'
  exact ⟨_, y_eqAgg neg hop he hf hg hT e1 e2 h3, .flat rfl⟩

theorem str_of {u v : Value} (h : VRel ρ u v) (hi : isStr u = true) : v = u ∧ ∃ s, u = .string s := by
  cases u <;> simp [isStr] at hi
  exact ⟨h.inv_string, _, rfl⟩

set_option maxHeartbeats 1000000 in
theorem pure_sound {k : IK} (hk : cKind P o = some k) (hp : k.pure = true) (hs : SRel ρ nt σ a) (hok : k.ok σ m = true) (id : Nat) :
    ∃ v', Yields P o a w v' w ∧ VRel ρ (k.val id σ m) v' := by
  unfold cKind at hk
  split at hk
  · -- move
    rename_i x hop
    split at hk <;> cases hk
    rename_i hx
    exact ⟨_, y_move hop, hs.ev hx⟩
  · rename_i x hop
    split at hk <;> cases hk
    rename_i hx
    exact ⟨_, y_assign hop, hs.ev hx⟩
  · -- pick
    rename_i c x y hop
    split at hk <;> cases hk
    rename_i hx
    simp only [Bool.and_eq_true] at hx
    have hc := hs.ev hx.1.1
    simp only [IK.ok] at hok
    cases hv : ev σ c <;> simp [hv, isB] at hok
    rw [hv] at hc
    refine ⟨_, y_pick hop hc.inv_bool, ?_⟩
    simp only [IK.val, hv, asB]
    split
    · exact hs.ev hx.1.2
    · exact hs.ev hx.2
  · -- nilCheck
    rename_i x hop
    split at hk <;> cases hk
    rename_i hx
    have hr := hs.ev hx
    simp only [IK.ok] at hok
    refine ⟨_, y_nilck hop ?_, hr⟩
    generalize ev σ x = u at hr hok
    generalize a.eval x = v at hr
    cases hr <;> simp_all [isNotNil]
    rename_i fn _ _ _ _ _ _ _ _; cases fn <;> simp_all
  · split at hk <;> cases hk; simp [IK.pure] at hp
  · split at hk <;> cases hk; simp [IK.pure] at hp
  · -- build
    rename_i t ps hop
    split at hk
    · rename_i fs z ht hz
      split at hk
      · rename_i qs hqs
        split at hk <;> cases hk
        rename_i hall
        obtain ⟨inf, zv, hi, hzv, hzl, hfl, hlen⟩ := tyZero_spec hz
        obtain ⟨g1, g2⟩ := fieldParts_spec _ _ hqs
        simp only [IK.ok] at hok
        let place : Nat → Option (Nat × Nat) := fun i => (fs[i]?).bind fun (f : Field) => (P.info? f.type).map fun inf => (f.offset, inf.size)
        obtain ⟨ds, h1, h2, h2o⟩ := fill_sound hs place ps.toList qs z zv.cells ⟨g1, fun i p q hp' hq => by
          obtain ⟨e1, e2, f, inf', e3, e4, e5, e6⟩ := g2 i p q hp' hq
          exact ⟨e1, e2, by simp [place, e3, e4, e5, e6]⟩⟩ (by rw [hzl]; exact LRel.flat ρ hfl) (fun v hv => flat_one (List.all_eq_true.1 hfl v hv)) hok
        refine ⟨_, y_build (cells := ds) hop hi hzv ht hall (fun pl hpl => by have : pl = place := funext hpl; rw [this]; exact h1), ?_⟩
        have := h2.agg h2o
        simp only [Array.toArray_toList] at this
        exact this
      · cases hk
    · rename_i n e z ht hz
      split at hk
      · rename_i sz hsz
        split at hk <;> cases hk
        rename_i qs hqs
        obtain ⟨inf, zv, hi, hzv, hzl, hfl, hlen⟩ := tyZero_spec hz
        obtain ⟨ie, he, rfl⟩ := tySize_spec hsz
        obtain ⟨g1, g2⟩ := elemParts_spec _ _ hqs
        simp only [IK.ok] at hok
        obtain ⟨ds, h1, h2, h2o⟩ := fill_sound hs (fun i => some (i * ie.size, ie.size)) ps.toList qs z zv.cells ⟨g1, fun i p q hp' hq => by
          obtain ⟨e1, e2, e3, e4⟩ := g2 i p q hp' hq
          exact ⟨e1, e2, by simp [e3, e4]⟩⟩ (by rw [hzl]; exact LRel.flat ρ hfl) (fun v hv => flat_one (List.all_eq_true.1 hfl v hv)) hok
        refine ⟨_, y_buildArr (cells := ds) hop hi hzv ht he h1, ?_⟩
        have := h2.agg h2o
        simp only [Array.toArray_toList] at this
        exact this
      · cases hk
    · cases hk
  · repeat (split at hk <;> try cases hk)
    simp [IK.pure] at hp
  · repeat (split at hk <;> try cases hk)
    simp [IK.pure] at hp
  · repeat (split at hk <;> try cases hk)
    simp [IK.pure] at hp
  · -- binOp
    rename_i op t x y yt hop
    split at hk
    · rename_i hx
      simp only [Bool.and_eq_true] at hx
      split at hk
      · rename_i hT
        split at hk
        · rename_i ks hf
          split at hk <;> cases hk
          rename_i hg
          exact eqAgg_sound false hop rfl hf (by simpa using hg) hT hs hx.1 hx.2 hok id
        · rename_i ks hf
          split at hk <;> cases hk
          rename_i hg
          exact eqAgg_sound true hop rfl hf (by simpa using hg) hT hs hx.1 hx.2 hok id
        · cases hk
      · cases hk
        exact y_binV hop (hs.ev hx.1) (hs.ev hx.2) hok
    · cases hk
  · -- unOp
    rename_i op t x hop
    split at hk <;> cases hk
    rename_i hx
    simp only [IK.ok] at hok
    have hr := hs.ev hx
    have he : a.eval x = ev σ x := by
      cases hu : ev σ x <;> cases op <;> simp [hu, unOk] at hok <;> rw [hu] at hr <;> first | exact hr.inv_int | exact hr.inv_bool
    refine ⟨_, y_un hop (by rw [he]; exact hok), ?_⟩
    simp only [IK.val, he]
    exact .flat (by cases hu : ev σ x <;> cases op <;> simp [hu, unOk] at hok <;> simp [unV, flat1])
  · -- convert
    rename_i s d x hop
    split at hk
    · rename_i k0 k hS hD
      split at hk <;> cases hk
      rename_i hx
      simp only [IK.ok] at hok
      obtain ⟨e, k', n, hv⟩ := isI_rel (hs.ev hx) hok
      refine ⟨_, y_convI hop hS hD (by rw [e, hv]), ?_⟩
      simp only [IK.val, hv, asI]
      exact .flat rfl
    · rename_i hS hD
      split at hk <;> cases hk
      rename_i hx
      simp only [IK.ok] at hok
      obtain ⟨e, b, hv⟩ := str_of (hs.ev hx) hok
      refine ⟨_, y_convId hop hS hD (by rw [e, hv]), ?_⟩
      simp only [IK.val, hv]
      exact .flat rfl
    · repeat (split at hk <;> try cases hk)
      simp [IK.pure] at hp
    · repeat (split at hk <;> try cases hk)
      simp [IK.pure] at hp
    · cases hk
  · repeat (split at hk <;> try cases hk)
    simp [IK.pure] at hp
  · -- slice
    rename_i t x lo hi mx hop
    split at hk
    · rename_i ht
      split at hk <;> cases hk
      rename_i hc
      simp only [Bool.and_eq_true, Option.isNone_iff_eq_none] at hc
      obtain ⟨⟨⟨hx, hlo⟩, hhi⟩, rfl⟩ := hc
      simp only [IK.ok, Bool.and_eq_true, decide_eq_true_eq] at hok
      obtain ⟨⟨⟨⟨⟨h1, h2⟩, h3⟩, h4⟩, h5⟩, h6⟩ := hok
      obtain ⟨e, b, hv⟩ := str_of (hs.ev hx) h1
      simp only [hv, zqu] at h5 h6
      refine ⟨_, y_sliceStr hop ht (by rw [e, hv]) (boundIs_of hs hlo h2 0 (by simpa using h4)) (boundIs_of hs hhi h3 b.size (by omega)) (by simp; omega) (by omega), ?_⟩
      simp only [IK.val, hv, asS, zqu]
      exact .flat rfl
    · rename_i e ht
      split at hk
      · rename_i z hz
        split at hk
        · split at hk <;> cases hk
          rename_i hc
          simp only [Bool.and_eq_true] at hc
          obtain ⟨⟨hx, hlo⟩, hhi⟩ := hc
          simp only [IK.ok, Bool.and_eq_true, decide_eq_true_eq] at hok
          obtain ⟨⟨⟨⟨⟨h1, h2⟩, h3⟩, h4⟩, h5⟩, h6⟩ := hok
          obtain ⟨inf, hi', rfl⟩ := tySize_spec hz
          have hr := hs.ev hx
          simp only [IK.val]
          cases hu : ev σ x <;> simp only [hu, zqs] at h1 <;> try cases h1
          rename_i p len c
          rw [hu] at hr
          simp only [hu, zqu] at h5 h6
          cases p with
          | none =>
            simp only [Bool.and_eq_true, beq_iff_eq] at h1
            obtain ⟨rfl, rfl⟩ := h1
            have hv := hr.inv_flat rfl
            refine ⟨_, y_sliceS hop ht hi' hv (boundIs_of hs hlo h2 0 (by simpa using h4)) (boundIs_of hs hhi h3 0 (by omega)) (by simp; omega) (by omega), ?_⟩
            have e0 : (optI σ lo (0 : Nat)).toNat = 0 := by simp; omega
            have e1 : (optI σ hi (0 : Nat)).toNat = 0 := by simp; omega
            rw [e0, e1]
            simp only [zqv]
            exact .flat rfl
          | some ad =>
            simp only [Bool.and_eq_true, beq_iff_eq] at h1
            obtain ⟨l, a', cap, hl, hsp, hv, hn, hlc, hcm⟩ := hr.inv_slice
            obtain ⟨_, rfl⟩ := h1
            refine ⟨_, y_sliceS hop ht hi' hv (boundIs_of hs hlo h2 0 (by simpa using h4)) (boundIs_of hs hhi h3 len (by omega)) (by simp; omega) (by omega), ?_⟩
            simp only [zqv, zqu]
            have hz0 : optI σ lo ((0 : Nat) : Int) = optI σ lo 0 := rfl
            rw [hz0]
            generalize hL : (optI σ lo 0).toNat = L
            generalize hH : (optI σ hi (len : Int)).toNat = H
            have hLH : L ≤ H := by omega
            have hHl : H ≤ len := by omega
            by_cases hcl : cap = L
            · rw [if_pos hcl]
              exact .slice hl (.inl ⟨by omega, by omega⟩) (by omega) (by omega)
            · rw [if_neg hcl]
              rcases hn with ⟨rfl, rfl⟩ | ⟨rfl, hn⟩
              · omega
              · have ha : (⟨l.c, l.o + ad.off, none⟩ : Addr).add (L * inf.size) = ⟨l.c, l.o + (ad.off + L * inf.size), none⟩ := by
                  unfold Addr.add
                  split
                  · rename_i h0; rw [h0]; simp
                  · simp [Nat.add_assoc]
                simp only [Option.map_some, ha]
                refine .slice hl (.inr ⟨rfl, ?_⟩) (by omega) (by omega)
                have : L * inf.size + (cap - L) * inf.size = cap * inf.size := by rw [← Nat.add_mul]; congr 1; omega
                omega
        · rename_i mo
          split at hk
          · rename_i ho
            split at hk <;> cases hk
            rename_i hc
            simp only [Bool.and_eq_true] at hc
            obtain ⟨⟨⟨hx, hlo⟩, hhi⟩, hmo⟩ := hc
            simp only [IK.ok, Bool.and_eq_true, decide_eq_true_eq] at hok
            obtain ⟨⟨⟨⟨⟨⟨⟨h1, h2⟩, h3⟩, h4⟩, h5⟩, h6⟩, h7⟩, h8⟩ := hok
            obtain ⟨inf, hi', rfl⟩ := tySize_spec hz
            have hr := hs.ev hx
            simp only [IK.val]
            obtain ⟨eh, kh, ih, hih⟩ := isI_rel (hs.ev hhi) h3
            obtain ⟨em, km, im, him⟩ := isI_rel (hs.ev hmo) h4
            simp only [hih, him, asI] at h6 h7 h8 ⊢
            cases hu : ev σ x <;> simp only [hu, zqs] at h1 <;> try cases h1
            rename_i p len c
            rw [hu] at hr
            simp only [hu, zqu] at h8
            have hbl := boundIs_of hs hlo h2 0 (by simpa using h5)
            have hz0 : optI σ lo ((0 : Nat) : Int) = optI σ lo 0 := rfl
            rw [hz0] at hbl
            have hbh : ∃ (k : IntKind) (i : Int), a.eval ho = .int k i ∧ 0 ≤ i ∧ i.toNat = ih.toNat := ⟨kh, ih, by rw [eh, hih], by omega, rfl⟩
            have hbm : ∃ (k : IntKind) (i : Int), a.eval mo = .int k i ∧ 0 ≤ i ∧ i.toNat = im.toNat := ⟨km, im, by rw [em, him], by omega, rfl⟩
            cases p with
            | none =>
              simp only [Bool.and_eq_true, beq_iff_eq] at h1
              obtain ⟨rfl, rfl⟩ := h1
              have hv := hr.inv_flat rfl
              refine ⟨_, y_sliceM hop ht hi' hv hbl hbh hbm (by omega) (by omega) (by omega), ?_⟩
              have e0 : (optI σ lo 0).toNat = 0 := by omega
              have e1 : ih.toNat = 0 := by omega
              have e2 : im.toNat = 0 := by omega
              rw [e0, e1, e2]
              simp only [zqv]
              exact .flat rfl
            | some ad =>
              simp only [Bool.and_eq_true, beq_iff_eq] at h1
              obtain ⟨l, a', cap, hl, hsp, hv, hn, hlc, hcm⟩ := hr.inv_slice
              obtain ⟨_, rfl⟩ := h1
              refine ⟨_, y_sliceM hop ht hi' hv hbl hbh hbm (by omega) (by omega) (by omega), ?_⟩
              simp only [zqv]
              generalize hL : (optI σ lo 0).toNat = L
              generalize hH : ih.toNat = H
              generalize hMM : im.toNat = MM
              have hLH : L ≤ H := by omega
              have hHM : H ≤ MM := by omega
              have hMl : MM ≤ len := by omega
              by_cases hcl : MM = L
              · rw [if_pos hcl]
                exact .slice hl (.inl ⟨by omega, by omega⟩) (by omega) (by omega)
              · rw [if_neg hcl]
                rcases hn with ⟨rfl, rfl⟩ | ⟨rfl, hn⟩
                · omega
                · have ha : (⟨l.c, l.o + ad.off, none⟩ : Addr).add (L * inf.size) = ⟨l.c, l.o + (ad.off + L * inf.size), none⟩ := by
                    unfold Addr.add
                    split
                    · rename_i h0; rw [h0]; simp
                    · simp [Nat.add_assoc]
                  simp only [Option.map_some, ha]
                  refine .slice hl (.inr ⟨rfl, ?_⟩) (by omega) (by omega)
                  have h9 : L * inf.size + (MM - L) * inf.size = MM * inf.size := by rw [← Nat.add_mul]; congr 1; omega
                  have h10 : MM * inf.size ≤ cap * inf.size := Nat.mul_le_mul_right _ (by omega)
                  show ad.off + L * inf.size + (MM - L) * inf.size ≤ l.n
                  replace hn : ad.off + cap * inf.size ≤ l.n := hn
                  omega
          · cases hk
      · cases hk
    · (repeat' split at hk) <;> cases hk
      simp [IK.pure] at hp
    · cases hk
  · -- fieldAddr
    rename_i s x i hop
    split at hk
    · rename_i fs ht
      split at hk
      · rename_i f hf
        split at hk
        · rename_i n hn
          split at hk <;> cases hk
          rename_i hc
          simp only [Bool.and_eq_true, decide_eq_true_eq] at hc
          obtain ⟨inf, hi, rfl⟩ := tySize_spec hn
          simp only [IK.ok] at hok
          have hr := hs.ev hc.1
          simp only [IK.val]
          cases hu : ev σ x <;> simp only [hu, ptrPlain] at hok <;> try cases hok
          rename_i p
          rw [hu] at hr
          cases p with
          | none => cases hok
          | some ad =>
            obtain ⟨l, hl, hsp, hv⟩ := hr.inv_ptr
            refine ⟨_, y_faddr hop ht hf hi hc.2 hv, ?_⟩
            simp only [ptrAdd, Nat.add_assoc]
            exact .ptr hl
        · cases hk
      · cases hk
    · cases hk
  · -- field
    rename_i t x i hop
    split at hk
    · rename_i fs ht
      split at hk
      · rename_i f hf
        split at hk
        · rename_i b n hb hn
          split at hk <;> cases hk
          rename_i hx
          obtain ⟨inf, hi, rfl⟩ := tySize_spec hn
          simp only [IK.ok, Bool.and_eq_true, Bool.or_eq_true, decide_eq_true_eq] at hok
          have hr := hs.ev hx
          simp only [IK.val]
          cases hu : ev σ x <;> simp only [hu, fieldOk] at hok <;> try cases hok.1
          rename_i xs
          rw [hu] at hr
          obtain ⟨ys, hv, hl⟩ := hr.inv_agg
          have hsz : ys.size = xs.size := by have := hl.1; simp at this; exact this.symm
          have hok1 : f.offset + inf.size ≤ xs.size := by simpa using hok.1
          refine ⟨_, y_field hop ht hf hi hb hv (by omega) hok.2, ?_⟩
          simp only [fieldV]
          cases b
          · simp only [Bool.false_eq_true, if_false]
            have h1 : inf.size = 1 := by simpa using hok.2
            have hlt : f.offset < xs.toList.length := by simp; omega
            obtain ⟨y, hy, hxy⟩ := hl.get (List.getElem?_eq_getElem hlt)
            rw [List.getD_eq_getElem?_getD, List.getD_eq_getElem?_getD, hy, List.getElem?_eq_getElem hlt]
            exact hxy
          · simp only [if_true]
            exact ((hl.drop _).take _).agg fun x hx => hr.agg_one x (List.mem_of_mem_drop (List.mem_of_mem_take hx))
        · cases hk
      · cases hk
    · cases hk
  · -- indexAddr
    rename_i t x i hop
    split at hk
    · rename_i e ht
      split at hk
      · rename_i z hz
        split at hk <;> cases hk
        rename_i hc
        simp only [Bool.and_eq_true] at hc
        obtain ⟨inf, hi, rfl⟩ := tySize_spec hz
        simp only [IK.ok, Bool.and_eq_true, decide_eq_true_eq] at hok
        obtain ⟨⟨⟨h1, h2⟩, h3⟩, h4⟩ := hok
        obtain ⟨e2, k, n, hn⟩ := isI_rel (hs.ev hc.2) h2
        have hr := hs.ev hc.1
        simp only [IK.val]
        cases hu : ev σ x <;> simp only [hu, zqs] at h1 <;> try cases h1
        rename_i p len c
        rw [hu] at hr
        simp only [hn, asI] at h3 h4 ⊢
        simp only [hu, zqu] at h4
        cases p with
        | none =>
          simp only [Bool.and_eq_true, beq_iff_eq] at h1
          omega
        | some ad =>
          simp only [Bool.and_eq_true, beq_iff_eq] at h1
          obtain ⟨l, a', cap, hl, hsp, hv, hn', hlc, hcm⟩ := hr.inv_slice
          rcases hn' with ⟨rfl, rfl⟩ | ⟨rfl, hn'⟩
          · omega
          · refine ⟨_, y_iaddr hop ht hi hv (by rw [e2, hn]) h3 h4, ?_⟩
            simp only [zqt, Nat.add_assoc]
            exact .ptr hl
      · cases hk
    · rename_i len e ht
      split at hk
      · rename_i z hz
        split at hk <;> cases hk
        rename_i hc
        simp only [Bool.and_eq_true] at hc
        obtain ⟨inf, hi, rfl⟩ := tySize_spec hz
        simp only [IK.ok, Bool.and_eq_true, decide_eq_true_eq] at hok
        obtain ⟨⟨⟨h1, h2⟩, h3⟩, h4⟩ := hok
        obtain ⟨e2, k, n, hn⟩ := isI_rel (hs.ev hc.2) h2
        have hr := hs.ev hc.1
        simp only [IK.val]
        cases hu : ev σ x <;> simp only [hu, ptrPlain] at h1 <;> try cases h1
        rename_i p
        rw [hu] at hr
        simp only [hn, asI] at h3 h4 ⊢
        cases p with
        | none => cases h1
        | some ad =>
          obtain ⟨l, hl, hsp, hv⟩ := hr.inv_ptr
          refine ⟨_, y_iaddrA hop ht hi hv (by rw [e2, hn]) h3 h4, ?_⟩
          simp only [ptrAdd, Nat.add_assoc]
          exact .ptr hl
      · cases hk
    · cases hk
  · -- index
    rename_i t x i hop
    split at hk
    · rename_i ht
      split at hk <;> cases hk
      rename_i hc
      simp only [Bool.and_eq_true] at hc
      simp only [IK.ok, Bool.and_eq_true, decide_eq_true_eq] at hok
      obtain ⟨⟨⟨h1, h2⟩, h3⟩, h4⟩ := hok
      obtain ⟨e1, b, hv⟩ := str_of (hs.ev hc.1) h1
      obtain ⟨e2, k, n, hn⟩ := isI_rel (hs.ev hc.2) h2
      simp only [hn, asI] at h3 h4
      simp only [hv, zqu] at h4
      refine ⟨_, y_idxStr hop ht (by rw [e1, hv]) (by rw [e2, hn]) h3 h4, ?_⟩
      simp only [IK.val, hv, hn, asS, asI]
      exact .flat rfl
    · cases hk
  · -- extract
    rename_i x i hop
    split at hk <;> cases hk
    rename_i hx
    have hr := hs.ev hx
    simp only [IK.ok] at hok
    simp only [IK.val]
    cases hu : ev σ x <;> simp only [hu, tupOk] at hok <;> try cases hok
    rename_i xs
    rw [hu] at hr
    obtain ⟨ys, hv, hl⟩ := hr.inv_tuple
    have hi : i < xs.toList.length := by simpa using hok
    obtain ⟨y, hy, hxy⟩ := hl.get (List.getElem?_eq_getElem hi)
    have hi2 : i < ys.size := by have := hl.1; simp at this hi; omega
    refine ⟨_, y_ext hop hv hi2, ?_⟩
    rw [hv]
    simp only [tupAt]
    rw [List.getD_eq_getElem?_getD, List.getD_eq_getElem?_getD, hy, List.getElem?_eq_getElem hi]
    exact hxy
  · -- makeInterface
    rename_i t x hop
    split at hk
    · cases hk
    · rename_i d hni hd
      split at hk <;> cases hk
      rename_i hx
      refine ⟨.iface t (a.eval x), .inl ?_, .iface (hs.ev hx)⟩
      cases d <;> first | exact absurd rfl (hni _) | simp [execOp, hop, Instr.makeInterface, underlying, hd]
    · cases hk
  · -- typeAssert
    rename_i x t0 t ok hop
    split at hk
    · cases hk
    · rename_i d hni hd
      split at hk <;> cases hk
      rename_i hx
      simp only [Bool.and_eq_true, Bool.not_eq_true'] at hx
      obtain ⟨hx, rfl⟩ := hx
      have hr := hs.ev hx
      simp only [IK.ok] at hok
      simp only [IK.val]
      cases hu : ev σ x <;> simp only [hu, ifOk] at hok <;> try cases hok
      rename_i t' v
      have := of_decide_eq_true hok
      subst this
      rw [hu] at hr
      obtain ⟨y, hv, hy⟩ := hr.inv_iface
      refine ⟨y, .inl ?_, hy⟩
      cases d <;> first | exact absurd rfl (hni _) | simp [execOp, hop, Instr.typeAssert, underlying, hd, hv]
    · cases hk
  · repeat (split at hk <;> try cases hk)
    simp [IK.pure] at hp
  · repeat (split at hk <;> try cases hk)
    simp [IK.pure] at hp
  · repeat (split at hk <;> try cases hk)
    simp [IK.pure] at hp
  · -- makeFunc
    rename_i fn x y hop
    split at hk <;> cases hk
    rename_i hc
    simp only [Bool.and_eq_true] at hc
    refine ⟨_, y_mkfunc hop, ?_⟩
    simp only [IK.val]
    have r1 := list_rel hs _ hc.1
    have r2 := list_rel hs _ hc.2
    exact .func (by simp) (by simpa using r1.2) (by simp) (by simpa using r2.2)
  · -- call
    rename_i c hop
    unfold cCall at hk
    split at hk
    · split at hk <;> cases hk
      simp [IK.pure] at hp
    · repeat (split at hk <;> try cases hk)
      simp [IK.pure] at hp
    · repeat (split at hk <;> try cases hk)
      simp [IK.pure] at hp
    · rename_i hc
      split at hk
      · rename_i x t ha hT
        split at hk
        · rename_i ht
          split at hk <;> cases hk
          rename_i hx
          simp only [IK.ok] at hok
          obtain ⟨e, b, hv⟩ := str_of (hs.ev hx) hok
          refine ⟨_, y_lenS hop hc ha hT ht (by rw [e, hv]), ?_⟩
          simp only [IK.val, hv, zqu]
          exact .flat rfl
        · rename_i e ht
          split at hk <;> cases hk
          rename_i hx
          simp only [IK.ok] at hok
          have hr := hs.ev hx
          simp only [IK.val]
          cases hu : ev σ x <;> simp only [hu, isSl] at hok <;> try cases hok
          rename_i p len c
          rw [hu] at hr
          have hv : ∃ q cap, a.eval x = .slice q len cap := by
            cases p with
            | none =>
              refine ⟨none, c, ?_⟩
              generalize a.eval x = v at hr
              cases hr with
              | flat h => rfl
            | some ad => obtain ⟨_, _, _, _, _, h, _⟩ := hr.inv_slice; exact ⟨_, _, h⟩
          obtain ⟨q, cap, hv⟩ := hv
          exact ⟨_, y_lenV hop hc ha hT ht hv, .flat rfl⟩
        · cases hk
      · cases hk
    · repeat (split at hk <;> try cases hk)
      simp [IK.pure] at hp
    · rename_i hc
      split at hk
      · rename_i x xs ha
        split at hk <;> cases hk
        rename_i hx
        simp only [Bool.and_eq_true] at hx
        simp only [IK.ok, Bool.and_eq_true] at hok
        have h1 := isI_rel (hs.ev hx.1) hok.1
        have h2 : ∀ y ∈ xs, isI (a.eval y) = true := fun y hy => by
          have := List.all_eq_true.1 hok.2 y hy
          rw [(isI_rel (hs.ev (List.all_eq_true.1 hx.2 y hy)) this).1]; exact this
        refine ⟨_, y_minmax (mx := false) hop (by simpa using hc) ha (by rw [h1.1]; exact hok.1) h2, ?_⟩
        rw [minmax_rel false hs xs _ hx.2 hok.2, h1.1]
        simp only [IK.val]
        have h3 := minmax_int (σ := σ) false xs (ev σ x) hok.1 hok.2
        exact .flat (isI_flat h3)
      · cases hk
    · rename_i hc
      split at hk
      · rename_i x xs ha
        split at hk <;> cases hk
        rename_i hx
        simp only [Bool.and_eq_true] at hx
        simp only [IK.ok, Bool.and_eq_true] at hok
        have h1 := isI_rel (hs.ev hx.1) hok.1
        have h2 : ∀ y ∈ xs, isI (a.eval y) = true := fun y hy => by
          have := List.all_eq_true.1 hok.2 y hy
          rw [(isI_rel (hs.ev (List.all_eq_true.1 hx.2 y hy)) this).1]; exact this
        refine ⟨_, y_minmax (mx := true) hop (by simpa using hc) ha (by rw [h1.1]; exact hok.1) h2, ?_⟩
        rw [minmax_rel true hs xs _ hx.2 hok.2, h1.1]
        simp only [IK.val]
        have h3 := minmax_int (σ := σ) true xs (ev σ x) hok.1 hok.2
        exact .flat (isI_flat h3)
      · cases hk
    · cases hk
  · cases hk
end
end Go.DI
namespace Go.DI
open Go Go.RowKit

theorem oneC_eq (v : Value) : v.oneCell' = oneC v := by cases v <;> rfl

section
variable {P : Program} {w w' : World} {ρ : Ren} {m : Mem} {B : Nat}

def updR (ρ : Ren) (id : Nat) (l : Loc) : Ren := fun b => if b = id then some l else ρ b
theorem updR_le {id : Nat} {l : Loc} (h : ρ id = none) : RenLe ρ (updR ρ id l) := by
  intro b l' hb
  unfold updR
  split
  · rename_i e; rw [e, h] at hb; cases hb
  · exact hb

theorem addr_add (c o j : Nat) : (⟨c, o, none⟩ : Addr).add j = ⟨c, o + j, none⟩ := by
  unfold Addr.add; split <;> simp_all

/-- what the cells of a living block hold -/
theorem MRel.cells (hm : MRel B ρ m w) {b : Nat} {x : Blk} {l : Loc} (hg : m.get b = some x) (hl : ρ b = some l) {off n : Nat} (h : off + n ≤ x.cells.length) :
    ∃ ds : List Value, LRel ρ (cellsAt m b off n) ds ∧ ds.length = n ∧ (∀ j u, ds[j]? = some u → w.cell? ((⟨l.c, l.o + off, none⟩ : Addr).add j) = some u) ∧ (∀ u ∈ ds, u.oneCell' = true) := by
  obtain ⟨l', hl', hlen, hc, _⟩ := hm.live b x hg
  rw [hl] at hl'; cases hl'
  have key : ∀ j, j < n → ∃ v v', x.cells[off + j]? = some v ∧ oneC v = true ∧ w.cell? ⟨l.c, l.o + (off + j), none⟩ = some v' ∧ VRel ρ v v' := by
    intro j hj
    have hlt : off + j < x.cells.length := by omega
    obtain ⟨h1, v', h2, h3⟩ := hc (off + j) _ (List.getElem?_eq_getElem hlt)
    exact ⟨_, v', List.getElem?_eq_getElem hlt, h1, h2, h3⟩
  refine ⟨(List.range n).map fun j => (w.cell? ⟨l.c, l.o + (off + j), none⟩).getD undef, ⟨?_, ?_⟩, by simp, ?_, ?_⟩
  · simp [cellsAt, hg]; omega
  · intro i u v hu hv
    simp only [cellsAt, hg] at hu
    rw [List.getElem?_take] at hu
    split at hu
    · rename_i hi
      obtain ⟨v1, v2, g1, g2, g3, g4⟩ := key i hi
      rw [List.getElem?_drop, g1] at hu
      cases hu
      simp [hi, g3] at hv
      subst hv
      exact g4
    · cases hu
  · intro j u hu
    have hj : j < n := by have := (List.getElem?_eq_some_iff.1 hu).1; simpa using this
    obtain ⟨v1, v2, g1, g2, g3, g4⟩ := key j hj
    simp [hj, g3] at hu
    subst hu
    rw [addr_add, Nat.add_assoc]
    exact g3
  · intro u hu
    simp only [List.mem_map, List.mem_range] at hu
    obtain ⟨j, hj, rfl⟩ := hu
    obtain ⟨v1, v2, g1, g2, g3, g4⟩ := key j hj
    rw [g3]
    simp only [Option.getD_some, oneC_eq]
    rw [g4.oneC]; exact g2

theorem cellsAt_length {b : Nat} {x : Blk} (hg : m.get b = some x) {off n : Nat} (h : off + n ≤ x.cells.length) : (cellsAt m b off n).length = n := by
  simp [cellsAt, hg]; omega

/-- a new block of the abstract memory over cells that no living block uses -/
theorem MRel.adopt (hm : MRel B ρ m w) {id C O n : Nat} {cs : List Value} (hid : id < m.next) (hr : ρ id = none)
    (hfree : ∀ b x l, m.get b = some x → ρ b = some l → l.c ≠ C) (hsz : w.heap.size ≤ w'.heap.size) (hC : C < w'.heap.size) (hB : B ≤ C)
    (hsame : ∀ a : Addr, a.block < w.heap.size → a.block ≠ C → w'.cell? a = w.cell? a ∧ w'.frozen? a = w.frozen? a)
    (hobj : ∀ k, k < w.heap.size → k ≠ C → w'.heap[k]? = w.heap[k]?)
    (hlen : cs.length ≤ n) (hcs : ∀ i v, cs[i]? = some v → oneC v = true ∧ ∃ v', w'.cell? ⟨C, O + i, none⟩ = some v' ∧ VRel ρ v v')
    (hn : ∀ i, i < n → (w'.cell? ⟨C, O + i, none⟩).isSome = true ∧ w'.frozen? ⟨C, O + i, none⟩ = false) :
    MRel B (updR ρ id ⟨C, O, n⟩) (m.put id (some ⟨cs, true⟩)) w' := by
  have hle := updR_le (l := ⟨C, O, n⟩) hr
  refine ⟨fun b l hb => ?_, fun b l hb => ?_, fun b x hx => ?_, fun b x b' x' l l' h1 h2 h3 h4 h5 h6 => ?_, fun b es hb => ?_, fun b es hb => ?_⟩
  · unfold updR at hb
    split at hb
    · rename_i e; rw [e]; exact hid
    · exact hm.dom b l hb
  · unfold updR at hb
    split at hb
    · cases hb; exact hC
    · exact Nat.lt_of_lt_of_le (hm.inb b l hb) hsz
  · rw [Mem.get_put] at hx
    split at hx
    · rename_i e
      cases hx
      exact ⟨⟨C, O, n⟩, by simp [updR, e], hlen, fun i v hv => by obtain ⟨q1, v', q2, q3⟩ := hcs i v hv; exact ⟨q1, v', q2, q3.mono hle⟩, fun _ => ⟨hB, hn⟩⟩
    · obtain ⟨l, g1, g2, g3, g4⟩ := hm.live b x hx
      have hlb := hm.inb b l g1
      have hne := hfree b x l hx g1
      refine ⟨l, hle _ _ g1, g2, fun i v hv => ?_, fun ho => ⟨(g4 ho).1, fun i hi => ?_⟩⟩
      · obtain ⟨q1, v', q2, q3⟩ := g3 i v hv
        exact ⟨q1, v', by rw [(hsame _ hlb hne).1]; exact q2, q3.mono hle⟩
      · have := (g4 ho).2 i hi
        rw [(hsame ⟨l.c, l.o + i, none⟩ hlb hne).1, (hsame ⟨l.c, l.o + i, none⟩ hlb hne).2]; exact this
  · rw [Mem.get_put] at h1 h3
    unfold updR at h5 h6
    split at h1
    · rename_i e
      rw [if_neg (by rw [← e]; exact Ne.symm h4)] at h3
      rw [if_pos e] at h5
      rw [if_neg (by rw [← e]; exact Ne.symm h4)] at h6
      cases h5
      exact Ne.symm (hfree b' x' l' h3 h6)
    · rename_i e
      rw [if_neg e] at h5
      split at h3
      · rename_i e'
        rw [if_pos e'] at h6
        cases h6
        exact hfree b x l h1 h5
      · rename_i e'
        rw [if_neg e'] at h6
        exact hm.excl b x b' x' l l' h1 h2 h3 h4 h5 h6
  · obtain ⟨l, hl⟩ := hm.mdom b es hb
    exact ⟨l, hle _ _ hl⟩
  · obtain ⟨g1, g2⟩ := Mem.getM_get hb
    have hne : b ≠ id := fun e => by
      subst e
      obtain ⟨l, hl⟩ := hm.mdom b es g2
      rw [hr] at hl; cases hl
    rw [Mem.get_put, if_neg hne] at g1
    obtain ⟨l, es', ck, p1, p2, p3, p4⟩ := hm.maps b es (Mem.getM_of g1 g2)
    exact ⟨l, es', ck, hle _ _ p1, p2, by rw [hobj l.c (hm.inb b l p1) (hfree b _ l g1 p1)]; exact p3, p4.mono hle⟩

theorem MRel.kill (hm : MRel B ρ m w) (b : Nat) : MRel B ρ (m.put b none) w := by
  have hg : ∀ b' x, (m.put b none).get b' = some x → b' ≠ b ∧ m.get b' = some x := by
    intro b' x h
    rw [Mem.get_put] at h
    split at h
    · split at h <;> cases h
    · rename_i e; exact ⟨e, h⟩
  exact ⟨hm.dom, hm.inb, fun b' x hx => hm.live b' x (hg b' x hx).2, fun b1 x1 b2 x2 l1 l2 h1 h2 h3 => hm.excl b1 x1 b2 x2 l1 l2 (hg _ _ h1).2 h2 (hg _ _ h3).2, hm.mdom, fun b' es hb => by
    obtain ⟨g1, g2⟩ := Mem.getM_get hb
    exact hm.maps b' es (Mem.getM_of (hg _ _ g1).2 g2)⟩

theorem setCells_obj (b k : Nat) (hk : k ≠ b) : ∀ (vs : List Value) (o : Nat) (w : World), (w.setCells b o vs).heap[k]? = w.heap[k]?
  | [], _, _ => rfl
  | v :: vs, o, w => by rw [World.setCells, setCells_obj b k hk vs]; simp [World.setCell, Array.getElem?_modify, Ne.symm hk]
theorem setCells_heap (b : Nat) : ∀ (vs : List Value) (o : Nat) (w : World), (w.setCells b o vs).heap.size = w.heap.size
  | [], _, _ => rfl
  | v :: vs, o, w => by rw [World.setCells, setCells_heap b vs]; simp [World.setCell]
theorem below_setCells {B b : Nat} (hb : B ≤ b) : ∀ (vs : List Value) (o : Nat) (w : World), Below B w (w.setCells b o vs)
  | [], _, _ => Below.refl _ _
  | v :: vs, o, w => ((Below.refl B w).setCell (p := ⟨b, o, none⟩) hb v).trans (below_setCells hb vs _ _)

theorem blit_get : ∀ (vs : List Value) (off : Nat) (cs : List Value) (i : Nat), off + vs.length ≤ cs.length → (blit cs off vs)[i]? = if off ≤ i ∧ i < off + vs.length then vs[i - off]? else cs[i]?
  | [], off, cs, i, _ => by simp [blit]; intro h1 h2; omega
  | v :: vs, off, cs, i, h => by
    simp only [blit]
    simp only [List.length_cons] at h
    rw [blit_get vs (off + 1) (cs.set off v) i (by simp; omega), List.getElem?_set]
    by_cases h1 : off = i
    · subst h1
      rw [if_neg (by omega), if_pos rfl, if_pos (by omega), if_pos (by simp)]
      simp
    · by_cases h2 : off + 1 ≤ i ∧ i < off + 1 + vs.length
      · rw [if_pos h2, if_pos ⟨by omega, by simp; omega⟩, show i - off = (i - (off + 1)) + 1 by omega]
        simp
      · rw [if_neg h2, if_neg h1, if_neg (by simp; omega)]

/-- a store into a living block of the call's own -/
theorem MRel.store (hm : MRel B ρ m w) {b : Nat} {x : Blk} {l : Loc} (hg : m.get b = some x) (ho : x.own = true) (hl : ρ b = some l) {off : Nat} {cs us : List Value} (hr : LRel ρ cs us) (hone : ∀ v ∈ cs, oneC v = true)
    (h : off + cs.length ≤ x.cells.length) : MRel B ρ (m.put b (some ⟨blit x.cells off cs, x.own⟩)) (w.setCells l.c (l.o + off) us) := by
  have hb := Mem.get_lt hg
  have hlen := hr.1
  obtain ⟨l', hl', q1, q2, q3⟩ := hm.live b x hg
  rw [hl] at hl'; cases hl'
  have hother : ∀ b' x' l'', m.get b' = some x' → b' ≠ b → ρ b' = some l'' → l''.c ≠ l.c := fun b' x' l'' h1 h2 h3 => Ne.symm (hm.excl b x b' x' l l'' hg ho h1 (Ne.symm h2) hl h3)
  refine ⟨hm.dom, fun b' l' h' => by rw [setCells_heap]; exact hm.inb b' l' h', fun b' x' hx => ?_, fun b1 x1 b2 x2 l1 l2 h1 h2 h3 h4 h5 h6 => ?_, hm.mdom, fun b' es hb' => ?_⟩
  · rw [Mem.get_put] at hx
    split at hx
    · rename_i e
      cases hx
      subst e
      refine ⟨l, hl, by rw [blit_length]; exact q1, fun i v hv => ?_, fun _ => ⟨(q3 ho).1, fun i hi => ?_⟩⟩
      · rw [blit_get _ _ _ _ h] at hv
        split at hv
        · rename_i hi
          obtain ⟨u, hu, huv⟩ := hr.get hv
          refine ⟨hone v (List.mem_of_getElem? hv), u, ?_, huv⟩
          have hj : i - off < us.length := by omega
          have := World.cell?_setCells_in l.c us (l.o + off) w (fun j hj' => by
            have := ((q3 ho).2 (off + j) (by omega)).1
            rwa [← Nat.add_assoc] at this) (i - off) hj
          rw [show l.o + off + (i - off) = l.o + i by omega] at this
          rw [this]
          rw [List.getElem?_eq_getElem hj] at hu
          exact hu
        · rename_i hi
          obtain ⟨g1, v', g2, g3⟩ := q2 i v hv
          refine ⟨g1, v', ?_, g3⟩
          rw [World.cell?_setCells_out l.c us (l.o + off) w _ (fun _ _ => by show l.o + i < l.o + off ∨ l.o + off + us.length ≤ l.o + i; omega)]
          exact g2
      · have hq := (q3 ho).2 i hi
        refine ⟨?_, by rw [World.frozen?_setCells]; exact hq.2⟩
        by_cases hi2 : off ≤ i ∧ i < off + us.length
        · have := World.cell?_setCells_in l.c us (l.o + off) w (fun j hj' => by
            have := ((q3 ho).2 (off + j) (by omega)).1
            rwa [← Nat.add_assoc] at this) (i - off) (by omega)
          rw [show l.o + off + (i - off) = l.o + i by omega] at this
          rw [this]; rfl
        · rw [World.cell?_setCells_out l.c us (l.o + off) w _ (fun _ _ => by show l.o + i < l.o + off ∨ l.o + off + us.length ≤ l.o + i; omega)]
          exact hq.1
    · rename_i e
      obtain ⟨l', g1, g2, g3, g4⟩ := hm.live b' x' hx
      have hne := hother b' x' l' hx e g1
      have hc : ∀ i, (w.setCells l.c (l.o + off) us).cell? ⟨l'.c, l'.o + i, none⟩ = w.cell? ⟨l'.c, l'.o + i, none⟩ := fun i => World.cell?_setCells_out _ _ _ _ _ (fun hh _ => absurd hh hne)
      refine ⟨l', g1, g2, fun i v hv => by rw [hc]; exact g3 i v hv, fun hown => ⟨(g4 hown).1, fun i hi => by rw [hc, World.frozen?_setCells]; exact (g4 hown).2 i hi⟩⟩
  · have hget : ∀ b' x', (m.put b (some ⟨blit x.cells off cs, x.own⟩)).get b' = some x' → ∃ x'', m.get b' = some x'' ∧ x''.own = x'.own := by
      intro b' x' hx
      rw [Mem.get_put] at hx
      split at hx
      · rename_i e
        cases hx
        exact ⟨x, by rw [e]; exact hg, rfl⟩
      · exact ⟨x', hx, rfl⟩
    obtain ⟨y1, p1, p2⟩ := hget b1 x1 h1
    obtain ⟨y2, p3, p4⟩ := hget b2 x2 h3
    exact hm.excl b1 y1 b2 y2 l1 l2 p1 (by rw [p2]; exact h2) p3 h4 h5 h6
  · obtain ⟨g1, g2⟩ := Mem.getM_get hb'
    rw [Mem.get_put] at g1
    by_cases e : b' = b
    · subst e
      rw [if_pos rfl, if_pos hb] at g1
      injection g1 with g1
      have hc : x.cells = [] := by
        have := congrArg (fun y => y.cells.length) g1
        simp only [blit_length, List.length_nil] at this
        exact List.length_eq_zero_iff.1 this
      have hu : us = [] := by
        rw [hc] at h
        simp at h
        exact List.length_eq_zero_iff.1 (by rw [← hlen, h.2]; rfl)
      subst hu
      have hx : x = ⟨[], true⟩ := by cases x; simp at hc ho; rw [hc, ho]
      obtain ⟨l2, es', ck, p1, p2, p3, p4⟩ := hm.maps b' es (Mem.getM_of (by rw [hg, hx]) g2)
      exact ⟨l2, es', ck, p1, p2, p3, p4⟩
    · rw [if_neg e] at g1
      obtain ⟨l2, es', ck, p1, p2, p3, p4⟩ := hm.maps b' es (Mem.getM_of g1 g2)
      exact ⟨l2, es', ck, p1, p2, by rw [setCells_obj _ _ (hother b' _ l2 g1 e p1)]; exact p3, p4⟩

end
end Go.DI
namespace Go.DI
open Go Go.RowKit

/-- what is shown of an operation -/
def Sound (P : Program) (o : Oper) (k : IK) (a : Act) (B : Nat) (ρ : Ren) (σ : Slots) (m : Mem) (w : World) (id : Nat) : Prop :=
  ∃ v' w' ρ', Yields P o a w v' w' ∧ RenLe ρ ρ' ∧ (∀ b, b ≠ id → ρ' b = ρ b) ∧ VRel ρ' (k.val id σ m) v' ∧ MRel B ρ' (k.mem id σ m) w' ∧ Below B w w'

section
variable {P : Program} {w : World} {o : Oper} {a : Act} {ρ : Ren} {nt : Nat} {σ : Slots} {m : Mem} {B id : Nat}

theorem updR_other {l : Loc} : ∀ b, b ≠ id → updR ρ id l b = ρ b := fun b h => by simp [updR, h]

theorem MRel.newBlock (hm : MRel B ρ m w) {w1 : World} (hw : w1.heap = w.heap) (hB : B ≤ w.heap.size) (hid : id < m.next) (hr : ρ id = none) {cs : List Value} {ds : Array Value} {e : TypeId} {fr : Nat × Nat} {n : Nat}
    (hlen : cs.length ≤ n) (hn : n ≤ ds.size) (hcs : ∀ (i : Nat) v, cs[i]? = some v → oneC v = true ∧ ∃ v', ds[i]? = some v' ∧ VRel ρ v v') (hfr : ∀ i, i < n → ¬ (fr.1 ≤ i ∧ i < fr.2)) :
    MRel B (updR ρ id ⟨w.heap.size, 0, n⟩) (m.put id (some ⟨cs, true⟩)) (w1.alloc (.cells ds e fr)) := by
  have hsz : (w1.alloc (.cells ds e fr)).heap.size = w.heap.size + 1 := by show (w1.heap.push _).size = _; rw [Array.size_push, hw]
  have hnew : (w1.alloc (.cells ds e fr)).heap[w.heap.size]? = some (.cells ds e fr) := by show (w1.heap.push _)[_]? = _; rw [hw]; simp
  refine hm.adopt hid hr (fun b x l hx hl => by have := hm.inb b l hl; omega) (by omega) (by omega) hB (fun ad h1 h2 => ?_) (fun k h1 _ => by show (w1.heap.push _)[k]? = _; rw [hw, Array.getElem?_push, if_neg (by omega)]) hlen (fun i v hv => ?_) (fun i hi => ?_)
  · have : (w1.alloc (.cells ds e fr)).heap[ad.block]? = w.heap[ad.block]? := by
      show (w1.heap.push _)[_]? = _
      rw [hw, Array.getElem?_push, if_neg (by omega)]
    exact ⟨World.cell?_of_block (w := w) this, World.frozen?_of_block (w := w) this⟩
  · obtain ⟨q1, v', q2, q3⟩ := hcs i v hv
    refine ⟨q1, v', ?_, q3⟩
    simp [World.cell?, hnew, q2]
  · have hi2 : i < ds.size := by omega
    refine ⟨by simp [World.cell?, hnew, hi2], ?_⟩
    have := hfr i hi
    simp only [World.frozen?, hnew, Nat.zero_add]
    simpa using this

theorem below_alloc {w1 : World} (hw : w1.heap = w.heap) (ho : w1.os = w.os) (ht : w1.tape = w.tape) (hu : w1.output = w.output) (hB : B ≤ w.heap.size) (x : Obj) : Below B w (w1.alloc x) := by
  have : Below B w w1 := ⟨ho, ht, hu, by rw [hw]; exact Nat.le_refl _, fun k _ => by rw [hw]⟩
  exact this.alloc (by rw [hw]; exact hB) x

theorem cells_list {cs : List Value} {ds : Array Value} (h : LRel ρ cs ds.toList) (h1 : ∀ v ∈ cs, oneC v = true) : ∀ (i : Nat) v, cs[i]? = some v → oneC v = true ∧ ∃ v', ds[i]? = some v' ∧ VRel ρ v v' := by
  intro i v hv
  obtain ⟨y, hy, hxy⟩ := h.get hv
  exact ⟨h1 v (List.mem_of_getElem? hv), y, by simpa using hy, hxy⟩

theorem s_alloc {e : TypeId} {z : List Value} (hop : o.op = .alloc e) (hz : tyZero P e = some z) (hm : MRel B ρ m w) (hB : B ≤ w.heap.size) (hid : id < m.next) (hr : ρ id = none) : Sound P o (.alloc z) a B ρ σ m w id := by
  obtain ⟨inf, zv, hi, hzv, hzl, hfl, hlen⟩ := tyZero_spec hz
  refine ⟨.pointer (some ⟨w.heap.size, 0, none⟩), w.alloc (.cells zv.cells e), updR ρ id ⟨w.heap.size, 0, z.length⟩, .inl ?_, updR_le hr, updR_other, ?_, ?_, below_alloc rfl rfl rfl rfl hB _⟩
  · simp only [execOp, hop, Instr.alloc, Sem.run_bind, zeroValue, typeInfo, run_program, hi, Sem.run_pure, Result.andThen_ok, hzv, newVar, newRow]
    rfl
  · exact .ptr (off := 0) (l := ⟨w.heap.size, 0, z.length⟩) (by simp [updR])
  · refine hm.newBlock rfl hB hid hr (Nat.le_refl _) (by rw [← hzl]; simp) (cells_list (by rw [hzl]; exact LRel.flat ρ hfl) fun v hv => flat_one (List.all_eq_true.1 hfl v hv)) (fun i _ => by simp)

theorem s_box {e : TypeId} {x : Operand} (hop : o.op = .box e x) (hx : argOk x = true) (hs : SRel ρ nt σ a) (hok : (IK.box x).ok σ m = true) (hm : MRel B ρ m w) (hB : B ≤ w.heap.size) (hid : id < m.next) (hr : ρ id = none) : Sound P o (.box x) a B ρ σ m w id := by
  have hv := vcells_rel (hs.ev hx)
  have hone := vcells_one (hs.ev hx) hok
  have hl : (a.eval x).cells.size = (vcells (ev σ x)).length := by have := hv.1; simp at this; exact this.symm
  refine ⟨.pointer (some ⟨w.heap.size, 0, none⟩), w.alloc (.cells (a.eval x).cells e), updR ρ id ⟨w.heap.size, 0, (vcells (ev σ x)).length⟩, .inl ?_, updR_le hr, updR_other, ?_, ?_, below_alloc rfl rfl rfl rfl hB _⟩
  · simp only [execOp, hop, Instr.box, Sem.run_bind, newVar, newRow]
    rfl
  · exact .ptr (off := 0) (l := ⟨w.heap.size, 0, (vcells (ev σ x)).length⟩) (by simp [updR])
  · exact hm.newBlock rfl hB hid hr (Nat.le_refl _) (by omega) (cells_list hv hone) (fun i _ => by simp)

/-! loads -/
theorem addrOk_spec {v : Value} {n : Nat} (h : addrOk m v n = true) : ∃ b off x, v = .pointer (some ⟨b, off, none⟩) ∧ m.get b = some x ∧ off + n ≤ x.cells.length := by
  unfold addrOk at h
  split at h
  · rename_i ad
    simp only [Bool.and_eq_true, Option.isNone_iff_eq_none] at h
    obtain ⟨hsp, h⟩ := h
    split at h
    · rename_i x hx
      obtain ⟨b, off, sp⟩ := ad
      simp only at hsp hx h
      subst hsp
      exact ⟨b, off, x, rfl, hx, by simpa using h⟩
    · cases h
  · cases h

theorem run_loadVar {t : TypeId} {ag : Bool} {n : Nat} {ad : Addr} {ds : List Value} (hag : tyAgg P t = some ag) (hn : tySize P t = some n) (h1 : ag = true ∨ n = 1) (hl : ds.length = n) (hc : ∀ (j : Nat) u, ds[j]? = some u → w.cell? (ad.add j) = some u) :
    (loadVar t ad).run P w = .ok (if ag then .agg ds.toArray else ds.headD undef) w := by
  obtain ⟨inf, hi, rfl⟩ := tySize_spec hn
  simp only [loadVar, Sem.run_bind, tyAgg_spec hag, Result.andThen_ok]
  cases ag
  · have h2 : inf.size = 1 := by simpa using h1
    rw [h2] at hl
    obtain ⟨d, rfl⟩ := len1 hl
    have h3 := hc 0 d rfl
    have e : ad.add 0 = ad := by simp [Addr.add]
    rw [e] at h3
    simp only [Bool.false_eq_true, if_false, List.headD_cons]
    simp [Go.load, Sem.run, h3]
  · simp only [if_true, Sem.run_bind, sizeOf, typeInfo, run_program, hi, Sem.run_pure, Result.andThen_ok]
    have := run_loadCells_list (P := P) w ad ds hc
    rw [hl] at this
    simp [this]

theorem loadV_rel {ag : Bool} {n : Nat} {v v' : Value} (hm : MRel B ρ m w) (hv : VRel ρ v v') (hok : addrOk m v n = true) (h1 : ag = true ∨ n = 1) :
    ∃ (ad : Addr) (ds : List Value), v' = .pointer (some ad) ∧ ds.length = n ∧ (∀ (j : Nat) u, ds[j]? = some u → w.cell? (ad.add j) = some u) ∧ VRel ρ (loadV m ag n v) (if ag then .agg ds.toArray else ds.headD undef) := by
  obtain ⟨b, off, x, rfl, hx, hoff⟩ := addrOk_spec hok
  obtain ⟨l, hl, _, rfl⟩ := hv.inv_ptr
  obtain ⟨ds, r1, r2, r3, r4⟩ := hm.cells hx hl hoff
  refine ⟨_, ds, rfl, r2, r3, ?_⟩
  simp only [loadV]
  cases ag
  · have h2 : n = 1 := by simpa using h1
    subst h2
    obtain ⟨d, rfl⟩ := len1 r2
    simp only [Bool.false_eq_true, if_false, List.headD_cons]
    have hlen := r1.1
    simp only [List.length_cons, List.length_nil] at hlen
    obtain ⟨u, hu⟩ := len1 hlen
    rw [hu] at r1 ⊢
    exact r1.2 0 u d rfl rfl
  · refine r1.agg fun u hu => ?_
    obtain ⟨l', hl', q1, q2, q3⟩ := hm.live b x hx
    simp only [cellsAt, hx] at hu
    obtain ⟨i, hi, hiu⟩ := List.getElem_of_mem (List.mem_of_mem_drop (List.mem_of_mem_take hu))
    exact (q2 i u (by rw [List.getElem?_eq_getElem hi, hiu])).1

theorem s_load {t : TypeId} {x : Operand} {ag : Bool} {n : Nat} (hop : o.op = .load t x) (hag : tyAgg P t = some ag) (hn : tySize P t = some n) (hx : argOk x = true) (hs : SRel ρ nt σ a) (hm : MRel B ρ m w)
    (hok : (IK.load ag n x).ok σ m = true) : Sound P o (.load ag n x) a B ρ σ m w id := by
  simp only [IK.ok, Bool.and_eq_true, Bool.or_eq_true, decide_eq_true_eq] at hok
  obtain ⟨ad, ds, h1, h2, h3, h4⟩ := loadV_rel hm (hs.ev hx) hok.1 hok.2
  refine ⟨_, w, ρ, .inl ?_, RenLe.refl ρ, fun _ _ => rfl, h4, hm, Below.refl _ _⟩
  simp only [execOp, hop, h1, Instr.loadAt, Instr.sureAddr, Sem.run_bind, Sem.run_pure, Result.andThen_ok, run_loadVar hag hn hok.2 h2 h3]

theorem s_sliceA {t e : TypeId} {x : Operand} {lo hi mx : Option Operand} {n z : Nat} (hop : o.op = .slice t x lo hi mx) (ha : P.underlying t = some (.array n e)) (hz : tySize P e = some z)
    (hx : argOk x = true) (h1 : lo = none) (h2 : hi = none) (h3 : mx = none) (hs : SRel ρ nt σ a) (hm : MRel B ρ m w) (hok : (IK.sliceA z n x).ok σ m = true) : Sound P o (.sliceA z n x) a B ρ σ m w id := by
  subst h1 h2 h3
  simp only [IK.ok, Bool.and_eq_true, decide_eq_true_eq] at hok
  obtain ⟨hok, hmx⟩ := hok
  obtain ⟨b, off, y, e1, hy, hoff⟩ := addrOk_spec hok
  have hr := hs.ev hx
  rw [e1] at hr
  obtain ⟨l, hl, _, e2⟩ := hr.inv_ptr
  obtain ⟨inf, hi, rfl⟩ := tySize_spec hz
  obtain ⟨l', hl', q1, q2, q3⟩ := hm.live b y hy
  rw [hl] at hl'; cases hl'
  refine ⟨_, w, ρ, y_sliceA hop ha hi e2, RenLe.refl ρ, fun _ _ => rfl, ?_, hm, Below.refl _ _⟩
  simp only [IK.val, e1, arrSl]
  by_cases hn : n = 0
  · rw [if_pos hn]
    subst hn
    exact .slice hl (.inl ⟨rfl, rfl⟩) (Nat.le_refl _) (by omega)
  · rw [if_neg hn]
    have ha : (⟨l.c, l.o + off, none⟩ : Addr).add (0 * inf.size) = ⟨l.c, l.o + off, none⟩ := by
      unfold Addr.add
      simp
    rw [ha]
    exact .slice hl (.inr ⟨rfl, by simp only [Nat.sub_zero]; omega⟩) (Nat.le_refl _) (by omega)

theorem s_store {t : TypeId} {x v : Operand} {n : Nat} (hop : o.op = .store t x v) (hn : tySize P t = some n) (hx : argOk x = true) (hv : argOk v = true) (hs : SRel ρ nt σ a) (hm : MRel B ρ m w)
    (hok : (IK.store n x v).ok σ m = true) : Sound P o (.store n x v) a B ρ σ m w id := by
  simp only [IK.ok, Bool.and_eq_true, decide_eq_true_eq] at hok
  obtain ⟨⟨⟨h1, h2⟩, hnt⟩, h3⟩ := hok
  have hone := vcells_one (hs.ev hv) hnt
  obtain ⟨b, off, y, e1, hy, hoff⟩ := addrOk_spec h1
  have hr := hs.ev hx
  rw [e1] at hr
  obtain ⟨l, hl, _, e2⟩ := hr.inv_ptr
  have hown : y.own = true := by simpa [e1, addrOwn, hy] using h2
  have hc := vcells_rel (hs.ev hv)
  obtain ⟨inf, hi, rfl⟩ := tySize_spec hn
  have hsz : (a.eval v).cells.size = inf.size := by have := hc.1; simp at this; omega
  obtain ⟨l', hl', q1, q2, q3⟩ := hm.live b y hy
  rw [hl] at hl'; cases hl'
  have hones : ∀ u ∈ (a.eval v).cells.toList, u.oneCell' = true := by
    intro u hu
    obtain ⟨i, hi', hiu⟩ := List.getElem_of_mem hu
    have hi2 : i < (vcells (ev σ v)).length := by rw [hc.1]; exact hi'
    have := (hc.2 i _ u (List.getElem?_eq_getElem hi2) (by rw [List.getElem?_eq_getElem hi', hiu])).oneC
    rw [oneC_eq, this]
    exact hone _ (List.getElem_mem hi2)
  refine ⟨undef, w.setCells l.c (l.o + off) (a.eval v).cells.toList, ρ, .inr ⟨?_, rfl⟩, RenLe.refl ρ, fun _ _ => rfl, VRel.undef ρ, ?_, below_setCells (q3 hown).1 _ _ _⟩
  · have hst := run_storeCells_cells (P := P) l.c (l.o + off) (a.eval v).cells.toList 0 w (fun j hj => by
      have := ((q3 hown).2 (off + j) (by simp at hj; omega)).1
      rwa [← Nat.add_assoc] at this) (fun j hj => by
      have := ((q3 hown).2 (off + j) (by simp at hj; omega)).2
      rwa [← Nat.add_assoc] at this) hones
    simp only [Nat.add_zero] at hst
    simp [execOp, hop, e2, Instr.storeAt, Instr.sureAddr, storeVar, sizeOf, typeInfo, hi, hsz, hst]
  · simp only [IK.mem, e1, storeM, hy]
    exact hm.store hy hown hl hc hone (by omega)

end
end Go.DI
namespace Go.DI
open Go Go.RowKit

theorem flat_get {z : List Value} (hz : 0 < z.length) : ∀ (n i : Nat), i < n * z.length → ((List.replicate n z).flatten)[i]? = z[i % z.length]?
  | 0, i, h => by omega
  | n + 1, i, h => by
    rw [List.replicate_succ, List.flatten_cons, List.getElem?_append]
    split
    · rename_i hi; rw [Nat.mod_eq_of_lt hi]
    · rename_i hi
      have h2 : i - z.length < n * z.length := by rw [Nat.add_mul] at h; omega
      rw [flat_get hz n _ h2, Nat.mod_eq_sub_mod (by omega : z.length ≤ i)]
theorem flat_len (z : List Value) (n : Nat) : ((List.replicate n z).flatten).length = n * z.length := by simp [List.length_flatten]
theorem made_eq {z : Array Value} (hz : 0 < z.size) (n : Nat) : (madeCells z (n * z.size)).toList = (List.replicate n z.toList).flatten := by
  apply List.ext_getElem?
  intro i
  by_cases hi : i < n * z.size
  · rw [flat_get (by simpa using hz) n i (by simpa using hi)]
    have hm : i % z.size < z.size := Nat.mod_lt _ hz
    simp [madeCells, hi, hm]
  · rw [List.getElem?_eq_none (by rw [Array.length_toList, size_madeCells]; omega), List.getElem?_eq_none (by rw [flat_len]; simp; omega)]

theorem flat_all {z : List Value} (p : Value → Prop) (h : ∀ v ∈ z, p v) (n : Nat) : ∀ v ∈ (List.replicate n z).flatten, p v := by
  intro v hv
  simp only [List.mem_flatten, List.mem_replicate] at hv
  obtain ⟨l, ⟨_, rfl⟩, h2⟩ := hv
  exact h v h2

section
variable {P : Program} {w : World} {o : Oper} {a : Act} {ρ : Ren} {nt : Nat} {σ : Slots} {m : Mem} {B id : Nat}

theorem s_bslice {t e : TypeId} {n : Nat} {ps : Array (Nat × Operand)} {z : List Value} {qs : List (Nat × Nat × Operand)} (hop : o.op = .buildSlice t n ps) (ht : P.underlying t = some (.slice e)) (hz : tyZero P e = some z)
    (hq : elemParts z.length ps.toList = some qs) (h0 : 0 < z.length) (h24 : n * z.length ≤ 16777216) (hs : SRel ρ nt σ a) (hm : MRel B ρ m w) (hB : B ≤ w.heap.size) (hid : id < m.next) (hr : ρ id = none)
    (hok : (IK.bslice z.length n (List.replicate n z).flatten qs).ok σ m = true) : Sound P o (.bslice z.length n (List.replicate n z).flatten qs) a B ρ σ m w id := by
  obtain ⟨inf, zv, hi, hzv, hzl, hfl, hlen⟩ := tyZero_spec hz
  obtain ⟨g1, g2⟩ := elemParts_spec _ _ hq
  have hzs : zv.cells.size = inf.size := by rw [← hlen, ← hzl]; simp
  have hcs : (madeCells zv.cells (n * zv.cells.size)).toList = (List.replicate n z).flatten := by rw [made_eq (by omega), hzl]
  have hfa : ∀ v ∈ (List.replicate n z).flatten, flat1 v = true := flat_all (fun v => flat1 v = true) (fun v hv => List.all_eq_true.1 hfl v hv) n
  simp only [IK.ok] at hok
  obtain ⟨ds, h1, h2, h2o⟩ := fill_sound hs (fun i => some (i * inf.size, inf.size)) ps.toList qs (List.replicate n z).flatten (madeCells zv.cells (n * zv.cells.size)) ⟨g1, fun i p q hp' hq => by
    obtain ⟨e1, e2, e3, e4⟩ := g2 i p q hp' hq
    exact ⟨e1, e2, by rw [e3, e4, hlen]⟩⟩ (by rw [hcs]; exact LRel.flat ρ (List.all_eq_true.2 hfa)) (fun v hv => flat_one (hfa v hv)) hok
  have hdl : (partsV (List.replicate n z).flatten σ qs).length = ds.size := by have := h2.1; simpa using this
  have hpl : (partsV (List.replicate n z).flatten σ qs).length = n * z.length := by
    have key : ∀ (qs : List (Nat × Nat × Operand)) (cs : List Value), (partsV cs σ qs).length = cs.length := by
      intro qs
      induction qs with
      | nil => intro cs; rfl
      | cons q qs ih => intro cs; obtain ⟨q1, q2, q3⟩ := q; simp only [partsV]; rw [ih, blit_length]
    rw [key, flat_len]
  refine ⟨.slice (some ⟨w.heap.size, 0, none⟩) n n, w.alloc (.cells ds e), updR ρ id ⟨w.heap.size, 0, ds.size⟩, .inl ?_, updR_le hr, updR_other, ?_, ?_, below_alloc rfl rfl rfl rfl hB _⟩
  · have h3 : (ps.map fun p => (p.1, a.eval p.2)).toList = ps.toList.map fun p => (p.1, a.eval p.2) := by simp
    have hzero : (zeroValue e).run P w = .ok zv w := by simp [zeroValue, typeInfo, hi, hzv]
    have h24' : ¬ (2 ^ 24 < n * inf.size) := by rw [← hlen]; omega
    rw [← h3] at h1
    simp only [execOp, hop, Instr.buildSlice, Sem.run_bind, run_underlying ht, sizeOf, typeInfo, run_program, hi, Sem.run_pure, Result.andThen_ok, gt_iff_lt, h24', if_false, Sem.run_ite]
    by_cases hn0 : n * inf.size = 0
    · have hmk : madeCells zv.cells (n * zv.cells.size) = #[] := by rw [hzs, hn0]; simp [madeCells]
      rw [hmk] at h1
      simp only [hn0, if_true]
      have hmk2 : Array.map (fun x => (#[] : Array Value)[x % (#[] : Array Value).size]!) (Array.range 0) = #[] := by simp
      rw [hmk2, h1]
      simp only [newRow, Sem.run_bind]
      rfl
    · have hmk : Array.map (fun x => zv.cells[x % zv.cells.size]!) (Array.range (n * inf.size)) = madeCells zv.cells (n * zv.cells.size) := by unfold madeCells; rw [hzs]
      simp only [hn0, if_false, hzero, Result.andThen_ok, hmk, h1]
      simp only [newRow, Sem.run_bind]
      rfl
  · exact .slice (off := 0) (l := ⟨w.heap.size, 0, ds.size⟩) (by simp [updR]) (.inr ⟨rfl, by show 0 + n * z.length ≤ ds.size; omega⟩) (Nat.le_refl _) (by have : n * 1 ≤ n * z.length := Nat.mul_le_mul_left _ h0; unfold maxLen; omega)
  · simp only [IK.mem]
    exact hm.newBlock rfl hB hid hr (by omega) (Nat.le_refl _) (cells_list h2 h2o) (fun i _ => by simp)

theorem s_mkslice {t e : TypeId} {inf : TypeInfo} {z : List Value} {l c : Operand} (hop : o.op = .makeSlice t l c) (ht : P.underlying t = some (.slice e)) (hz : tyZero P e = some z) (hi : P.info? e = some inf) (hl : argOk l = true) (hc : argOk c = true)
    (hs : SRel ρ nt σ a) (hm : MRel B ρ m w) (hB : B ≤ w.heap.size) (hid : id < m.next) (hr : ρ id = none)
    (hok : (IK.mkslice z.length inf.bytes z l c).ok σ m = true) : Sound P o (.mkslice z.length inf.bytes z l c) a B ρ σ m w id := by
  obtain ⟨inf', zv, hi', hzv, hzl, hfl, hlen⟩ := tyZero_spec hz
  rw [hi] at hi'; cases hi'
  have hzs : zv.cells.size = inf.size := by rw [← hlen, ← hzl]; simp
  simp only [IK.ok, Bool.and_eq_true, decide_eq_true_eq] at hok
  obtain ⟨⟨⟨⟨⟨⟨h1, h2⟩, h3⟩, h4⟩, h5⟩, h6⟩, h7⟩ := hok
  obtain ⟨e1, kl, L, hL⟩ := isI_rel (hs.ev hl) h1
  obtain ⟨e2, kc, C, hC⟩ := isI_rel (hs.ev hc) h2
  simp only [hL, hC, asI] at h3 h4 h5 h6
  have hrun := run_make (P := P) w t e inf zv ht hi hzv kl kc L C h3 h4 (by rw [Int.mul_comm]; omega) h6
  have hfa : ∀ v ∈ (List.replicate L.toNat z).flatten, flat1 v = true := flat_all (fun v => flat1 v = true) (fun v hv => List.all_eq_true.1 hfl v hv) _
  have hle : L.toNat * z.length ≤ C.toNat * z.length := Nat.mul_le_mul_right _ (by omega)
  refine ⟨_, _, updR ρ id ⟨w.heap.size, 0, C.toNat * z.length⟩, .inl (by
    simp only [execOp, hop, e1, e2, hL, hC, Sem.run_bind, hrun, Result.andThen_ok]; rfl), updR_le hr, updR_other, ?_, ?_, below_alloc rfl rfl rfl rfl hB _⟩
  · simp only [IK.val, hL, asI]
    exact .slice (off := 0) (l := ⟨w.heap.size, 0, C.toNat * z.length⟩) (by simp [updR]) (.inr ⟨by simp, by simp⟩) (by omega) (by unfold maxLen; omega)
  · simp only [IK.mem, hL, asI]
    refine hm.newBlock rfl hB hid hr (by rw [flat_len]; exact hle) (by rw [size_madeCells, hlen]; exact Nat.le_refl _) (fun i v hv => ?_) (fun i _ => by simp)
    have hi2 : i < L.toNat * z.length := by have := (List.getElem?_eq_some_iff.1 hv).1; rwa [flat_len] at this
    refine ⟨flat_one (hfa v (List.mem_of_getElem? hv)), v, ?_, .flat (hfa v (List.mem_of_getElem? hv))⟩
    have h8 : (madeCells zv.cells (C.toNat * inf.size)).toList = (List.replicate C.toNat z).flatten := by rw [← hzs, made_eq (by omega), hzl]
    rw [← Array.getElem?_toList, h8, flat_get h7 _ _ (by omega)]
    rw [flat_get h7 _ _ hi2] at hv
    exact hv

/-! strings and bytes -/
theorem push_toBytes : ∀ (ns : List Int) (acc : ByteArray), ns.foldl (fun r n => r.push (UInt8.ofNat n.toNat)) acc = acc ++ ⟨(ns.map fun n => UInt8.ofNat n.toNat).toArray⟩
  | [], acc => by
    simp only [List.foldl_nil, List.map_nil]
    apply ByteArray.ext
    simp
  | n :: ns, acc => by
    simp only [List.foldl_cons, List.map_cons]
    rw [push_toBytes ns]
    apply ByteArray.ext
    simp [ByteArray.push]

theorem s_convBS {s d e : TypeId} {x : Operand} (hop : o.op = .convert s d x) (hS : P.underlying s = some (.slice e)) (hD : P.underlying d = some .string) (hE : P.underlying e = some (.int .u8)) (hx : argOk x = true)
    (hs : SRel ρ nt σ a) (hm : MRel B ρ m w) (hok : (IK.convBS x).ok σ m = true) : Sound P o (.convBS x) a B ρ σ m w id := by
  simp only [IK.ok, Bool.and_eq_true] at hok
  obtain ⟨h1, h2⟩ := hok
  have hr := hs.ev hx
  have conv : ∀ v, a.eval x = v → (∃ p l c, v = .slice p l c) → ∀ b : ByteArray, (Conv.bytesToString v).run P w = .ok (.string b) w → Yields P o a w (.string b) w := by
    intro v hv ⟨p, l, c, hp⟩ b hb
    subst hp
    refine .inl ?_
    cases p <;> simp [execOp, hop, hv, convert, underlying, hS, hD, hE, hb]
  cases hu : ev σ x <;> simp only [hu, sliceOk] at h1 <;> try cases h1
  rename_i p len c
  rw [hu] at hr
  refine ⟨.string (toBytes (sliceCells m 1 (ev σ x))), w, ρ, ?_, RenLe.refl ρ, fun _ _ => rfl, .flat rfl, hm, Below.refl _ _⟩
  cases p with
  | none =>
    have hv := hr.inv_flat (by simpa [flat1] using h1)
    refine conv _ hv ⟨_, _, _, rfl⟩ _ ?_
    simp only [Conv.bytesToString, hu, sliceCells, toBytes]
    rfl
  | some ad =>
    simp only [Bool.and_eq_true, Option.isNone_iff_eq_none, beq_iff_eq] at h1
    obtain ⟨⟨hsp, hc1⟩, h1⟩ := h1
    split at h1
    · rename_i y hy
      simp only [Nat.mul_one, decide_eq_true_eq] at h1
      obtain ⟨l, a', cap, hl, _, hv, hn, hlc, hcm⟩ := hr.inv_slice
      refine conv _ hv ⟨_, _, _, rfl⟩ _ ?_
      simp only [hu, sliceCells, Nat.mul_one] at h2 ⊢
      obtain ⟨ds, r1, r2, r3, r4⟩ := hm.cells hy hl h1
      have hds : ∃ ns : List Int, ds = ns.map (Value.int .u8) ∧ cellsAt m ad.block ad.off len = ns.map (Value.int .u8) := by
        have gen : ∀ (us vs : List Value), us.all isU8 = true → LRel ρ us vs → ∃ ns : List Int, vs = ns.map (Value.int .u8) ∧ us = ns.map (Value.int .u8) := by
          intro us
          induction us with
          | nil => intro vs _ h; have := h.1; simp at this; exact ⟨[], by simp [List.length_eq_zero_iff.1 this.symm], rfl⟩
          | cons u us ih =>
            intro vs ha h
            cases vs with
            | nil => have := h.1; simp at this
            | cons v vs =>
              simp only [List.all_cons, Bool.and_eq_true] at ha
              obtain ⟨ns, g1, g2⟩ := ih vs ha.2 ⟨by simpa using h.1, fun i p q hp hq => h.2 (i + 1) p q (by simpa using hp) (by simpa using hq)⟩
              have h0 := h.2 0 u v rfl rfl
              have hu8 := ha.1
              cases u <;> simp [isU8] at hu8
              rename_i k n
              cases k <;> simp at hu8
              exact ⟨n :: ns, by simp [g1, h0.inv_int], by simp [g2]⟩
        exact gen _ _ h2 r1
      obtain ⟨ns, hns, hns2⟩ := hds
      subst hns
      rcases hn with ⟨rfl, rfl⟩ | ⟨rfl, hn⟩
      · have hn0 : ns = [] := by simp at r2; exact r2
        subst hn0
        have := run_bytesToString (P := P) w a' 0 0 [] (by simp [loadCells, loadCellsFrom])
        rw [this, hns2]
        rfl
      · have hload := run_loadCells_list (P := P) w ⟨l.c, l.o + ad.off, none⟩ _ r3
        rw [r2] at hload
        rw [run_bytesToString w _ len cap ns (by rw [hload]), push_toBytes, hns2]
        congr 2
        apply ByteArray.ext
        simp [toBytes, byteOf, Function.comp_def]
    · cases h1

end
end Go.DI
namespace Go.DI
open Go Go.RowKit

section
variable {P : Program} {w : World} {o : Oper} {a : Act} {ρ : Ren} {nt : Nat} {σ : Slots} {m : Mem} {B id : Nat}

theorem run_append_zero (t ty e : TypeId) (i : TypeInfo) (ht : P.underlying t = some (.slice e)) (hi : P.info? e = some i) (base q : Option Addr) (sLen sCap c : Nat) (hc : sLen ≤ sCap) :
    (Builtin.append_ #[t, t] ty #[.slice base sLen sCap, .slice q 0 c]).run P w = .ok (.slice base sLen sCap) w := by
  have hf : (Builtin.firstCells i.size 0 (.slice q 0 c)).run P w = .ok #[] w := by cases q <;> simp [Builtin.firstCells, loadCells, loadCellsFrom]
  cases base <;> simp [Builtin.append_, run_underlying ht, sizeOf, typeInfo, hi, Builtin.lenOf, hc, hf, storeCells]

theorem run_append_fit (t ty e : TypeId) (i : TypeInfo) (ht : P.underlying t = some (.slice e)) (hi : P.info? e = some i) (c o sLen sCap : Nat) (ad : Addr) (n cp : Nat) (news : List Value) (hl : news.length = n * i.size)
    (hnews : ∀ (j : Nat) u, news[j]? = some u → w.cell? (ad.add j) = some u) (h1 : ∀ u ∈ news, u.oneCell' = true) (hroom : sLen + n ≤ sCap)
    (hcell : ∀ j, j < news.length → (w.cell? ⟨c, o + sLen * i.size + j, none⟩).isSome = true) (hfr : ∀ j, j < news.length → w.frozen? ⟨c, o + sLen * i.size + j, none⟩ = false) :
    (Builtin.append_ #[t, t] ty #[.slice (some ⟨c, o, none⟩) sLen sCap, .slice (some ad) n cp]).run P w = .ok (.slice (some ⟨c, o, none⟩) (sLen + n) sCap) (w.setCells c (o + sLen * i.size) news) := by
  have hf := run_firstCells_some (P := P) w i.size n ad n cp news hl hnews
  have hst := run_storeCells_cells (P := P) c (o + sLen * i.size) news 0 w (by simpa using hcell) (by simpa using hfr) h1
  simp only [Nat.add_zero] at hst
  simp [Builtin.append_, run_underlying ht, sizeOf, typeInfo, hi, Builtin.lenOf, hroom, hf, addr_add, hst]

theorem y_app {c : Call} {x y : Operand} {t : TypeId} {u v r : Value} {w' : World} (hop : o.op = .call c) (hc : c.callee = .builtin .append) (ha : c.args.toList = [x, y]) (hT : c.argTypes.toList = [t, t])
    (hx : a.eval x = u) (hy : a.eval y = v) (h : (Builtin.append_ #[t, t] o.type #[u, v]).run P w = .ok r w') : Yields P o a w r w' := by
  refine .inl ?_
  have ha' : c.args = #[x, y] := by rw [← Array.toArray_toList (xs := c.args), ha]
  have hT' : c.argTypes = #[t, t] := by rw [← Array.toArray_toList (xs := c.argTypes), hT]
  simp [execOp, hop, resolve, hc, ha', hT', invoke, builtin, hx, hy, h]

theorem sliceOk_spec {z : Nat} {v : Value} (h : sliceOk m z v = true) : v = .slice none 0 0 ∨ ∃ b off len x, v = .slice (some ⟨b, off, none⟩) len z ∧ m.get b = some x ∧ off + len * z ≤ x.cells.length := by
  unfold sliceOk at h
  split at h
  · simp only [Bool.and_eq_true, beq_iff_eq] at h
    obtain ⟨rfl, rfl⟩ := h
    exact .inl rfl
  · rename_i ad l c
    simp only [Bool.and_eq_true, Option.isNone_iff_eq_none, beq_iff_eq] at h
    obtain ⟨⟨hsp, rfl⟩, h⟩ := h
    split at h
    · rename_i x hx
      obtain ⟨b, off, sp⟩ := ad
      simp only at hsp hx h
      subst hsp
      exact .inr ⟨b, off, l, x, rfl, hx, by simpa using h⟩
    · cases h
  · cases h

theorem s_app {c : Call} {x y : Operand} {t e : TypeId} {inf : TypeInfo} {z : List Value} (hop : o.op = .call c) (hc : c.callee = .builtin .append) (ha : c.args.toList = [x, y]) (hT : c.argTypes.toList = [t, t])
    (ht : P.underlying t = some (.slice e)) (hi : P.info? e = some inf) (hz : tyZero P e = some z) (hx : argOk x = true) (hy : argOk y = true)
    (hs : SRel ρ nt σ a) (hm : MRel B ρ m w) (hB : B ≤ w.heap.size) (hid : id < m.next) (hr : ρ id = none)
    (hok : (IK.app inf.size inf.bytes x y).ok σ m = true) : Sound P o (.app inf.size inf.bytes x y) a B ρ σ m w id := by
  obtain ⟨inf', zv, hi', hzv, hzl, hfl, hlen⟩ := tyZero_spec hz
  rw [hi] at hi'; cases hi'
  have hzs : zv.cells.size = inf.size := by rw [← hlen, ← hzl]; simp
  simp only [IK.ok, Bool.and_eq_true, decide_eq_true_eq] at hok
  obtain ⟨⟨⟨⟨⟨h1, h2⟩, h3⟩, h4⟩, h5⟩, h6⟩ := hok
  have rx := hs.ev hx
  have ry := hs.ev hy
  -- the source
  have hyv : ∃ q cy, a.eval y = .slice q (zqr (ev σ y)) cy := by
    rcases sliceOk_spec h3 with e1 | ⟨b, off, len, yb, e1, _, _⟩
    · rw [e1] at ry; exact ⟨none, 0, by rw [e1]; exact ry.inv_flat rfl⟩
    · rw [e1] at ry; obtain ⟨_, _, _, _, _, g, _⟩ := ry.inv_slice; exact ⟨_, _, by rw [e1]; exact g⟩
  obtain ⟨q, cy, hyv⟩ := hyv
  have hxv : ∃ p cx, a.eval x = .slice p (zqr (ev σ x)) cx ∧ zqr (ev σ x) ≤ cx := by
    rcases sliceOk_spec h1 with e1 | ⟨b, off, len, yb, e1, _, _⟩
    · rw [e1] at rx; exact ⟨none, 0, by rw [e1]; exact rx.inv_flat rfl, by rw [e1]; exact Nat.le_refl _⟩
    · rw [e1] at rx; obtain ⟨_, _, _, _, _, g, _, g2, _⟩ := rx.inv_slice; exact ⟨_, _, by rw [e1]; exact g, by rw [e1]; exact g2⟩
  by_cases hn : zqr (ev σ y) = 0
  · obtain ⟨p, cx, hxv, hle⟩ := hxv
    rw [hn] at hyv
    refine ⟨a.eval x, w, ρ, ?_, RenLe.refl ρ, fun _ _ => rfl, by simpa only [IK.val, hn, if_true] using rx, by simpa only [IK.mem, hn, if_true] using hm, Below.refl _ _⟩
    rw [hxv]
    exact y_app hop hc ha hT hxv hyv (run_append_zero t _ e inf ht hi _ _ _ _ _ hle)
  · -- something to append
    rcases sliceOk_spec h3 with e1 | ⟨by_, offy, leny, yb, ey, hyb, hyl⟩
    · rw [e1] at hn; exact absurd rfl hn
    rw [ey] at ry
    obtain ⟨ly, ay', capy, hly, _, hyv, hny, hlcy, _⟩ := ry.inv_slice
    replace hly : ρ by_ = some ly := hly
    replace hny : (capy = 0 ∧ leny = 0) ∨ (ay' = ⟨ly.c, ly.o + offy, none⟩ ∧ offy + capy * inf.size ≤ ly.n) := hny
    have hleny : zqr (ev σ y) = leny := by rw [ey]; rfl
    have hyc : sliceCells m inf.size (ev σ y) = cellsAt m by_ offy (leny * inf.size) := by rw [ey]; rfl
    rw [hleny] at hn h5 h6
    obtain ⟨news, n1, n2, n3, n4⟩ := hm.cells hyb hly hyl
    rcases hny with ⟨_, h0⟩ | ⟨rfl, _⟩
    · omega
    have hval : (IK.app inf.size inf.bytes x y).val id σ m = .slice (some ⟨id, 0, none⟩) (zqr (ev σ x) + leny) inf.size := by simp only [IK.val, hleny, hn, if_false]
    have hmem : (IK.app inf.size inf.bytes x y).mem id σ m = (kill m (ev σ x)).put id (some ⟨sliceCells m inf.size (ev σ x) ++ cellsAt m by_ offy (leny * inf.size), true⟩) := by simp only [IK.mem, hleny, hn, if_false, hyc]
    -- the new block, wherever the old one was
    have grown : ∀ (old : Nat) (olds : List Value) (m0 : Mem), MRel B ρ m0 w → id < m0.next → LRel ρ (sliceCells m inf.size (ev σ x)) olds → (∀ v ∈ sliceCells m inf.size (ev σ x), oneC v = true) → olds.length = zqr (ev σ x) * inf.size →
        old < zqr (ev σ x) + leny →
        VRel (updR ρ id ⟨w.heap.size, 0, grownCap w (zqr (ev σ x) + leny) old e * inf.size⟩) (.slice (some ⟨id, 0, none⟩) (zqr (ev σ x) + leny) inf.size) (.slice (some ⟨w.heap.size, 0, none⟩) (zqr (ev σ x) + leny) (grownCap w (zqr (ev σ x) + leny) old e)) ∧
        MRel B (updR ρ id ⟨w.heap.size, 0, grownCap w (zqr (ev σ x) + leny) old e * inf.size⟩) (m0.put id (some ⟨sliceCells m inf.size (ev σ x) ++ cellsAt m by_ offy (leny * inf.size), true⟩))
          (w.drew.alloc (.cells (olds.toArray ++ news.toArray ++ Builtin.zeroCells zv.cells (grownCap w (zqr (ev σ x) + leny) old e - (zqr (ev σ x) + leny))) e)) := by
      intro old olds m0 hm0 hid0 ho ho1 hol hold
      have hge := grownCap_ge w (zqr (ev σ x) + leny) old e
      have hcm : grownCap w (zqr (ev σ x) + leny) old e ≤ maxLen := grownCap_le_maxLen w _ old e (by unfold maxLen; omega)
      refine ⟨.slice (off := 0) (l := ⟨w.heap.size, 0, grownCap w (zqr (ev σ x) + leny) old e * inf.size⟩) (by simp [updR]) (.inr ⟨by simp, by simp⟩) hge hcm, ?_⟩
      have hsz : (olds.toArray ++ news.toArray ++ Builtin.zeroCells zv.cells (grownCap w (zqr (ev σ x) + leny) old e - (zqr (ev σ x) + leny))).size = grownCap w (zqr (ev σ x) + leny) old e * inf.size := by
        simp only [Array.size_append, List.size_toArray, size_zeroCells, hzs, hol, n2, ← Nat.add_mul]
        congr 1
        omega
      have hl12 : LRel ρ (sliceCells m inf.size (ev σ x) ++ cellsAt m by_ offy (leny * inf.size)) (olds ++ news) := ho.append n1
      refine hm0.newBlock (w1 := w.drew) rfl hB hid0 hr ?_ (by rw [hsz]; exact Nat.le_refl _) (fun i v hv => ?_) (fun i _ => by simp)
      · rw [hl12.1, List.length_append, hol, n2, ← Nat.add_mul]
        exact Nat.mul_le_mul_right _ hge
      · obtain ⟨u, hu, huv⟩ := hl12.get hv
        refine ⟨?_, u, ?_, huv⟩
        · have : v ∈ sliceCells m inf.size (ev σ x) ++ cellsAt m by_ offy (leny * inf.size) := List.mem_of_getElem? hv
          rcases List.mem_append.1 this with h | h
          · exact ho1 v h
          · obtain ⟨l', hl', q1, q2, q3⟩ := hm.live by_ yb hyb
            simp only [cellsAt, hyb] at h
            obtain ⟨j, hj, hjv⟩ := List.getElem_of_mem (List.mem_of_mem_drop (List.mem_of_mem_take h))
            exact (q2 j v (by rw [List.getElem?_eq_getElem hj, hjv])).1
        · rw [Array.getElem?_append_left (by
            have := (List.getElem?_eq_some_iff.1 hu).1
            simpa using this)]
          simpa using hu
    rcases sliceOk_spec h1 with ex | ⟨b, off, len, xb, ex, hxb, hxl⟩
    · -- nil
      rw [ex] at rx
      have hxv := rx.inv_flat rfl
      have hl0 : zqr (ev σ x) = 0 := by rw [ex]; rfl
      have hc0 : sliceCells m inf.size (ev σ x) = [] := by rw [ex]; rfl
      obtain ⟨g1, g2⟩ := grown 0 [] m hm hid (by rw [hc0]; exact LRel.nil ρ) (by rw [hc0]; simp) (by rw [hl0]; simp) (by omega)
      simp only [hl0, Nat.zero_add] at g1 g2 h5 h6
      have hrun := run_append_nil (P := P) w t o.type e inf zv ht hi hzv ⟨ly.c, ly.o + offy, none⟩ leny capy news n2 n3 (by omega) (by omega) (by omega)
      refine ⟨_, _, updR ρ id ⟨w.heap.size, 0, grownCap w leny 0 e * inf.size⟩, y_app hop hc ha hT hxv hyv hrun, updR_le hr, updR_other, ?_, ?_, below_alloc (w := w) (w1 := w.drew) rfl rfl rfl rfl hB _⟩
      · rw [hval, hl0, Nat.zero_add]; exact g1
      · rw [hmem, ex]
        simpa only [kill, sliceCells, List.nil_append, Array.empty_append, ex] using g2
    · -- a slice of the call's own
      rw [ex] at rx
      obtain ⟨l, a', cap, hl, _, hxv, hnx, hlc, hcm⟩ := rx.inv_slice
      replace hl : ρ b = some l := hl
      replace hnx : (cap = 0 ∧ len = 0) ∨ (a' = ⟨l.c, l.o + off, none⟩ ∧ off + cap * inf.size ≤ l.n) := hnx
      have hl0 : zqr (ev σ x) = len := by rw [ex]; rfl
      have hc0 : sliceCells m inf.size (ev σ x) = cellsAt m b off (len * inf.size) := by rw [ex]; rfl
      have hown : xb.own = true := by simpa [ex, sliceOwn, hxb] using h2
      obtain ⟨l', hl', q1, q2, q3⟩ := hm.live b xb hxb
      rw [hl] at hl'; cases hl'
      obtain ⟨olds, o1, o2, o3, o4⟩ := hm.cells hxb hl hxl
      have hone : ∀ v ∈ cellsAt m b off (len * inf.size), oneC v = true := by
        intro v hv
        simp only [cellsAt, hxb] at hv
        obtain ⟨j, hj, hjv⟩ := List.getElem_of_mem (List.mem_of_mem_drop (List.mem_of_mem_take hv))
        exact (q2 j v (by rw [List.getElem?_eq_getElem hj, hjv])).1
      have hk : kill m (ev σ x) = m.put b none := by rw [ex]; rfl
      rw [hl0] at h5 h6
      by_cases hroom : len + leny ≤ cap
      · -- there is room
        rcases hnx with ⟨h0, _⟩ | ⟨rfl, hnx⟩
        · omega
        have hmul : (len + leny) * inf.size ≤ cap * inf.size := Nat.mul_le_mul_right _ hroom
        rw [Nat.add_mul] at hmul
        have hrun := run_append_fit (P := P) (w := w) t o.type e inf ht hi l.c (l.o + off) len cap ⟨ly.c, ly.o + offy, none⟩ leny capy news n2 n3 n4 hroom
          (fun j hj => by
            have := ((q3 hown).2 (off + len * inf.size + j) (by rw [n2] at hj; omega)).1
            rwa [show l.o + (off + len * inf.size + j) = l.o + off + len * inf.size + j by omega] at this)
          (fun j hj => by
            have := ((q3 hown).2 (off + len * inf.size + j) (by rw [n2] at hj; omega)).2
            rwa [show l.o + (off + len * inf.size + j) = l.o + off + len * inf.size + j by omega] at this)
        refine ⟨_, _, updR ρ id ⟨l.c, l.o + off, l.n - off⟩, y_app hop hc ha hT hxv hyv hrun, updR_le hr, updR_other, ?_, ?_, below_setCells (q3 hown).1 _ _ _⟩
        · rw [hval, hl0]
          exact .slice (off := 0) (l := ⟨l.c, l.o + off, l.n - off⟩) (by simp [updR]) (.inr ⟨by simp, by show 0 + cap * inf.size ≤ l.n - off; omega⟩) hroom hcm
        · rw [hmem, hk, hc0]
          have hl12 : LRel ρ (cellsAt m b off (len * inf.size) ++ cellsAt m by_ offy (leny * inf.size)) (olds ++ news) := o1.append n1
          have hin : ∀ j (hj : j < news.length), (w.setCells l.c (l.o + off + len * inf.size) news).cell? ⟨l.c, l.o + off + len * inf.size + j, none⟩ = some news[j] := fun j hj =>
            World.cell?_setCells_in l.c news (l.o + off + len * inf.size) w (fun i hi' => by
              have := ((q3 hown).2 (off + len * inf.size + i) (by rw [n2] at hi'; omega)).1
              rwa [show l.o + (off + len * inf.size + i) = l.o + off + len * inf.size + i by omega] at this) j hj
          have hout : ∀ i, i < len * inf.size ∨ len * inf.size + news.length ≤ i → (w.setCells l.c (l.o + off + len * inf.size) news).cell? ⟨l.c, l.o + off + i, none⟩ = w.cell? ⟨l.c, l.o + off + i, none⟩ := fun i hi' =>
            World.cell?_setCells_out _ _ _ _ _ (fun _ _ => by show l.o + off + i < _ ∨ _ ≤ l.o + off + i; omega)
          refine (hm.kill b).adopt (by rw [Mem.put_next]; exact hid) hr (fun b' x' l' hx' hl' => ?_) (by rw [setCells_heap]; exact Nat.le_refl _) (by rw [setCells_heap]; exact hm.inb b l hl) (q3 hown).1 (fun ad _ hne => ⟨World.cell?_setCells_out _ _ _ _ _ (fun h _ => absurd h hne), World.frozen?_setCells _ _ _ _ _⟩) (fun k _ hk => setCells_obj _ _ hk _ _ _) ?_ (fun i v hv => ?_) (fun i hi' => ?_)
          · rw [Mem.get_put] at hx'
            split at hx'
            · split at hx' <;> cases hx'
            · rename_i hne
              exact Ne.symm (hm.excl b xb b' x' l l' hxb hown hx' (Ne.symm hne) hl hl')
          · rw [hl12.1, List.length_append, o2, n2]; omega
          · obtain ⟨u, hu, huv⟩ := hl12.get hv
            have hmem' : v ∈ cellsAt m b off (len * inf.size) ++ cellsAt m by_ offy (leny * inf.size) := List.mem_of_getElem? hv
            refine ⟨?_, u, ?_, huv⟩
            · rcases List.mem_append.1 hmem' with h | h
              · exact hone v h
              · obtain ⟨l', hl', p1, p2, p3⟩ := hm.live by_ yb hyb
                simp only [cellsAt, hyb] at h
                obtain ⟨j, hj, hjv⟩ := List.getElem_of_mem (List.mem_of_mem_drop (List.mem_of_mem_take h))
                exact (p2 j v (by rw [List.getElem?_eq_getElem hj, hjv])).1
            · rw [List.getElem?_append] at hu
              split at hu
              · rename_i hlt
                rw [o2] at hlt
                rw [hout i (.inl hlt)]
                have := o3 i u hu
                rwa [addr_add] at this
              · rename_i hlt
                rw [o2] at hlt hu
                have hj : i - len * inf.size < news.length := (List.getElem?_eq_some_iff.1 hu).1
                have := hin _ hj
                rw [show l.o + off + len * inf.size + (i - len * inf.size) = l.o + off + i by omega] at this
                rw [this]
                rw [List.getElem?_eq_getElem hj] at hu
                exact hu
          · have hq := (q3 hown).2 (off + i) (by omega)
            rw [← Nat.add_assoc] at hq
            refine ⟨?_, by rw [World.frozen?_setCells]; exact hq.2⟩
            by_cases hi2 : i < len * inf.size ∨ len * inf.size + news.length ≤ i
            · rw [hout i hi2]; exact hq.1
            · have hj : i - len * inf.size < news.length := by omega
              have := hin _ hj
              rw [show l.o + off + len * inf.size + (i - len * inf.size) = l.o + off + i by omega] at this
              rw [this]; rfl
      · -- it grows
        obtain ⟨g1, g2⟩ := grown cap olds (m.put b none) (hm.kill b) (by rw [Mem.put_next]; exact hid) (by rw [hc0]; exact o1) (by rw [hc0]; exact hone) (by rw [hl0]; exact o2) (by omega)
        rw [hl0] at g1 g2
        have holds : ∀ (j : Nat) v, olds[j]? = some v → w.cell? (a'.add j) = some v := by
          intro j v hv
          rcases hnx with ⟨_, h0⟩ | ⟨rfl, _⟩
          · subst h0
            simp at o2
            rw [o2] at hv
            simp at hv
          · exact o3 j v hv
        have hrun := run_append_grow (P := P) w t o.type e inf zv ht hi hzv a' len cap olds o2 holds ⟨ly.c, ly.o + offy, none⟩ leny capy news n2 n3 (by omega) (by omega) (growslice_fits (by omega) h5)
        refine ⟨_, _, updR ρ id ⟨w.heap.size, 0, grownCap w (len + leny) cap e * inf.size⟩, y_app hop hc ha hT hxv hyv hrun, updR_le hr, updR_other, ?_, ?_, below_alloc (w := w) (w1 := w.drew) rfl rfl rfl rfl hB _⟩
        · rw [hval, hl0]; exact g1
        · rw [hmem, hk]; exact g2

end
end Go.DI
namespace Go.DI
open Go Go.RowKit

section
variable {P : Program} {w : World} {o : Oper} {a : Act} {ρ : Ren} {nt : Nat} {σ : Slots} {m : Mem} {B id : Nat}

theorem modify_push {α : Type} (xs : Array α) (x : α) (f : α → α) : (xs.push x).modify xs.size f = xs.push (f x) := by
  apply Array.ext_getElem?
  intro i
  rw [Array.getElem?_modify, Array.getElem?_push, Array.getElem?_push]
  by_cases h : xs.size = i
  · simp [h]
  · have : ¬ i = xs.size := fun e => h e.symm
    simp [h, this]

theorem s_convSB {s d e : TypeId} {x : Operand} (hop : o.op = .convert s d x) (hS : P.underlying s = some .string) (hD : P.underlying d = some (.slice e)) (hE : P.underlying e = some (.int .u8)) (hx : argOk x = true)
    (hs : SRel ρ nt σ a) (hm : MRel B ρ m w) (hB : B ≤ w.heap.size) (hid : id < m.next) (hr : ρ id = none) (hok : (IK.convSB x).ok σ m = true) : Sound P o (.convSB x) a B ρ σ m w id := by
  simp only [IK.ok, Bool.and_eq_true, decide_eq_true_eq] at hok
  obtain ⟨h1, h2⟩ := hok
  obtain ⟨e1, b, hv⟩ := str_of (hs.ev hx) h1
  rw [hv] at h2
  simp only [asS] at h2
  have hge := grownCap_ge w b.size 0 e
  have hcm : grownCap w b.size 0 e ≤ maxLen := grownCap_le_maxLen w _ 0 e (by unfold maxLen; omega)
  generalize hcap : grownCap w b.size 0 e = cap at hge hcm
  let arr : Array Value := (b.data.map fun (x : UInt8) => Value.int .u8 x.toNat) ++ Array.replicate (cap - b.size) (Value.int .u8 0)
  have hsz : arr.size = cap := by
    show ((b.data.map fun (x : UInt8) => Value.int .u8 x.toNat) ++ Array.replicate (cap - b.size) (Value.int .u8 0)).size = cap
    simp only [Array.size_append, Array.size_map, Array.size_replicate]
    have : b.data.size = b.size := rfl
    omega
  have hfz : (w.drew.alloc (.cells arr e)).freeze ⟨w.heap.size, arr.size, none⟩ 1 = w.drew.alloc (.cells arr e (arr.size, arr.size + 1)) := by
    simp only [World.freeze, Nat.one_ne_zero, if_false, World.alloc]
    congr 1
    show (w.heap.push _).modify w.heap.size _ = w.heap.push _
    rw [modify_push]
    simp
  have hrun : (Conv.stringToBytes e b).run P w = .ok (.slice (some ⟨w.heap.size, 0, none⟩) b.size cap) (w.drew.alloc (.cells arr e (arr.size, arr.size + 1))) := by
    have hch : (choose (.appendCap b.size 0 e)).run P w = .ok cap w.drew := by
      rw [← hcap]
      rfl
    have hnew : (newRow e arr).run P w.drew = .ok ⟨w.heap.size, 0, none⟩ (w.drew.alloc (.cells arr e)) := rfl
    have hshape : (w.drew.alloc (.cells arr e)).shape? w.heap.size = some (e, arr.size) := by
      show (match (w.heap.push (Obj.cells arr e))[w.heap.size]? with | some (.cells c elem _) => some (elem, c.size) | _ => none) = _
      simp
    have hmark : (markStringish ⟨w.heap.size, 0, none⟩).run P (w.drew.alloc (.cells arr e)) = .ok () (w.drew.alloc (.cells arr e (arr.size, arr.size + 1))) := by
      simp only [markStringish, Sem.run_bind]
      have : (shape w.heap.size).run P (w.drew.alloc (.cells arr e)) = .ok (some (e, arr.size)) (w.drew.alloc (.cells arr e)) := by
        simp only [shape, Sem.run, hshape]
      rw [this]
      simp only [Result.andThen_ok]
      show Result.ok () ((w.drew.alloc (.cells arr e)).freeze ⟨w.heap.size, arr.size, none⟩ 1) = _
      rw [hfz]
    simp only [Conv.stringToBytes, Sem.run_bind, hch, Result.andThen_ok]
    have e2 : (b.data.map fun (b : UInt8) => Value.int .u8 b.toNat) ++ Array.replicate (cap - b.size) (Value.int .u8 0) = arr := rfl
    rw [e2, hnew]
    simp only [Result.andThen_ok, hmark]
    rfl
  refine ⟨.slice (some ⟨w.heap.size, 0, none⟩) b.size cap, _, updR ρ id ⟨w.heap.size, 0, cap⟩, .inl ?_, updR_le hr, updR_other, ?_, ?_, below_alloc (w := w) (w1 := w.drew) rfl rfl rfl rfl hB (.cells arr e (arr.size, arr.size + 1))⟩
  · simp [execOp, hop, e1, hv, convert, underlying, hS, hD, hE, hrun]
  · simp only [IK.val, hv, asS]
    exact .slice (off := 0) (l := ⟨w.heap.size, 0, cap⟩) (by simp [updR]) (.inr ⟨by simp, by simp⟩) hge hcm
  · simp only [IK.mem, hv, asS]
    refine hm.newBlock (w1 := w.drew) rfl hB hid hr (by simp only [ofBytes, List.length_map, Array.length_toList]; exact hge) (by rw [hsz]; exact Nat.le_refl _) (fun i v hv' => ?_) (fun i hi' => by simp only; omega)
    have hi2 : i < b.data.size := by have := (List.getElem?_eq_some_iff.1 hv').1; simpa [ofBytes] using this
    have hvv : v = .int .u8 (b.data[i]).toNat := by
      simp only [ofBytes, List.getElem?_map, Array.getElem?_toList, Array.getElem?_eq_getElem hi2, Option.map_some, Option.some.injEq] at hv'
      exact hv'.symm
    subst hvv
    refine ⟨rfl, _, ?_, .flat rfl⟩
    show ((b.data.map fun (x : UInt8) => Value.int .u8 x.toNat) ++ Array.replicate (cap - b.size) (Value.int .u8 0))[i]? = _
    rw [Array.getElem?_append_left (by simpa using hi2), Array.getElem?_map, Array.getElem?_eq_getElem hi2]
    rfl

end
end Go.DI
