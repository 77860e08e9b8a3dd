/-
  Draw regions, whatever order is drawn.
-/
import Derived.Test.YtapnkfkpkcajjaaFwP
namespace Go.DI
open Go Go.RowKit

def dsts (l : List IOp) : List Nat := l.filterMap (·.d)

section
variable {P : Program} {B : Nat} {cl : Callee} {base : Nat} {ops : Array Oper} {nt : Nat}

theorem compatB_mono {k i : IOp} {b b' : List Nat} (h : ∀ t ∈ b', t ∈ b) (hc : compatB k i b = true) : compatB k i b' = true := by
  have hnot : ∀ t, (!b.contains t) = true → (!b'.contains t) = true := by
    intro t ht
    simp at ht ⊢
    exact fun hh => ht (h t hh)
  have hall : ∀ l : List Nat, (l.all fun t => !b.contains t && k.d != some t) = true → (l.all fun t => !b'.contains t && k.d != some t) = true := by
    intro l hl
    rw [List.all_eq_true] at hl ⊢
    intro t ht
    have := hl t ht
    rw [Bool.and_eq_true] at this ⊢
    exact ⟨hnot t this.1, this.2⟩
  simp only [compatB, Bool.and_eq_true] at hc ⊢
  refine ⟨hc.1, ?_⟩
  have hc2 := hc.2
  split at hc2
  · rename_i h1
    rw [if_pos h1]
    simp only [Bool.and_eq_true] at hc2 ⊢
    exact ⟨hc2.1, hall _ hc2.2⟩
  · rename_i h1
    rw [if_neg h1]
    split at hc2
    · rename_i h2; rw [if_pos h2]; exact hc2
    · rename_i h2
      rw [if_neg h2]
      simp only [Bool.and_eq_true, Bool.or_eq_true] at hc2 ⊢
      refine ⟨hc2.1.imp id fun h3 => ⟨h3.1, ?_⟩, hall _ hc2.2⟩
      cases hd : k.d with
      | none => rfl
      | some d => rw [hd] at h3; exact hnot d h3.2

theorem stepOp_slots {o : IOp} {σ σ' : Slots} {m m' : Mem} (h : stepOp cl base o σ m = some (σ', m')) {t : Nat} (ht : o.d ≠ some t) : σ' t = σ t := by
  unfold stepOp at h
  split at h
  · split at h
    · split at h
      · cases h; exact putD_other ht
      · cases h
    · split at h
      · cases h; exact putD_other ht
      · cases h
  · cases h; exact putD_other ht

theorem move (hcl : ClSound P B cl) {i : IOp} {post : List IOp} {sf : Slots × Mem} : ∀ (pre : List IOp) (σ : Slots) (m : Mem), runOps cl base (pre ++ i :: post) σ m = some sf →
    (∀ A k C, pre = A ++ k :: C → compatB k i (dsts C) = true ∧ ∀ p ∈ pairs k i, p ∈ i.ck) → (∀ k ∈ pre, k.ix ≠ i.ix) → (i.k.isAlloc = true → m.get (base + i.ix) = none ∧ base + i.ix < m.next) →
    ∃ σ1 m1 σo mo mo', stepOp cl base i σ m = some (σ1, m1) ∧ runOps cl base (pre ++ post) σ1 m1 = some sf ∧ ckProp i σo mo mo' ∧ (∀ t, t ∉ dsts pre → σo t = σ t) ∧ (i.k.isCall = true → wantedI σ i.g = true → mo = m ∧ mo' = m1)
  | [], σ, m, h, _, _, _ => by
    obtain ⟨σ1, m1, h1, h2, h3⟩ := runOps_cons h
    exact ⟨σ1, m1, σ, m, m1, h1, h3, h2, fun _ _ => rfl, fun _ _ => ⟨rfl, rfl⟩⟩
  | k :: pre, σ, m, h, hc, hix, hf => by
    obtain ⟨σ2, m2, h1, h2, h3⟩ := runOps_cons h
    have hkx := hix k (by simp)
    have hck0 := hc [] k pre rfl
    obtain ⟨σ3, m3, σo, mo, mo', g1, g2, g3, g4, g5⟩ := move hcl pre σ2 m2 h3 (fun A k' C e => hc (k :: A) k' C (by rw [e]; rfl)) (fun k' hk' => hix k' (by simp [hk'])) (fun hal => ⟨stepOp_none hcl h1 (hf hal).2 (by omega) (hf hal).1, Nat.lt_of_lt_of_le (hf hal).2 (stepOp_next hcl h1)⟩)
    -- what i reads is not written by those before it
    have hri : ∀ t, t ∈ i.reads → t ∉ dsts pre := by
      intro t ht hd
      obtain ⟨k', hk', hkd⟩ := List.mem_filterMap.1 hd
      obtain ⟨A, C, e⟩ := List.append_of_mem hk'
      have := (hc (k :: A) k' C (by rw [e]; rfl)).1
      simp only [compatB, Bool.and_eq_true] at this
      rw [hkd] at this
      exact nin_some this.1.1.2 ht
    have hwo : wantedI σo i.g = wantedI σ2 i.g := by
      cases hg : i.g with
      | none => rfl
      | some tb => obtain ⟨t, b⟩ := tb; simp only [wantedI]; rw [g4 t (hri t (List.mem_append_right _ (by simp [hg])))]
    have hev : ∀ x ∈ i.k.opnds, ev σo x = ev σ2 x := fun x hx => ev_congr fun t ht => g4 t (hri t (List.mem_append_left _ (slotsOf_mem hx ht)))
    have hcal : i.k.callee σo = i.k.callee σ2 := (congr_ev (m := m) (id := 0) hev).2.2.2
    have hF : ApartAt k i σ2 m2 m3 := by
      intro hw
      have hck := g3 (by rw [hwo]; exact hw)
      rw [hcal] at hck
      have hcB := hck0.1
      simp only [compatB, Bool.and_eq_true] at hcB
      obtain ⟨_, hcB⟩ := hcB
      cases hq : i.k.callee σ2 with
      | some fa =>
        have hic := callee_isCall hq
        rw [hq] at hck
        simp only at hck ⊢
        obtain ⟨rfl, rfl⟩ := g5 hic hw
        rw [if_pos hic] at hcB
        simp only [Bool.and_eq_true] at hcB
        intro p hp b hb
        have hp2 := hp
        simp only [pairs, hic, if_true] at hp2
        obtain ⟨x, hx, rfl⟩ := List.mem_map.1 hp2
        refine hck _ (hck0.2 _ hp) b ?_
        rw [show ev σo x = ev σ2 x from ev_congr fun t ht => g4 t (fun hd => ?_)]
        · exact hb
        · have := List.all_eq_true.1 hcB.2 t (slotsOf_mem hx ht)
          simp at this
          exact this.1 hd
      | none =>
        rw [hq] at hck
        simp only [ckOk, List.all_eq_true] at hck
        simp only
        intro p hp a b ha hb e
        by_cases hic : i.k.isCall = true
        · -- an operation that should call but cannot: it has not run
          have := callee_none hw hq g1
          rw [hic] at this; cases this
        rw [if_neg hic] at hcB
        by_cases hkc : k.k.isCall = true
        · simp only [pairs, if_neg hic, if_pos hkc] at hp; cases hp
        rw [if_neg hkc] at hcB
        simp only [Bool.and_eq_true, Bool.or_eq_true, Bool.not_eq_true'] at hcB
        have hp2 := hp
        simp only [pairs, if_neg hic, if_neg hkc] at hp2
        have hslot : ∀ x ∈ k.k.rd ++ k.k.wro, ev σo x = ev σ2 x := fun x hx => ev_congr fun t ht => g4 t fun hd => by
          have := List.all_eq_true.1 hcB.2 t (slotsOf_mem hx ht)
          simp at this
          exact this.1 hd
        have hp1 : ev σo p.1 = ev σ2 p.1 ∧ ev σo p.2 = ev σ2 p.2 := by
          rcases List.mem_append.1 hp2 with h4 | h4
          · obtain ⟨x, hx, h5⟩ := List.mem_flatMap.1 h4
            obtain ⟨y, hy, rfl⟩ := List.mem_map.1 h5
            refine ⟨?_, hev y (rd_opnds y hy)⟩
            rcases List.mem_append.1 hx with h6 | h6
            · exact hslot x (List.mem_append_right _ h6)
            · split at h6
              · rename_i hal
                rcases hcB.1 with h7 | h7
                · rw [hal] at h7; cases h7
                · cases hd : k.d with
                  | none => rw [hd] at h6; cases h6
                  | some d =>
                    rw [hd] at h6 h7
                    simp only [dOps, List.mem_singleton] at h6
                    subst h6
                    exact g4 d (nin_some h7.2)
              · cases h6
          · obtain ⟨x, hx, h5⟩ := List.mem_flatMap.1 h4
            obtain ⟨y, hy, rfl⟩ := List.mem_map.1 h5
            exact ⟨hslot x (List.mem_append_left _ hx), hev y (rd_opnds y (List.mem_append_right _ hy))⟩
        have := hck p (hck0.2 p hp)
        obtain ⟨x, y⟩ := p
        simp only at this ha hb hp1
        rw [hp1.1, hp1.2, ha, hb] at this
        simp [e] at this
    obtain ⟨σ1, m1, q1, q2, q3, q4⟩ := swap hck0.1 hkx (fun hal => (hf hal).1) h1 h2 g1 hF
    refine ⟨σ1, m1, σo, mo, mo', q1, runOps_mk q2 q3 g2, g3, fun t ht => ?_, fun h5 h6 => ?_⟩
    · have ht1 : t ∉ dsts pre := fun hd => ht (by
        obtain ⟨k', hk', hkd⟩ := List.mem_filterMap.1 hd
        exact List.mem_filterMap.2 ⟨k', by simp [hk'], hkd⟩)
      have ht2 : k.d ≠ some t := fun hd => ht (List.mem_filterMap.2 ⟨k, by simp, hd⟩)
      rw [g4 t ht1, stepOp_slots h1 ht2]
    · have hnk : nin i.reads k.d = true := by
        have := hck0.1
        simp only [compatB, Bool.and_eq_true] at this
        exact this.1.1.2
      have hw2 : wantedI σ2 i.g = true := by
        cases hg : i.g with
        | none => rfl
        | some tb =>
          obtain ⟨t, b⟩ := tb
          rw [hg] at h6
          simp only [wantedI] at h6 ⊢
          rw [stepOp_slots h1 (t := t) fun hd => ?_]
          · exact h6
          · rw [hd] at hnk
            exact nin_some hnk (List.mem_append_right _ (by simp [hg]))
      obtain ⟨rfl, rfl⟩ := g5 h5 hw2
      exact ⟨(q4 h5 h6).1.symm, (q4 h5 h6).2.symm⟩

/-! the static check, as a law -/
def GoodP (tab : List Nat) : List IOp → Prop
  | [] => True
  | k :: rest => (∀ pre i post, rest = pre ++ i :: post → (tab.getD i.ix 0).testBit k.ix = true ∨ (compatB k i (dsts pre) = true ∧ ∀ p ∈ pairs k i, p ∈ i.ck)) ∧ GoodP tab rest

theorem GoodP.at_ {tab : List Nat} : ∀ (A : List IOp) (k : IOp) (C : List IOp) (i : IOp) (D : List IOp), GoodP tab (A ++ k :: C ++ i :: D) → (tab.getD i.ix 0).testBit k.ix = true ∨ (compatB k i (dsts C) = true ∧ ∀ p ∈ pairs k i, p ∈ i.ck)
  | [], _, C, i, D, h => h.1 C i D rfl
  | _ :: A, k, C, i, D, h => GoodP.at_ A k C i D h.2

theorem GoodP.remove {tab : List Nat} : ∀ (A : List IOp) (x : IOp) (C : List IOp), GoodP tab (A ++ x :: C) → GoodP tab (A ++ C)
  | [], _, _, h => h.2
  | k :: A, x, C, h => by
    refine ⟨fun pre i post e => ?_, GoodP.remove A x C h.2⟩
    rcases List.append_eq_append_iff.1 e with ⟨as, e1, e2⟩ | ⟨bs, e1, e2⟩
    · -- i lies behind x
      have := h.1 (A ++ x :: as) i post (by rw [e2]; simp)
      refine this.imp id fun hh => ⟨compatB_mono (fun t ht => ?_) hh.1, hh.2⟩
      rw [e1] at ht
      obtain ⟨k', hk', hkd⟩ := List.mem_filterMap.1 ht
      refine List.mem_filterMap.2 ⟨k', ?_, hkd⟩
      rcases List.mem_append.1 hk' with h1 | h1
      · exact List.mem_append_left _ h1
      · exact List.mem_append_right _ (by simp [h1])
    · cases bs with
      | nil =>
        simp only [List.append_nil] at e1
        simp only [List.nil_append] at e2
        have := h.1 (A ++ [x]) i post (by rw [← e2]; simp)
        refine this.imp id fun hh => ⟨compatB_mono (fun t ht => ?_) hh.1, hh.2⟩
        rw [← e1] at ht
        obtain ⟨k', hk', hkd⟩ := List.mem_filterMap.1 ht
        exact List.mem_filterMap.2 ⟨k', List.mem_append_left _ hk', hkd⟩
      | cons b bs =>
        simp only [List.cons_append, List.cons.injEq] at e2
        obtain ⟨rfl, e2⟩ := e2
        exact h.1 pre i (bs ++ x :: C) (by rw [e1]; simp)

/-! what an operation waits for -/
theorem maskOf_spec {tab : List Nat} {o : Oper} {b : Nat} (h : (maskOf tab o).testBit b = true) : ∃ e ∈ o.after, Region.binds .any e = true ∧ (e.on = b ∨ (tab.getD e.on 0).testBit b = true) := by
  unfold maskOf at h
  have key : ∀ (l : List Edge) (s : Nat), (l.foldl (fun s e => if Region.binds .any e then s ||| 2 ^ e.on ||| tab.getD e.on 0 else s) s).testBit b = true → s.testBit b = true ∨ ∃ e ∈ l, Region.binds .any e = true ∧ (e.on = b ∨ (tab.getD e.on 0).testBit b = true) := by
    intro l
    induction l with
    | nil => intro s h; exact .inl h
    | cons e l ih =>
      intro s h
      simp only [List.foldl_cons] at h
      rcases ih _ h with h1 | ⟨e', he', h2⟩
      · split at h1
        · rename_i hb
          simp only [Nat.testBit_or, Bool.or_eq_true, Nat.testBit_two_pow, decide_eq_true_eq] at h1
          rcases h1 with (h1 | h1) | h1
          · exact .inl h1
          · exact .inr ⟨e, by simp, hb, .inl h1⟩
          · exact .inr ⟨e, by simp, hb, .inr h1⟩
        · exact .inl h1
      · exact .inr ⟨e', by simp [he'], h2⟩
  rcases key _ 0 h with h1 | ⟨e, he, h2⟩
  · simp at h1
  · exact ⟨e, by simpa using he, h2⟩

theorem masks_spec {listed : Nat → Prop} (hclosed : ∀ j oj, ops[j]? = some oj → listed j → ∀ e ∈ oj.after, Region.binds .any e = true → listed e.on) :
    ∀ (l : List Oper) (acc : List Nat), (∀ j, l[j]? = ops[acc.length + j]?) →
      (∀ j, j < acc.length → ∀ oj, ops[j]? = some oj → (∀ e ∈ oj.after, Region.binds .any e = true → listed e.on) → ∀ b, (acc.getD j 0).testBit b = true → listed b) →
      ∀ j oj, ops[j]? = some oj → (∀ e ∈ oj.after, Region.binds .any e = true → listed e.on) → ∀ b, ((masks l acc).getD j 0).testBit b = true → listed b
  | [], acc, hl, hacc, j, oj, hj, hd, b, hb => by
    simp only [masks] at hb
    by_cases h : j < acc.length
    · exact hacc j h oj hj hd b hb
    · rw [List.getD_eq_getElem?_getD, List.getElem?_eq_none (by omega)] at hb
      simp at hb
  | o :: l, acc, hl, hacc, j, oj, hj, hd, b, hb => by
    have ho : ops[acc.length]? = some o := by have := hl 0; simpa using this.symm
    refine masks_spec hclosed l (acc ++ [maskOf acc o]) (fun i => by have := hl (i + 1); simp at this ⊢; rw [this]; congr 1; omega) (fun i hi oi hoi hdi b' hb' => ?_) j oj hj hd b hb
    simp only [List.length_append, List.length_cons, List.length_nil] at hi
    by_cases h : i < acc.length
    · rw [List.getD_eq_getElem?_getD, List.getElem?_append_left h, ← List.getD_eq_getElem?_getD] at hb'
      exact hacc i h oi hoi hdi b' hb'
    · have hi2 : i = acc.length := by omega
      subst hi2
      rw [List.getD_eq_getElem?_getD, List.getElem?_append_right (Nat.le_refl _)] at hb'
      simp only [Nat.sub_self, List.getElem?_cons_zero, Option.getD_some] at hb'
      have : oi = o := Option.some.inj (hoi.symm.trans ho)
      subst this
      obtain ⟨e, he, hbi, h2⟩ := maskOf_spec hb'
      have hon := hdi e he hbi
      rcases h2 with rfl | h2
      · exact hon
      · by_cases h3 : e.on < acc.length
        · have hex : ∃ oe, ops[e.on]? = some oe := by
            have hs : acc.length < ops.size := (Array.getElem?_eq_some_iff.1 ho).1
            exact ⟨ops[e.on], Array.getElem?_eq_getElem (by omega)⟩
          obtain ⟨oe, hoe⟩ := hex
          exact hacc e.on h3 oe hoe (hclosed e.on oe hoe hon) b' h2
        · rw [List.getD_eq_getElem?_getD, List.getElem?_eq_none (by omega)] at h2
          simp at h2

end
end Go.DI
