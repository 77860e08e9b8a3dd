/-
  More rules for a proof's own steps: a nil in a cell as an object; loops that count.
-/
import Derived.Test.YticjcminhkgabaaGreatDoorTvI
namespace Go.DI
open Go Go.RowKit
set_option linter.unusedSimpArgs false
set_option linter.unusedVariables false

section
variable {P : Program} {sp : Sps P} {t t1 : Mem} {σ σ1 : Slots} {c : ICode} {Q : IExit → Slots → Mem → Prop}
theorem wpt_ghost (hg : ∀ E F σ' m, Sim E F t m → SR F E σ σ' → Sim E F t1 m ∧ SR F E σ1 σ' ∧ Fr t.next m.next E F t m E F t1 m) (h : WPT P c σ1 t1 Q) : WPT P c σ t Q := fun hok E F σ' m hs hσ => by
  obtain ⟨g1, g2, g3⟩ := hg E F σ' m hs hσ
  refine (h hok E F σ' m g1 g2).mono fun e s1 m1 hh => ?_
  obtain ⟨E1, F1, σ2, t2, h1, h2, h3, h4⟩ := hh
  exact ⟨E1, F1, σ2, t2, h1, h2, h3, g3.trans (h4.weak g3.tnx (Nat.le_refl _))⟩
theorem virtC_sim {E : Emb} {F : Frz} {m : Mem} (hs : Sim E F t m) {o j z : Nat} {cs : List Value} (ho : t.get o = some ⟨cs, true⟩) (hj : cs[j]? = some (.slice none 0 0)) :
    Sim E F (((t.bump 1).put t.next (some ⟨[], true⟩)).put o (some ⟨cs.set j (.slice (some ⟨t.next, 0, none⟩) 0 z), true⟩)) m ∧ Fr t.next m.next E F t m E F (((t.bump 1).put t.next (some ⟨[], true⟩)).put o (some ⟨cs.set j (.slice (some ⟨t.next, 0, none⟩) 0 z), true⟩)) m := by
  refine ⟨?_, ?_⟩
  · have hE : E t.next = none := by
      cases he : E t.next with
      | none => rfl
      | some b => have := (hs.lt _ _ he).1; omega
    have hlt := get_lt ho
    have hne : o ≠ t.next := by omega
    refine ⟨fun p x hx => ?_, fun p es he => ?_, hs.mp0, hs.inj, fun p b h => ⟨by have := (hs.lt p b h).1; simp only [zqp, zqq]; omega, (hs.lt p b h).2⟩, fun b ds hb => ?_⟩
    · by_cases hp : p = o
      · subst hp
        rw [zql (by simp; omega)] at hx
        cases hx
        rcases hs.obj p _ ho with ⟨b, ds, w, h1, h2, h3, h4⟩ | ⟨h1, h2⟩
        · refine .inl ⟨b, ds, w, h1, h2, h3, ?_⟩
          obtain ⟨y, hy, hv⟩ := h4.get hj
          have := h4.set j (y := y) (x := .slice (some ⟨t.next, 0, none⟩) 0 z) (by rw [hv.inv_flat rfl]; exact .sliceV)
          rw [show ds.set j y = ds from by
            apply List.ext_getElem?
            intro i
            rw [List.getElem?_set]
            split
            · next e => subst e; rw [hy]; simp; exact (List.getElem?_eq_some_iff.1 hy).1
            · rfl] at this
          exact this
        · simp only at h2; subst h2; simp at hj
      · rw [zqm hp] at hx
        by_cases hq : p = t.next
        · subst hq; rw [zql (by simp)] at hx; cases hx; exact .inr ⟨hE, rfl⟩
        · rw [zqm hq, Mem.zqn] at hx; exact hs.obj p x hx
    · by_cases hp : p = o
      · subst hp
        obtain ⟨e1, e2⟩ := getM_cells he
        rw [zql (by simp; omega)] at e1
        have : cs = [] := by simpa using e1
        subst this; simp at hj
      · obtain ⟨e1, e2⟩ := getM_cells he
        rw [zqm hp] at e1
        by_cases hq : p = t.next
        · subst hq
          have h3 : t.mp t.next = some es := e2
          rw [hs.mp0 _ hE] at h3; cases h3
        · rw [zqm hq, Mem.zqn] at e1
          exact hs.maps p es (getM_of e1 e2)
    · obtain ⟨h1, h2⟩ := hs.fr b ds hb
      refine ⟨h1, fun p x hEp hx => ?_⟩
      by_cases hp : p = o
      · subst hp; have := h2 p _ hEp ho; cases this
      · rw [zqm hp] at hx
        have hq : p ≠ t.next := fun e => by subst e; rw [hE] at hEp; cases hEp
        rw [zqm hq, Mem.zqn] at hx
        exact h2 p x hEp hx
  · have hE : E t.next = none := by
      cases he : E t.next with
      | none => rfl
      | some b => have := (hs.lt _ _ he).1; omega
    refine ⟨ELe.refl _, FLe.refl _, fun _ _ h => .inl h, fun _ _ h => .inl h, by simp, Nat.le_refl _, fun _ _ _ => rfl, fun b hb => fun ⟨p, x, e1, e2, e3⟩ => ?_, fun b hb => fun ⟨p, x, e1, e2⟩ => ?_⟩
    · by_cases hp : p = o
      · subst hp; exact ⟨p, _, e1, ho, rfl⟩
      · rw [zqm hp] at e2
        have hq : p ≠ t.next := fun e => by subst e; rw [hE] at e1; cases e1
        rw [zqm hq, Mem.zqn] at e2
        exact ⟨p, x, e1, e2, e3⟩
    · by_cases hp : p = o
      · subst hp; exact ⟨p, _, e1, ho⟩
      · rw [zqm hp] at e2
        have hq : p ≠ t.next := fun e => by subst e; rw [hE] at e1; cases e1
        rw [zqm hq, Mem.zqn] at e2
        exact ⟨p, x, e1, e2⟩
/-- nil in a cell of an object, as an object of one's own -/
theorem wpt_virtC {o j z : Nat} {cs : List Value} (ho : t.get o = some ⟨cs, true⟩) (hj : cs[j]? = some (.slice none 0 0))
    (h : WPT P c σ (((t.bump 1).put t.next (some ⟨[], true⟩)).put o (some ⟨cs.set j (.slice (some ⟨t.next, 0, none⟩) 0 z), true⟩)) Q) : WPT P c σ t Q :=
  wpt_ghost (fun E F σ' m hs hσ => ⟨(virtC_sim hs ho hj).1, hσ, (virtC_sim hs ho hj).2⟩) h
theorem wptc_virtC {f : Nat} {args : List Value} {Φ : Value → Mem → Prop} {o j z : Nat} {cs : List Value} (ho : t.get o = some ⟨cs, true⟩) (hj : cs[j]? = some (.slice none 0 0))
    (h : WPTC P f args (((t.bump 1).put t.next (some ⟨[], true⟩)).put o (some ⟨cs.set j (.slice (some ⟨t.next, 0, none⟩) 0 z), true⟩)) Φ) : WPTC P f args t Φ := fun E F as m hs ha => by
  obtain ⟨g1, g2⟩ := virtC_sim (z := z) hs ho hj
  refine (h E F as m g1 ha).mono fun r' m1 hh => ?_
  obtain ⟨E1, F1, r, t1, h1, h2, h3, h4⟩ := hh
  exact ⟨E1, F1, r, t1, h1, h2, h3, g2.trans (h4.weak g2.tnx (Nat.le_refl _))⟩
theorem specT_imp {l : List (PSpec P)} {f : Nat} {ts : List Value} {Φ Ψ : Value → Prop} (h : specT l f ts Φ) (hk : ∀ r, Φ r → Ψ r) : specT l f ts Ψ := by
  induction l with
  | nil => exact h
  | cons s sp ih =>
    simp only [specT] at h ⊢
    split at h
    · next e =>
      rw [if_pos e]
      cases hf : s.fn ts with
      | none => rw [hf] at h; exact h
      | some r => rw [hf] at h; exact hk _ h
    · next e => rw [if_neg e]; exact ih h
theorem specI_imp {l : List (ISpec P)} {f : Nat} {ts : List Value} {t : Mem} {K K' : Value → Mem → Prop} (h : specI l f ts t K) (hk : ∀ r t, K r t → K' r t) : specI l f ts t K' := by
  induction l with
  | nil => exact h
  | cons s sp ih =>
    simp only [specI] at h ⊢
    split at h
    · next e =>
      rw [if_pos e]
      cases hf : s.fn ts t with
      | none => rw [hf] at h; exact h
      | some r => rw [hf] at h; exact hk _ _ h
    · next e => rw [if_neg e]; exact ih h
theorem callT_imp {f : Nat} {args : List Value} {kp : Bool} {K K' : Value → Mem → Prop} (h : callT sp f args t kp K) (hk : ∀ r t, K r t → K' r t) : callT sp f args t kp K' := by
  unfold callT at h ⊢
  split at h
  · next hs =>
    rw [if_pos hs]
    unfold pureT at h ⊢
    split at h
    · next ts hz => exact specT_imp h fun r h => hk _ _ h
    · exact h
  · next hs =>
    rw [if_neg hs]
    refine ⟨h.1, ?_⟩
    have h2 := h.2
    split at h2
    · next e => rw [if_pos e]; exact specI_imp h2 hk
    · next e => rw [if_neg e]; exact h2.mono hk
theorem TWO_imp {base : Nat} : ∀ {ops : List IOp} {σ : Slots} {t : Mem} {K K' : Slots → Mem → Prop}, TWO sp base ops σ t K → (∀ σ t, K σ t → K' σ t) → TWO sp base ops σ t K'
  | [], _, _, _, _, h, hk => hk _ _ h
  | o :: ops, σ, t, K, K', h, hk => by
    simp only [TWO] at h ⊢
    split at h
    · next hw =>
      rw [if_pos hw]
      obtain ⟨ix, d, g, k, ck⟩ := o
      cases k with
      | call f as => exact callT_imp h fun r t h => TWO_imp h hk
      | callv x as =>
        simp only [oneT, callvT] at h ⊢
        split at h
        · exact callT_imp h fun r t h => TWO_imp h hk
        · exact h
      | icall => exact h
      | _ => exact ⟨h.1, h.2.1, TWO_imp h.2.2 hk⟩
    · next hw => rw [if_neg hw]; exact TWO_imp h hk
theorem TW_imp : ∀ {c : ICode} {σ : Slots} {t : Mem} {Q Q' : IExit → Slots → Mem → Prop}, TW sp c σ t Q → (∀ e σ t, Q e σ t → Q' e σ t) → TW sp c σ t Q'
  | .skip, _, _, _, _, h, hq => hq _ _ _ h
  | .exit _, _, _, _, _, h, hq => hq _ _ _ h
  | .ret, _, _, _, _, h, hq => hq _ _ _ h
  | .region _, _, _, _, _, h, hq => TWO_imp h fun σ t h => hq _ _ _ h
  | .late _ _ _, _, _, _, _, h, _ => h.elim
  | .seq a b, _, _, _, _, h, hq => TW_imp (c := a) h fun e σ t h => by
    cases e with
    | normal => exact TW_imp (c := b) h hq
    | exit id => exact hq _ _ _ h
    | ret => exact hq _ _ _ h
  | .cond c a b, _, _, _, _, h, hq => by
    refine ⟨h.1, ?_⟩
    have h2 := h.2
    split at h2
    · next e => rw [if_pos e]; exact TW_imp (c := a) h2 hq
    · next e => rw [if_neg e]; exact TW_imp (c := b) h2 hq
  | .block id c, _, _, _, _, h, hq => TW_imp (c := c) h fun e σ t h => by
    cases e with
    | normal => exact hq _ _ _ h
    | ret => exact hq _ _ _ h
    | exit id' =>
      simp only at h ⊢
      split at h
      · next e => rw [if_pos e]; exact hq _ _ _ h
      · next e => rw [if_neg e]; exact hq _ _ _ h
  | .loop _, _, _, _, _, h, hq => h.mono hq
/-- a loop that counts from i to n -/
theorem wpt_for (I : Nat → Slots → Mem → Prop) (n : Nat) (step : ∀ i σ t, i < n → I i σ t → ∀ J : Slots → Mem → Prop, (∀ σ' t', I (i + 1) σ' t' → J σ' t') → TW sp c σ t (loopJ J Q))
    (last : ∀ σ t, I n σ t → TW sp c σ t (loopJ (fun _ _ => False) Q)) : ∀ (i : Nat) (σ : Slots) (t : Mem), i ≤ n → I i σ t → WPT P (.loop c) σ t Q := by
  have key : ∀ (r i : Nat) (σ : Slots) (t : Mem), i + r = n → I i σ t → WPT P (.loop c) σ t Q := by
    intro r
    induction r with
    | zero =>
      intro i σ t hi hI
      have e : i = n := by omega
      subst e
      refine wpt_round (sp := sp) fun J hJ => ?_
      have h1 := last σ t hI
      refine TW_imp h1 fun e σ t h => ?_
      cases e with
      | normal => exact h.elim
      | exit id => exact h
      | ret => exact h
    | succ r ih =>
      intro i σ t hi hI
      exact wpt_round (sp := sp) fun J hJ => step i σ t (by omega) hI J fun σ' t' h => hJ _ _ (ih (i + 1) σ' t' (by omega) h)
  exact fun i σ t hi hI => key (n - i) i σ t (by omega) hI
end
end Go.DI
