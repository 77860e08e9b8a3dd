/-
  One step of a region; a region in the text's order.
-/
import Derived.Test.YtapnkfkpkcajjaaFwM
namespace Go.DI
open Go Go.RowKit

section
variable {P : Program} {w : World} {o : Oper} {a : Act} {ρ : Ren} {nt : Nat} {σ : Slots} {m : Mem} {B : Nat} {ops : Array Oper} {cl : Callee} {base : Nat}

def CompAt (P : Program) (ops : Array Oper) (nt : Nat) (io : IOp) (o : Oper) : Prop :=
  ops[io.ix]? = some o ∧ cKind P o = some io.k ∧ cGuard ops o = some io.g ∧ o.dst = io.d ∧ io.d.all (fun d => decide (d < nt)) = true

theorem wanted_rel {g : Option (Nat × Bool)} (hg : cGuard ops o = some g) (hs : SRel ρ nt σ a) : Region.wanted o (yielded ops a.tmps) = wantedI σ g := by
  unfold cGuard at hg
  split at hg
  · rename_i h; cases hg; simp [Region.wanted, h, wantedI]
  · rename_i j b h
    split at hg
    · rename_i t ht
      cases hg
      have hr := hs.rel t
      simp only [Region.wanted, h, wantedI, yielded, ht, Option.bind_some]
      rw [Array.getD_eq_getD_getElem?] at hr
      cases hv : a.tmps[t]? with
      | none =>
        rw [hv] at hr
        simp only [Option.getD_none] at hr
        cases hu : σ t <;> try rfl
        rw [hu] at hr
        have := hr.inv_bool
        simp [undef] at this
      | some v =>
        rw [hv] at hr
        simp only [Option.getD_some] at hr
        cases hu : σ t
        case bool c =>
          rw [hu] at hr
          rw [hr.inv_bool]
          simp
        all_goals
          rw [hu] at hr
          cases v
          case bool c => cases hr
          all_goals rfl
    · cases hg

theorem ok_not_call {k : IK} (h : k.ok σ m = true) : k.isCall = false := by cases k <;> first | rfl | (simp [IK.ok] at h)

theorem step_sound {io : IOp} {σ' : Slots} {m' : Mem} (hcl : ClSound P B cl) (hc : CompAt P ops nt io o) (hs : SRel ρ nt σ a) (hm : MRel B ρ m w) (hB : B ≤ w.heap.size) (hid : io.k.isAlloc = true → base + io.ix < m.next) (hr : io.k.isAlloc = true → ρ (base + io.ix) = none)
    (hstep : stepOp cl base io σ m = some (σ', m')) {K : Act → World → Prop} {Q : Exit → Act → World → Prop}
    (hK : ∀ a' w' ρ', RenLe ρ ρ' → (∀ b, b < m.next → b ≠ base + io.ix → ρ' b = ρ b) → SRel ρ' nt σ' a' → MRel B ρ' m' w' → Below B w w' → K a' w') : wpOp P ops Q io.ix K a w := by
  obtain ⟨h1, h2, h3, h4, h5⟩ := hc
  unfold wpOp
  simp only [h1]
  rw [wanted_rel h3 hs]
  unfold stepOp at hstep
  by_cases hw : wantedI σ io.g = true
  · rw [if_pos hw] at hstep ⊢
    refine .inl ?_
    unfold Oper.wp
    cases hcal : io.k.callee σ with
    | some fa =>
      obtain ⟨f, args⟩ := fa
      rw [hcal] at hstep
      simp only at hstep
      cases hf : cl f args m with
      | none => rw [hf] at hstep; cases hstep
      | some vm =>
        obtain ⟨v, m2⟩ := vm
        rw [hf] at hstep
        simp only [Option.some.injEq, Prod.mk.injEq] at hstep
        obtain ⟨rfl, rfl⟩ := hstep
        obtain ⟨g1, g2, g3, g4⟩ := hcl f args m v m2 hf
        obtain ⟨args', e1, e2⟩ := call_sound (w := w) h2 hs hcal g1
        rw [e1, Oper.upon_enter]
        refine (g4 ρ w args' e2 hm hB).mono fun e w' hh => ?_
        obtain ⟨v', ρ', rfl, q1, q2, q3, q4, q5⟩ := hh
        rw [h4]
        exact hK _ _ ρ' q1 (fun b hb _ => q2 b hb) ((hs.mono q1).put h5 q3) q4 q5
    | none =>
      rw [hcal] at hstep
      simp only at hstep
      split at hstep
      · rename_i hok
        simp only [Option.some.injEq, Prod.mk.injEq] at hstep
        obtain ⟨rfl, rfl⟩ := hstep
        obtain ⟨v', w', ρ', y, q1, q2, q3, q4, q5⟩ := op_sound h2 (ok_not_call hok) hs hm hB hid hr hok
        have hk := hK (a.put io.d v') w' ρ' q1 (fun b _ hb => q2 b hb) ((hs.mono q1).put h5 q3) q4 q5
        rcases y with y | ⟨y, rfl⟩
        · rw [y, Oper.upon_value, h4]; exact hk
        · rw [y, Oper.upon_skip, h4]; exact hk
      · cases hstep
  · rw [if_neg hw] at hstep ⊢
    simp only [Option.some.injEq, Prod.mk.injEq] at hstep
    obtain ⟨rfl, rfl⟩ := hstep
    rw [h4]
    exact hK _ _ ρ (RenLe.refl ρ) (fun _ _ _ => rfl) (hs.put h5 (VRel.undef ρ)) hm (Below.refl _ _)

/-! what a step does to names -/
theorem stepOp_next {io : IOp} {σ' : Slots} {m' : Mem} (hcl : ClSound P B cl) (hstep : stepOp cl base io σ m = some (σ', m')) : m.next ≤ m'.next := by
  unfold stepOp at hstep
  split at hstep
  · split at hstep
    · split at hstep
      · rename_i hf
        cases hstep
        exact (hcl _ _ _ _ _ hf).2.1
      · cases hstep
    · split at hstep
      · cases hstep
        cases io.k <;> simp only [IK.mem] <;> try exact Nat.le_refl _
        · unfold storeM; split <;> try exact Nat.le_refl _
          split <;> exact Nat.le_refl _
        · split
          · exact Nat.le_refl _
          · unfold kill; split <;> exact Nat.le_refl _
      · cases hstep
  · cases hstep; exact Nat.le_refl _

theorem get_none_put {b b' : Nat} {x : Option Blk} (h : m.get b = none) (hne : b ≠ b') : (m.put b' x).get b = none := by
  rw [Mem.get_put, if_neg hne]; exact h

theorem stepOp_none {io : IOp} {σ' : Slots} {m' : Mem} (hcl : ClSound P B cl) (hstep : stepOp cl base io σ m = some (σ', m')) {b : Nat} (hb : b < m.next) (hne : b ≠ base + io.ix) (hg : m.get b = none) : m'.get b = none := by
  unfold stepOp at hstep
  split at hstep
  · split at hstep
    · split at hstep
      · rename_i hf
        cases hstep
        exact (hcl _ _ _ _ _ hf).2.2.1 b hb hg
      · cases hstep
    · split at hstep
      · cases hstep
        cases io.k <;> simp only [IK.mem] <;> try exact hg
        all_goals try exact get_none_put hg hne
        · unfold storeM
          split
          · rename_i ad
            split
            · rename_i x hx
              exact get_none_put hg (fun e => by rw [e, hx] at hg; cases hg)
            · exact hg
          · exact hg
        · split
          · exact hg
          · refine get_none_put ?_ hne
            unfold kill
            split
            · rw [Mem.get_put]
              split
              · split <;> rfl
              · exact hg
            · exact hg
      · cases hstep
  · cases hstep; exact hg

theorem runOps_cons {io : IOp} {L : List IOp} {s : Slots × Mem} (h : runOps cl base (io :: L) σ m = some s) : ∃ σ1 m1, stepOp cl base io σ m = some (σ1, m1) ∧ ckProp io σ m m1 ∧ runOps cl base L σ1 m1 = some s := by
  unfold runOps at h
  split at h
  · rename_i σ1 m1 h1
    split at h
    · rename_i hck; exact ⟨σ1, m1, h1, hck, h⟩
    · cases h
  · cases h
theorem runOps_mk {io : IOp} {L : List IOp} {s : Slots × Mem} {σ1 : Slots} {m1 : Mem} (h1 : stepOp cl base io σ m = some (σ1, m1)) (h2 : ckProp io σ m m1) (h3 : runOps cl base L σ1 m1 = some s) : runOps cl base (io :: L) σ m = some s := by
  unfold runOps
  rw [h1]
  simp only [if_pos h2, h3]

theorem runOps_next (hcl : ClSound P B cl) : ∀ (L : List IOp) (σ : Slots) (m : Mem) (s : Slots × Mem), runOps cl base L σ m = some s → m.next ≤ s.2.next
  | [], σ, m, s, h => by simp [runOps] at h; subst h; exact Nat.le_refl _
  | io :: L, σ, m, s, h => by
    obtain ⟨σ1, m1, h1, _, h3⟩ := runOps_cons h
    exact Nat.le_trans (stepOp_next hcl h1) (runOps_next hcl L _ _ _ h3)
theorem runOps_none (hcl : ClSound P B cl) {b : Nat} (hb : b < base) : ∀ (L : List IOp) (σ : Slots) (m : Mem) (s : Slots × Mem), base ≤ m.next → runOps cl base L σ m = some s → m.get b = none → s.2.get b = none
  | [], σ, m, s, _, h, hg => by simp [runOps] at h; subst h; exact hg
  | io :: L, σ, m, s, hn, h, hg => by
    obtain ⟨σ1, m1, h1, _, h3⟩ := runOps_cons h
    exact runOps_none hcl hb L _ _ _ (Nat.le_trans hn (stepOp_next hcl h1)) h3 (stepOp_none hcl h1 (by omega) (by omega) hg)

/-- a region in the text's order -/
theorem ops_sound (hcl : ClSound P B cl) {Q : Exit → Act → World → Prop} : ∀ (L : List IOp) (σ : Slots) (m : Mem) (a : Act) (w : World) (ρ : Ren) (σ' : Slots) (m' : Mem),
    (∀ io ∈ L, ∃ o, CompAt P ops nt io o) → (L.map (·.ix)).Nodup → SRel ρ nt σ a → MRel B ρ m w → B ≤ w.heap.size → (∀ io ∈ L, io.k.isAlloc = true → base + io.ix < m.next ∧ ρ (base + io.ix) = none) → runOps cl base L σ m = some (σ', m') →
    (∀ a' w' ρ', RenLe ρ ρ' → (∀ b, b < base → b < m.next → ρ' b = ρ b) → SRel ρ' nt σ' a' → MRel B ρ' m' w' → Below B w w' → Q .normal a' w') → wpOps P ops Q (L.map (·.ix)) a w
  | [], σ, m, a, w, ρ, σ', m', _, _, hs, hm, _, _, h, hQ => by
    simp only [runOps, Option.some.injEq, Prod.mk.injEq] at h
    obtain ⟨rfl, rfl⟩ := h
    exact hQ a w ρ (RenLe.refl ρ) (fun _ _ _ => rfl) hs hm (Below.refl _ _)
  | io :: L, σ, m, a, w, ρ, σ', m', hco, hnd, hs, hm, hB, hid, h, hQ => by
    obtain ⟨σ1, m1, h1, _, h3⟩ := runOps_cons h
    obtain ⟨o, ho⟩ := hco io (by simp)
    simp only [List.map_cons, List.nodup_cons] at hnd
    rw [List.map_cons, wpOps_cons]
    have hnx := stepOp_next hcl h1
    refine step_sound hcl ho hs hm hB (fun h => (hid io (by simp) h).1) (fun h => (hid io (by simp) h).2) h1 fun a' w' ρ' q1 q2 q3 q4 q5 => ?_
    refine ops_sound hcl L σ1 m1 a' w' ρ' σ' m' (fun i hi => hco i (by simp [hi])) hnd.2 q3 q4 (Nat.le_trans hB q5.size) (fun i hi hal => ?_) h3 fun a2 w2 ρ2 p1 p2 p3 p4 p5 => ?_
    · have := hid i (by simp [hi]) hal
      refine ⟨by omega, ?_⟩
      rw [q2 _ this.1 (fun e => hnd.1 (List.mem_map.2 ⟨i, hi, by omega⟩))]
      exact this.2
    · exact hQ a2 w2 ρ2 (q1.trans p1) (fun b hb hb2 => (p2 b hb (by omega)).trans (q2 b hb2 (by omega))) p3 p4 (q5.trans p5)

end
end Go.DI
