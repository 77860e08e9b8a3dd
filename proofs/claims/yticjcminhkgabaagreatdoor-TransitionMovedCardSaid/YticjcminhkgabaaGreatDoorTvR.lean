/-
  What a computed run proves: functions.
-/
import Derived.Test.YticjcminhkgabaaGreatDoorTvQ
namespace Go.DI
open Go Go.RowKit
set_option linter.unusedSimpArgs false
set_option linter.unusedVariables false

section
variable {P : Program}
theorem pureE_wf {cl : ClE} {f : Nat} {args : List Value} {M M' : TM} {r : Value} (hw : WFM M) (h : pureE cl f args M = some (r, M')) : WFM M' := by
  unfold pureE at h
  repeat' split at h
  all_goals first | cases h | skip
  all_goals first | exact (clrE_ok hw (by assumption)).1 | exact (shutE_ok hw (by assumption)).1
theorem callE_wf {cl : ClE} (hcl : ClOk P cl) {f : Nat} {args : List Value} {M M' : TM} {r : Value} {L : List Nat} (hw : WFM M) (h : callE cl f args M L = some (r, M')) : WFM M' := by
  cases L with
  | nil => exact (hcl _ _ _ _ _ hw h).1
  | cons o l =>
    simp only [callE] at h
    split at h
    · split at h
      · next Mc hc =>
        split at h
        · next r1 M1 h1 =>
          split at h
          · next M2 h2 => cases h; exact (joinE_ok (hcl _ _ _ _ _ (cutE_ok hw hc).1 h1).1 h2).1
          · cases h
        · exact pureE_wf hw h
      · cases h
    · exact pureE_wf hw h
theorem oneE_wf {cl : ClE} (hcl : ClOk P cl) {base : Nat} {o : IOp} {S : TS} {M : TM} {x : TS × TM} (hw : WFM M) (h : oneE cl base o S M = some x) : WFM x.2 := by
  have res : ∀ {f : Nat} {args : List Value} {L : List Nat}, (match callE cl f args M L with
      | some (r, M') => (match putE S o.d r with
        | some S' => some (S', M')
        | none => none)
      | none => none) = some x → WFM x.2 := fun {f args L} h => by
    split at h
    · next r M2 h1 =>
      split at h
      · cases h; exact callE_wf hcl hw h1
      · cases h
    · cases h
  have plain : ∀ {k : IK}, (if k.okT (sg S) (mm M) && ckOkT (sg S) (mm M) o.ck then (match memE k (base + o.ix) (sg S) M with
      | some M' => (match some (k.valT (base + o.ix) (sg S) (mm M), M') with
        | some (r, M') => (match putE S o.d r with
          | some S' => some (S', M')
          | none => none)
        | none => none)
      | none => none) else none) = some x → WFM x.2 := fun {k} h => by
    split at h
    · split at h
      · next M2 hM =>
        simp only at h
        split at h
        · cases h; exact (memE_ok hw hM).1
        · cases h
      · cases h
    · cases h
  obtain ⟨ix, d, g, k, ck⟩ := o
  cases k with
  | call f as => exact res h
  | callv y as =>
    simp only [oneE] at h
    split at h
    · exact res h
    · cases h
  | icall rows y as =>
    simp only [oneE] at h
    split at h
    · split at h
      · exact res h
      · split at h
        · exact res h
        · cases h
      · cases h
    · cases h
  | _ => exact plain h
theorem opsE_wf {cl : ClE} (hcl : ClOk P cl) {base : Nat} : ∀ {ops : List IOp} {S S1 : TS} {M M1 : TM}, WFM M → opsE cl base ops S M = some (S1, M1) → WFM M1
  | [], S, S1, M, M1, hw, h => by cases h; exact hw
  | o :: ops, S, S1, M, M1, hw, h => by
    simp only [opsE] at h
    split at h
    · split at h
      · next S2 M2 h1 => exact opsE_wf hcl (oneE_wf hcl hw h1) h
      · cases h
    · split at h
      · exact opsE_wf hcl hw h
      · cases h
theorem codeE_ok {cl : ClE} (hcl : ClOk P cl) {n : Nat} : ∀ {c : ICode} {S S1 : TS} {M M1 : TM} {e : IExit}, okCode c = true → WFM M → codeE cl n c S M = some (e, S1, M1) → CodeOk P c e S M S1 M1
  | .skip, S, S1, M, M1, e, hok, hw, h => by
    cases h
    exact ⟨hw, fun E F σ' m hs hσ => by rw [wp_skip']; exact ⟨rfl, E, F, hs, hσ, Fr.refl⟩⟩
  | .exit id, S, S1, M, M1, e, hok, hw, h => by
    cases h
    exact ⟨hw, fun E F σ' m hs hσ => by rw [wp_exit']; exact ⟨rfl, E, F, hs, hσ, Fr.refl⟩⟩
  | .ret, S, S1, M, M1, e, hok, hw, h => by
    cases h
    exact ⟨hw, fun E F σ' m hs hσ => by rw [wp_ret']; exact ⟨rfl, E, F, hs, hσ, Fr.refl⟩⟩
  | .late _ _ _, S, S1, M, M1, e, hok, hw, h => by cases h
  | .region ops, S, S1, M, M1, e, hok, hw, h => by
    simp only [codeE] at h
    split at h
    · next S2 M2 h1 =>
      cases h
      exact ⟨opsE_wf hcl (regE_ok hw).1 h1, fun E F σ' m hs hσ => by
        rw [wp_region']
        obtain ⟨n, s1, m2, hr, q⟩ := (region_okE hcl hok hw hs hσ h1).2
        exact ⟨n, s1, m2, hr, rfl, q⟩⟩
    · cases h
  | .seq a b, S, S1, M, M1, e, hok, hw, h => by
    simp only [okCode, Bool.and_eq_true] at hok
    simp only [codeE] at h
    split at h
    · next S2 M2 h1 =>
      obtain ⟨w2, q⟩ := codeE_ok hcl hok.1 hw h1
      obtain ⟨w3, q3⟩ := codeE_ok hcl hok.2 w2 h
      refine ⟨w3, fun E F σ' m hs hσ => ?_⟩
      rw [wp_seq']
      refine (q E F σ' m hs hσ).mono fun e' s1 m1 hh => ?_
      obtain ⟨rfl, E1, F1, g1, g2, g3⟩ := hh
      rw [thenK_normal]
      refine (q3 E1 F1 s1 m1 g1 g2).mono fun e2 s2 m2 hh => ?_
      obtain ⟨rfl, g4⟩ := hh
      exact ⟨rfl, EndR.trans g3 g4 g3.tnx g3.mnx⟩
    · next hne =>
      obtain ⟨w2, q⟩ := codeE_ok hcl hok.1 hw h
      refine ⟨w2, fun E F σ' m hs hσ => ?_⟩
      rw [wp_seq']
      refine (q E F σ' m hs hσ).mono fun e' s1 m1 hh => ?_
      obtain ⟨rfl, g⟩ := hh
      cases e' with
      | normal => exact absurd h (hne _ _)
      | exit id => exact ⟨rfl, g⟩
      | ret => exact ⟨rfl, g⟩
  | .cond c a b, S, S1, M, M1, e, hok, hw, h => by
    simp only [okCode, Bool.and_eq_true] at hok
    simp only [codeE] at h
    split at h
    · next hc =>
      obtain ⟨w2, q⟩ := codeE_ok hcl hok.1.2 hw h
      refine ⟨w2, fun E F σ' m hs hσ => ?_⟩
      have hv := (hσ.ev hok.1.1)
      rw [hc] at hv
      rw [wp_cond', hv.inv_bool]
      exact ⟨rfl, q E F σ' m hs hσ⟩
    · next hc =>
      obtain ⟨w2, q⟩ := codeE_ok hcl hok.2 hw h
      refine ⟨w2, fun E F σ' m hs hσ => ?_⟩
      have hv := (hσ.ev hok.1.1)
      rw [hc] at hv
      rw [wp_cond', hv.inv_bool]
      exact ⟨rfl, q E F σ' m hs hσ⟩
    · cases h
  | .block id c, S, S1, M, M1, e, hok, hw, h => by
    simp only [codeE] at h
    split at h
    · next id' S2 M2 h1 =>
      obtain ⟨w2, q⟩ := codeE_ok (c := c) hcl hok hw h1
      split at h
      · next hid =>
        cases h
        refine ⟨w2, fun E F σ' m hs hσ => ?_⟩
        rw [wp_block']
        refine (q E F σ' m hs hσ).mono fun e' s1 m1 hh => ?_
        obtain ⟨rfl, g⟩ := hh
        rw [blockK_exit, if_pos hid]
        exact ⟨rfl, g⟩
      · next hid =>
        cases h
        refine ⟨w2, fun E F σ' m hs hσ => ?_⟩
        rw [wp_block']
        refine (q E F σ' m hs hσ).mono fun e' s1 m1 hh => ?_
        obtain ⟨rfl, g⟩ := hh
        rw [blockK_exit, if_neg hid]
        exact ⟨rfl, g⟩
    · next hne =>
      obtain ⟨w2, q⟩ := codeE_ok (c := c) hcl hok hw h
      refine ⟨w2, fun E F σ' m hs hσ => ?_⟩
      rw [wp_block']
      refine (q E F σ' m hs hσ).mono fun e' s1 m1 hh => ?_
      obtain ⟨rfl, g⟩ := hh
      cases e' with
      | exit id' => exact absurd h (hne _ _ _)
      | normal => exact ⟨rfl, g⟩
      | ret => exact ⟨rfl, g⟩
  | .loop c, S, S1, M, M1, e, hok, hw, h => by
    simp only [codeE] at h
    exact iterE_ok (c := c) hok (fun hw h => codeE_ok hcl hok hw h) hw h
/-- a table of functions' forms -/
def TblOk (P : Program) (tbl : Nat → Option IFunc) : Prop := ∀ f Fn, tbl f = some Fn → cFunc P f = some Fn ∧ okCode Fn.body = true
theorem funE_ok {tbl : Nat → Option IFunc} (ht : TblOk P tbl) {n : Nat} : ∀ d, ClOk P (funE tbl n d)
  | 0 => fun f args M r M' hw h => by cases h
  | d + 1 => fun f args M r M' hw h => by
    simp only [funE] at h
    split at h
    · next Fn hf =>
      obtain ⟨hF, hok⟩ := ht f Fn hf
      split at h
      · next hl =>
        simp only [Bool.and_eq_true, Nat.ble_eq, Nat.blt_eq] at hl
        cases hc : codeE (funE tbl n d) n Fn.body (initE args 0 .nil) M with
        | none => rw [hc] at h; cases h
        | some x =>
          obtain ⟨e, S, M1⟩ := x
          rw [hc] at h
          obtain ⟨w, q⟩ := codeE_ok (funE_ok ht d) hok hw hc
          have fin : e ≠ .exit 0 → (∀ id, e ≠ .exit id) → retOk (mm M1) (sg S) Fn.res = true → r = retV (mm M1) (sg S) Fn.res → M' = M1 → WFM M' ∧ WPTC P f args (mm M) fun r' t' => r' = r ∧ t' = mm M' := fun _ hne hr e1 e2 => by
            subst e1; subst e2
            refine ⟨w, fun E F as m hs ha => ?_⟩
            rw [wpCall_def hF (by rw [← ha.1]; exact hl.1)]
            refine (q E F (initσ as) m hs (by rw [sg_init hl.2]; exact SR.init ha)).mono fun e' s1 m1 hh => ?_
            obtain ⟨rfl, E1, F1, g1, g2, g3⟩ := hh
            obtain ⟨a, b⟩ := ret_rel g1 g2 hr
            cases e' with
            | exit id => exact absurd rfl (hne id)
            | normal => exact ⟨a, E1, F1, _, _, ⟨rfl, rfl⟩, g1, b, g3⟩
            | ret => exact ⟨a, E1, F1, _, _, ⟨rfl, rfl⟩, g1, b, g3⟩
          cases e with
          | exit id => simp only [endE] at h; cases h
          | normal =>
            simp only [endE] at h
            split at h
            · next hr => cases h; exact fin (by simp) (by simp) hr rfl rfl
            · cases h
          | ret =>
            simp only [endE] at h
            split at h
            · next hr => cases h; exact fin (by simp) (by simp) hr rfl rfl
            · cases h
      · cases h
    · cases h
/-- a table out of a list -/
def tabE : List (Nat × IFunc) → Tr IFunc
  | [] => .nil
  | p :: l => Tr.set 21 (tabE l) p.1 (some p.2)
def TabOk (P : Program) : List (Nat × IFunc) → Prop
  | [] => True
  | p :: l => ((keyOk p.1 = true ∧ cFunc P p.1 = some p.2) ∧ okCode p.2.body = true) ∧ TabOk P l
theorem tab_ok : ∀ {l : List (Nat × IFunc)}, TabOk P l → TblOk P (tabE l).get
  | [], _ => fun f Fn h => by cases h
  | p :: l, h => fun f Fn hf => by
    have e : (tabE (p :: l)).get f = if f = p.1 then some p.2 else (tabE l).get f := Tr.get_set (key_pow h.1.1.1)
    rw [e] at hf
    split at hf
    · next he => cases hf; rw [he]; exact ⟨h.1.1.2, h.1.2⟩
    · exact tab_ok h.2 f Fn hf
/-- a closed call, computed -/
def evalB (tbl : Nat → Option IFunc) (n d f : Nat) (args : List Value) : Bool := match funE tbl n d f args TM0 with
  | some (.bool true, _) => true
  | _ => false
theorem eval_tp {tbl : Nat → Option IFunc} (ht : TblOk P tbl) {n d f : Nat} {args : List Value} (h : evalB tbl n d f args = true) : TPure P f args (.bool true) := by
  unfold evalB at h
  split at h
  · next M hM =>
    obtain ⟨w, q⟩ := funE_ok ht d f args TM0 _ _ wf0 hM
    rw [mm0] at q
    exact tpure_of (q.mono fun r' t' hh => by rw [hh.1]; rfl)
  · cases h
end
end Go.DI
