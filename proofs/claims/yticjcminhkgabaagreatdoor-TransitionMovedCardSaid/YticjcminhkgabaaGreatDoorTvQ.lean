/-
  What a computed run proves: regions, codes, functions.
-/
import Derived.Test.YticjcminhkgabaaGreatDoorTvP
namespace Go.DI
open Go Go.RowKit
set_option linter.unusedSimpArgs false
set_option linter.unusedVariables false

section
variable {P : Program}
/-- from a pair of memories to a later one: what is said of the end -/
def EndR (tn mn : Nat) (E : Emb) (F : Frz) (t m : Mem) (S1 : TS) (M1 : TM) (σ1' : Slots) (m' : Mem) : Prop := ∃ E' F', Sim E' F' (mm M1) m' ∧ SR F' E' (sg S1) σ1' ∧ Fr tn mn E F t m E' F' (mm M1) m'
theorem opsE_ok {cl : ClE} (hcl : ClOk P cl) {base mb : Nat} : ∀ {ops : List IOp} {E : Emb} {F : Frz} {S S1 : TS} {M M1 : TM} {m : Mem} {σ' : Slots}, ops.all okOp = true → nodupB (ops.map (·.ix)) = true → WFM M → Sim E F (mm M) m → SR F E (sg S) σ' → Free E F (mm M) m base mb ops → base ≤ M.next → mb ≤ m.next →
    opsE cl base ops S M = some (S1, M1) → WFM M1 ∧ WPO P mb ops σ' m fun σ1' m' => EndR base mb E F (mm M) m S1 M1 σ1' m'
  | [], E, F, S, S1, M, M1, m, σ', _, _, hw, hs, hσ, _, _, _, h => by
    cases h
    refine ⟨hw, ?_⟩
    rw [wpo_nil]
    exact ⟨E, F, hs, hσ, Fr.refl⟩
  | o :: ops, E, F, S, S1, M, M1, m, σ', hok, hnd, hw, hs, hσ, hfr, hb, hmb, h => by
    obtain ⟨ix, d, g, k, ck⟩ := o
    simp only [List.all_cons, Bool.and_eq_true] at hok
    obtain ⟨hne, hnd'⟩ := nodup_cons hnd
    have hoo := hok.1
    simp only [okOp, Bool.and_eq_true] at hoo
    have skip : ∀ {S2 : TS}, putE S d undef = some S2 → opsE cl base ops S2 M = some (S1, M1) → WFM M1 ∧ WPO P mb ops (putD σ' d undef) m fun σ1' m' => EndR base mb E F (mm M) m S1 M1 σ1' m' := fun {S2} hp h => by
      refine opsE_ok hcl hok.2 hnd' hw hs ?_ (fun o ho ha => hfr o (by simp [ho]) ha) hb hmb h
      rw [sg_put hp]; exact hσ.put VR.undef
    have main : ∀ {x : TS × TM}, oneE cl base ⟨ix, d, g, k, ck⟩ S M = some x → opsE cl base ops x.1 x.2 = some (S1, M1) → WFM M1 ∧ WPO P mb (⟨ix, d, none, k, ck⟩ :: ops) σ' m fun σ1' m' => EndR base mb E F (mm M) m S1 M1 σ1' m' := fun {x} hx h => by
      -- behind a call
      have after : ∀ {f : Nat} {args as : List Value} {y : TS × TM} {Wr0 : Value → Mem → Prop}, LR F E args as → (match callE cl f args M (ownL (sg S) (mm M) ck) with
          | some (r, M') => (match putE S d r with
            | some S' => some (S', M')
            | none => none)
          | none => none) = some x → WFM M1 ∧ WPCall P f as m (callK P mb d ck ops σ' m (fun σ1' m' => EndR base mb E F (mm M) m S1 M1 σ1' m')) := fun {f args as y Wr0} ha hc => by
        split at hc
        · next r M2 h1 =>
          split at hc
          · next S2 h2 =>
            cases hc
            obtain ⟨w2, q⟩ := callE_ok hcl hw hs hσ hoo.2 ha h1
            have step : ∀ {E1 : Emb} {F1 : Frz} {r' : Value} {m1 : Mem}, Sim E1 F1 (mm M2) m1 → VR F1 E1 r r' → Fr (mm M).next m.next E F (mm M) m E1 F1 (mm M2) m1 → WFM M1 ∧ WPO P mb ops (putD σ' d r') m1 fun σ1' m' => EndR base mb E F (mm M) m S1 M1 σ1' m' := fun {E1 F1 r' m1} g2 g3 g4 => by
              have hσ1 : SR F1 E1 (sg S2) (putD σ' d r') := by rw [sg_put h2]; exact (hσ.mono g4.f g4.e).put g3
              have hfr1 : Free E1 F1 (mm M2) m1 base mb ops := fun o ho ha => by
                have hn := hfr o (by simp [ho]) ha
                refine ⟨?_, fun o' ho' => ?_, ?_, Nat.lt_of_lt_of_le hn.tl g4.tnx, Nat.lt_of_lt_of_le hn.ml g4.mnx⟩
                · cases he : E1 (base + o.ix) with
                  | none => rfl
                  | some b =>
                    rcases g4.en _ _ he with h5 | ⟨h5, _⟩
                    · rw [hn.e] at h5; cases h5
                    · have := hn.tl; omega
                · rcases g4.en _ _ ho' with h5 | ⟨_, h5⟩
                  · exact hn.b _ h5
                  · have := hn.ml; omega
                · cases he : F1 (mb + o.ix) with
                  | none => rfl
                  | some cs =>
                    rcases g4.fn _ _ he with h5 | h5 | ⟨o', _, h5, _⟩
                    · rw [hn.f] at h5; cases h5
                    · have := hn.ml; omega
                    · exact absurd h5 (hn.b o')
              obtain ⟨w3, ih⟩ := opsE_ok hcl hok.2 hnd' w2 g2 hσ1 hfr1 (Nat.le_trans hb g4.tnx) (Nat.le_trans hmb g4.mnx) h
              refine ⟨w3, ?_⟩
              obtain ⟨n, s1, m2, hrun, E2, F2, q2, q3, q4⟩ := ih
              exact ⟨n, s1, m2, hrun, E2, F2, q2, q3, (g4.weak hb hmb).trans q4⟩
            have hwf : WFM M1 := by
              obtain ⟨n, r', m', _, _, E1, F1, g2, g3, g4⟩ := q
              exact (step g2 g3 g4).1
            refine ⟨hwf, q.mono fun r' m1 hh => ?_⟩
            obtain ⟨hk, E1, F1, g2, g3, g4⟩ := hh
            exact ⟨hk, (step g2 g3 g4).2⟩
          · cases hc
        · cases hc
      have ops1 : ∀ {k : IK}, k.isCall = false → okK k = true → (k.isAlloc = true → New E F (mm M) m (base + ix) (mb + ix)) → (if k.okT (sg S) (mm M) && ckOkT (sg S) (mm M) ck then (match memE k (base + ix) (sg S) M with
          | some M' => (match some (k.valT (base + ix) (sg S) (mm M), M') with
            | some (r, M') => (match putE S d r with
              | some S' => some (S', M')
              | none => none)
            | none => none)
          | none => none) else none) = some x →
          WFM M1 ∧ WPO P mb (⟨ix, d, none, k, ck⟩ :: ops) σ' m fun σ1' m' => EndR base mb E F (mm M) m S1 M1 σ1' m' := fun {k} hc hk hn hx => by
        split at hx
        · next hokk =>
          simp only [Bool.and_eq_true] at hokk
          split at hx
          · next M2 hM =>
            simp only at hx
            split at hx
            · next S2 hS =>
              cases hx
              obtain ⟨w2, e2⟩ := memE_ok hw hM
              obtain ⟨h1, E1, q⟩ := op_rel (tn := base) (mn := mb) (id := base + ix) (mid := mb + ix) hs hσ hc hk hokk.1 hn (by omega) (by omega)
              have hσ1 : SR F E1 (sg S2) (putD σ' d (k.val (mb + ix) σ' m)) := by rw [sg_put hS]; exact (hσ.mono q.fr.f q.fr.e).put q.val
              have hfr1 : Free E1 F (mm M2) (k.mem (mb + ix) σ' m) base mb ops := fun o ho ha => by
                have hn := hfr o (by simp [ho]) ha
                have hx := hne o ho
                simp only at hx
                rw [e2]
                refine ⟨by rw [q.oth _ (by omega)]; exact hn.e, fun o' ho' => ?_, hn.f, Nat.lt_of_lt_of_le hn.tl q.fr.tnx, Nat.lt_of_lt_of_le hn.ml q.fr.mnx⟩
                by_cases e : o' = base + ix
                · subst e
                  rcases q.self with h5 | h5
                  · rw [h5] at ho'; exact hn.b _ ho'
                  · rw [h5] at ho'; simp only [Option.some.injEq] at ho'; omega
                · rw [q.oth _ e] at ho'; exact hn.b _ ho'
              have hq := q.sim
              have hfr := q.fr
              rw [← e2] at hq hfr
              obtain ⟨w3, ih⟩ := opsE_ok hcl hok.2 hnd' w2 hq hσ1 hfr1 (Nat.le_trans hb hfr.tnx) (Nat.le_trans hmb hfr.mnx) h
              refine ⟨w3, ?_⟩
              rw [wpo_plain hc]
              refine ⟨h1, ck_relT hs hσ hoo.2 hokk.2, ?_⟩
              obtain ⟨n, s1, m2, hrun, E2, F2, q2, q3, q4⟩ := ih
              exact ⟨n, s1, m2, hrun, E2, F2, q2, q3, hfr.trans q4⟩
            · cases hx
          · cases hx
        · cases hx
      have hn0 := hfr ⟨ix, d, g, k, ck⟩ (by simp)
      have hk0 := hoo.1
      have hop := hk0
      simp only [okK, Bool.and_eq_true] at hop
      cases k with
      | call f as =>
        rw [wpo_call]
        exact after (y := x) (Wr0 := fun _ _ => True) (hσ.evs hop.1) hx
      | callv x as =>
        simp only [oneE] at hx
        simp only [IK.opnds, List.all_cons, Bool.and_eq_true] at hop
        split at hx
        · next f first caps hv0 =>
          have hv := hσ.ev hop.1.1
          rw [hv0] at hv
          obtain ⟨ys, ds, e, l1, l2⟩ := hv.inv_func
          rw [wpo_callv e]
          exact after (y := ⟨S, M⟩) (Wr0 := fun _ _ => True) ((l1.append (hσ.evs hop.1.2)).append l2) hx
        · cases hx
      | icall rows x as =>
        simp only [oneE] at hx
        simp only [IK.opnds, List.all_cons, Bool.and_eq_true] at hop
        rw [wpo_icall]
        split at hx
        · next ty v hv0 =>
          have hv := hσ.ev hop.1.1
          rw [hv0] at hv
          obtain ⟨v', e, hv'⟩ := hv.inv_iface
          rw [e]
          unfold icallW
          split at hx
          · next a f hf =>
            simp only [hf]
            exact after (y := ⟨S, M⟩) (Wr0 := fun _ _ => True) (LR.cons hv' (hσ.evs hop.1.2)) hx
          · next a f ag n hf =>
            simp only [hf]
            split at hx
            · next hc =>
              simp only [Bool.and_eq_true] at hc
              have h1 := addrOk_relT hs hv' hc.1
              obtain ⟨w, q⟩ := after (y := ⟨S, M⟩) (Wr0 := fun _ _ => True) (LR.cons (loadV_relT hs hv' hc.1 hc.2) (hσ.evs hop.1.2)) hx
              exact ⟨w, by rw [h1, hc.2]; rfl, q⟩
            · cases hx
          · cases hx
        · cases hx
      | _ => exact ops1 rfl hk0 hn0 hx
    simp only [opsE] at h
    split at h
    · next hwt =>
      split at h
      · next S2 M2 h1 =>
        cases g with
        | none => exact main h1 h
        | some g =>
          obtain ⟨j, b⟩ := g
          obtain ⟨w, q⟩ := main h1 h
          refine ⟨w, ?_⟩
          rw [wpo_guard, wanted_relT hσ, if_pos hwt]
          exact q
      · cases h
    · next hwt =>
      split at h
      · next S2 h1 =>
        cases g with
        | none => exact absurd rfl hwt
        | some g =>
          obtain ⟨j, b⟩ := g
          obtain ⟨w, q⟩ := skip h1 h
          refine ⟨w, ?_⟩
          rw [wpo_guard, wanted_relT hσ, if_neg hwt]
          exact q
      · cases h
theorem regE_ok {ops : List IOp} {M : TM} (hw : WFM M) : WFM (regE ops M) ∧ mm (regE ops M) = regBump ops (mm M) := by
  unfold regE regBump
  split
  · exact ⟨wf_bump hw, mm_bump hw⟩
  · exact ⟨hw, rfl⟩
theorem region_okE {cl : ClE} (hcl : ClOk P cl) {ops : List IOp} (hok : okCode (.region ops) = true) {E : Emb} {F : Frz} {S S1 : TS} {M M1 : TM} {m : Mem} {σ' : Slots} (hw : WFM M) (hs : Sim E F (mm M) m) (hσ : SR F E (sg S) σ') (h : opsE cl M.next ops S (regE ops M) = some (S1, M1)) :
    WFM M1 ∧ WPO P m.next ops σ' (regBump ops m) fun σ1' m' => EndR M.next m.next E F (mm M) m S1 M1 σ1' m' := by
  simp only [okCode, Bool.and_eq_true] at hok
  obtain ⟨wr, er⟩ := regE_ok (ops := ops) hw
  have hs' : Sim E F (regBump ops (mm M)) (regBump ops m) := by
    unfold regBump; split
    · exact bump_sim hs _
    · exact hs
  have hf' : Fr M.next m.next E F (mm M) m E F (regBump ops (mm M)) (regBump ops m) := by
    unfold regBump; split
    · exact bump_fr hs _
    · exact Fr.refl
  have hfree : Free E F (regBump ops (mm M)) (regBump ops m) M.next m.next ops := fun o ho ha => by
    have hany : (ops.any fun o => o.k.isAlloc) = true := List.any_eq_true.2 ⟨o, ho, ha⟩
    have hix : o.ix < ops.length := by simpa using List.all_eq_true.1 hok.2 o ho
    refine ⟨?_, fun o' ho' => ?_, ?_, by simp [regBump, hany, hix, mm], by simp [regBump, hany, hix]⟩
    · cases he : E (M.next + o.ix) with
      | none => rfl
      | some b => have := (hs.lt _ _ he).1; simp [mm] at this; omega
    · have := (hs.lt _ _ ho').2; omega
    · cases he : F (m.next + o.ix) with
      | none => rfl
      | some cs => obtain ⟨⟨w, h1⟩, _⟩ := hs.fr _ _ he; have := get_lt h1; omega
  have tn : M.next ≤ (regE ops M).next := by
    have := hf'.tnx
    rw [← er] at this; exact this
  rw [← er] at hs' hf' hfree
  obtain ⟨w1, q⟩ := opsE_ok hcl hok.1.1 hok.1.2 wr hs' hσ hfree tn hf'.mnx h
  refine ⟨w1, ?_⟩
  obtain ⟨n, s1, m2, hrun, E2, F2, q2, q3, q4⟩ := q
  exact ⟨n, s1, m2, hrun, E2, F2, q2, q3, hf'.trans q4⟩
/-- a code's computed run -/
def CodeOk (P : Program) (c : ICode) (e : IExit) (S : TS) (M : TM) (S1 : TS) (M1 : TM) : Prop := WFM M1 ∧ ∀ (E : Emb) (F : Frz) (σ' : Slots) (m : Mem), Sim E F (mm M) m → SR F E (sg S) σ' → WP P c σ' m fun e' σ1' m' => e' = e ∧ EndR M.next m.next E F (mm M) m S1 M1 σ1' m'
theorem EndR.trans {tn mn tn' mn' : Nat} {E E1 : Emb} {F F1 : Frz} {t m m1 : Mem} {M1 : TM} {S2 : TS} {M2 : TM} {σ2 : Slots} {m2 : Mem} (h : Fr tn mn E F t m E1 F1 (mm M1) m1) (h' : EndR tn' mn' E1 F1 (mm M1) m1 S2 M2 σ2 m2) (h1 : tn ≤ tn') (h2 : mn ≤ mn') : EndR tn mn E F t m S2 M2 σ2 m2 := by
  obtain ⟨E2, F2, a, b, c⟩ := h'
  exact ⟨E2, F2, a, b, h.trans (c.weak h1 h2)⟩
theorem iterE_ok {c : ICode} (hc : okCode c = true) {f : TS → TM → Option (IExit × TS × TM)} (hf : ∀ {S M e S1 M1}, WFM M → f S M = some (e, S1, M1) → CodeOk P c e S M S1 M1) : ∀ {n : Nat} {S : TS} {M : TM} {e : IExit} {S1 : TS} {M1 : TM}, WFM M → iterE f n S M = some (e, S1, M1) → CodeOk P (.loop c) e S M S1 M1
  | 0, S, M, e, S1, M1, hw, h => by cases h
  | n + 1, S, M, e, S1, M1, hw, h => by
    simp only [iterE] at h
    split at h
    · next S2 M2 h1 =>
      obtain ⟨w2, q⟩ := hf hw h1
      obtain ⟨w3, q3⟩ := iterE_ok hc hf w2 h
      refine ⟨w3, fun E F σ' m hs hσ => ?_⟩
      refine wp_round fun J hJ => ?_
      refine (q E F σ' m hs hσ).mono fun e' s1 m1 hh => ?_
      obtain ⟨rfl, E1, F1, g1, g2, g3⟩ := hh
      refine hJ _ _ ((q3 E1 F1 s1 m1 g1 g2).mono fun e2 s2 m2 hh => ?_)
      obtain ⟨rfl, g4⟩ := hh
      exact ⟨rfl, EndR.trans g3 g4 g3.tnx g3.mnx⟩
    · next hne =>
      obtain ⟨w2, q⟩ := hf hw h
      refine ⟨w2, fun E F σ' m hs hσ => ?_⟩
      refine wp_round fun J hJ => ?_
      refine (q E F σ' m hs hσ).mono fun e' s1 m1 hh => ?_
      obtain ⟨rfl, g⟩ := hh
      cases e' with
      | normal => exact absurd h (hne _ _)
      | exit id => exact ⟨rfl, g⟩
      | ret => exact ⟨rfl, g⟩
end
end Go.DI
