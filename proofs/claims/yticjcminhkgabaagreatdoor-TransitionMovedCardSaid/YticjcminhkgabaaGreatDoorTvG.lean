/-
  What a code does over such values is so below.
-/
import Derived.Test.YticjcminhkgabaaGreatDoorTvAF
namespace Go.DI
open Go Go.RowKit
set_option linter.unusedSimpArgs false
set_option linter.unusedVariables false
set_option linter.unnecessarySimpa false

section
variable {P : Program} {F : Frz} {E : Emb} {t m : Mem} {σ σ' : Slots}
theorem keep_relT (hs : Sim E F t m) (hσ : SR F E σ σ') {ck : List (Operand × Operand)} (ha : ck.all (fun p => argOk p.1 && argOk p.2) = true) (h : keepT σ t ck = true) {m' : Mem} (hk : ∀ b, b < m.next → ¬ Wr E t b → m'.get b = m.get b) : keepOk σ' ck m m' := by
  intro p hp b hb
  simp only [keepT, List.all_eq_true] at h ha
  have h1 := h p hp
  have h2 := ha p hp
  simp only [Bool.and_eq_true] at h2
  have hv := hσ.ev h2.1
  generalize ev σ p.1 = a at hv h1
  generalize ev σ' p.1 = a' at hv hb
  have key : ∀ o, blkOf a = some o → E o = some b → m'.get b = m.get b := fun o ho hE => by
    rw [ho] at h1
    refine hk b (hs.lt o b hE).2 fun ⟨o', x, e1, e2, e3⟩ => ?_
    rw [hs.inj o' o b e1 hE] at e2
    simp [ownAt, e2, e3] at h1
  have keyF : ∀ cs, F b = some cs → m'.get b = m.get b := fun cs hF => by
    obtain ⟨⟨w, h3⟩, h4⟩ := hs.fr b cs hF
    exact hk b (get_lt h3) fun ⟨o', x, e1, e2, e3⟩ => by rw [h4 o' x e1 e2] at e3; cases e3
  cases hv with
  | flat h =>
    unfold blkOf at hb
    split at hb <;> simp [flat1] at h hb
  | ptr hE => simp [blkOf] at hb; subst hb; exact key _ rfl hE
  | slice hE => simp [blkOf] at hb; subst hb; exact key _ rfl hE
  | map hE => simp [blkOf] at hb; subst hb; exact key _ rfl hE
  | imm e hF => simp [blkOf] at hb; subst hb; exact keyF _ hF
  | immP e hF => simp [blkOf] at hb; subst hb; exact keyF _ hF
  | _ => simp [blkOf] at hb
/-- below a value's block is an old one -/
theorem keep_all (hs : Sim E F t m) (hσ : SR F E σ σ') {ck : List (Operand × Operand)} (ha : ck.all (fun p => argOk p.1 && argOk p.2) = true) {m' : Mem} (hk : ∀ b, b < m.next → m'.get b = m.get b) : keepOk σ' ck m m' := by
  intro p hp b hb
  simp only [List.all_eq_true] at ha
  have h2 := ha p hp
  simp only [Bool.and_eq_true] at h2
  have hv := hσ.ev h2.1
  generalize ev σ p.1 = a at hv
  generalize ev σ' p.1 = a' at hv hb
  cases hv with
  | flat h =>
    unfold blkOf at hb
    split at hb <;> simp [flat1] at h hb
  | ptr hE => simp [blkOf] at hb; subst hb; exact hk _ (hs.lt _ _ hE).2
  | slice hE => simp [blkOf] at hb; subst hb; exact hk _ (hs.lt _ _ hE).2
  | map hE => simp [blkOf] at hb; subst hb; exact hk _ (hs.lt _ _ hE).2
  | imm e hF => simp [blkOf] at hb; subst hb; obtain ⟨⟨w, h3⟩, _⟩ := hs.fr _ _ hF; exact hk _ (get_lt h3)
  | immP e hF => simp [blkOf] at hb; subst hb; obtain ⟨⟨w, h3⟩, _⟩ := hs.fr _ _ hF; exact hk _ (get_lt h3)
  | _ => simp [blkOf] at hb

theorem callT_sound (hs : Sim E F t m) (hσ : SR F E σ σ') {ck : List (Operand × Operand)} (hck : ck.all (fun p => argOk p.1 && argOk p.2) = true) {sp : Sps P} {f : Nat} {args as : List Value} (ha : LR F E args as) {K : Value → Mem → Prop} (h : callT sp f args t (keepT σ t ck) K) :
    WPCall P f as m fun r' m' => keepOk σ' ck m m' ∧ ∃ E' F' r t', K r t' ∧ Sim E' F' t' m' ∧ VR F' E' r r' ∧ Fr t.next m.next E F t m E' F' t' m' := by
  unfold callT at h
  split at h
  · refine (pure_soundT hs ha h).mono fun r' m' hh => ?_
    obtain ⟨h1, F', r, t', h2, h3, h4, h5⟩ := hh
    exact ⟨keep_all hs hσ hck h1, E, F', r, t', h2, h3, h4, h5⟩
  · have h2 : WPTC P f args t K := by
      have h3 := h.2
      split at h3
      · exact specI_sound h3
      · exact h3
    refine (h2 E F as m hs ha).mono fun r' m' hh => ?_
    obtain ⟨E', F', r, t', h2, h3, h4, h5⟩ := hh
    exact ⟨keep_relT hs hσ hck h.1 h5.keep, E', F', r, t', h2, h3, h4, h5⟩

/-- the names of a region's operations are free -/
def Free (E : Emb) (F : Frz) (t m : Mem) (base mb : Nat) (ops : List IOp) : Prop := ∀ o ∈ ops, o.k.isAlloc = true → New E F t m (base + o.ix) (mb + o.ix)
theorem nodup_cons {o : IOp} {ops : List IOp} (h : nodupB ((o :: ops).map (·.ix)) = true) : (∀ p ∈ ops, p.ix ≠ o.ix) ∧ nodupB (ops.map (·.ix)) = true := by
  simp only [List.map_cons, nodupB, Bool.and_eq_true] at h
  refine ⟨fun p hp e => ?_, h.2⟩
  have h1 := h.1
  simp at h1
  exact h1 p hp e
theorem two_sound {sp : Sps P} {base mb : Nat} : ∀ {ops : List IOp} {E : Emb} {F : Frz} {t m : Mem} {σ σ' : Slots} {K : Slots → Mem → Prop}, ops.all okOp = true → nodupB (ops.map (·.ix)) = true → Sim E F t m → SR F E σ σ' → Free E F t m base mb ops → base ≤ t.next → mb ≤ m.next →
    TWO sp base ops σ t K → WPO P mb ops σ' m fun σ1' m' => ∃ E' F' σ1 t', K σ1 t' ∧ Sim E' F' t' m' ∧ SR F' E' σ1 σ1' ∧ Fr base mb E F t m E' F' t' m'
  | [], E, F, t, m, σ, σ', K, _, _, hs, hσ, _, _, _, h => by
    rw [wpo_nil]
    exact ⟨E, F, σ, t, h, hs, hσ, Fr.refl⟩
  | o :: ops, E, F, t, m, σ, σ', K, hok, hnd, hs, hσ, hfr, hb, hmb, h => by
    obtain ⟨ix, d, g, k, ck⟩ := o
    simp only [List.all_cons, Bool.and_eq_true] at hok
    obtain ⟨hne, hnd'⟩ := nodup_cons hnd
    have hoo := hok.1
    simp only [okOp, Bool.and_eq_true] at hoo
    have skip : ∀ {g : Option (Nat × Bool)}, TWO sp base ops (putD σ d undef) t K → WPO P mb ops (putD σ' d undef) m fun σ1' m' => ∃ E' F' σ1 t', K σ1 t' ∧ Sim E' F' t' m' ∧ SR F' E' σ1 σ1' ∧ Fr base mb E F t m E' F' t' m' := fun h =>
      two_sound hok.2 hnd' hs (hσ.put VR.undef) (fun o ho ha => hfr o (by simp [ho]) ha) hb hmb h
    have main : oneT sp base ⟨ix, d, g, k, ck⟩ σ t (fun σ t => TWO sp base ops σ t K) → WPO P mb (⟨ix, d, none, k, ck⟩ :: ops) σ' m fun σ1' m' => ∃ E' F' σ1 t', K σ1 t' ∧ Sim E' F' t' m' ∧ SR F' E' σ1 σ1' ∧ Fr base mb E F t m E' F' t' m' := fun h => by
      have after : ∀ {r' : Value} {m1 : Mem}, (keepOk σ' ck m m1 ∧ ∃ E' F' r t', (TWO sp base ops (putD σ d r) t' K) ∧ Sim E' F' t' m1 ∧ VR F' E' r r' ∧ Fr t.next m.next E F t m E' F' t' m1) →
          callK P mb d ck ops σ' m (fun σ1' m' => ∃ E' F' σ1 t', K σ1 t' ∧ Sim E' F' t' m' ∧ SR F' E' σ1 σ1' ∧ Fr base mb E F t m E' F' t' m') r' m1 := fun {r' m1} ⟨hk, E1, F1, r, t1, h1, h2, h3, h4⟩ => by
        refine ⟨hk, ?_⟩
        have hσ1 : SR F1 E1 (putD σ d r) (putD σ' d r') := (hσ.mono h4.f h4.e).put h3
        have hfr1 : Free E1 F1 t1 m1 base mb ops := fun o ho ha => by
          have hn := hfr o (by simp [ho]) ha
          refine ⟨?_, fun o' ho' => ?_, ?_, Nat.lt_of_lt_of_le hn.tl h4.tnx, Nat.lt_of_lt_of_le hn.ml h4.mnx⟩
          · cases he : E1 (base + o.ix) with
            | none => rfl
            | some b =>
              rcases h4.en _ _ he with h5 | ⟨h5, _⟩
              · rw [hn.e] at h5; cases h5
              · have := hn.tl; omega
          · rcases h4.en _ _ ho' with h5 | ⟨_, h5⟩
            · exact hn.b _ h5
            · have := hn.ml; omega
          · cases he : F1 (mb + o.ix) with
            | none => rfl
            | some cs =>
              rcases h4.fn _ _ he with h5 | h5 | ⟨o', _, h5, _⟩
              · rw [hn.f] at h5; cases h5
              · have := hn.ml; omega
              · exact absurd h5 (hn.b o')
        have ih := two_sound hok.2 hnd' h2 hσ1 hfr1 (Nat.le_trans hb h4.tnx) (Nat.le_trans hmb h4.mnx) h1
        obtain ⟨n, s1, m2, hrun, E2, F2, σ2, t2, q1, q2, q3, q4⟩ := ih
        exact ⟨n, s1, m2, hrun, E2, F2, σ2, t2, q1, q2, q3, (h4.weak hb hmb).trans q4⟩
      have ops1 : ∀ {k : IK}, k.isCall = false → okK k = true → (k.isAlloc = true → New E F t m (base + ix) (mb + ix)) → (k.okT σ t = true ∧ ckOkT σ t ck = true ∧ TWO sp base ops (putD σ d (k.valT (base + ix) σ t)) (k.memT (base + ix) σ t) K) →
          WPO P mb (⟨ix, d, none, k, ck⟩ :: ops) σ' m fun σ1' m' => ∃ E' F' σ1 t', K σ1 t' ∧ Sim E' F' t' m' ∧ SR F' E' σ1 σ1' ∧ Fr base mb E F t m E' F' t' m' := fun {k} hc hk hn h => by
        rw [wpo_plain hc]
        obtain ⟨h1, E1, q⟩ := op_rel (tn := base) (mn := mb) (id := base + ix) (mid := mb + ix) hs hσ hc hk h.1 hn (by omega) (by omega)
        refine ⟨h1, ck_relT hs hσ hoo.2 h.2.1, ?_⟩
        have hσ1 : SR F E1 (putD σ d (k.valT (base + ix) σ t)) (putD σ' d (k.val (mb + ix) σ' m)) := (hσ.mono q.fr.f q.fr.e).put q.val
        have hfr1 : Free E1 F (k.memT (base + ix) σ t) (k.mem (mb + ix) σ' m) base mb ops := fun o ho ha => by
          have hn := hfr o (by simp [ho]) ha
          have hx := hne o ho
          simp only at hx
          refine ⟨by rw [q.oth _ (by omega)]; exact hn.e, fun o' ho' => ?_, hn.f, Nat.lt_of_lt_of_le hn.tl q.fr.tnx, Nat.lt_of_lt_of_le hn.ml q.fr.mnx⟩
          by_cases e : o' = base + ix
          · subst e
            rcases q.self with h5 | h5
            · rw [h5] at ho'; exact hn.b _ ho'
            · rw [h5] at ho'; simp only [Option.some.injEq] at ho'; omega
          · rw [q.oth _ e] at ho'; exact hn.b _ ho'
        have ih := two_sound hok.2 hnd' q.sim hσ1 hfr1 (Nat.le_trans hb q.fr.tnx) (Nat.le_trans hmb q.fr.mnx) h.2.2
        obtain ⟨n, s1, m2, hrun, E2, F2, σ2, t2, q1, q2, q3, q4⟩ := ih
        exact ⟨n, s1, m2, hrun, E2, F2, σ2, t2, q1, q2, q3, q.fr.trans q4⟩
      have hn0 := hfr ⟨ix, d, g, k, ck⟩ (by simp)
      have hk0 := hoo.1
      have hop := hk0
      simp only [okK, Bool.and_eq_true] at hop
      cases k with
      | call f as =>
        rw [wpo_call]
        exact (callT_sound hs hσ hoo.2 (hσ.evs hop.1) h).mono fun r' m1 hh => after hh
      | callv x as =>
        simp only [oneT, callvT] at h
        simp only [IK.opnds, List.all_cons, Bool.and_eq_true] at hop
        split at h
        · next f first caps hx =>
          have hv := hσ.ev hop.1.1
          rw [hx] at hv
          obtain ⟨ys, ds, e, l1, l2⟩ := hv.inv_func
          rw [wpo_callv e]
          exact (callT_sound hs hσ hoo.2 ((l1.append (hσ.evs hop.1.2)).append l2) h).mono fun r' m1 hh => after hh
        · exact h.elim
      | icall => exact h.elim
      | _ => exact ops1 rfl hk0 hn0 h
    simp only [TWO] at h
    cases g with
    | none => exact main (by simpa [wantedI] using h)
    | some g =>
      obtain ⟨j, b⟩ := g
      rw [wpo_guard, wanted_relT hσ]
      split at h
      · next hw => rw [if_pos hw]; exact main h
      · next hw => rw [if_neg hw]; exact skip (g := none) h

theorem bump_sim (hs : Sim E F t m) (k : Nat) : Sim E F (t.bump k) (m.bump k) where
  obj o x hx := by
    by_cases h : o < t.next
    · rw [zqn h] at hx
      rcases hs.obj o x hx with ⟨b, cs, w, h1, h2, h3⟩ | h1
      · exact .inl ⟨b, cs, w, h1, by rw [zqn (get_lt h2), h2], h3⟩
      · exact .inr h1
    · simp [Mem.get, Mem.bump, h] at hx
  maps o es he := by
    by_cases h : o < t.next
    · rw [getM_bump h] at he
      obtain ⟨b, es', h1, h2, h3⟩ := hs.maps o es he
      exact ⟨b, es', h1, by rw [getM_bump (hs.lt o b h1).2, h2], h3⟩
    · have := (getM_cells he).1; simp [Mem.get, Mem.bump, h] at this
  mp0 := hs.mp0
  inj := hs.inj
  lt o b h := by have := hs.lt o b h; simp only [zqq]; omega
  fr b cs h := by
    obtain ⟨⟨w, h1⟩, h2⟩ := hs.fr b cs h
    refine ⟨⟨w, by rw [zqn (get_lt h1), h1]⟩, fun o x hE hx => ?_⟩
    rw [zqn (hs.lt o b hE).1] at hx
    exact h2 o x hE hx
theorem bump_fr (hs : Sim E F t m) (k : Nat) : Fr t.next m.next E F t m E F (t.bump k) (m.bump k) where
  e := ELe.refl _
  f := FLe.refl _
  en o b h := .inl h
  fn b cs h := .inl h
  tnx := by simp
  mnx := by simp
  keep b hb _ := zqn hb
  wm b hb := fun ⟨o, x, h1, h2, h3⟩ => ⟨o, x, h1, by rw [zqn (hs.lt o b h1).1] at h2; exact h2, h3⟩
  am b hb := fun ⟨o, x, h1, h2⟩ => ⟨o, x, h1, by rw [zqn (hs.lt o b h1).1] at h2; exact h2⟩
theorem region_soundT {sp : Sps P} {ops : List IOp} (hok : okCode (.region ops) = true) (hs : Sim E F t m) (hσ : SR F E σ σ') {K : Slots → Mem → Prop} (h : TWO sp t.next ops σ (regBump ops t) K) :
    WPO P m.next ops σ' (regBump ops m) fun σ1' m' => ∃ E' F' σ1 t', K σ1 t' ∧ Sim E' F' t' m' ∧ SR F' E' σ1 σ1' ∧ Fr t.next m.next E F t m E' F' t' m' := by
  simp only [okCode, Bool.and_eq_true] at hok
  have hs' : Sim E F (regBump ops t) (regBump ops m) := by
    unfold regBump; split
    · exact bump_sim hs _
    · exact hs
  have hf' : Fr t.next m.next E F t m E F (regBump ops t) (regBump ops m) := by
    unfold regBump; split
    · exact bump_fr hs _
    · exact Fr.refl
  have hfree : Free E F (regBump ops t) (regBump ops m) t.next m.next ops := fun o ho ha => by
    have hany : (ops.any fun o => o.k.isAlloc) = true := List.any_eq_true.2 ⟨o, ho, ha⟩
    have hix : o.ix < ops.length := by simpa using List.all_eq_true.1 hok.2 o ho
    refine ⟨?_, fun o' ho' => ?_, ?_, by simp [regBump, hany, hix], by simp [regBump, hany, hix]⟩
    · cases he : E (t.next + o.ix) with
      | none => rfl
      | some b => have := (hs.lt _ _ he).1; omega
    · have := (hs.lt _ _ ho').2; omega
    · cases he : F (m.next + o.ix) with
      | none => rfl
      | some cs => obtain ⟨⟨w, h1⟩, _⟩ := hs.fr _ _ he; have := get_lt h1; omega
  have := two_sound hok.1.1 hok.1.2 hs' hσ hfree hf'.tnx hf'.mnx h
  obtain ⟨n, s1, m2, hrun, E2, F2, σ2, t2, q1, q2, q3, q4⟩ := this
  exact ⟨n, s1, m2, hrun, E2, F2, σ2, t2, q1, q2, q3, hf'.trans q4⟩

theorem tw_sound {sp : Sps P} : ∀ {c : ICode} {σ : Slots} {t : Mem} {Q : IExit → Slots → Mem → Prop}, TW sp c σ t Q → WPT P c σ t Q
  | .skip, σ, t, Q, h => fun _ E F σ' m hs hσ => by rw [wp_skip']; exact ⟨E, F, σ, t, h, hs, hσ, Fr.refl⟩
  | .exit id, σ, t, Q, h => fun _ E F σ' m hs hσ => by rw [wp_exit']; exact ⟨E, F, σ, t, h, hs, hσ, Fr.refl⟩
  | .ret, σ, t, Q, h => fun _ E F σ' m hs hσ => by rw [wp_ret']; exact ⟨E, F, σ, t, h, hs, hσ, Fr.refl⟩
  | .region ops, σ, t, Q, h => fun hok E F σ' m hs hσ => by rw [wp_region']; exact region_soundT hok hs hσ h
  | .late _ _ _, _, _, _, h => h.elim
  | .seq a b, σ, t, Q, h => fun hok E F σ' m hs hσ => by
    simp only [okCode, Bool.and_eq_true] at hok
    rw [wp_seq']
    refine (tw_sound (c := a) h hok.1 E F σ' m hs hσ).mono fun e s1 m1 hh => ?_
    obtain ⟨E1, F1, σ1, t1, h1, h2, h3, h4⟩ := hh
    cases e with
    | normal =>
      rw [thenK_normal]
      refine (tw_sound (c := b) h1 hok.2 E1 F1 s1 m1 h2 h3).mono fun e s2 m2 hh => ?_
      obtain ⟨E2, F2, σ2, t2, g1, g2, g3, g4⟩ := hh
      exact ⟨E2, F2, σ2, t2, g1, g2, g3, h4.trans (g4.weak h4.tnx h4.mnx)⟩
    | exit id => exact ⟨E1, F1, σ1, t1, h1, h2, h3, h4⟩
    | ret => exact ⟨E1, F1, σ1, t1, h1, h2, h3, h4⟩
  | .cond c a b, σ, t, Q, h => fun hok E F σ' m hs hσ => by
    simp only [okCode, Bool.and_eq_true] at hok
    rw [wp_cond']
    have e := isB_relT (hσ.ev hok.1.1) h.1
    rw [e]
    refine ⟨h.1, ?_⟩
    have h2 := h.2
    split at h2
    · next hc => rw [if_pos hc]; exact tw_sound (c := a) h2 hok.1.2 E F σ' m hs hσ
    · next hc => rw [if_neg hc]; exact tw_sound (c := b) h2 hok.2 E F σ' m hs hσ
  | .block id c, σ, t, Q, h => fun hok E F σ' m hs hσ => by
    rw [wp_block']
    refine (tw_sound (c := c) h hok E F σ' m hs hσ).mono fun e s1 m1 hh => ?_
    obtain ⟨E1, F1, σ1, t1, h1, h2⟩ := hh
    cases e with
    | normal => exact ⟨E1, F1, σ1, t1, h1, h2⟩
    | ret => exact ⟨E1, F1, σ1, t1, h1, h2⟩
    | exit id' =>
      rw [blockK_exit]
      simp only at h1
      split at h1
      · next e => rw [if_pos e]; exact ⟨E1, F1, σ1, t1, h1, h2⟩
      · next e => rw [if_neg e]; exact ⟨E1, F1, σ1, t1, h1, h2⟩
  | .loop c, σ, t, Q, h => h

theorem WPT.mono {c : ICode} {Q Q' : IExit → Slots → Mem → Prop} (h : WPT P c σ t Q) (hq : ∀ e σ t, Q e σ t → Q' e σ t) : WPT P c σ t Q' := fun hok E F σ' m hs hσ => (h hok E F σ' m hs hσ).mono fun e s1 m1 hh => by
  obtain ⟨E1, F1, σ1, t1, h1, h2⟩ := hh
  exact ⟨E1, F1, σ1, t1, hq _ _ _ h1, h2⟩
theorem WPTC.mono {f : Nat} {args : List Value} {Φ Ψ : Value → Mem → Prop} (h : WPTC P f args t Φ) (hq : ∀ r t, Φ r t → Ψ r t) : WPTC P f args t Ψ := fun E F as m hs ha => (h E F as m hs ha).mono fun r' m1 hh => by
  obtain ⟨E1, F1, r, t1, h1, h2⟩ := hh
  exact ⟨E1, F1, r, t1, hq _ _ h1, h2⟩
/-- a loop's round -/
theorem wpt_round {sp : Sps P} {c : ICode} {Q : IExit → Slots → Mem → Prop} (h : ∀ J : Slots → Mem → Prop, (∀ σ' t', WPT P (.loop c) σ' t' Q → J σ' t') → TW sp c σ t (loopJ J Q)) : WPT P (.loop c) σ t Q := fun hok E F σ' m hs hσ => by
  rw [wp_loop']
  refine (tw_sound (h (fun σ' t' => WPT P (.loop c) σ' t' Q) (fun _ _ h => h)) hok E F σ' m hs hσ).mono fun e s1 m1 hh => ?_
  obtain ⟨E1, F1, σ1, t1, h1, h2, h3, h4⟩ := hh
  cases e with
  | normal =>
    rw [loopK_normal]
    refine (h1 hok E1 F1 s1 m1 h2 h3).mono fun e s2 m2 hh => ?_
    obtain ⟨E2, F2, σ2, t2, g1, g2, g3, g4⟩ := hh
    exact ⟨E2, F2, σ2, t2, g1, g2, g3, h4.trans (g4.weak h4.tnx h4.mnx)⟩
  | exit id => exact ⟨E1, F1, σ1, t1, h1, h2, h3, h4⟩
  | ret => exact ⟨E1, F1, σ1, t1, h1, h2, h3, h4⟩

/-- objects may be forgotten -/
theorem WPTC.drop {f : Nat} {args : List Value} {Φ Ψ : Value → Mem → Prop} (h : WPTC P f args t Φ) (hd : ∀ r t', Φ r t' → ∃ t'', Ψ r t'' ∧ t''.next = t'.next ∧ t''.mp = t'.mp ∧ ∀ b x, t''.get b = some x → t'.get b = some x) : WPTC P f args t Ψ := fun E F as m hs ha => (h E F as m hs ha).mono fun r' m1 hh => by
  obtain ⟨E1, F1, r, t1, h1, h2, h3, h4⟩ := hh
  obtain ⟨t2, g1, g2, g3, g4⟩ := hd r t1 h1
  have gm : ∀ o es, t2.getM o = some es → t1.getM o = some es := fun o es he => by
    obtain ⟨e1, e2⟩ := getM_cells he
    exact getM_of (g4 _ _ e1) (by rw [← g3]; exact e2)
  refine ⟨E1, F1, r, t2, g1, ⟨fun o x hx => h2.obj o x (g4 o x hx), fun o es he => h2.maps o es (gm o es he), fun o ho => by rw [g3]; exact h2.mp0 o ho, h2.inj, fun o b hb => by rw [g2]; exact h2.lt o b hb, fun b cs hb => ⟨(h2.fr b cs hb).1, fun o x hE hx => (h2.fr b cs hb).2 o x hE (g4 o x hx)⟩⟩, h3, ?_⟩
  exact ⟨h4.e, h4.f, h4.en, h4.fn, by rw [g2]; exact h4.tnx, h4.mnx, h4.keep, fun b hb ⟨o, x, q1, q2, q3⟩ => h4.wm b hb ⟨o, x, q1, g4 _ _ q2, q3⟩, fun b hb ⟨o, x, q1, q2⟩ => h4.am b hb ⟨o, x, q1, g4 _ _ q2⟩⟩
/-! a function's body -/
def retKT (rs : List IRes) (Φ : Value → Mem → Prop) (e : IExit) (σ : Slots) (t : Mem) : Prop := match e with | .exit _ => False | _ => retOk t σ rs = true ∧ Φ (retV t σ rs) t
theorem res_rel (hs : Sim E F t m) (hσ : SR F E σ σ') {r : IRes} (h : resOk t σ r = true) : resOk m σ' r = true ∧ VR F E (resV t σ r) (resV m σ' r) := by
  cases r with
  | tmp x => exact ⟨rfl, hσ x⟩
  | cell x ag n =>
    simp only [resOk, Bool.and_eq_true] at h ⊢
    have hni : isImmP (σ x) = false := by
      have h1 := h.1
      cases hx : σ x <;> simp [hx, addrOk] at h1 <;> rfl
    have h1 : addrOkT t (σ x) n = true := by rw [addrOkT, hni]; exact h.1
    refine ⟨⟨addrOk_relT hs (hσ x) h1, h.2⟩, ?_⟩
    have := loadV_relT hs (hσ x) h1 h.2
    rw [loadVT, hni] at this
    exact this
theorem ret_rel (hs : Sim E F t m) (hσ : SR F E σ σ') {rs : List IRes} (h : retOk t σ rs = true) : retOk m σ' rs = true ∧ VR F E (retV t σ rs) (retV m σ' rs) := by
  simp only [retOk, List.all_eq_true] at h ⊢
  refine ⟨fun r hr => (res_rel hs hσ (h r hr)).1, ?_⟩
  have hl : LR F E (rs.map (resV t σ)) (rs.map (resV m σ')) := LR.map_ _ _ _ fun r hr => (res_rel hs hσ (h r hr)).2
  unfold retV
  split
  · exact (res_rel hs hσ (h _ (by simp))).2
  · exact hl.tuple
theorem body_sound {sp : Sps P} {f : Nat} {Fn : IFunc} (hF : cFunc P f = some Fn) (hok : okCode Fn.body = true) {args : List Value} (hl : args.length ≤ Fn.nt) {Φ : Value → Mem → Prop} (h : TW sp Fn.body (initσ args) t (retKT Fn.res Φ)) : WPTC P f args t Φ := fun E F as m hs ha => by
  rw [wpCall_def hF (by rw [← ha.1]; exact hl)]
  refine (tw_sound h hok E F (initσ as) m hs (SR.init ha)).mono fun e s1 m1 hh => ?_
  obtain ⟨E1, F1, σ1, t1, h1, h2, h3, h4⟩ := hh
  cases e with
  | exit id => exact h1.elim
  | normal => obtain ⟨a, b⟩ := ret_rel h2 h3 h1.1; exact ⟨a, E1, F1, _, t1, h1.2, h2, b, h4⟩
  | ret => obtain ⟨a, b⟩ := ret_rel h2 h3 h1.1; exact ⟨a, E1, F1, _, t1, h1.2, h2, b, h4⟩

/-- the empty memory -/
def mem0 : Mem := ⟨0, fun _ => none, fun _ => none⟩
theorem mem0_get (o : Nat) : mem0.get o = none := by simp [mem0, Mem.get]
theorem sim0 (hF : Fs F m) : Sim noE F mem0 m where
  obj o x hx := by rw [mem0_get] at hx; cases hx
  maps o es he := by have := (getM_cells he).1; rw [mem0_get] at this; cases this
  mp0 o _ := rfl
  inj o o' b h := by cases h
  lt o b h := by cases h
  fr b cs h := ⟨hF b cs h, fun o x hE => by cases hE⟩
open Classical in
/-- a function over whole contents -/
theorem tpure_of {f : Nat} {args : List Value} {r : Value} (h : WPTC P f args mem0 fun v t => frz 9 t v = some r) : TPure P f args r := fun F m as hF ha => by
  refine (h noE F as m (sim0 hF) ha).mono fun r' m' hh => ?_
  obtain ⟨E', F', v, t', h1, h2, h3, h4⟩ := hh
  refine ⟨h4.mnx, (fun b hb => h4.keep b hb fun ⟨o, x, e, _⟩ => by cases e), (fun b => match F' b with
    | some cs => some cs
    | none => if ∃ o, E' o = some b then (m'.get b).map (·.cells) else none), fun b cs hb => ?_, fun b cs hb => ?_, ?_⟩
  · simp only [h4.f b cs hb]
  · simp only at hb
    split at hb
    · next h5 => cases hb; exact (h2.fr b _ h5).1
    · split at hb
      · cases hg : m'.get b with
        | none => rw [hg] at hb; cases hb
        | some x => rw [hg] at hb; cases hb; exact ⟨x.own, rfl⟩
      · cases hb
  · refine frz_rel h2 (fun b cs hb => by simp only [hb]) 9 h3 h1 fun o ho hal b cs w hE hg => ?_
    cases hFb : F' b with
    | some ds => obtain ⟨⟨w', hw'⟩, _⟩ := h2.fr b ds hFb; rw [hg] at hw'; cases hw'; rfl
    | none => rw [if_pos ⟨o, hE⟩, hg]; rfl
/-- nil, as an object of one's own -/
theorem wpt_virt {c : ICode} {Q : IExit → Slots → Mem → Prop} {d z : Nat} (h0 : σ d = .slice none 0 0) (h : WPT P c (upd σ d (.slice (some ⟨t.next, 0, none⟩) 0 z)) ((t.bump 1).put t.next (some ⟨[], true⟩)) Q) : WPT P c σ t Q := fun hok E F σ' m hs hσ => by
  have hE : E t.next = none := by
    cases he : E t.next with
    | none => rfl
    | some b => have := (hs.lt _ _ he).1; omega
  have hs' : Sim E F ((t.bump 1).put t.next (some ⟨[], true⟩)) m := by
    refine ⟨fun o x hx => ?_, fun o es he => ?_, hs.mp0, hs.inj, fun o b h => ⟨by have := (hs.lt o b h).1; simp only [zqp, zqq]; omega, (hs.lt o b h).2⟩, fun b cs hb => ?_⟩
    · by_cases ho : o = t.next
      · subst ho
        rw [zql (by simp)] at hx
        cases hx; exact .inr ⟨hE, rfl⟩
      · rw [zqm ho, Mem.zqn] at hx; exact hs.obj o x hx
    · by_cases ho : o = t.next
      · subst ho; have := (getM_cells he).2; rw [show ((t.bump 1).put t.next (some ⟨[], true⟩)).mp = t.mp from rfl, hs.mp0 _ hE] at this; cases this
      · rw [getM_put_ne ho] at he
        obtain ⟨e1, e2⟩ := getM_cells he
        rw [Mem.zqn] at e1
        exact hs.maps o es (getM_of e1 e2)
    · obtain ⟨h1, h2⟩ := hs.fr b cs hb
      refine ⟨h1, fun o x hEo hx => ?_⟩
      have ho : o ≠ t.next := fun e => by subst e; rw [hE] at hEo; cases hEo
      rw [zqm ho, Mem.zqn] at hx
      exact h2 o x hEo hx
  have hσ' : SR F E (upd σ d (.slice (some ⟨t.next, 0, none⟩) 0 z)) σ' := fun x => by
    have hx := hσ x
    simp only [upd]
    split
    · next e =>
      subst e; rw [h0] at hx
      rw [hx.inv_flat rfl]; exact .sliceV
    · exact hx
  refine (h hok E F σ' m hs' hσ').mono fun e s1 m1 hh => ?_
  obtain ⟨E1, F1, σ1, t1, h1, h2, h3, h4⟩ := hh
  refine ⟨E1, F1, σ1, t1, h1, h2, h3, ?_⟩
  have h0f : Fr t.next m.next E F t m E F ((t.bump 1).put t.next (some ⟨[], true⟩)) m := ⟨ELe.refl _, FLe.refl _, fun _ _ h => .inl h, fun _ _ h => .inl h, by simp, Nat.le_refl _, fun _ _ _ => rfl, fun b hb => fun ⟨o, x, e1, e2, e3⟩ => by
    have ho : o ≠ t.next := fun e => by subst e; rw [hE] at e1; cases e1
    rw [zqm ho, Mem.zqn] at e2
    exact ⟨o, x, e1, e2, e3⟩, fun b hb => fun ⟨o, x, e1, e2⟩ => by
    have ho : o ≠ t.next := fun e => by subst e; rw [hE] at e1; cases e1
    rw [zqm ho, Mem.zqn] at e2
    exact ⟨o, x, e1, e2⟩⟩
  exact h0f.trans (h4.weak (by simp) (Nat.le_refl _))
end
end Go.DI
