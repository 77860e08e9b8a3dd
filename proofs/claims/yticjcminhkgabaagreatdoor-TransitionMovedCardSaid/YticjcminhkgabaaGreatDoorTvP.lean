/-
  What a computed run proves.
-/
import Derived.Test.YticjcminhkgabaaGreatDoorTvO
namespace Go.DI
open Go Go.RowKit
set_option linter.unusedSimpArgs false
set_option linter.unusedVariables false

theorem mm_get_iff {M : TM} (hw : WFM M) {b : Nat} : (mm M).get b = M.blk.get b := by
  show (if b < M.next then M.blk.get b else none) = _
  by_cases h : b < M.next
  · rw [if_pos h]
  · rw [if_neg h, hw b (by omega)]
theorem cutE_ok : ∀ {L : List Nat} {M Mc : TM}, WFM M → cutE M L = some Mc → WFM Mc ∧ mm Mc = cutL (mm M) L
  | [], M, Mc, hw, h => by
    cases h
    refine ⟨hw, ?_⟩
    unfold cutL; simp
  | o :: l, M, Mc, hw, h => by
    simp only [cutE] at h
    split at h
    · next M1 h1 =>
      obtain ⟨w1, e1⟩ := putB_ok hw h1
      obtain ⟨w2, e2⟩ := cutE_ok w1 h
      refine ⟨w2, ?_⟩
      rw [e2, e1]
      unfold cutL Mem.put
      simp only [Mem.mk.injEq, true_and, and_true]
      funext b
      by_cases h1 : b ∈ l
      · rw [if_pos h1, if_pos (by simp [h1])]
      · rw [if_neg h1]
        by_cases h2 : b = o
        · rw [if_pos h2, if_pos (by simp [h2])]
        · rw [if_neg h2, if_neg (by simp [h1, h2])]
    · cases h
theorem joinE_ok {M : TM} : ∀ {L : List Nat} {M1 M2 : TM}, WFM M1 → joinE M M1 L = some M2 → WFM M2 ∧ mm M2 = joinL (mm M) (mm M1) L
  | [], M1, M2, hw, h => by
    cases h
    refine ⟨hw, ?_⟩
    unfold joinL; simp
  | o :: l, M1, M2, hw, h => by
    simp only [joinE] at h
    split at h
    · next M3 h1 =>
      obtain ⟨w1, e1⟩ := putB_ok hw h1
      obtain ⟨w2, e2⟩ := joinE_ok w1 h
      refine ⟨w2, ?_⟩
      rw [e2, e1]
      unfold joinL Mem.put
      simp only [Mem.mk.injEq, true_and, and_true]
      funext b
      by_cases h1 : b ∈ l
      · rw [if_pos h1, if_pos (by simp [h1])]
      · rw [if_neg h1]
        by_cases h2 : b = o
        · rw [if_pos h2, if_pos (by simp [h2]), h2]; rfl
        · rw [if_neg h2, if_neg (by simp [h1, h2])]
    · cases h
theorem shutE_ok : ∀ {L : List Nat} {M M2 : TM}, WFM M → shutE M L = some M2 → WFM M2 ∧ mm M2 = shut (mm M) L
  | [], M, M2, hw, h => by cases h; exact ⟨hw, rfl⟩
  | o :: l, M, M2, hw, h => by
    simp only [shutE] at h
    rw [shut_cons, mm_get_iff hw]
    split at h
    · next x hx =>
      rw [hx]
      simp only
      split at h
      · next M1 h1 =>
        obtain ⟨w1, e1⟩ := putB_ok hw h1
        rw [← e1]
        exact shutE_ok w1 h
      · cases h
    · next hx =>
      rw [hx]
      exact shutE_ok hw h
theorem clrE_ok : ∀ {L : List Nat} {M M2 : TM}, WFM M → clrE M L = some M2 → WFM M2 ∧ mm M2 = clr (mm M) L
  | [], M, M2, hw, h => by cases h; exact ⟨hw, (clr_nil _).symm⟩
  | o :: l, M, M2, hw, h => by
    have hc : ∀ {M' : TM}, WFM M' → clrE M' l = some M2 → M'.next = M.next → M'.blk = M.blk → (∀ b, b ∉ l → M'.mp.get b = if b = o then none else M.mp.get b) → WFM M2 ∧ mm M2 = clr (mm M) (o :: l) := fun {M'} hw' h' hn hb hm => by
      obtain ⟨w, e⟩ := clrE_ok hw' h'
      refine ⟨w, ?_⟩
      rw [e]
      unfold clr mm
      simp only [Mem.mk.injEq, hn, hb, true_and]
      funext b
      by_cases h1 : b ∈ l
      · rw [if_pos h1, if_pos (by simp [h1])]
      · rw [if_neg h1, hm b h1]
        by_cases h2 : b = o
        · rw [if_pos h2, if_pos (by simp [h2])]
        · rw [if_neg h2, if_neg (by simp [h1, h2])]
    simp only [clrE] at h
    split at h
    · split at h
      · next hk => exact hc (M' := ⟨M.next, M.blk, Tr.set 21 M.mp o none⟩) hw h rfl rfl fun b _ => Tr.get_set (key_pow hk)
      · cases h
    · next hx =>
      refine hc hw h rfl rfl fun b _ => ?_
      by_cases h2 : b = o
      · rw [if_pos h2, h2]; exact hx
      · rw [if_neg h2]

section
variable {P : Program} {E : Emb} {F : Frz} {t m : Mem} {σ σ' : Slots}
/-- a function is known for these very arguments -/
noncomputable def oneP {f : Nat} {ts : List Value} {r : Value} (h : TPure P f ts r) : PSpec P := by
  classical exact ⟨f, fun as => if as = ts then some r else none, fun as r' e => by
    by_cases he : as = ts
    · rw [if_pos he] at e; cases e; rw [he]; exact h
    · rw [if_neg he] at e; cases e⟩
theorem one_pure {f : Nat} {args ts : List Value} {r : Value} (h : TPure P f ts r) (hf : frzs 9 t args = some ts) {K : Value → Mem → Prop} (hK : K r (if flatV r then clr t (args.flatMap (reach 9 t)) else shut t (args.flatMap (reach 9 t)))) : pureT [oneP h] f args t K := by
  unfold pureT
  rw [hf]
  simp only [specT, oneP, if_true]
  exact hK
/-- a call that does not see some of the objects: they stay, here and there -/
theorem frameX {f : Nat} {args as : List Value} {Φ : Value → Mem → Prop} {l : List Nat} (hl : ∀ o ∈ l, ∃ x, t.get o = some x ∧ x.cells ≠ []) (h : WPTC P f args (cutL t l) Φ) (hs : Sim E F t m) (ha : LR F E args as) :
    WPCall P f as m fun r' m1 => (∀ o ∈ l, ∀ b, E o = some b → m1.get b = m.get b) ∧ ∃ E1 F1 r t1, Φ r t1 ∧ Sim E1 F1 (joinL t t1 l) m1 ∧ VR F1 E1 r r' ∧ Fr t.next m.next E F t m E1 F1 (joinL t t1 l) m1 := by
  have hs0 : Sim E F (cutL t l) m := ⟨fun o x hx => hs.obj o x (cutL_some hx).2, fun o es he => by
      have hb := (cutL_some (getM_cells he).1).1
      rw [cutL_outM hb] at he; exact hs.maps o es he, hs.mp0, hs.inj, hs.lt, fun b cs hb => ⟨(hs.fr b cs hb).1, fun o x hE hx => (hs.fr b cs hb).2 o x hE (cutL_some hx).2⟩⟩
  refine (h E F as m hs0 ha).mono fun r' m1 hh => ?_
  obtain ⟨E1, F1, r, t1, h1, h2, h3, h4⟩ := hh
  have hn : t.next ≤ t1.next := h4.tnx
  have ex : ∀ o ∈ l, ∃ x b cs w, t.get o = some x ∧ x.cells ≠ [] ∧ E o = some b ∧ m.get b = some ⟨cs, w⟩ ∧ (x.own = true → w = true) ∧ LR F E x.cells cs := fun o ho => by
    obtain ⟨x, hx, hc⟩ := hl o ho
    rcases hs.obj o x hx with ⟨b, cs, w, a1, a2, a3, a4⟩ | ⟨_, a2⟩
    · exact ⟨x, b, cs, w, hx, hc, a1, a2, a3, a4⟩
    · exact absurd a2 hc
  have nal : ∀ o ∈ l, ∀ b, E o = some b → ¬ Al E (cutL t l) b := fun o ho b hb ⟨p, x, hp, hx⟩ => by
    have := hs.inj p o b hp hb
    subst this; rw [cutL_in ho] at hx; cases hx
  have kept : ∀ o ∈ l, ∀ b, E o = some b → m1.get b = m.get b := fun o ho b hE => h4.keep b (hs.lt o b hE).2 fun ⟨p, z, q1, q2, _⟩ => nal o ho b hE ⟨p, z, q1, q2⟩
  have fresh : ∀ o ∈ l, t1.get o = none := fun o ho => by
    obtain ⟨x, b, cs, w, a1, a2, a3, a4, a5, a6⟩ := ex o ho
    cases hg : t1.get o with
    | none => rfl
    | some y => exact absurd (h4.am b (hs.lt o b a3).2 ⟨o, y, h4.e o b a3, hg⟩) (nal o ho b a3)
  have gi : ∀ o ∈ l, (joinL t t1 l).get o = t.get o := fun o ho => by
    obtain ⟨x, b, cs, w, a1, _⟩ := ex o ho
    exact joinL_in ho hn (get_lt a1)
  refine ⟨kept, E1, F1, r, t1, h1, ?_, h3, ?_⟩
  · refine ⟨fun o x hx => ?_, fun o es he => ?_, h2.mp0, h2.inj, h2.lt, fun b cs hb => ⟨(h2.fr b cs hb).1, fun o x hE hx => ?_⟩⟩
    · by_cases ho : o ∈ l
      · rw [gi o ho] at hx
        obtain ⟨y, b, cs, w, a1, a2, a3, a4, a5, a6⟩ := ex o ho
        rw [a1] at hx; cases hx
        exact .inl ⟨b, cs, w, h4.e o b a3, by rw [kept o ho b a3]; exact a4, a5, a6.mono h4.f h4.e⟩
      · rw [joinL_out ho] at hx; exact h2.obj o x hx
    · by_cases ho : o ∈ l
      · have := (getM_cells he).1
        rw [gi o ho] at this
        obtain ⟨y, hy, hc⟩ := hl o ho
        rw [hy] at this; cases this; exact absurd rfl hc
      · rw [joinL_outM ho] at he; exact h2.maps o es he
    · by_cases ho : o ∈ l
      · rw [gi o ho] at hx
        obtain ⟨y, b', cs', w, a1, a2, a3, a4, a5, a6⟩ := ex o ho
        have hb' := h4.e o b' a3
        rw [hE] at hb'; cases hb'
        rcases h4.fn b cs hb with q | q | q
        · exact (hs.fr b cs q).2 o x a3 hx
        · have := (hs.lt o b a3).2; omega
        · exact absurd q (nal o ho b a3)
      · rw [joinL_out ho] at hx; exact (h2.fr b cs hb).2 o x hE hx
  · refine ⟨h4.e, h4.f, h4.en, fun b cs hb => ?_, hn, h4.mnx, fun b hb hw => h4.keep b hb fun ⟨p, z, q1, q2, q3⟩ => hw ⟨p, z, q1, (cutL_some q2).2, q3⟩, fun b hb ⟨o, x, q1, q2, q3⟩ => ?_, fun b hb ⟨o, x, q1, q2⟩ => ?_⟩
    · rcases h4.fn b cs hb with q | q | ⟨p, z, q1, q2⟩
      · exact .inl q
      · exact .inr (.inl q)
      · exact .inr (.inr ⟨p, z, q1, (cutL_some q2).2⟩)
    · by_cases ho : o ∈ l
      · obtain ⟨y, b', cs', w, a1, a2, a3, _⟩ := ex o ho
        have hb' := h4.e o b' a3
        rw [q1] at hb'; cases hb'
        rw [gi o ho] at q2; exact ⟨o, x, a3, q2, q3⟩
      · rw [joinL_out ho] at q2
        obtain ⟨p, z, r1, r2, r3⟩ := h4.wm b hb ⟨o, x, q1, q2, q3⟩
        exact ⟨p, z, r1, (cutL_some r2).2, r3⟩
    · by_cases ho : o ∈ l
      · obtain ⟨y, b', cs', w, a1, a2, a3, _⟩ := ex o ho
        have hb' := h4.e o b' a3
        rw [q1] at hb'; cases hb'
        rw [gi o ho] at q2; exact ⟨o, x, a3, q2⟩
      · rw [joinL_out ho] at q2
        obtain ⟨p, z, r1, r2⟩ := h4.am b hb ⟨o, x, q1, q2⟩
        exact ⟨p, z, r1, (cutL_some r2).2⟩
/-- the blocks of a draw region's check stay -/
theorem keep_relX (hs : Sim E F t m) (hσ : SR F E σ σ') {ck : List (Operand × Operand)} (ha : ck.all (fun p => argOk p.1 && argOk p.2) = true) {m' : Mem} (hk : ∀ b, b < m.next → ¬ Wr E t b → m'.get b = m.get b) (hx : ∀ o ∈ ownL σ t ck, ∀ b, E o = some b → m'.get b = m.get b) : keepOk σ' ck m m' := by
  intro p hp b hb
  simp only [List.all_eq_true] at ha
  have h2 := ha p hp
  simp only [Bool.and_eq_true] at h2
  have hv := hσ.ev h2.1
  have h1 : ∀ o, blkOf (ev σ p.1) = some o → ownAt t o = true → o ∈ ownL σ t ck := by
    clear hx hb hv h2 ha
    induction ck with
    | nil => cases hp
    | cons q l ih =>
      intro o ho hw
      unfold ownL
      rcases List.mem_cons.1 hp with rfl | hp
      · rw [ho]
        simp only
        rw [if_pos hw]
        exact List.mem_cons_self
      · have := ih hp o ho hw
        split
        · split
          · exact List.mem_cons_of_mem _ this
          · exact this
        · exact this
  generalize ev σ p.1 = a at hv h1
  generalize ev σ' p.1 = a' at hv hb
  have key : ∀ o, blkOf a = some o → E o = some b → m'.get b = m.get b := fun o ho hE => by
    cases hw : ownAt t o with
    | true => exact hx o (h1 o ho hw) b hE
    | false =>
      refine hk b (hs.lt o b hE).2 fun ⟨o', x, e1, e2, e3⟩ => ?_
      rw [hs.inj o' o b e1 hE] at e2
      simp [ownAt, e2, e3] at hw
  have keyF : ∀ cs, F b = some cs → m'.get b = m.get b := fun cs hF => by
    obtain ⟨⟨w, h3⟩, h4⟩ := hs.fr b cs hF
    exact hk b (get_lt h3) fun ⟨o', x, e1, e2, e3⟩ => by rw [h4 o' x e1 e2] at e3; cases e3
  cases hv with
  | flat h =>
    unfold blkOf at hb
    split at hb <;> simp [flat1] at h hb
  | ptr hE => simp [blkOf] at hb; subst hb; exact key _ rfl hE
  | slice hE => simp [blkOf] at hb; subst hb; exact key _ rfl hE
  | map hE => simp [blkOf] at hb; subst hb; exact key _ rfl hE
  | imm e hF => simp [blkOf] at hb; subst hb; exact keyF _ hF
  | immP e hF => simp [blkOf] at hb; subst hb; exact keyF _ hF
  | _ => simp [blkOf] at hb
/-- what computed calls prove -/
def ClOk (P : Program) (cl : ClE) : Prop := ∀ f args M r M', WFM M → cl f args M = some (r, M') → WFM M' ∧ WPTC P f args (mm M) fun r' t' => r' = r ∧ t' = mm M'
theorem pureE_ok {cl : ClE} (hcl : ClOk P cl) {f : Nat} {args : List Value} {M M' : TM} {r : Value} (hw : WFM M) (h : pureE cl f args M = some (r, M')) :
    WFM M' ∧ ∃ ts, ∃ hp : TPure P f ts r, pureT [oneP hp] f args (mm M) fun r' t' => r' = r ∧ t' = mm M' := by
  unfold pureE at h
  split at h
  · next ts hts =>
    split at h
    · next v M1 h1 =>
      obtain ⟨w1, q1⟩ := hcl _ _ _ _ _ wf0 h1
      split at h
      · next r1 hr =>
        have hp : TPure P f ts r1 := tpure_of (by
          have := q1
          rw [mm0] at this
          exact this.mono fun r' t' hh => by rw [hh.1, hh.2]; exact hr)
        split at h
        · next hfl =>
          split at h
          · next M2 h2 =>
            cases h
            obtain ⟨w2, e2⟩ := clrE_ok hw h2
            exact ⟨w2, ts, hp, one_pure hp hts ⟨rfl, by rw [if_pos hfl, e2]⟩⟩
          · cases h
        · next hfl =>
          split at h
          · next M2 h2 =>
            cases h
            obtain ⟨w2, e2⟩ := shutE_ok hw h2
            exact ⟨w2, ts, hp, one_pure hp hts ⟨rfl, by rw [if_neg hfl, e2]⟩⟩
          · cases h
      · cases h
    · cases h
  · cases h
theorem callE_ok {cl : ClE} (hcl : ClOk P cl) {f : Nat} {args as : List Value} {M M' : TM} {r : Value} {ck : List (Operand × Operand)} (hw : WFM M) (hs : Sim E F (mm M) m) (hσ : SR F E σ σ') (hck : ck.all (fun p => argOk p.1 && argOk p.2) = true) (ha : LR F E args as)
    (h : callE cl f args M (ownL σ (mm M) ck) = some (r, M')) : WFM M' ∧
    WPCall P f as m fun r' m' => keepOk σ' ck m m' ∧ ∃ E' F', Sim E' F' (mm M') m' ∧ VR F' E' r r' ∧ Fr (mm M).next m.next E F (mm M) m E' F' (mm M') m' := by
  have pure : ∀ {x : Value × TM}, pureE cl f args M = some x → x = (r, M') → WFM M' ∧ WPCall P f as m fun r' m' => keepOk σ' ck m m' ∧ ∃ E' F', Sim E' F' (mm M') m' ∧ VR F' E' r r' ∧ Fr (mm M).next m.next E F (mm M) m E' F' (mm M') m' := fun {x} hx e => by
    subst e
    obtain ⟨w, ts, hp, q⟩ := pureE_ok hcl hw hx
    refine ⟨w, (pure_soundT hs ha q).mono fun r' m' hh => ?_⟩
    obtain ⟨h1, F', r0, t', ⟨rfl, rfl⟩, h3, h4, h5⟩ := hh
    exact ⟨keep_all hs hσ hck h1, E, F', h3, h4, h5⟩
  cases hL : ownL σ (mm M) ck with
  | nil =>
    rw [hL] at h
    simp only [callE] at h
    obtain ⟨w, q⟩ := hcl _ _ _ _ _ hw h
    refine ⟨w, (q E F as m hs ha).mono fun r' m' hh => ?_⟩
    obtain ⟨E', F', r0, t', ⟨rfl, rfl⟩, h2, h3, h4⟩ := hh
    exact ⟨keep_relX hs hσ hck h4.keep (by rw [hL]; nofun), E', F', h2, h3, h4⟩
  | cons o l =>
    rw [hL] at h
    simp only [callE] at h
    split at h
    · next hne =>
      split at h
      · next Mc hc =>
        obtain ⟨wc, ec⟩ := cutE_ok hw hc
        split at h
        · next r1 M1 h1 =>
          split at h
          · next M2 h2 =>
            cases h
            obtain ⟨w1, q1⟩ := hcl _ _ _ _ _ wc h1
            obtain ⟨w2, e2⟩ := joinE_ok w1 h2
            refine ⟨w2, ?_⟩
            rw [ec] at q1
            have hlx : ∀ p ∈ o :: l, ∃ x, (mm M).get p = some x ∧ x.cells ≠ [] := fun p hp => by
              have := List.all_eq_true.1 hne p hp
              rw [mm_get_iff hw]
              split at this
              · next x hx => exact ⟨x, hx, fun e => by rw [e] at this; simp at this⟩
              · cases this
            refine (frameX hlx q1 hs ha).mono fun r' m' hh => ?_
            obtain ⟨k1, E', F', r0, t', ⟨rfl, rfl⟩, h3, h4, h5⟩ := hh
            rw [← e2] at h3 h5
            exact ⟨keep_relX hs hσ hck h5.keep (by rw [hL]; exact k1), E', F', h3, h4, h5⟩
          · cases h
        · exact pure h rfl
      · cases h
    · exact pure h rfl
end
end Go.DI
