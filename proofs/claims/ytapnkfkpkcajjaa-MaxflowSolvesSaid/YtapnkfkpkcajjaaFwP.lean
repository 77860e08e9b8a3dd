/-
  A region that draws its order: whatever order is drawn, the outcome is that of our own order.
-/
import Derived.Test.YtapnkfkpkcajjaaFwO
namespace Go.DI
open Go Go.RowKit

section
variable {P : Program} {σ σ2 : Slots} {m m2 : Mem} {B : Nat} {cl : Callee} {base : Nat}

theorem nin_some {l : List Nat} {d : Nat} (h : nin l (some d) = true) : d ∉ l := by simpa [nin] using h

theorem putD_other {d : Option Nat} {v : Value} {t : Nat} (h : d ≠ some t) : putD σ d v t = σ t := by
  cases d with
  | none => rfl
  | some d =>
    have : t ≠ d := fun e => h (by rw [e])
    simp [putD, upd, this]
theorem putD_comm {d e : Option Nat} {u v : Value} (h : ∀ x, d = some x → e ≠ some x) : putD (putD σ d u) e v = putD (putD σ e v) d u := by
  cases d with
  | none => rfl
  | some d =>
    cases e with
    | none => rfl
    | some e =>
      have hne : d ≠ e := fun x => h d rfl (by rw [x])
      funext t
      simp only [putD, upd]
      by_cases h1 : t = e
      · subst h1; simp [Ne.symm hne]
      · simp [h1]

theorem slotsOf_mem {l : List Operand} {x : Operand} {t : Nat} (hx : x ∈ l) (ht : x = .tmp t) : t ∈ slotsOf l := by
  subst ht
  exact List.mem_filterMap.2 ⟨_, hx, rfl⟩

/-- what an operation reads is not written between -/
theorem reads_ev {o : IOp} {d : Option Nat} {v : Value} (h : nin o.reads d = true) : ∀ x ∈ o.k.opnds, ev (putD σ d v) x = ev σ x := by
  intro x hx
  refine ev_congr fun t ht => putD_other fun hd => ?_
  subst hd
  exact nin_some h (List.mem_append_left _ (slotsOf_mem hx ht))
theorem reads_wanted {o : IOp} {d : Option Nat} {v : Value} (h : nin o.reads d = true) : wantedI (putD σ d v) o.g = wantedI σ o.g := by
  cases hg : o.g with
  | none => rfl
  | some tb =>
    obtain ⟨t, b⟩ := tb
    simp only [wantedI]
    rw [putD_other fun hd => ?_]
    subst hd
    exact nin_some h (List.mem_append_right _ (by simp [hg]))

theorem rd_opnds {k : IK} : ∀ x ∈ k.rd ++ k.wro, x ∈ k.opnds := by
  intro x hx
  cases k <;> simp [IK.rd, IK.wro] at hx <;> simp [IK.opnds, hx]
  · rcases hx with h | h | h <;> simp [h]

/-- a step that makes no call -/
theorem step_plain {o : IOp} (hw : wantedI σ o.g = true) (hc : o.k.callee σ = none) {s : Slots × Mem} (h : stepOp cl base o σ m = some s) :
    o.k.ok σ m = true ∧ s = (putD σ o.d (o.k.val (base + o.ix) σ m), applyW m (o.k.wr (base + o.ix) σ m)) := by
  unfold stepOp at h
  rw [if_pos hw, hc] at h
  simp only at h
  split at h
  · rename_i hok; cases h; exact ⟨hok, by rw [← mem_wr]⟩
  · cases h
theorem step_plain_mk {o : IOp} (hw : wantedI σ o.g = true) (hc : o.k.callee σ = none) (hok : o.k.ok σ m = true) :
    stepOp cl base o σ m = some (putD σ o.d (o.k.val (base + o.ix) σ m), applyW m (o.k.wr (base + o.ix) σ m)) := by
  unfold stepOp
  rw [if_pos hw, hc]
  simp only [hok, if_true, mem_wr]
theorem step_call {o : IOp} (hw : wantedI σ o.g = true) {f : Nat} {args : List Value} (hc : o.k.callee σ = some (f, args)) {s : Slots × Mem} (h : stepOp cl base o σ m = some s) :
    ∃ v m', cl f args m = some (v, m') ∧ s = (putD σ o.d v, m') := by
  unfold stepOp at h
  rw [if_pos hw, hc] at h
  simp only at h
  split at h
  · rename_i v m' hf; cases h; exact ⟨v, m', hf, rfl⟩
  · cases h
theorem step_call_mk {o : IOp} (hw : wantedI σ o.g = true) {f : Nat} {args : List Value} (hc : o.k.callee σ = some (f, args)) {v : Value} {m' : Mem} (h : cl f args m = some (v, m')) :
    stepOp cl base o σ m = some (putD σ o.d v, m') := by
  unfold stepOp
  rw [if_pos hw, hc]
  simp only [h]
theorem step_skip_ {o : IOp} (hw : wantedI σ o.g = false) : stepOp cl base o σ m = some (putD σ o.d undef, m) := by
  unfold stepOp
  rw [if_neg (by rw [hw]; simp)]

theorem callee_isCall {k : IK} {fa : Nat × List Value} (h : k.callee σ = some fa) : k.isCall = true := by
  cases k <;> first | rfl | (simp [IK.callee] at h)
theorem isCall_callee {k : IK} (h : k.isCall = false) : k.callee σ = none := by
  cases k <;> first | rfl | (simp [IK.isCall] at h)
theorem callee_none {o : IOp} (hw : wantedI σ o.g = true) (hc : o.k.callee σ = none) {s : Slots × Mem} (h : stepOp cl base o σ m = some s) : o.k.isCall = false :=
  ok_not_call (step_plain hw hc h).1

/-- what must be apart, at the time of the later one -/
def ApartAt (k i : IOp) (σ : Slots) (m m' : Mem) : Prop :=
  wantedI σ i.g = true → match i.k.callee σ with
    | some _ => ∀ p ∈ pairs k i, ∀ b, blkOf (ev σ p.1) = some b → m'.get b = m.get b
    | none => ∀ p ∈ pairs k i, ∀ a b, blkOf (ev σ p.1) = some a → blkOf (ev σ p.2) = some b → a ≠ b

theorem ckProp_slots {o : IOp} {d : Option Nat} {v : Value} {m' : Mem} (hr : nin (o.reads ++ o.ckSlots) d = true) {mA mB : Mem}
    (hsame : o.k.isCall = true → mA = m ∧ mB = m') (h : ckProp o σ m m') : ckProp o (putD σ d v) mA mB := by
  have h1 : nin o.reads d = true := by
    cases d with
    | none => rfl
    | some d => simp [nin] at hr ⊢; exact hr.1
  have hck : ∀ p ∈ o.ck, ev (putD σ d v) p.1 = ev σ p.1 ∧ ev (putD σ d v) p.2 = ev σ p.2 := by
    intro p hp
    constructor
    · refine ev_congr fun t ht => putD_other fun hd => ?_
      subst hd
      exact nin_some hr (List.mem_append_right _ (List.mem_append_left _ (slotsOf_mem (List.mem_map.2 ⟨p, hp, rfl⟩) ht)))
    · refine ev_congr fun t ht => putD_other fun hd => ?_
      subst hd
      exact nin_some hr (List.mem_append_right _ (List.mem_append_right _ (slotsOf_mem (List.mem_map.2 ⟨p, hp, rfl⟩) ht)))
  intro hw
  rw [reads_wanted h1] at hw
  have := h hw
  have hcal : o.k.callee (putD σ d v) = o.k.callee σ := (congr_ev (m := m) (id := 0) (reads_ev h1)).2.2.2
  rw [hcal]
  cases hc : o.k.callee σ with
  | some fa =>
    rw [hc] at this
    simp only at this ⊢
    obtain ⟨rfl, rfl⟩ := hsame (callee_isCall hc)
    intro p hp b hb
    rw [(hck p hp).1] at hb
    exact this p hp b hb
  | none =>
    rw [hc] at this
    simp only [ckOk, List.all_eq_true] at this ⊢
    intro p hp
    obtain ⟨x, y⟩ := p
    have := this (x, y) hp
    simp only at this ⊢
    rw [(hck _ hp).1, (hck _ hp).2]
    exact this

theorem swap {k i : IOp} {btw : List Nat} {σ2 σ3 : Slots} {m2 m3 : Mem} (hcomp : compatB k i btw = true) (hix : k.ix ≠ i.ix) (hfresh : i.k.isAlloc = true → m.get (base + i.ix) = none)
    (h1 : stepOp cl base k σ m = some (σ2, m2)) (hck : ckProp k σ m m2) (h2 : stepOp cl base i σ2 m2 = some (σ3, m3)) (hF : ApartAt k i σ2 m2 m3) :
    ∃ σ1 m1, stepOp cl base i σ m = some (σ1, m1) ∧ stepOp cl base k σ1 m1 = some (σ3, m3) ∧ ckProp k σ1 m1 m3 ∧ (i.k.isCall = true → wantedI σ i.g = true → m = m2 ∧ m1 = m3) := by
  simp only [compatB, Bool.and_eq_true] at hcomp
  obtain ⟨⟨⟨hc1, hc2⟩, hc3⟩, hc4⟩ := hcomp
  have hkr : nin k.reads i.d = true := by
    cases hd : i.d with
    | none => rfl
    | some d => rw [hd] at hc1; simp [nin] at hc1 ⊢; exact hc1.1
  have hdd : ∀ x, k.d = some x → i.d ≠ some x := by
    intro x hx hy
    rw [hx, hy] at hc3
    simp at hc3
  by_cases hwk : wantedI σ k.g = true
  · by_cases hwi : wantedI σ i.g = true
    · cases hck' : k.k.callee σ with
      | some fa =>
        -- k calls; i touches no memory
        obtain ⟨f, args⟩ := fa
        have hkc := callee_isCall hck'
        obtain ⟨v, m', e1, e2⟩ := step_call hwk hck' h1
        cases e2
        have hic : i.k.isCall = false := by
          by_cases h : i.k.isCall = true
          · rw [if_pos h] at hc4; simp [hkc] at hc4
          · simpa using h
        rw [if_neg (by rw [hic]; simp), if_pos hkc] at hc4
        simp only [Bool.and_eq_true, List.isEmpty_iff, Bool.not_eq_true'] at hc4
        obtain ⟨⟨hrd, hwro⟩, hal⟩ := hc4
        have hwi2 : wantedI (putD σ k.d v) i.g = true := by rw [reads_wanted hc2]; exact hwi
        obtain ⟨hok, e3⟩ := step_plain hwi2 (isCall_callee hic) h2
        cases e3
        obtain ⟨c1, c2, c3, _⟩ := congr_ev (k := i.k) (m := m2) (id := base + i.ix) (reads_ev (σ := σ) (v := v) hc2)
        obtain ⟨d1, d2, d3⟩ := congr_m (k := i.k) (σ := σ) (id := base + i.ix) (m := m2) (m2 := m) (by rw [hrd]; simp)
        have hwr : i.k.wr (base + i.ix) σ m = [] := by
          cases hl : i.k.wr (base + i.ix) σ m with
          | nil => rfl
          | cons p l =>
            rcases wr_keys (k := i.k) (id := base + i.ix) (σ := σ) (m := m) p (by rw [hl]; simp) with h | ⟨x, hx, _⟩
            · rw [hal] at h; cases h.1
            · rw [hwro] at hx; cases hx
        refine ⟨_, _, step_plain_mk hwi (isCall_callee hic) (by rw [← d1, ← c1]; exact hok), ?_, ?_, fun h => by rw [hic] at h; cases h⟩
        · have hcal2 : k.k.callee (putD σ i.d (i.k.val (base + i.ix) σ m)) = some (f, args) := by rw [(congr_ev (m := m) (id := 0) (reads_ev hkr)).2.2.2]; exact hck'
          rw [hwr, c2, c3, d2, d3, hwr]
          have := step_call_mk (cl := cl) (base := base) (m := applyW m []) (by rw [reads_wanted hkr]; exact hwk) hcal2 e1
          rw [this, putD_comm hdd]
          rfl
        · rw [hwr, c3, d3, hwr]
          exact ckProp_slots hc1 (fun _ => ⟨rfl, rfl⟩) hck
      | none =>
        have hkc := callee_none hwk hck' h1
        obtain ⟨hokk, e1⟩ := step_plain hwk hck' h1
        cases e1
        have hwi2 : wantedI (putD σ k.d (k.k.val (base + k.ix) σ m)) i.g = true := by rw [reads_wanted hc2]; exact hwi
        obtain ⟨c1, c2, c3, c4⟩ := congr_ev (k := i.k) (m := applyW m (k.k.wr (base + k.ix) σ m)) (id := base + i.ix) (reads_ev (σ := σ) (v := k.k.val (base + k.ix) σ m) hc2)
        have hF' := hF hwi2
        cases hcal : i.k.callee σ with
        | some fa =>
          -- i calls; k writes nothing
          obtain ⟨f, args⟩ := fa
          have hic := callee_isCall hcal
          rw [if_pos hic] at hc4
          simp only [Bool.and_eq_true, Bool.not_eq_true', List.isEmpty_iff] at hc4
          obtain ⟨⟨⟨_, hal⟩, hwro⟩, hslots⟩ := hc4
          have hwr : k.k.wr (base + k.ix) σ m = [] := by
            cases hl : k.k.wr (base + k.ix) σ m with
            | nil => rfl
            | cons p l =>
              rcases wr_keys (k := k.k) (id := base + k.ix) (σ := σ) (m := m) p (by rw [hl]; simp) with h | ⟨x, hx, _⟩
              · rw [hal] at h; cases h.1
              · rw [hwro] at hx; cases hx
          rw [hwr] at h2 hF' ⊢
          have hm0 : applyW m [] = m := rfl
          rw [hm0] at h2 hF'
          rw [c4, hcal] at hF'
          simp only at hF'
          obtain ⟨v, m', g1, g2⟩ := step_call hwi2 (by rw [c4]; exact hcal) h2
          cases g2
          refine ⟨_, _, step_call_mk hwi hcal g1, ?_, ?_, fun _ _ => ⟨rfl, rfl⟩⟩
          · obtain ⟨d1, d2, d3⟩ := congr_m (k := k.k) (σ := σ) (id := base + k.ix) (m := m) (m2 := m3) (fun x hx b hb => by
              have hp : (x, x) ∈ pairs k i := by simp only [pairs, hic, if_true]; exact List.mem_map.2 ⟨x, hx, rfl⟩
              have hx2 : ev (putD σ k.d (k.k.val (base + k.ix) σ m)) x = ev σ x := ev_congr fun t ht => putD_other fun hd => by
                have := List.all_eq_true.1 hslots t (slotsOf_mem hx ht)
                simp [hd] at this
              exact (hF' (x, x) hp b (by rw [hx2]; exact hb)).symm)
            obtain ⟨f1, f2, f3, f4⟩ := congr_ev (k := k.k) (m := m3) (id := base + k.ix) (reads_ev (σ := σ) (d := i.d) (v := v) hkr)
            have := step_plain_mk (cl := cl) (base := base) (m := m3) (σ := putD σ i.d v) (o := k) (by rw [reads_wanted hkr]; exact hwk) (isCall_callee hkc) (by rw [f1, ← d1]; exact hokk)
            rw [this, f2, f3, ← d2, ← d3, hwr, putD_comm hdd]
            rfl
          · exact ckProp_slots hc1 (fun h => by rw [hkc] at h; cases h) hck
        | none =>
          -- neither calls
          have hic := callee_none (by rw [← reads_wanted hc2 (σ := σ)] at hwi; exact hwi) (by rw [c4]; exact hcal) h2
          rw [c4, hcal] at hF'
          simp only at hF'
          rw [if_neg (by rw [hic]; simp), if_neg (by rw [hkc]; simp)] at hc4
          simp only [Bool.and_eq_true, Bool.or_eq_true, Bool.not_eq_true'] at hc4
          obtain ⟨hal, hslots⟩ := hc4
          obtain ⟨hoki, e3⟩ := step_plain hwi2 (isCall_callee hic) h2
          rw [c1] at hoki
          rw [c2, c3] at e3
          -- the operands' blocks, at either time
          have hxk : ∀ x ∈ k.k.rd ++ k.k.wro, ev (putD σ k.d (k.k.val (base + k.ix) σ m)) x = ev σ x := by
            intro x hx
            refine ev_congr fun t ht => putD_other fun hd => ?_
            have := List.all_eq_true.1 hslots t (slotsOf_mem hx ht)
            simp [hd] at this
          have hyi : ∀ y ∈ i.k.rd ++ i.k.wro, ev (putD σ k.d (k.k.val (base + k.ix) σ m)) y = ev σ y := fun y hy => reads_ev hc2 y (rd_opnds y hy)
          have hpairs : pairs k i = ((k.k.wro ++ (if k.k.isAlloc then dOps k.d else [])).flatMap fun x => (i.k.rd ++ i.k.wro).map fun y => (x, y)) ++ k.k.rd.flatMap fun x => i.k.wro.map fun y => (x, y) := by
            simp only [pairs, hic, hkc, Bool.false_eq_true, if_false]
          -- k's writes do not meet what i touches
          have wk : ∀ p ∈ k.k.wr (base + k.ix) σ m, ∀ y ∈ i.k.rd ++ i.k.wro, ∀ b, blkOf (ev σ y) = some b → p.1 ≠ b := by
            intro p hp y hy b hb
            rcases wr_keys (k := k.k) p hp with ⟨ha, e, hblk⟩ | ⟨x, hx, hbx⟩
            · rcases hal with hal | hal
              · rw [hal] at ha; cases ha
              · obtain ⟨d, hd⟩ := Option.isSome_iff_exists.1 hal.1
                have := hF' (.tmp d, y) (by
                  rw [hpairs]
                  refine List.mem_append_left _ (List.mem_flatMap.2 ⟨.tmp d, ?_, List.mem_map.2 ⟨y, hy, rfl⟩⟩)
                  simp [ha, hd, dOps]) (base + k.ix) b (by simp only [ev, hd, putD, upd, if_true]; exact hblk) (by rw [hyi y hy]; exact hb)
                rw [e]; exact this
            · exact hF' (x, y) (by
                rw [hpairs]
                exact List.mem_append_left _ (List.mem_flatMap.2 ⟨x, List.mem_append_left _ hx, List.mem_map.2 ⟨y, hy, rfl⟩⟩)) p.1 b (by rw [hxk x (List.mem_append_right _ hx)]; exact hbx) (by rw [hyi y hy]; exact hb)
          obtain ⟨d1, d2, d3⟩ := congr_m (k := i.k) (σ := σ) (id := base + i.ix) (m := applyW m (k.k.wr (base + k.ix) σ m)) (m2 := m) (fun y hy b hb => get_applyW _ _ _ fun p hp => wk p hp y (List.mem_append_left _ hy) b hb)
          rw [d1] at hoki
          rw [d2, d3] at e3
          cases e3
          -- i's writes do not meet what k touches
          have wi : ∀ p ∈ i.k.wr (base + i.ix) σ m, ∀ x ∈ k.k.rd ++ k.k.wro, ∀ b, blkOf (ev σ x) = some b → p.1 ≠ b := by
            intro p hp x hx b hb e
            rcases wr_keys (k := i.k) p hp with ⟨ha, e2, hblk⟩ | ⟨y, hy, hby⟩
            · have := ok_live hokk x hx b hb
              rw [← e, e2, hfresh ha] at this
              cases this
            · rcases List.mem_append.1 hx with hx' | hx'
              · exact hF' (x, y) (by
                  rw [hpairs]
                  exact List.mem_append_right _ (List.mem_flatMap.2 ⟨x, hx', List.mem_map.2 ⟨y, hy, rfl⟩⟩)) b p.1 (by rw [hxk x hx]; exact hb) (by rw [hyi y (List.mem_append_right _ hy)]; exact hby) e.symm
              · exact hF' (x, y) (by
                  rw [hpairs]
                  exact List.mem_append_left _ (List.mem_flatMap.2 ⟨x, List.mem_append_left _ hx', List.mem_map.2 ⟨y, List.mem_append_right _ hy, rfl⟩⟩)) b p.1 (by rw [hxk x hx]; exact hb) (by rw [hyi y (List.mem_append_right _ hy)]; exact hby) e.symm
          have wki : ∀ p ∈ k.k.wr (base + k.ix) σ m, ∀ q ∈ i.k.wr (base + i.ix) σ m, p.1 ≠ q.1 := by
            intro p hp q hq e
            rcases wr_keys (k := i.k) q hq with ⟨ha, e2, hblk⟩ | ⟨y, hy, hby⟩
            · rcases wr_keys (k := k.k) p hp with ⟨_, e3, _⟩ | ⟨x, hx, hbx⟩
              · omega
              · exact wi q hq x (List.mem_append_right _ hx) p.1 hbx e.symm
            · exact wk p hp y (List.mem_append_right _ hy) q.1 hby e
          refine ⟨_, _, step_plain_mk hwi (isCall_callee hic) hoki, ?_, ?_, fun h => by rw [hic] at h; cases h⟩
          · obtain ⟨f1, f2, f3, f4⟩ := congr_ev (k := k.k) (m := applyW m (i.k.wr (base + i.ix) σ m)) (id := base + k.ix) (reads_ev (σ := σ) (d := i.d) (v := i.k.val (base + i.ix) σ m) hkr)
            obtain ⟨g1, g2, g3⟩ := congr_m (k := k.k) (σ := σ) (id := base + k.ix) (m := applyW m (i.k.wr (base + i.ix) σ m)) (m2 := m) (fun x hx b hb => get_applyW _ _ _ fun p hp => wi p hp x (List.mem_append_left _ hx) b hb)
            have := step_plain_mk (cl := cl) (base := base) (m := applyW m (i.k.wr (base + i.ix) σ m)) (σ := putD σ i.d (i.k.val (base + i.ix) σ m)) (o := k) (by rw [reads_wanted hkr]; exact hwk) (isCall_callee hkc) (by rw [f1, g1]; exact hokk)
            rw [this, f2, f3, g2, g3, putD_comm hdd, applyW_comm _ _ m wki]
          · exact ckProp_slots hc1 (fun h => by rw [hkc] at h; cases h) hck
    · -- i is passed over
      have hwi' : wantedI σ i.g = false := by simpa using hwi
      have hs2 : ∃ v, σ2 = putD σ k.d v := by
        cases hck' : k.k.callee σ with
        | some fa => obtain ⟨v, m', _, e⟩ := step_call hwk hck' h1; cases e; exact ⟨v, rfl⟩
        | none => obtain ⟨_, e⟩ := step_plain hwk hck' h1; cases e; exact ⟨_, rfl⟩
      obtain ⟨v, rfl⟩ := hs2
      rw [step_skip_ (by rw [reads_wanted hc2]; exact hwi')] at h2
      cases h2
      refine ⟨_, _, step_skip_ hwi', ?_, ckProp_slots hc1 (fun _ => ⟨rfl, rfl⟩) hck, fun _ h => absurd h hwi⟩
      have hwk2 : wantedI (putD σ i.d undef) k.g = true := by rw [reads_wanted hkr]; exact hwk
      obtain ⟨f1, f2, f3, f4⟩ := congr_ev (k := k.k) (m := m) (id := base + k.ix) (reads_ev (σ := σ) (d := i.d) (v := undef) hkr)
      cases hck' : k.k.callee σ with
      | some fa =>
        obtain ⟨f, args⟩ := fa
        obtain ⟨u, m', g1, g2⟩ := step_call hwk hck' h1
        have e1 := congrArg Prod.fst g2
        have e2 := congrArg Prod.snd g2
        simp only at e1 e2
        subst e2
        have e3 : putD (putD σ i.d undef) k.d u = putD (putD σ k.d u) i.d undef := (putD_comm hdd).symm
        rw [step_call_mk hwk2 (by rw [f4]; exact hck') g1, e3, ← e1]
      | none =>
        obtain ⟨hok, g2⟩ := step_plain hwk hck' h1
        have e1 := congrArg Prod.fst g2
        have e2 := congrArg Prod.snd g2
        simp only at e1 e2
        subst e2
        have e3 : putD (putD σ i.d undef) k.d (k.k.val (base + k.ix) σ m) = putD (putD σ k.d (k.k.val (base + k.ix) σ m)) i.d undef := (putD_comm hdd).symm
        rw [step_plain_mk hwk2 (by rw [f4]; exact hck') (by rw [f1]; exact hok), f2, f3, e3, ← e1]
  · -- k is passed over
    have hwk' : wantedI σ k.g = false := by simpa using hwk
    rw [step_skip_ hwk'] at h1
    cases h1
    have hk2 : ∀ v mm, stepOp cl base k (putD σ i.d v) mm = some (putD (putD σ i.d v) k.d undef, mm) := fun v mm => step_skip_ (by rw [reads_wanted hkr]; exact hwk')
    have hck2 : ∀ v mA mB, ckProp k (putD σ i.d v) mA mB := fun v mA mB hw => by rw [reads_wanted hkr] at hw; exact absurd hw hwk
    obtain ⟨f1, f2, f3, f4⟩ := congr_ev (k := i.k) (m := m) (id := base + i.ix) (reads_ev (σ := σ) (d := k.d) (v := undef) hc2)
    by_cases hwi : wantedI σ i.g = true
    · have hwi2 : wantedI (putD σ k.d undef) i.g = true := by rw [reads_wanted hc2]; exact hwi
      cases hcal : i.k.callee σ with
      | some fa =>
        obtain ⟨f, args⟩ := fa
        obtain ⟨u, m', g1, g2⟩ := step_call hwi2 (by rw [f4]; exact hcal) h2
        cases g2
        exact ⟨_, _, step_call_mk hwi hcal g1, by rw [hk2, putD_comm hdd], hck2 _ _ _, fun _ _ => ⟨rfl, rfl⟩⟩
      | none =>
        obtain ⟨hok, g2⟩ := step_plain hwi2 (by rw [f4]; exact hcal) h2
        have hic := ok_not_call hok
        rw [f2, f3] at g2
        cases g2
        exact ⟨_, _, step_plain_mk hwi hcal (by rw [← f1]; exact hok), by rw [hk2, putD_comm hdd], hck2 _ _ _, fun h => by rw [hic] at h; cases h⟩
    · have hwi' : wantedI σ i.g = false := by simpa using hwi
      rw [step_skip_ (by rw [reads_wanted hc2]; exact hwi')] at h2
      cases h2
      exact ⟨_, _, step_skip_ hwi', by rw [hk2, putD_comm hdd], hck2 _ _ _, fun _ h => absurd h hwi⟩

end
end Go.DI
