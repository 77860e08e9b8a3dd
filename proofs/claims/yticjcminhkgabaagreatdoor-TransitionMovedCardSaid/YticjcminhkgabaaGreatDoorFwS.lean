/-
  Code and calls: what the intermediate form computes, the model does.
-/
import Derived.Test.YticjcminhkgabaaGreatDoorFwR
namespace Go.DI
open Go Go.RowKit

def IExit.to : IExit → Exit
  | .normal => .normal
  | .exit id => .exit id
  | .ret => .ret

section
variable {P : Program} {B : Nat} {cl : Callee} {nt n : Nat}

theorem nodupB_spec : ∀ (l : List Nat), nodupB l = true → l.Nodup
  | [], _ => List.nodup_nil
  | x :: l, h => by
    simp only [nodupB, Bool.and_eq_true, Bool.not_eq_true', List.contains_eq_mem, decide_eq_false_iff_not] at h
    exact List.nodup_cons.2 ⟨h.1, nodupB_spec l h.2⟩
theorem perm_nodup {l : List Nat} (h : permB n l = true) : l.Nodup ∧ (∀ i, i ∈ l ↔ i < n) ∧ l.length = n := by
  simp only [permB, Bool.and_eq_true, decide_eq_true_eq, List.all_eq_true, List.mem_range, List.contains_iff_mem] at h
  obtain ⟨⟨⟨h1, h2⟩, h3⟩, h4⟩ := h
  exact ⟨nodupB_spec l h2, fun i => ⟨fun hi => h3 i hi, fun hi => h4 i hi⟩, h1⟩

theorem getB {m : Mem} {b : Nat} (h : m.next ≤ b) : m.get b = none := by
  unfold Mem.get; rw [if_neg (by omega)]

theorem regBump_next (L : List IOp) (m : Mem) : m.next ≤ (regBump L m).next ∧ ((∃ o ∈ L, o.k.isAlloc = true) → (regBump L m).next = m.next + L.length) := by
  unfold regBump
  split
  · exact ⟨by rw [Mem.bump_next]; omega, fun _ => rfl⟩
  · rename_i h
    refine ⟨Nat.le_refl _, fun ⟨o, ho, h2⟩ => absurd (List.any_eq_true.2 ⟨o, ho, h2⟩) h⟩
theorem regBump_get (L : List IOp) (m : Mem) (b : Nat) : (regBump L m).get b = m.get b := by
  unfold regBump
  split
  · exact Mem.zqn m _ b
  · rfl
theorem MRel.regBump {m : Mem} {w : World} {ρ : Ren} (h : MRel B ρ m w) (L : List IOp) : MRel B ρ (Go.DI.regBump L m) w := by
  unfold Go.DI.regBump
  split
  · exact h.bump _
  · exact h

/-- where each waits for all before it there is one order -/
theorem chain_any {ops : Array Oper} {Q : Exit → Act → World → Prop} (ht : textB ops = true) (hch : chainB (masks ops.toList []) ops.size = true) : ∀ (fuel k : Nat) (listed : Array Bool) (a : Act) (w : World), k + fuel = ops.size → listed.size = ops.size →
    (∀ j, j < ops.size → (listed.getD j false = true ↔ j < k)) → wpOps P ops Q (List.range' k fuel) a w → wpAny P .any ops Q fuel listed a w
  | 0, k, listed, a, w, hk, hsz, hl, h => by
    refine ⟨?_, h⟩
    apply List.eq_nil_iff_forall_not_mem.2
    intro i hi
    obtain ⟨h1, oj, h2, _⟩ := mem_ready.1 hi
    have hlt : i < ops.size := (Array.getElem?_eq_some_iff.1 h2).1
    have := (hl i hlt).2 (by omega)
    rw [getD_both h1] at this
    cases this
  | fuel + 1, k, listed, a, w, hk, hsz, hl, h => by
    have hkn : k < ops.size := by omega
    have text : ∀ j oj, ops[j]? = some oj → ∀ e ∈ oj.after, Region.binds .any e = true → e.on < j := by
      intro j oj hj e he hb
      have hlt : j < ops.size := (Array.getElem?_eq_some_iff.1 hj).1
      have := List.all_eq_true.1 ht j (List.mem_range.2 hlt)
      simp only [hj, List.all_eq_true, Bool.or_eq_true, Bool.not_eq_true', decide_eq_true_eq] at this
      rcases this e (by simpa using he) with h | h
      · rw [hb] at h; cases h
      · exact h
    have hcl : ∀ j oj, ops[j]? = some oj → listed.getD j false = true → ∀ e ∈ oj.after, Region.binds .any e = true → listed.getD e.on false = true := by
      intro j oj hj hlj e he hb
      have hlt : j < ops.size := (Array.getElem?_eq_some_iff.1 hj).1
      have h1 := text j oj hj e he hb
      have h2 := (hl j hlt).1 hlj
      exact (hl e.on (by omega)).2 (by omega)
    rw [List.range'_succ, wpOps_cons] at h
    have step : ∀ i ∈ Region.ready .any ops listed, i = k := by
      intro i hi
      obtain ⟨h1, oi, h2, h3⟩ := mem_ready.1 hi
      have hlt : i < ops.size := (Array.getElem?_eq_some_iff.1 h2).1
      have hn : ¬ i < k := fun hlt2 => by
        have := (hl i hlt).2 hlt2
        rw [getD_both h1] at this; cases this
      by_cases e : i = k
      · exact e
      · exfalso
        have hb : ((masks ops.toList []).getD i 0).testBit k = true := by
          have := List.all_eq_true.1 hch i (List.mem_range.2 hlt)
          exact List.all_eq_true.1 this k (List.mem_range.2 (by omega))
        have := masks_spec (ops := ops) (listed := fun j => listed.getD j false = true) hcl ops.toList [] (by simp) (by simp) i oi h2 h3 k hb
        have := (hl k hkn).1 this
        omega
    refine ⟨fun hr => ?_, fun i hi => ?_⟩
    · exfalso
      obtain ⟨o, ho⟩ : ∃ o, ops[k]? = some o := ⟨ops[k], Array.getElem?_eq_getElem hkn⟩
      have hmem : k ∈ Region.ready .any ops listed := by
        refine mem_ready.2 ⟨?_, o, ho, fun e he hb => ?_⟩
        · have : listed.getD k false ≠ true := fun h => by have := (hl k hkn).1 h; omega
          exact getD_in (by rw [hsz]; exact hkn) (by simpa using this)
        · exact (hl e.on (by have := text k o ho e he hb; omega)).2 (text k o ho e he hb)
      rw [hr] at hmem
      cases hmem
    · have e := step i hi
      subst e
      refine wpOp_mono (fun a w h => chain_any ht hch fuel (i + 1) _ a w (by omega) (by simp [hsz]) (fun j hj => ?_) h) h
      rw [listed_set (by rw [hsz]; exact hkn), hl j hj]
      omega

theorem cutApp_spec : ∀ {L : List IOp} {r : List IOp × IOp × List IOp}, cutApp L = some r → L = r.1 ++ r.2.1 :: r.2.2 ∧ r.2.1.k.isAlloc = true
  | [], _, h => by simp [cutApp] at h
  | o :: L, r, h => by
    unfold cutApp at h
    split at h
    · rename_i hk; cases h; exact ⟨rfl, by simp [hk, IK.isAlloc]⟩
    · simp only [Option.map_eq_some_iff] at h
      obtain ⟨⟨a, b, c⟩, h1, h2⟩ := h
      obtain ⟨g1, g2⟩ := cutApp_spec h1
      subst h2
      exact ⟨by simp only at g1 ⊢; rw [g1]; rfl, g2⟩

theorem late_sound (hmix : P.follows .mixedOrders = true) (hcl : ∀ B, ClSound P B cl) {id : Nat} {ops : Array Oper} {draw : Bool} {ic : ICode} (hc : cLate P nt ops draw = some ic) {σ σ' : Slots} {m m' : Mem} {e : IExit}
    (h : exec cl n ic σ m = some (e, σ', m')) {a : Act} {w : World} {ρ : Ren} (hs : SRel ρ nt σ a) (hm : MRel B ρ m w) (hB : B ≤ w.heap.size) {Q : Exit → Act → World → Prop}
    (hQ : ∀ a' w' ρ', RenLe ρ ρ' → (∀ b, b < m.next → ρ' b = ρ b) → SRel ρ' nt σ' a' → MRel B ρ' m' w' → Below B w w' → Q e.to a' w') : (Code.region id ops draw).wp P Q a w := by
  have hρ : ∀ b, m.next ≤ b → ρ b = none := by
    intro b hb
    cases hr : ρ b with
    | none => rfl
    | some l => have := hm.dom b l hr; omega
  unfold cLate at hc
  split at hc
  · rename_i hch
    split at hc
    · rename_i L hL
      simp only [Option.map_eq_some_iff] at hc
      obtain ⟨⟨pre, A, rest⟩, hcut, rfl⟩ := hc
      obtain ⟨h1, h2⟩ := cOps_spec _ _ hL
      obtain ⟨e1, hal⟩ := cutApp_spec hcut
      simp only at e1 hal
      subst e1
      have hlen : pre.length + (rest.length + 1) = ops.size := by have := congrArg List.length h1; simpa using this
      have hnd : ((pre ++ A :: rest).map (·.ix)).Nodup := by rw [h1]; exact List.nodup_range
      have hix : ∀ io ∈ pre ++ A :: rest, io.ix < ops.size := fun io hio => by
        have : io.ix ∈ (pre ++ A :: rest).map (·.ix) := List.mem_map.2 ⟨io, hio, rfl⟩
        rw [h1, List.mem_range] at this; exact this
      rw [List.map_append, List.map_cons, List.nodup_append, List.nodup_cons] at hnd
      simp only [exec] at h
      split at h
      · rename_i σ1 m1 hrun1
        split at h
        · rename_i hok
          split at h
          · rename_i σ2 m2 hrun2
            cases h
            have hnx : m.next + ops.size ≤ m1.next := by have := runOps_next (hcl B) _ _ _ _ hrun1; rw [Mem.bump_next, hlen] at this; exact this
            have hmn : (A.k.mem (m.next + A.ix) σ1 m1).next = m1.next := by
              unfold lateOk at hok
              simp only [Bool.and_eq_true] at hok
              have := hok.1.2
              split at this
              · rename_i hk
                rw [hk]
                simp only [IK.mem]
                split
                · rfl
                · unfold kill; split <;> rfl
              · cases this
            have hn2 : m1.next ≤ m2.next := runOps_next (hcl B) _ _ _ _ hrun2
            have key : ∀ w0, MRel B ρ m w0 → B ≤ w0.heap.size → Below B w w0 → wpOps P ops Q (List.range ops.size) a w0 := by
              intro w0 hm0 hB0 hb0
              rw [← h1, List.map_append, List.map_cons]
              refine ops_soundT (base := m.next) (hcl B) pre σ _ a w0 ρ σ1 m1 (fun io hio => h2 io (by simp [hio])) hnd.1 hs (hm0.bump _) hB0 (fun io hio _ => ⟨by rw [Mem.bump_next, hlen]; have := hix io (by simp [hio]); omega, hρ _ (by omega)⟩) hrun1 fun a1 w1 ρ1 q1 q2 q3 q4 q5 => ?_
              obtain ⟨oA, hA⟩ := h2 A (by simp)
              have hAx := hix A (by simp)
              rw [wpOps_cons]
              refine late_step (base := m.next) hA q3 q4 (Nat.le_trans hB0 q5.size) (by omega) ?_ hok fun a2 w2 ρ2 p1 p2 p3 p4 p5 p6 => ?_
              · rw [q2 _ (by rw [Mem.bump_next, hlen]; omega) (fun io hio e => hnd.2.2 io.ix (List.mem_map.2 ⟨io, hio, rfl⟩) A.ix (by simp) (by omega))]
                exact hρ _ (by omega)
              · refine ops_sound (base := m.next) (hcl w2.heap.size) rest _ (icy m1) a2 w2 ρ2 σ' m2 (fun io hio => h2 io (by simp [hio])) hnd.2.1.2 p3 p5 (Nat.le_refl _) (fun io hio _ => ⟨?_, ?_⟩) hrun2 fun a3 w3 ρ3 r1 r2 r3 r4 r5 => ?_
                · show _ < m1.next
                  have := hix io (by simp [hio]); omega
                · have hx := hix io (by simp [hio])
                  have hne : io.ix ≠ A.ix := fun e => hnd.2.1.1 (List.mem_map.2 ⟨io, hio, e⟩)
                  rw [p2 _ (by omega), q2 _ (by rw [Mem.bump_next, hlen]; omega) (fun k hk e => hnd.2.2 k.ix (List.mem_map.2 ⟨k, hk, rfl⟩) io.ix (by simp only [List.mem_cons, List.mem_map]; exact .inr ⟨io, hio, rfl⟩) (by omega))]
                  exact hρ _ (by omega)
                · have hle : B ≤ w2.heap.size := Nat.le_trans hB0 (Nat.le_trans q5.size p6.size)
                  refine hQ a3 w3 ρ3 (q1.trans (p1.trans r1)) (fun b hb => ?_) r3 ?_ (hb0.trans (q5.trans (p6.trans (r5.mono hle))))
                  · rw [r2 b hb (by show b < m1.next; omega), p2 b (by omega), q2 b (by rw [Mem.bump_next]; omega) (fun _ _ => by omega)]
                  · have := late_mem rfl p4 r4 r1 (by rw [hmn]; exact hn2) r5
                    rwa [hmn] at this
            cases draw
            · exact wp_region (key w hm hB (Below.refl _ _))
            · simp only [Bool.not_true, Bool.false_or, Bool.and_eq_true] at hch
              refine wp_region_any hmix ?_
              refine chain_any hch.2.1 hch.2.2 ops.size 0 _ a _ (by omega) (by simp) (fun j hj => by rw [getD_replicate_false]; simp) ?_
              rw [← List.range_eq_range']
              exact key _ (hm.world rfl) hB ⟨rfl, rfl, rfl, Nat.le_refl _, fun _ _ => rfl⟩
          · cases h
        · cases h
      · cases h
    · cases hc
  · cases hc

theorem region_sound (hmix : P.follows .mixedOrders = true) (hcl : ClSound P B cl) {id : Nat} {ops : Array Oper} {draw : Bool} {ic : ICode} (hc : cRegion P nt ops draw = some ic) {σ σ' : Slots} {m m' : Mem} {e : IExit}
    (h : exec cl n ic σ m = some (e, σ', m')) {a : Act} {w : World} {ρ : Ren} (hs : SRel ρ nt σ a) (hm : MRel B ρ m w) (hB : B ≤ w.heap.size) {Q : Exit → Act → World → Prop}
    (hQ : ∀ a' w' ρ', RenLe ρ ρ' → (∀ b, b < m.next → ρ' b = ρ b) → SRel ρ' nt σ' a' → MRel B ρ' m' w' → Below B w w' → Q e.to a' w') : (Code.region id ops draw).wp P Q a w := by
  have hρ : ∀ b, m.next ≤ b → ρ b = none := by
    intro b hb
    cases hr : ρ b with
    | none => rfl
    | some l => have := hm.dom b l hr; omega
  cases draw
  · simp only [cRegion] at hc
    split at hc
    · rename_i L hL
      cases hc
      obtain ⟨h1, h2⟩ := cOps_spec _ _ hL
      simp only [exec] at h
      split at h
      · rename_i σ1 m1 hrun
        cases h
        have hlen : L.length = ops.size := by have := congrArg List.length h1; simpa using this
        refine wp_region ?_
        rw [← h1]
        refine ops_sound (base := m.next) hcl L σ _ a w ρ σ' m' h2 (by rw [h1]; exact List.nodup_range) hs (hm.regBump L) hB (fun io hio hal => ?_) hrun fun a' w' ρ' q1 q2 q3 q4 q5 => hQ a' w' ρ' q1 (fun b hb => q2 b hb (by have := (regBump_next L m).1; omega)) q3 q4 q5
        have : io.ix ∈ L.map (·.ix) := List.mem_map.2 ⟨io, hio, rfl⟩
        rw [h1, List.mem_range] at this
        exact ⟨by rw [(regBump_next L m).2 ⟨io, hio, hal⟩]; omega, hρ _ (by omega)⟩
      · cases h
    · cases hc
  · simp only [cRegion] at hc
    split at hc
    · rename_i hperm
      split at hc
      · rename_i L hL
        cases hc
        obtain ⟨p1, p2, p3⟩ := perm_nodup hperm
        obtain ⟨h1, h2, h3, h4⟩ := cDraw_spec _ [] L hL trivial
        simp only [List.reverse_nil, List.nil_append] at h3 h4
        simp only [exec] at h
        split at h
        · rename_i σ1 m1 hrun
          cases h
          have hlen : L.length = ops.size := by rw [← p3, ← h1]; simp
          have hm1 : MRel B ρ (regBump L m) { w with drawn := w.drawn + 1 } := (hm.regBump L).world rfl
          refine wp_region_any hmix ?_
          refine any_sound (base := m.next) (base0 := m.next) hcl ops.size L _ σ _ a _ ρ hlen (by simp) (fun j hj => ?_) (fun j oj _ hl => by rw [getD_replicate_false] at hl; cases hl) h2 (by rw [h1]; exact p1) h3 (fun pre io post e oj hoj ed he hb => .inr (h4 pre io post e oj hoj ed he hb)) hs hm1 hB (Nat.le_refl _) (fun io hio hal => ?_) (regBump_next L m).1 hrun fun a' w' ρ' q1 q2 q3 q4 q5 => hQ a' w' ρ' q1 q2 q3 q4 (Below.trans (a := w) (b := { w with drawn := w.drawn + 1 }) ⟨rfl, rfl, rfl, Nat.le_refl _, fun _ _ => rfl⟩ q5)
          · rw [getD_replicate_false]
            constructor
            · intro h; cases h
            · intro h
              exfalso
              have : j ∈ L.map (·.ix) := by rw [h1, p2]; exact hj
              obtain ⟨io, hio, e⟩ := List.mem_map.1 this
              exact h io hio e
          · have : io.ix ∈ L.map (·.ix) := List.mem_map.2 ⟨io, hio, rfl⟩
            rw [h1, p2] at this
            exact ⟨by rw [(regBump_next L m).2 ⟨io, hio, hal⟩]; omega, by rw [regBump_get]; exact getB (by omega), hρ _ (by omega)⟩
        · cases h
      · cases hc
    · cases hc

/-! names -/
theorem iter_step {f : Slots → Mem → Option (IExit × Slots × Mem)} {j : Nat} {σ : Slots} {m : Mem} {r : IExit × Slots × Mem} (h : iter f (j + 1) σ m = some r) :
    (∃ σ1 m1, f σ m = some (.normal, σ1, m1) ∧ iter f j σ1 m1 = some r) ∨ (f σ m = some r ∧ r.1 ≠ .normal) := by
  simp only [iter] at h
  split at h
  · rename_i σ1 m1 h1; exact .inl ⟨σ1, m1, h1, h⟩
  · rename_i h1
    refine .inr ⟨h, fun e => ?_⟩
    obtain ⟨r1, r2, r3⟩ := r
    simp only at e
    subst e
    exact h1 _ _ h

theorem exec_names (hcl : ClSound P B cl) : ∀ (c : ICode) (σ : Slots) (m : Mem) (e : IExit) (σ' : Slots) (m' : Mem), exec cl n c σ m = some (e, σ', m') → m.next ≤ m'.next ∧ ∀ b, b < m.next → m.get b = none → m'.get b = none
  | .skip, σ, m, e, σ', m', h => by simp [exec] at h; obtain ⟨_, _, rfl⟩ := h; exact ⟨Nat.le_refl _, fun _ _ h => h⟩
  | .region ops, σ, m, e, σ', m', h => by
    simp only [exec] at h
    split at h
    · rename_i σ1 m1 hrun
      cases h
      have h1 := runOps_next hcl ops σ _ _ hrun
      have h2 := (regBump_next ops m).1
      exact ⟨by simp only at h1; omega, fun b hb hg => runOps_none hcl hb ops σ _ _ h2 hrun (by rw [regBump_get]; exact hg)⟩
    · cases h
  | .late pre o rest, σ, m, e, σ', m', h => by
    simp only [exec] at h
    split at h
    · rename_i σ1 m1 h1
      split at h
      · rename_i hok
        split at h
        · rename_i σ2 m2 h2
          cases h
          have g1 := runOps_next hcl _ _ _ _ h1
          rw [Mem.bump_next] at g1
          have hst : stepOp cl m.next o σ1 m1 = some (putD σ1 o.d (o.k.val (m.next + o.ix) σ1 m1), o.k.mem (m.next + o.ix) σ1 m1) := by
            unfold lateOk at hok
            simp only [Bool.and_eq_true, Option.isNone_iff_eq_none] at hok
            refine step_mem_mk ?_ (isCall_callee (ok_not_call hok.2)) hok.2
            rw [hok.1.1]; rfl
          have g2 := stepOp_next hcl hst
          rw [Mem.bump_next]
          refine ⟨by simp only at g1; omega, fun b hb hg => ?_⟩
          rw [Mem.zqn]
          exact stepOp_none hcl hst (by simp only at g1; omega) (by omega) (runOps_none hcl hb pre σ _ _ (by rw [Mem.bump_next]; omega) h1 (by rw [Mem.zqn]; exact hg))
        · cases h
      · cases h
    · cases h
  | .seq c d, σ, m, e, σ', m', h => by
    simp only [exec] at h
    split at h
    · rename_i σ1 m1 h1
      obtain ⟨a1, a2⟩ := exec_names hcl c σ m _ σ1 m1 h1
      obtain ⟨b1, b2⟩ := exec_names hcl d σ1 m1 _ _ _ h
      exact ⟨by omega, fun b hb hg => b2 b (by omega) (a2 b hb hg)⟩
    · exact exec_names hcl c σ m _ _ _ h
  | .cond x c d, σ, m, e, σ', m', h => by
    simp only [exec] at h
    split at h
    · split at h
      · exact exec_names hcl c σ m _ _ _ h
      · exact exec_names hcl d σ m _ _ _ h
    · cases h
  | .block id c, σ, m, e, σ', m', h => by
    simp only [exec] at h
    split at h
    · rename_i id' σ1 m1 h1
      have := exec_names hcl c σ m _ σ1 m1 h1
      split at h <;> cases h <;> exact this
    · exact exec_names hcl c σ m _ _ _ h
  | .loop c, σ, m, e, σ', m', h => by
    simp only [exec] at h
    have key : ∀ (j : Nat) (σ : Slots) (m : Mem), iter (exec cl n c) j σ m = some (e, σ', m') → m.next ≤ m'.next ∧ ∀ b, b < m.next → m.get b = none → m'.get b = none := by
      intro j
      induction j with
      | zero => intro σ m h; simp [iter] at h
      | succ j ih =>
        intro σ m h
        rcases iter_step h with ⟨σ1, m1, h1, h2⟩ | ⟨h1, _⟩
        · obtain ⟨a1, a2⟩ := exec_names hcl c σ m _ σ1 m1 h1
          obtain ⟨b1, b2⟩ := ih σ1 m1 h2
          exact ⟨by omega, fun b hb hg => b2 b (by omega) (a2 b hb hg)⟩
        · exact exec_names hcl c σ m _ _ _ h1
    exact key n σ m h
  | .exit id, σ, m, e, σ', m', h => by simp [exec] at h; obtain ⟨_, _, rfl⟩ := h; exact ⟨Nat.le_refl _, fun _ _ h => h⟩
  | .ret, σ, m, e, σ', m', h => by simp [exec] at h; obtain ⟨_, _, rfl⟩ := h; exact ⟨Nat.le_refl _, fun _ _ h => h⟩

theorem to_normal {e : IExit} (h : e ≠ .normal) : e.to ≠ .normal := by cases e <;> simp [IExit.to] at h ⊢

theorem then_other {K : Act → World → Prop} {Q : Exit → Act → World → Prop} {e : Exit} {a : Act} {w : World} (h : e ≠ .normal) (hq : Q e a w) : Exit.then K Q e a w := by
  cases e <;> first | exact hq | exact absurd rfl h

theorem code_sound (hmix : P.follows .mixedOrders = true) (hcl : ∀ B, ClSound P B cl) : ∀ (c : Code) (ic : ICode), cCode P nt c = some ic → ∀ (σ : Slots) (m : Mem) (e : IExit) (σ' : Slots) (m' : Mem), exec cl n ic σ m = some (e, σ', m') →
    ∀ (a : Act) (w : World) (ρ : Ren), SRel ρ nt σ a → MRel B ρ m w → B ≤ w.heap.size → ∀ (Q : Exit → Act → World → Prop),
    (∀ a' w' ρ', RenLe ρ ρ' → (∀ b, b < m.next → ρ' b = ρ b) → SRel ρ' nt σ' a' → MRel B ρ' m' w' → Below B w w' → Q e.to a' w') → c.wp P Q a w
  | .skip, ic, hc, σ, m, e, σ', m', h, a, w, ρ, hs, hm, hB, Q, hQ => by
    cases hc
    simp [exec] at h
    obtain ⟨rfl, rfl, rfl⟩ := h
    exact wp_skip (hQ a w ρ (RenLe.refl ρ) (fun _ _ => rfl) hs hm (Below.refl _ _))
  | .region id ops draw, ic, hc, σ, m, e, σ', m', h, a, w, ρ, hs, hm, hB, Q, hQ => by
    simp only [cCode] at hc
    split at hc
    · rename_i c hl; cases hc; exact late_sound hmix hcl hl h hs hm hB hQ
    · exact region_sound hmix (hcl B) hc h hs hm hB hQ
  | .seq c d, ic, hc, σ, m, e, σ', m', h, a, w, ρ, hs, hm, hB, Q, hQ => by
    simp only [cCode] at hc
    split at hc
    · rename_i x y hx hy
      cases hc
      refine wp_seq ?_
      simp only [exec] at h
      split at h
      · rename_i σ1 m1 h1
        refine code_sound hmix hcl c x hx σ m _ σ1 m1 h1 a w ρ hs hm hB _ fun a1 w1 ρ1 q1 q2 q3 q4 q5 => ?_
        have hn := (exec_names (hcl B) x σ m _ σ1 m1 h1).1
        refine code_sound hmix hcl d y hy σ1 m1 e σ' m' h a1 w1 ρ1 q3 q4 (Nat.le_trans hB q5.size) Q fun a2 w2 ρ2 p1 p2 p3 p4 p5 => ?_
        exact hQ a2 w2 ρ2 (q1.trans p1) (fun b hb => (p2 b (by omega)).trans (q2 b hb)) p3 p4 (q5.trans p5)
      · rename_i hne
        refine code_sound hmix hcl c x hx σ m _ σ' m' h a w ρ hs hm hB _ fun a1 w1 ρ1 q1 q2 q3 q4 q5 => ?_
        refine then_other (to_normal fun he => ?_) (hQ a1 w1 ρ1 q1 q2 q3 q4 q5)
        subst he
        exact hne _ _ h
    · cases hc
  | .cond x c d, ic, hc, σ, m, e, σ', m', h, a, w, ρ, hs, hm, hB, Q, hQ => by
    simp only [cCode] at hc
    split at hc
    · rename_i y z hy hz
      split at hc <;> cases hc
      rename_i hx
      simp only [exec] at h
      split at h
      · rename_i hb
        have hr := hs.ev hx
        cases hv : ev σ x <;> simp [hv, isB] at hb
        rename_i t
        rw [hv] at hr h
        refine wp_cond hr.inv_bool ?_
        simp only [asB] at h
        cases t
        · exact code_sound hmix hcl d z hz σ m e σ' m' h a w ρ hs hm hB Q hQ
        · exact code_sound hmix hcl c y hy σ m e σ' m' h a w ρ hs hm hB Q hQ
      · cases h
    · cases hc
  | .block id c, ic, hc, σ, m, e, σ', m', h, a, w, ρ, hs, hm, hB, Q, hQ => by
    simp only [cCode] at hc
    split at hc
    · rename_i x hx
      cases hc
      refine wp_block ?_
      simp only [exec] at h
      split at h
      · rename_i id' σ1 m1 h1
        refine code_sound hmix hcl c x hx σ m _ σ1 m1 h1 a w ρ hs hm hB _ fun a1 w1 ρ1 q1 q2 q3 q4 q5 => ?_
        show if id' = id then Q .normal a1 w1 else Q (.exit id') a1 w1
        split at h
        · rename_i he; cases h; rw [if_pos he]; exact hQ a1 w1 ρ1 q1 q2 q3 q4 q5
        · rename_i he; cases h; rw [if_neg he]; exact hQ a1 w1 ρ1 q1 q2 q3 q4 q5
      · rename_i hne
        refine code_sound hmix hcl c x hx σ m _ σ' m' h a w ρ hs hm hB _ fun a1 w1 ρ1 q1 q2 q3 q4 q5 => ?_
        have := hQ a1 w1 ρ1 q1 q2 q3 q4 q5
        cases e with
        | normal => exact this
        | ret => exact this
        | exit id' => exact absurd h (hne _ _ _)
    · cases hc
  | .loop c, ic, hc, σ, m, e, σ', m', h, a, w, ρ, hs, hm, hB, Q, hQ => by
    simp only [cCode] at hc
    split at hc
    · rename_i x hx
      cases hc
      simp only [exec] at h
      refine wp_loop_rounds n ?_
      have key : ∀ (j : Nat) (σ : Slots) (m : Mem) (a : Act) (w : World) (ρ : Ren), iter (exec cl n x) j σ m = some (e, σ', m') → SRel ρ nt σ a → MRel B ρ m w → B ≤ w.heap.size →
          (∀ a' w' ρ', RenLe ρ ρ' → (∀ b, b < m.next → ρ' b = ρ b) → SRel ρ' nt σ' a' → MRel B ρ' m' w' → Below B w w' → Q e.to a' w') → Code.rounds P c Q j a w := by
        intro j
        induction j with
        | zero => intro σ m a w ρ h; simp [iter] at h
        | succ j ih =>
          intro σ m a w ρ h hs hm hB hQ
          rw [rounds_succ]
          rcases iter_step h with ⟨σ1, m1, h1, h2⟩ | ⟨h1, hne⟩
          · have hn := (exec_names (hcl B) x σ m _ σ1 m1 h1).1
            refine code_sound hmix hcl c x hx σ m _ σ1 m1 h1 a w ρ hs hm hB _ fun a1 w1 ρ1 q1 q2 q3 q4 q5 => ?_
            exact ih σ1 m1 a1 w1 ρ1 h2 q3 q4 (Nat.le_trans hB q5.size) fun a2 w2 ρ2 p1 p2 p3 p4 p5 => hQ a2 w2 ρ2 (q1.trans p1) (fun b hb => (p2 b (by omega)).trans (q2 b hb)) p3 p4 (q5.trans p5)
          · refine code_sound hmix hcl c x hx σ m _ σ' m' h1 a w ρ hs hm hB _ fun a1 w1 ρ1 q1 q2 q3 q4 q5 => ?_
            exact then_other (to_normal hne) (hQ a1 w1 ρ1 q1 q2 q3 q4 q5)
      exact key n σ m a w ρ h hs hm hB hQ
    · cases hc
  | .exit id, ic, hc, σ, m, e, σ', m', h, a, w, ρ, hs, hm, hB, Q, hQ => by
    cases hc
    simp [exec] at h
    obtain ⟨rfl, rfl, rfl⟩ := h
    exact wp_exit (hQ a w ρ (RenLe.refl ρ) (fun _ _ => rfl) hs hm (Below.refl _ _))
  | .ret, ic, hc, σ, m, e, σ', m', h, a, w, ρ, hs, hm, hB, Q, hQ => by
    cases hc
    simp [exec] at h
    obtain ⟨rfl, rfl, rfl⟩ := h
    exact wp_ret (hQ a w ρ (RenLe.refl ρ) (fun _ _ => rfl) hs hm (Below.refl _ _))
  | .rangeFunc _ _ _ _, _, hc, _, _, _, _, _, _, _, _, _, _, _, _, _, _ => by cases hc
  | .scope _, _, hc, _, _, _, _, _, _, _, _, _, _, _, _, _, _ => by cases hc
  | .label _, _, hc, _, _, _, _, _, _, _, _, _, _, _, _, _, _ => by cases hc
  | .goto _, _, hc, _, _, _, _, _, _, _, _, _, _, _, _, _, _ => by cases hc
  | .refuse _, _, hc, _, _, _, _, _, _, _, _, _, _, _, _, _, _ => by cases hc

/-! results -/
def resOne (a : Act) : ResultVar → Sem Value
  | .tmp t => Pure.pure (a.tmps.getD t undef)
  | .cell x t => do loadVar t (← asAddr (a.tmps.getD x undef))

theorem cRes_spec : ∀ (l : List ResultVar) (rs : List IRes), cRes P nt l = some rs → ∀ {σ : Slots} {m : Mem} {a : Act} {w : World} {ρ : Ren}, SRel ρ nt σ a → MRel B ρ m w → retOk m σ rs = true →
    ∃ vs : List Value, (l.mapM (m := Sem) (resOne a)).run P w = .ok vs w ∧ LRel ρ (rs.map (resV m σ)) vs
  | [], rs, h, σ, m, a, w, ρ, hs, hm, hok => by
    simp [cRes] at h; subst h
    exact ⟨[], by simp, LRel.nil ρ⟩
  | .tmp t :: r, rs, h, σ, m, a, w, ρ, hs, hm, hok => by
    simp only [cRes] at h
    split at h
    · rename_i l hl
      split at h <;> cases h
      simp only [retOk, List.all_cons, Bool.and_eq_true] at hok
      obtain ⟨vs, h1, h2⟩ := cRes_spec r l hl hs hm hok.2
      refine ⟨a.tmps.getD t undef :: vs, ?_, LRel.cons (hs.rel t) h2⟩
      have hone : (resOne a (.tmp t)).run P w = .ok (a.tmps.getD t undef) w := rfl
      simp only [List.mapM_cons, Sem.run_bind, hone, Result.andThen_ok, h1, Sem.run_pure]
    · cases h
  | .cell x t :: r, rs, h, σ, m, a, w, ρ, hs, hm, hok => by
    simp only [cRes] at h
    split at h
    · rename_i ag n l hag hn hl
      split at h <;> cases h
      simp only [retOk, List.all_cons, Bool.and_eq_true, resOk, Bool.or_eq_true, decide_eq_true_eq] at hok
      obtain ⟨vs, h1, h2⟩ := cRes_spec r l hl hs hm hok.2
      obtain ⟨ad, ds, e1, e2, e3, e4⟩ := loadV_rel hm (hs.rel x) hok.1.1 hok.1.2
      refine ⟨_ :: vs, ?_, LRel.cons e4 h2⟩
      have hone : (resOne a (.cell x t)).run P w = .ok (if ag then .agg ds.toArray else ds.headD undef) w := by
        simp only [resOne, Sem.run_bind, e1, asAddr, Sem.run_pure, Result.andThen_ok, run_loadVar hag hn hok.1.2 e2 e3]
      simp only [List.mapM_cons, Sem.run_bind, hone, Result.andThen_ok, h1, Sem.run_pure]
    · cases h

theorem results_sound {fn : Func} {rs : List IRes} (h : cRes P nt fn.results.toList = some rs) {σ : Slots} {m : Mem} {a : Act} {w : World} {ρ : Ren} (hs : SRel ρ nt σ a) (hm : MRel B ρ m w) (hok : retOk m σ rs = true) :
    ∃ v, (results fn a.tmps).run P w = .ok v w ∧ VRel ρ (retV m σ rs) v := by
  obtain ⟨vs, h1, h2⟩ := cRes_spec _ _ h hs hm hok
  refine ⟨if h : vs.toArray.size = 1 then vs.toArray[0] else .tuple vs.toArray, ?_, ?_⟩
  · unfold results
    simp only [Sem.run_bind]
    rw [Array.mapM_eq_mapM_toList]
    simp only [Sem.run_map]
    have hf : (List.mapM (m := Sem) (resOne a) fn.results.toList).run P w = .ok vs w := h1
    change (((Sem.run P (List.mapM (m := Sem) (resOne a) fn.results.toList) w).andThen _).andThen _) = _
    rw [hf]
    rfl
  · have hlen := h2.1
    match rs, vs, h2, hlen with
    | [r], [v], h2, _ => exact h2.2 0 _ _ rfl rfl
    | [], [], h2, _ => exact VRel.undef ρ
    | [_], [], _, hl => simp at hl
    | [_], _ :: _ :: _, _, hl => simp at hl
    | [], _ :: _, _, hl => simp at hl
    | _ :: _ :: _, [], _, hl => simp at hl
    | _ :: _ :: _, [_], _, hl => simp at hl
    | r1 :: r2 :: rs, v1 :: v2 :: vs, h2, _ =>
      simp only [retV, List.size_toArray, List.length_cons]
      rw [dif_neg (by omega)]
      exact h2.tuple

theorem cFunc_spec {f : Nat} {F : IFunc} (h : cFunc P f = some F) : ∃ fn c, P.funcs[f]? = some fn ∧ fn.body = some c ∧ (fn.name == "runtime.NumGoroutine") = false ∧ cCode P fn.ntmps c = some F.body ∧ cRes P fn.ntmps fn.results.toList = some F.res ∧ F.nt = fn.ntmps := by
  unfold cFunc at h
  split at h
  · rename_i fn hfn
    split at h
    · cases h
    · rename_i hnm
      split at h
      · rename_i c hc
        split at h
        · rename_i b rs hb hr
          cases h
          exact ⟨fn, c, hfn, hc, by simpa using hnm, hb, hr, rfl⟩
        · cases h
      · cases h
  · cases h

theorem initσ_rel {ρ : Ren} {args : List Value} {args' : Array Value} (h : LRel ρ args args'.toList) (hle : args.length ≤ nt) : SRel ρ nt (initσ args) { tmps := args' ++ Array.replicate (nt - args'.size) undef, defers := [] } := by
  have hl : args'.size = args.length := by have := h.1; simp at this; exact this.symm
  refine ⟨by simp; omega, rfl, fun t => ?_⟩
  simp only [initσ]
  rw [List.getD_eq_getElem?_getD, Array.getD_eq_getD_getElem?]
  by_cases ht : t < args.length
  · obtain ⟨y, hy, hxy⟩ := h.get (List.getElem?_eq_getElem ht)
    rw [List.getElem?_eq_getElem ht, Array.getElem?_append_left (by omega)]
    rw [Array.getElem?_toList] at hy
    rw [hy]
    exact hxy
  · rw [List.getElem?_eq_none (by omega)]
    rw [Array.getElem?_append_right (by omega), Array.getElem?_replicate]
    split <;> exact VRel.undef ρ

theorem call_all (hmix : P.follows .mixedOrders = true) : ∀ k B, ClSound P B (callF P k)
  | 0, B, f, args, m, r, m', h => by simp [callF] at h
  | k + 1, B, f, args, m, r, m', h => by
    have ih := call_all hmix k
    have hput : ∀ id x, id < m.next → m.get id = none → callF P (k + 1) f args (m.put id x) = some (r, m'.put id x) := fun id x h1 h2 => by
      obtain ⟨M', g1, g2⟩ := PE.call_ext (k + 1) x f args m r m' h (m.put id x) ⟨rfl, h1, h2⟩
      rw [g1, g2.eq]
    simp only [callF] at h
    split at h
    · rename_i F hF
      obtain ⟨fn, c, h1, h2, h3, h4, h5, h6⟩ := cFunc_spec hF
      split at h
      · rename_i hle
        have main : ∀ (e : IExit) (σ' : Slots) (m1 : Mem), exec (callF P k) k F.body (initσ args) m = some (e, σ', m1) → (∀ id, e ≠ .exit id) → retOk m1 σ' F.res = true → retV m1 σ' F.res = r → m1 = m' →
            Callable P f ∧ m.next ≤ m'.next ∧ (∀ b, b < m.next → m.get b = none → m'.get b = none) ∧
            (∀ id x, id < m.next → m.get id = none → callF P (k + 1) f args (m.put id x) = some (r, m'.put id x)) ∧
            ∀ ρ w (args' : Array Value), LRel ρ args args'.toList → MRel B ρ m w → B ≤ w.heap.size →
              Calls P f args' w fun e w' => ∃ v ρ', e = .returned v ∧ RenLe ρ ρ' ∧ (∀ b, b < m.next → ρ' b = ρ b) ∧ VRel ρ' r v ∧ MRel B ρ' m' w' ∧ Below B w w' := by
          intro e σ' m1 hex hne hok hr hm1
          subst hr; subst hm1
          have hnm := exec_names (ih B) F.body _ _ _ _ _ hex
          refine ⟨⟨fn, h1, by rw [h2]; rfl, h3⟩, hnm.1, hnm.2, hput, fun ρ w args' ha hm hB => ?_⟩
          refine calls_of_wp h1 h2 ?_
          rw [h6] at hle
          refine code_sound hmix ih c F.body h4 (initσ args) m e σ' m1 hex _ w ρ (initσ_rel ha hle) hm hB _ fun a' w' ρ' q1 q2 q3 q4 q5 => ?_
          obtain ⟨v, g1, g2⟩ := results_sound h5 q3 q4 hok
          have hpost : a'.defers = [] ∧ ∃ v, (results fn a'.tmps).run P w' = .ok v w' ∧ (fun (e : Ending) (w' : World) => ∃ v ρ', e = .returned v ∧ RenLe ρ ρ' ∧ (∀ b, b < m.next → ρ' b = ρ b) ∧ VRel ρ' (retV m1 σ' F.res) v ∧ MRel B ρ' m1 w' ∧ Below B w w') (.returned v) w' :=
            ⟨q3.defers, v, g1, v, ρ', rfl, q1, q2, g2, q4, q5⟩
          cases e with
          | normal => exact hpost
          | ret => exact hpost
          | exit id => exact absurd rfl (hne id)
        split at h
        · cases h
        · rename_i e σ' m1 hne hex
          split at h
          · rename_i hok
            cases h
            exact main e σ' m' hex (fun id he => hne id he) hok rfl rfl
          · cases h
        · cases h
      · cases h
    · cases h

end
end Go.DI
