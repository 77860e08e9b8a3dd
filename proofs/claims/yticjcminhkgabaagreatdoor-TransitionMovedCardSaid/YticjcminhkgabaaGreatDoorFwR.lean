/-
  Draw regions, code, calls: THE THEOREM: what the intermediate form computes, the model does.
-/
import Derived.Test.YticjcminhkgabaaGreatDoorFwJQ
import Derived.LoopN
import Derived.StillTail
namespace Go.DI
open Go Go.RowKit

section
variable {P : Program} {B : Nat} {cl : Callee} {base : Nat} {ops : Array Oper} {nt : Nat}

theorem listed_set {listed : Array Bool} {i j : Nat} (hi : i < listed.size) : (listed.setIfInBounds i true).getD j false = true ↔ (j = i ∨ listed.getD j false = true) := by
  by_cases h : i = j
  · subst h; simp [hi]
  · rw [getD_set_ne false h]
    constructor
    · exact .inr
    · rintro (h' | h')
      · exact absurd h'.symm h
      · exact h'

theorem any_sound (hcl : ClSound P B cl) {Q : Exit → Act → World → Prop} {σf : Slots} {mf : Mem} {base0 : Nat} : ∀ (fuel : Nat) (L : List IOp) (listed : Array Bool) (σ : Slots) (m : Mem) (a : Act) (w : World) (ρ : Ren),
    L.length = fuel → listed.size = ops.size → (∀ j, j < ops.size → (listed.getD j false = true ↔ ∀ io ∈ L, io.ix ≠ j)) →
    (∀ j oj, ops[j]? = some oj → listed.getD j false = true → ∀ e ∈ oj.after, Region.binds .any e = true → listed.getD e.on false = true) →
    (∀ io ∈ L, ∃ o, CompAt P ops nt io o) → (L.map (·.ix)).Nodup → GoodP (masks ops.toList []) L →
    (∀ pre io post, L = pre ++ io :: post → ∀ oj, ops[io.ix]? = some oj → ∀ e ∈ oj.after, Region.binds .any e = true → listed.getD e.on false = true ∨ ∃ k ∈ pre, k.ix = e.on) →
    SRel ρ nt σ a → MRel B ρ m w → B ≤ w.heap.size → base0 ≤ base → (∀ io ∈ L, io.k.isAlloc = true → base + io.ix < m.next ∧ m.get (base + io.ix) = none ∧ ρ (base + io.ix) = none) → base ≤ m.next →
    runOps cl base L σ m = some (σf, mf) →
    (∀ a' w' ρ', RenLe ρ ρ' → (∀ b, b < base0 → ρ' b = ρ b) → SRel ρ' nt σf a' → MRel B ρ' mf w' → Below B w w' → Q .normal a' w') → wpAny P .any ops Q fuel listed a w
  | 0, L, listed, σ, m, a, w, ρ, hlen, hsz, hli, _, _, _, _, _, hs, hm, _, _, _, _, hrun, hQ => by
    have hL : L = [] := List.length_eq_zero_iff.1 hlen
    subst hL
    simp only [runOps, Option.some.injEq, Prod.mk.injEq] at hrun
    obtain ⟨rfl, rfl⟩ := hrun
    refine ⟨?_, hQ a w ρ (RenLe.refl ρ) (fun _ _ => rfl) hs hm (Below.refl _ _)⟩
    apply List.eq_nil_iff_forall_not_mem.2
    intro i hi
    obtain ⟨h1, oj, h2, _⟩ := mem_ready.1 hi
    have hlt : i < ops.size := (Array.getElem?_eq_some_iff.1 h2).1
    have := (hli i hlt).2 (by simp)
    rw [getD_both h1] at this
    cases this
  | fuel + 1, L, listed, σ, m, a, w, ρ, hlen, hsz, hli, hcd, hco, hnd, hgood, htop, hs, hm, hB, hb0, hid, hbn, hrun, hQ => by
    refine ⟨fun hrd => ?_, fun i hi => ?_⟩
    · -- the first of ours is ready
      exfalso
      cases L with
      | nil => simp at hlen
      | cons io L =>
        obtain ⟨o, ho⟩ := hco io (by simp)
        have hlt : io.ix < ops.size := (Array.getElem?_eq_some_iff.1 ho.1).1
        have hmem : io.ix ∈ Region.ready .any ops listed := by
          refine mem_ready.2 ⟨?_, o, ho.1, fun e he hb => ?_⟩
          · have : listed.getD io.ix false ≠ true := fun h => (hli io.ix hlt).1 h io (by simp) rfl
            exact getD_in (by rw [hsz]; exact hlt) (by simpa using this)
          · rcases htop [] io L rfl o ho.1 e he hb with h | ⟨k, hk, _⟩
            · exact h
            · cases hk
        rw [hrd] at hmem
        cases hmem
    · obtain ⟨hun, oi, hoi, hdeps⟩ := mem_ready.1 hi
      have hlt : i < ops.size := (Array.getElem?_eq_some_iff.1 hoi).1
      have hun' : listed.getD i false = false := getD_both hun
      have hin : ∃ io ∈ L, io.ix = i := by
        by_cases h : ∃ io ∈ L, io.ix = i
        · exact h
        · exfalso
          have := (hli i hlt).2 (fun io hio e => h ⟨io, hio, e⟩)
          rw [hun'] at this; cases this
      obtain ⟨io, hio, rfl⟩ := hin
      obtain ⟨pre, post, rfl⟩ := List.append_of_mem hio
      simp only [List.map_append, List.map_cons, List.nodup_append, List.nodup_cons] at hnd
      have hpre : ∀ k ∈ pre, k.ix ≠ io.ix := fun k hk e => hnd.2.2 k.ix (List.mem_map.2 ⟨k, hk, rfl⟩) io.ix (by simp) e
      have hcomp : ∀ A k C, pre = A ++ k :: C → compatB k io (dsts C) = true ∧ ∀ p ∈ pairs k io, p ∈ io.ck := by
        intro A k C e
        subst e
        rcases GoodP.at_ A k C io post (by simpa using hgood) with h | h
        · exfalso
          have hk : listed.getD k.ix false = true := masks_spec (ops := ops) (listed := fun j => listed.getD j false = true) hcd ops.toList [] (by simp) (by simp) io.ix oi hoi hdeps k.ix h
          obtain ⟨ok', hok'⟩ := hco k (by simp)
          exact (hli k.ix (Array.getElem?_eq_some_iff.1 hok'.1).1).1 hk k (by simp) rfl
        · exact h
      have hidi := hid io (by simp)
      obtain ⟨σ1, m1, _, _, _, h1, h2, _, _, _⟩ := move hcl pre σ m hrun hcomp hpre (fun hal => ⟨(hidi hal).2.1, (hidi hal).1⟩)
      obtain ⟨o, ho⟩ := hco io (by simp)
      have hnx := stepOp_next hcl h1
      refine step_sound hcl ho hs hm hB (fun hal => (hidi hal).1) (fun hal => (hidi hal).2.2) h1 fun a' w' ρ' q1 q2 q3 q4 q5 => ?_
      refine any_sound hcl fuel (pre ++ post) (listed.setIfInBounds io.ix true) σ1 m1 a' w' ρ' (by simp at hlen ⊢; omega) (by simp [hsz]) (fun j hj => ?_) (fun j oj hoj hj e he hb => ?_) (fun k hk => hco k (by
          rcases List.mem_append.1 hk with h | h
          · exact List.mem_append_left _ h
          · exact List.mem_append_right _ (by simp [h]))) ?_ (GoodP.remove pre io post hgood) (fun pre' k post' e oj hoj ed he hb => ?_) q3 q4 (Nat.le_trans hB q5.size) hb0 (fun k hk hal => ?_) (by omega) h2 (fun a2 w2 ρ2 p1 p2 p3 p4 p5 => hQ a2 w2 ρ2 (q1.trans p1) (fun b hb => (p2 b hb).trans (q2 b (by omega) (by omega))) p3 p4 (q5.trans p5))
      · rw [listed_set (by rw [hsz]; exact hlt)]
        constructor
        · rintro (rfl | h) k hk e
          · rcases List.mem_append.1 hk with h | h
            · exact hpre k h e
            · exact hnd.2.1.1 (List.mem_map.2 ⟨k, h, e⟩)
          · refine (hli j hj).1 h k ?_ e
            rcases List.mem_append.1 hk with h | h
            · exact List.mem_append_left _ h
            · exact List.mem_append_right _ (by simp [h])
        · intro h
          by_cases e : j = io.ix
          · exact .inl e
          · refine .inr ((hli j hj).2 fun k hk e' => ?_)
            rcases List.mem_append.1 hk with h' | h'
            · exact h k (List.mem_append_left _ h') e'
            · rcases List.mem_cons.1 h' with h' | h'
              · subst h'; exact e e'.symm
              · exact h k (List.mem_append_right _ h') e'
      · rw [listed_set (by rw [hsz]; exact hlt)] at hj ⊢
        rcases hj with rfl | hj
        · have : oj = oi := Option.some.inj (hoj.symm.trans hoi)
          subst this
          exact .inr (hdeps e he hb)
        · exact .inr (hcd j oj hoj hj e he hb)
      · simp only [List.map_append, List.nodup_append]
        exact ⟨hnd.1, hnd.2.1.2, fun x hx y hy => hnd.2.2 x hx y (by simp [hy])⟩
      · rw [listed_set (by rw [hsz]; exact hlt)]
        rcases List.append_eq_append_iff.1 e with ⟨as, e1, e2⟩ | ⟨bs, e1, e2⟩
        · rcases htop (pre ++ io :: as) k post' (by rw [e2]; simp) oj hoj ed he hb with h | ⟨k', hk', e3⟩
          · exact .inl (.inr h)
          · rcases List.mem_append.1 hk' with h | h
            · exact .inr ⟨k', by rw [e1]; exact List.mem_append_left _ h, e3⟩
            · rcases List.mem_cons.1 h with h | h
              · subst h; exact .inl (.inl e3.symm)
              · exact .inr ⟨k', by rw [e1]; exact List.mem_append_right _ h, e3⟩
        · cases bs with
          | nil =>
            simp only [List.append_nil] at e1
            simp only [List.nil_append] at e2
            rcases htop (pre ++ [io]) k post' (by rw [← e2]; simp) oj hoj ed he hb with h | ⟨k', hk', e3⟩
            · exact .inl (.inr h)
            · rcases List.mem_append.1 hk' with h | h
              · exact .inr ⟨k', by rw [← e1]; exact h, e3⟩
              · simp only [List.mem_singleton] at h
                subst h; exact .inl (.inl e3.symm)
          | cons b bs =>
            simp only [List.cons_append, List.cons.injEq] at e2
            obtain ⟨rfl, e2⟩ := e2
            rcases htop pre' k (bs ++ io :: post) (by rw [e1]; simp) oj hoj ed he hb with h | h
            · exact .inl (.inr h)
            · exact .inr h
      · have hk2 : k ∈ pre ++ io :: post := by
          rcases List.mem_append.1 hk with h | h
          · exact List.mem_append_left _ h
          · exact List.mem_append_right _ (by simp [h])
        have hkx : k.ix ≠ io.ix := by
          rcases List.mem_append.1 hk with h | h
          · exact hpre k h
          · exact fun e => hnd.2.1.1 (List.mem_map.2 ⟨k, h, e⟩)
        obtain ⟨g1, g2, g3⟩ := hid k hk2 hal
        exact ⟨by omega, stepOp_none hcl h1 g1 (by omega) g2, by rw [q2 _ g1 (by omega)]; exact g3⟩

/-! from the compiler's lists -/
theorem cOne_spec {ix : Nat} {io : IOp} (h : cOne P ops nt ix = some io) : io.ix = ix ∧ ∃ o, CompAt P ops nt io o := by
  unfold cOne at h
  split at h
  · rename_i o ho
    split at h
    · rename_i k g hk hg
      split at h
      · rename_i hd
        cases h
        exact ⟨rfl, o, ho, hk, hg, rfl, hd⟩
      · cases h
    · cases h
  · cases h

theorem cOps_spec : ∀ (ixs : List Nat) (L : List IOp), cOps P ops nt ixs = some L → L.map (·.ix) = ixs ∧ ∀ io ∈ L, ∃ o, CompAt P ops nt io o
  | [], L, h => by simp [cOps] at h; subst h; simp
  | ix :: r, L, h => by
    simp only [cOps] at h
    split at h
    · rename_i io rest h1 h2
      cases h
      obtain ⟨e, o, ho⟩ := cOne_spec h1
      obtain ⟨g1, g2⟩ := cOps_spec r rest h2
      refine ⟨by simp [e, g1], fun k hk => ?_⟩
      rcases List.mem_cons.1 hk with rfl | hk
      · exact ⟨o, ho⟩
      · exact g2 k hk
    · cases h

theorem ckB_spec {tab : List Nat} {i : IOp} : ∀ (prev : List IOp) (btw : List Nat), ckB tab i prev btw = true → (∀ p ∈ ckOf tab i prev, p ∈ i.ck) →
    ∀ A k C, prev = A ++ k :: C → (tab.getD i.ix 0).testBit k.ix = true ∨ (compatB k i (btw ++ dsts A) = true ∧ ∀ p ∈ pairs k i, p ∈ i.ck)
  | [], _, _, _, A, k, C, e => by simp at e
  | x :: prev, btw, h, hck, A, k, C, e => by
    simp only [ckB, Bool.and_eq_true, Bool.or_eq_true] at h
    cases A with
    | nil =>
      simp only [List.nil_append, List.cons.injEq] at e
      obtain ⟨rfl, rfl⟩ := e
      rcases h.1 with h1 | h1
      · exact .inl h1
      · by_cases hb : (tab.getD i.ix 0).testBit x.ix = true
        · exact .inl hb
        · refine .inr ⟨by simpa [dsts] using h1, fun p hp => hck p ?_⟩
          simp only [ckOf, if_neg hb]
          exact List.mem_append_left _ hp
    | cons a A =>
      simp only [List.cons_append, List.cons.injEq] at e
      obtain ⟨rfl, rfl⟩ := e
      have := ckB_spec (A ++ k :: C) (btw ++ x.d.toList) h.2 (fun p hp => hck p (by simp only [ckOf]; exact List.mem_append_right _ hp)) A k C rfl
      refine this.imp id fun hh => ⟨compatB_mono (fun t ht => ?_) hh.1, hh.2⟩
      simp only [dsts, List.filterMap_cons] at ht ⊢
      cases hd : x.d with
      | none => rw [hd] at ht; simpa using ht
      | some d => rw [hd] at ht; simpa using ht

theorem cDraw_spec {tab : List Nat} : ∀ (ixs : List Nat) (prev : List IOp) (L : List IOp), cDraw P ops nt tab ixs prev = some L → GoodP tab prev.reverse →
    L.map (·.ix) = ixs ∧ (∀ io ∈ L, ∃ o, CompAt P ops nt io o) ∧ GoodP tab (prev.reverse ++ L) ∧
    (∀ pre io post, L = pre ++ io :: post → ∀ oj, ops[io.ix]? = some oj → ∀ e ∈ oj.after, Region.binds .any e = true → ∃ k ∈ prev.reverse ++ pre, k.ix = e.on)
  | [], prev, L, h, hg => by
    simp [cDraw] at h; subst h
    exact ⟨rfl, by simp, by simpa using hg, by simp⟩
  | ix :: r, prev, L, h, hg => by
    simp only [cDraw] at h
    split at h
    · rename_i o1 h1
      split at h
      · rename_i hck
        split at h
        · rename_i rest hrest
          cases h
          simp only [Bool.and_eq_true] at hck
          obtain ⟨e1, op, hop⟩ := cOne_spec h1
          have hc : CompAt P ops nt ⟨o1.ix, o1.d, o1.g, o1.k, ckOf tab o1 prev⟩ op := hop
          have hnew : GoodP tab (IOp.mk o1.ix o1.d o1.g o1.k (ckOf tab o1 prev) :: prev).reverse := by
            rw [List.reverse_cons]
            have hsp := ckB_spec prev [] hck.1 (fun p hp => by
              have : ∀ (l : List IOp), ckOf tab ⟨o1.ix, o1.d, o1.g, o1.k, ckOf tab o1 prev⟩ l = ckOf tab o1 l := by
                intro l
                induction l with
                | nil => rfl
                | cons x l ih => simp only [ckOf]; rw [ih]; rfl
              rw [this] at hp
              exact hp)
            -- the new one behind all
            have key : ∀ (l : List IOp) (x : IOp), GoodP tab l → (∀ A k C, l = A ++ k :: C → (tab.getD x.ix 0).testBit k.ix = true ∨ (compatB k x (dsts C) = true ∧ ∀ p ∈ pairs k x, p ∈ x.ck)) → GoodP tab (l ++ [x]) := by
              intro l x
              induction l with
              | nil => intro _ _; exact ⟨by intro pre i post e; simp at e, trivial⟩
              | cons k l ih =>
                intro hl hx
                refine ⟨fun pre i post e => ?_, ih hl.2 fun A k' C e => hx (k :: A) k' C (by rw [e]; rfl)⟩
                rcases List.append_eq_append_iff.1 e with ⟨as, e1, e2⟩ | ⟨bs, e1, e2⟩
                · cases as with
                  | nil =>
                    simp only [List.nil_append, List.cons.injEq] at e2
                    obtain ⟨rfl, _⟩ := e2
                    simp only [List.append_nil] at e1
                    subst e1
                    exact hx [] k pre rfl
                  | cons y as => simp at e2
                · cases bs with
                  | nil =>
                    simp only [List.nil_append, List.cons.injEq] at e2
                    obtain ⟨rfl, _⟩ := e2
                    simp only [List.append_nil] at e1
                    subst e1
                    exact hx [] k l rfl
                  | cons y bs =>
                    simp only [List.cons_append, List.cons.injEq] at e2
                    obtain ⟨rfl, e2⟩ := e2
                    exact hl.1 pre i bs e1
            refine key _ _ hg fun A k C e => ?_
            have e' : prev = C.reverse ++ k :: A.reverse := by
              have := congrArg List.reverse e
              simpa using this
            refine (hsp C.reverse k A.reverse e').imp id fun hh => ⟨compatB_mono (fun t ht => ?_) hh.1, hh.2⟩
            simp only [dsts, List.nil_append, List.mem_filterMap, List.mem_reverse] at ht ⊢
            exact ht
          obtain ⟨g1, g2, g3, g4⟩ := cDraw_spec r _ rest hrest hnew
          refine ⟨by simp [e1, g1], fun k hk => ?_, by simpa using g3, fun pre io post e oj hoj ed he hb => ?_⟩
          · rcases List.mem_cons.1 hk with rfl | hk
            · exact ⟨op, hc⟩
            · exact g2 k hk
          · cases pre with
            | nil =>
              simp only [List.nil_append, List.cons.injEq] at e
              obtain ⟨rfl, _⟩ := e
              have h5 := hck.2
              simp only [e1] at hoj
              simp only [topoB, hoj] at h5
              simp only [List.all_eq_true, Bool.or_eq_true, Bool.not_eq_true', List.any_eq_true, beq_iff_eq] at h5
              rcases h5 ed (by simpa using he) with h6 | ⟨k, hk, h6⟩
              · rw [hb] at h6; cases h6
              · exact ⟨k, by simpa using hk, h6⟩
            | cons x pre =>
              simp only [List.cons_append, List.cons.injEq] at e
              obtain ⟨rfl, e⟩ := e
              obtain ⟨k, hk, h6⟩ := g4 pre io post e oj hoj ed he hb
              exact ⟨k, by simpa using hk, h6⟩
        · cases h
      · cases h
    · cases h

end
end Go.DI
