/-
  An object that is no longer written becomes the whole contents of the slice that names it.
-/
import Derived.Test.YticjcminhkgabaaGreatDoorTvJ
namespace Go.DI
open Go Go.RowKit
set_option linter.unusedSimpArgs false
set_option linter.unusedVariables false
section
variable {P : Program} {t : Mem}
open Classical in
/-- in a cell of an object -/
theorem freeze_sim {E : Emb} {F : Frz} {t m : Mem} (hs : Sim E F t m) {o p j z : Nat} {rows : List (List Value)} {cells : List Value} (ho : t.get o = some ⟨rows.flatten, true⟩) (hr : ∀ r ∈ rows, r.length = z ∧ ∀ v ∈ r, cellB v = true)
    (hp : t.get p = some ⟨cells, true⟩) (hj : cells[j]? = some (.slice (some ⟨o, 0, none⟩) rows.length z)) (hne : o ≠ p) :
    ∃ F', FLe F F' ∧ (∀ b cs, F' b = some cs → F b = some cs ∨ E o = some b) ∧ Sim E F' ((t.put o none).put p (some ⟨cells.set j (immS rows z), true⟩)) m := by
  have hlo := get_lt ho
  have hlp := get_lt hp
  have hz : ∀ r ∈ rows, r.length = z := fun r h => (hr r h).1
  refine ⟨fun b => match F b with
    | some cs => some cs
    | none => if E o = some b then (m.get b).map (·.cells) else none, fun b cs hb => by simp only [hb], fun b cs hb => ?_, ?_⟩
  · simp only at hb
    cases hF : F b with
    | some ds => rw [hF] at hb; exact .inl hb
    | none =>
      rw [hF] at hb; simp only at hb
      split at hb
      · next h => exact .inr h
      · cases hb
  · obtain ⟨F', hF'⟩ : ∃ F' : Frz, F' = fun b => match F b with
      | some cs => some cs
      | none => if E o = some b then (m.get b).map (·.cells) else none := ⟨_, rfl⟩
    rw [← hF']
    have hle : FLe F F' := fun b cs hb => by rw [hF']; simp only [hb]
    have hob : ∀ b cs w, E o = some b → m.get b = some ⟨cs, w⟩ → F' b = some cs := fun b cs w hE hg => by
      rw [hF']; simp only
      cases hFb : F b with
      | some ds => obtain ⟨⟨w', hw'⟩, _⟩ := hs.fr b ds hFb; rw [hg] at hw'; cases hw'; rfl
      | none => simp only; rw [if_pos hE, hg]; rfl
    have gp : ((t.put o none).put p (some ⟨cells.set j (immS rows z), true⟩)).get p = some ⟨cells.set j (immS rows z), true⟩ := zql (by simpa using hlp)
    have go : ((t.put o none).put p (some ⟨cells.set j (immS rows z), true⟩)).get o = none := by rw [zqm hne, zql hlo]
    have gq : ∀ q, q ≠ p → q ≠ o → ((t.put o none).put p (some ⟨cells.set j (immS rows z), true⟩)).get q = t.get q := fun q h1 h2 => by rw [zqm h1, zqm h2]
    refine ⟨fun q x hx => ?_, fun q es he => ?_, hs.mp0, hs.inj, hs.lt, fun b ds hb => ?_⟩
    · by_cases h1 : q = p
      · subst h1
        rw [gp] at hx; cases hx
        rcases hs.obj q _ hp with ⟨b, ds, w, g1, g2, g3, g4⟩ | ⟨g1, g2⟩
        · refine .inl ⟨b, ds, w, g1, g2, g3, ?_⟩
          obtain ⟨y, hy, hv⟩ := g4.get hj
          have hv' : VR F' E (immS rows z) y := by
            rcases hv.inv_slice with ⟨c, e1, _, rfl⟩ | ⟨_, _, e3, rfl⟩
            · obtain ⟨cs, w', k1, _, k3⟩ := hs.at_ e1 ho
              have hfl : (rows.flatten).length = rows.length * z := flatten_len hz
              refine .imm (off := 0) rfl (hob c cs w' e1 k1) (by rw [← k3.1]; simp only; omega) (fun i r hi => hz r (List.mem_of_getElem? hi)) fun i jj r u y hi hu hy => ?_
              have hrow := flatten_row hz hi
              have hjl := (List.getElem?_eq_some_iff.1 hu).1
              rw [hz r (List.mem_of_getElem? hi)] at hjl
              have h5 : (rows.flatten)[i * z + jj]? = some u := by
                rw [← hrow, List.getElem?_take, if_pos hjl, List.getElem?_drop] at hu; exact hu
              have h6 := k3.2 (i * z + jj) u y h5 (by rw [← hy]; congr 1; omega)
              exact cell_rel hle h6 ((hr r (List.mem_of_getElem? hi)).2 u (List.mem_of_getElem? hu))
            · have : rows = [] := List.eq_nil_of_length_eq_zero e3
              subst this
              exact .immN rfl
          have h7 := (g4.mono hle (ELe.refl _)).set j hv'
          rw [show ds.set j y = ds from by
            apply List.ext_getElem?
            intro i
            rw [List.getElem?_set]
            split
            · next e => subst e; rw [hy]; simp; exact (List.getElem?_eq_some_iff.1 hy).1
            · rfl] at h7
          exact h7
        · simp only at g2; subst g2; simp at hj
      · by_cases h2 : q = o
        · subst h2; rw [go] at hx; cases hx
        · rw [gq q h1 h2] at hx
          rcases hs.obj q x hx with ⟨b, ds, w, g1, g2, g3, g4⟩ | g1
          · exact .inl ⟨b, ds, w, g1, g2, g3, g4.mono hle (ELe.refl _)⟩
          · exact .inr g1
    · obtain ⟨e1, e2⟩ := getM_cells he
      by_cases h1 : q = p
      · subst h1
        rw [gp] at e1
        have : cells = [] := by simpa using e1
        subst this; simp at hj
      · by_cases h2 : q = o
        · subst h2; rw [go] at e1; cases e1
        · rw [gq q h1 h2] at e1
          obtain ⟨b, es', k1, k2, k3⟩ := hs.maps q es (getM_of e1 e2)
          exact ⟨b, es', k1, k2, k3.mono hle (ELe.refl _)⟩
    · have hcase : F b = some ds ∨ (E o = some b ∧ ∃ w, m.get b = some ⟨ds, w⟩) := by
        rw [hF'] at hb; simp only at hb
        cases hFb : F b with
        | some x => rw [hFb] at hb; simp only at hb; exact .inl hb
        | none =>
          rw [hFb] at hb; simp only at hb
          split at hb
          · next h =>
            cases hg : m.get b with
            | none => rw [hg] at hb; cases hb
            | some x => rw [hg] at hb; cases hb; exact .inr ⟨h, x.own, rfl⟩
          · cases hb
      rcases hcase with h | ⟨h, w, h'⟩
      · obtain ⟨h1, h2⟩ := hs.fr b ds h
        refine ⟨h1, fun q x hE hx => ?_⟩
        by_cases e1 : q = p
        · subst e1; have := h2 q _ hE hp; cases this
        · by_cases e2 : q = o
          · subst e2; rw [go] at hx; cases hx
          · rw [gq q e1 e2] at hx; exact h2 q x hE hx
      · refine ⟨⟨w, h'⟩, fun q x hE hx => ?_⟩
        have : q = o := hs.inj q o b hE h
        subst this; rw [go] at hx; cases hx
theorem WPTC.freeze {f : Nat} {args : List Value} {Φ Ψ : Value → Mem → Prop} (h : WPTC P f args t Φ) (hd : ∀ r t', Φ r t' → Ψ r t' ∨ ∃ o p j z rows cells, t'.get o = some ⟨rows.flatten, true⟩ ∧ (∀ r ∈ rows, r.length = z ∧ ∀ v ∈ r, cellB v = true) ∧ t'.get p = some ⟨cells, true⟩ ∧
    cells[j]? = some (.slice (some ⟨o, 0, none⟩) rows.length z) ∧ o ≠ p ∧ Ψ r ((t'.put o none).put p (some ⟨cells.set j (immS rows z), true⟩))) : WPTC P f args t Ψ := fun E F as m hs ha => (h E F as m hs ha).mono fun r' m1 hh => by
  obtain ⟨E1, F1, r, t1, h1, h2, h3, h4⟩ := hh
  rcases hd r t1 h1 with h1' | ⟨o, p, j, z, rows, cells, g1, g2, g3, g4, g5, g6⟩
  · exact ⟨E1, F1, r, t1, h1', h2, h3, h4⟩
  obtain ⟨F2, k1, k2, k3⟩ := freeze_sim h2 g1 g2 g3 g4 g5
  refine ⟨E1, F2, r, _, g6, k3, h3.mono k1 (ELe.refl _), h4.e, h4.f.trans k1, h4.en, fun b cs hb => ?_, h4.tnx, h4.mnx, h4.keep, fun b hb ⟨q, x, q1, q2, q3⟩ => h4.wm b hb ?_, fun b hb ⟨q, x, q1, q2⟩ => h4.am b hb ?_⟩
  · rcases k2 b cs hb with h5 | h5
    · exact h4.fn b cs h5
    · by_cases h6 : b < m.next
      · exact .inr (.inr (h4.am b h6 ⟨o, _, h5, g1⟩))
      · exact .inr (.inl (by omega))
  · by_cases e1 : q = p
    · subst e1; exact ⟨q, _, q1, g3, rfl⟩
    · by_cases e2 : q = o
      · subst e2; exact ⟨q, _, q1, g1, rfl⟩
      · rw [zqm e1, zqm e2] at q2; exact ⟨q, x, q1, q2, q3⟩
  · by_cases e1 : q = p
    · subst e1; exact ⟨q, _, q1, g3⟩
    · by_cases e2 : q = o
      · subst e2; exact ⟨q, _, q1, g1⟩
      · rw [zqm e1, zqm e2] at q2; exact ⟨q, x, q1, q2⟩
end
end Go.DI
