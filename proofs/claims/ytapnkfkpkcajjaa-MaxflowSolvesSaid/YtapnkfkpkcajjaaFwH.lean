/-
  The memory: what a load reads, and what a store, a new block and an append leave.
-/
import Derived.Test.YtapnkfkpkcajjaaFwG
namespace Go.DI
open Go Go.RowKit

theorem oneC_eq (v : Value) : v.oneCell' = oneC v := by cases v <;> rfl

section
variable {P : Program} {w w' : World} {ρ : Ren} {m : Mem} {B : Nat}

def updR (ρ : Ren) (id : Nat) (l : Loc) : Ren := fun b => if b = id then some l else ρ b
theorem updR_le {id : Nat} {l : Loc} (h : ρ id = none) : RenLe ρ (updR ρ id l) := by
  intro b l' hb
  unfold updR
  split
  · rename_i e; rw [e, h] at hb; cases hb
  · exact hb

theorem addr_add (c o j : Nat) : (⟨c, o, none⟩ : Addr).add j = ⟨c, o + j, none⟩ := by
  unfold Addr.add; split <;> simp_all

/-- what the cells of a living block hold -/
theorem MRel.cells (hm : MRel B ρ m w) {b : Nat} {x : Blk} {l : Loc} (hg : m.get b = some x) (hl : ρ b = some l) {off n : Nat} (h : off + n ≤ x.cells.length) :
    ∃ ds : List Value, LRel ρ (cellsAt m b off n) ds ∧ ds.length = n ∧ (∀ j u, ds[j]? = some u → w.cell? ((⟨l.c, l.o + off, none⟩ : Addr).add j) = some u) ∧ (∀ u ∈ ds, u.oneCell' = true) := by
  obtain ⟨l', hl', hlen, hc, _⟩ := hm.live b x hg
  rw [hl] at hl'; cases hl'
  have key : ∀ j, j < n → ∃ v v', x.cells[off + j]? = some v ∧ oneC v = true ∧ w.cell? ⟨l.c, l.o + (off + j), none⟩ = some v' ∧ VRel ρ v v' := by
    intro j hj
    have hlt : off + j < x.cells.length := by omega
    obtain ⟨h1, v', h2, h3⟩ := hc (off + j) _ (List.getElem?_eq_getElem hlt)
    exact ⟨_, v', List.getElem?_eq_getElem hlt, h1, h2, h3⟩
  refine ⟨(List.range n).map fun j => (w.cell? ⟨l.c, l.o + (off + j), none⟩).getD undef, ⟨?_, ?_⟩, by simp, ?_, ?_⟩
  · simp [cellsAt, hg]; omega
  · intro i u v hu hv
    simp only [cellsAt, hg] at hu
    rw [List.getElem?_take] at hu
    split at hu
    · rename_i hi
      obtain ⟨v1, v2, g1, g2, g3, g4⟩ := key i hi
      rw [List.getElem?_drop, g1] at hu
      cases hu
      simp [hi, g3] at hv
      subst hv
      exact g4
    · cases hu
  · intro j u hu
    have hj : j < n := by have := (List.getElem?_eq_some_iff.1 hu).1; simpa using this
    obtain ⟨v1, v2, g1, g2, g3, g4⟩ := key j hj
    simp [hj, g3] at hu
    subst hu
    rw [addr_add, Nat.add_assoc]
    exact g3
  · intro u hu
    simp only [List.mem_map, List.mem_range] at hu
    obtain ⟨j, hj, rfl⟩ := hu
    obtain ⟨v1, v2, g1, g2, g3, g4⟩ := key j hj
    rw [g3]
    simp only [Option.getD_some, oneC_eq]
    rw [g4.oneC]; exact g2

theorem cellsAt_length {b : Nat} {x : Blk} (hg : m.get b = some x) {off n : Nat} (h : off + n ≤ x.cells.length) : (cellsAt m b off n).length = n := by
  simp [cellsAt, hg]; omega

/-- a new block of the abstract memory over cells that no living block uses -/
theorem MRel.adopt (hm : MRel B ρ m w) {id C O n : Nat} {cs : List Value} (hid : id < m.next) (hr : ρ id = none)
    (hfree : ∀ b x l, m.get b = some x → ρ b = some l → l.c ≠ C) (hsz : w.heap.size ≤ w'.heap.size) (hC : C < w'.heap.size) (hB : B ≤ C)
    (hsame : ∀ a : Addr, a.block < w.heap.size → a.block ≠ C → w'.cell? a = w.cell? a ∧ w'.frozen? a = w.frozen? a)
    (hlen : cs.length ≤ n) (hcs : ∀ i v, cs[i]? = some v → oneC v = true ∧ ∃ v', w'.cell? ⟨C, O + i, none⟩ = some v' ∧ VRel ρ v v')
    (hn : ∀ i, i < n → (w'.cell? ⟨C, O + i, none⟩).isSome = true ∧ w'.frozen? ⟨C, O + i, none⟩ = false) :
    MRel B (updR ρ id ⟨C, O, n⟩) (m.put id (some ⟨cs, true⟩)) w' := by
  have hle := updR_le (l := ⟨C, O, n⟩) hr
  refine ⟨fun b l hb => ?_, fun b l hb => ?_, fun b x hx => ?_, fun b x b' x' l l' h1 h2 h3 h4 h5 h6 => ?_⟩
  · unfold updR at hb
    split at hb
    · rename_i e; rw [e]; exact hid
    · exact hm.dom b l hb
  · unfold updR at hb
    split at hb
    · cases hb; exact hC
    · exact Nat.lt_of_lt_of_le (hm.inb b l hb) hsz
  · rw [Mem.get_put] at hx
    split at hx
    · rename_i e
      cases hx
      exact ⟨⟨C, O, n⟩, by simp [updR, e], hlen, fun i v hv => by obtain ⟨q1, v', q2, q3⟩ := hcs i v hv; exact ⟨q1, v', q2, q3.mono hle⟩, fun _ => ⟨hB, hn⟩⟩
    · obtain ⟨l, g1, g2, g3, g4⟩ := hm.live b x hx
      have hlb := hm.inb b l g1
      have hne := hfree b x l hx g1
      refine ⟨l, hle _ _ g1, g2, fun i v hv => ?_, fun ho => ⟨(g4 ho).1, fun i hi => ?_⟩⟩
      · obtain ⟨q1, v', q2, q3⟩ := g3 i v hv
        exact ⟨q1, v', by rw [(hsame _ hlb hne).1]; exact q2, q3.mono hle⟩
      · have := (g4 ho).2 i hi
        rw [(hsame ⟨l.c, l.o + i, none⟩ hlb hne).1, (hsame ⟨l.c, l.o + i, none⟩ hlb hne).2]; exact this
  · rw [Mem.get_put] at h1 h3
    unfold updR at h5 h6
    split at h1
    · rename_i e
      rw [if_neg (by rw [← e]; exact Ne.symm h4)] at h3
      rw [if_pos e] at h5
      rw [if_neg (by rw [← e]; exact Ne.symm h4)] at h6
      cases h5
      exact Ne.symm (hfree b' x' l' h3 h6)
    · rename_i e
      rw [if_neg e] at h5
      split at h3
      · rename_i e'
        rw [if_pos e'] at h6
        cases h6
        exact hfree b x l h1 h5
      · rename_i e'
        rw [if_neg e'] at h6
        exact hm.excl b x b' x' l l' h1 h2 h3 h4 h5 h6

theorem MRel.kill (hm : MRel B ρ m w) (b : Nat) : MRel B ρ (m.put b none) w := by
  have hg : ∀ b' x, (m.put b none).get b' = some x → b' ≠ b ∧ m.get b' = some x := by
    intro b' x h
    rw [Mem.get_put] at h
    split at h
    · split at h <;> cases h
    · rename_i e; exact ⟨e, h⟩
  exact ⟨hm.dom, hm.inb, fun b' x hx => hm.live b' x (hg b' x hx).2, fun b1 x1 b2 x2 l1 l2 h1 h2 h3 => hm.excl b1 x1 b2 x2 l1 l2 (hg _ _ h1).2 h2 (hg _ _ h3).2⟩

theorem setCells_heap (b : Nat) : ∀ (vs : List Value) (o : Nat) (w : World), (w.setCells b o vs).heap.size = w.heap.size
  | [], _, _ => rfl
  | v :: vs, o, w => by rw [World.setCells, setCells_heap b vs]; simp [World.setCell]
theorem below_setCells {B b : Nat} (hb : B ≤ b) : ∀ (vs : List Value) (o : Nat) (w : World), Below B w (w.setCells b o vs)
  | [], _, _ => Below.refl _ _
  | v :: vs, o, w => ((Below.refl B w).setCell (p := ⟨b, o, none⟩) hb v).trans (below_setCells hb vs _ _)

theorem blit_get : ∀ (vs : List Value) (off : Nat) (cs : List Value) (i : Nat), off + vs.length ≤ cs.length → (blit cs off vs)[i]? = if off ≤ i ∧ i < off + vs.length then vs[i - off]? else cs[i]?
  | [], off, cs, i, _ => by simp [blit]; intro h1 h2; omega
  | v :: vs, off, cs, i, h => by
    simp only [blit]
    simp only [List.length_cons] at h
    rw [blit_get vs (off + 1) (cs.set off v) i (by simp; omega), List.getElem?_set]
    by_cases h1 : off = i
    · subst h1
      rw [if_neg (by omega), if_pos rfl, if_pos (by omega), if_pos (by simp)]
      simp
    · by_cases h2 : off + 1 ≤ i ∧ i < off + 1 + vs.length
      · rw [if_pos h2, if_pos ⟨by omega, by simp; omega⟩, show i - off = (i - (off + 1)) + 1 by omega]
        simp
      · rw [if_neg h2, if_neg h1, if_neg (by simp; omega)]

/-- a store into a living block of the call's own -/
theorem MRel.store (hm : MRel B ρ m w) {b : Nat} {x : Blk} {l : Loc} (hg : m.get b = some x) (ho : x.own = true) (hl : ρ b = some l) {off : Nat} {cs us : List Value} (hr : LRel ρ cs us) (hone : ∀ v ∈ cs, oneC v = true)
    (h : off + cs.length ≤ x.cells.length) : MRel B ρ (m.put b (some ⟨blit x.cells off cs, x.own⟩)) (w.setCells l.c (l.o + off) us) := by
  have hb := Mem.get_lt hg
  have hlen := hr.1
  obtain ⟨l', hl', q1, q2, q3⟩ := hm.live b x hg
  rw [hl] at hl'; cases hl'
  have hother : ∀ b' x' l'', m.get b' = some x' → b' ≠ b → ρ b' = some l'' → l''.c ≠ l.c := fun b' x' l'' h1 h2 h3 => Ne.symm (hm.excl b x b' x' l l'' hg ho h1 (Ne.symm h2) hl h3)
  refine ⟨hm.dom, fun b' l' h' => by rw [setCells_heap]; exact hm.inb b' l' h', fun b' x' hx => ?_, fun b1 x1 b2 x2 l1 l2 h1 h2 h3 h4 h5 h6 => ?_⟩
  · rw [Mem.get_put] at hx
    split at hx
    · rename_i e
      cases hx
      subst e
      refine ⟨l, hl, by rw [blit_length]; exact q1, fun i v hv => ?_, fun _ => ⟨(q3 ho).1, fun i hi => ?_⟩⟩
      · rw [blit_get _ _ _ _ h] at hv
        split at hv
        · rename_i hi
          obtain ⟨u, hu, huv⟩ := hr.get hv
          refine ⟨hone v (List.mem_of_getElem? hv), u, ?_, huv⟩
          have hj : i - off < us.length := by omega
          have := World.cell?_setCells_in l.c us (l.o + off) w (fun j hj' => by
            have := ((q3 ho).2 (off + j) (by omega)).1
            rwa [← Nat.add_assoc] at this) (i - off) hj
          rw [show l.o + off + (i - off) = l.o + i by omega] at this
          rw [this]
          rw [List.getElem?_eq_getElem hj] at hu
          exact hu
        · rename_i hi
          obtain ⟨g1, v', g2, g3⟩ := q2 i v hv
          refine ⟨g1, v', ?_, g3⟩
          rw [World.cell?_setCells_out l.c us (l.o + off) w _ (fun _ _ => by show l.o + i < l.o + off ∨ l.o + off + us.length ≤ l.o + i; omega)]
          exact g2
      · have hq := (q3 ho).2 i hi
        refine ⟨?_, by rw [World.frozen?_setCells]; exact hq.2⟩
        by_cases hi2 : off ≤ i ∧ i < off + us.length
        · have := World.cell?_setCells_in l.c us (l.o + off) w (fun j hj' => by
            have := ((q3 ho).2 (off + j) (by omega)).1
            rwa [← Nat.add_assoc] at this) (i - off) (by omega)
          rw [show l.o + off + (i - off) = l.o + i by omega] at this
          rw [this]; rfl
        · rw [World.cell?_setCells_out l.c us (l.o + off) w _ (fun _ _ => by show l.o + i < l.o + off ∨ l.o + off + us.length ≤ l.o + i; omega)]
          exact hq.1
    · rename_i e
      obtain ⟨l', g1, g2, g3, g4⟩ := hm.live b' x' hx
      have hne := hother b' x' l' hx e g1
      have hc : ∀ i, (w.setCells l.c (l.o + off) us).cell? ⟨l'.c, l'.o + i, none⟩ = w.cell? ⟨l'.c, l'.o + i, none⟩ := fun i => World.cell?_setCells_out _ _ _ _ _ (fun hh _ => absurd hh hne)
      refine ⟨l', g1, g2, fun i v hv => by rw [hc]; exact g3 i v hv, fun hown => ⟨(g4 hown).1, fun i hi => by rw [hc, World.frozen?_setCells]; exact (g4 hown).2 i hi⟩⟩
  · have hget : ∀ b' x', (m.put b (some ⟨blit x.cells off cs, x.own⟩)).get b' = some x' → ∃ x'', m.get b' = some x'' ∧ x''.own = x'.own := by
      intro b' x' hx
      rw [Mem.get_put] at hx
      split at hx
      · rename_i e
        cases hx
        exact ⟨x, by rw [e]; exact hg, rfl⟩
      · exact ⟨x', hx, rfl⟩
    obtain ⟨y1, p1, p2⟩ := hget b1 x1 h1
    obtain ⟨y2, p3, p4⟩ := hget b2 x2 h3
    exact hm.excl b1 y1 b2 y2 l1 l2 p1 (by rw [p2]; exact h2) p3 h4 h5 h6

end
end Go.DI
