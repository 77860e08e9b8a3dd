/-
  Lists that a function appends to; the part of the memory that is left alone ('fr').
-/
import Derived.Test.YtkpifdkccdndcaaGreatFlGI
namespace Go.DI
section
variable {fr m fr' m' : Mem} {b k : Nat}
theorem Part.bump (h : Part fr m) (k : Nat) : Part (fr.bump k) (m.bump k) := ⟨by simp [h.next], h.mp, fun b x hb => by
  rw [Mem.zqn] at hb ⊢; exact h.get b x hb⟩
/-- a block that the part does not hold is turned -/
theorem Part.put_out (h : Part fr m) (hb : fr.get b = none) {x : Option Blk} : Part fr (m.put b x) := ⟨h.next, h.mp, fun c y hc => by
  rw [zqm (fun e => by subst e; rw [hb] at hc; cases hc)]; exact h.get c y hc⟩
theorem Sub.bump' (h : Sub fr fr') (k : Nat) : Sub fr (fr'.bump k) := h.trans (Sub.bump _ k)
end
end Go.DI
namespace Go.Proofs.YtkpifdkccdndcaaGreat
open Go Go.DI Go.Big
set_option linter.unusedSimpArgs false
set_option linter.unusedVariables false

section
variable {fr m fr' m' : Mem} {b k : Nat}
theorem fresh_bump {k j : Nat} : (fr.bump k).get (fr.next + j) = none := by rw [Mem.zqn, get_none (by omega)]
/-- a call in the part: what lies outside is left alone -/
theorem call_part {P : Program} {f : Nat} {args : List Value} {Φ : Value → Mem → Prop} (hp : Part fr m) (h : WPCall P f args fr Φ) (ho : ∀ r p, Φ r p → Old fr p) :
    WPCall P f args m fun r m' => ∃ fr', Φ r fr' ∧ Part fr' m' ∧ Old m m' ∧ Sub fr fr' ∧ ∀ b, b < m.next → fr.get b = none → fr'.get b = none := by
  refine (WPCall.frame hp h).mono fun r m' hq => ?_
  obtain ⟨fr', hr, R⟩ := hq
  have o := ho _ _ hr
  refine ⟨fr', hr, R.part, ⟨R.next, fun b hb => ?_⟩, Sub.of_old o, fun b hb hn => (R.out b hb hn).2.1⟩
  cases hg : fr.get b with
  | none => exact (R.out b hb hg).1
  | some x => rw [R.part.get _ _ (o.some hg), hp.get _ _ hg]
end
/-- a list of rows of one's own: nil, or the whole of a block outside the part -/
def OL {α : Type} (r : Rp α) (lo : Nat) (fr m : Mem) (v : Value) (l : List α) : Prop :=
  (v = .slice none 0 0 ∧ l = []) ∨ ∃ b rows, lo ≤ b ∧ v = .slice (some ⟨b, 0, none⟩) l.length r.z ∧ m.get b = some ⟨rows.flatten, true⟩ ∧ fr.get b = none ∧ r.L fr rows l
section
variable {α : Type} {r : Rp α} {lo : Nat} {fr m fr' m' : Mem} {v : Value} {l : List α}
theorem OL.nil : OL r lo fr m (.slice none 0 0) [] := .inl ⟨rfl, rfl⟩
theorem OL.mono (h : OL r lo fr m v l) (hs : Sub fr fr') (ho : Old m m') (hn : ∀ b, b < m.next → fr.get b = none → fr'.get b = none) : OL r lo fr' m' v l := by
  rcases h with h | ⟨b, rows, h1, h2, h3, h4, h5⟩
  · exact .inl h
  · exact .inr ⟨b, rows, h1, h2, ho.some h3, hn b (get_lt h3) h4, h5.mono hs⟩
/-- read as a slice -/
theorem OL.slice (h : OL r lo fr m v l) (hp : Part fr m) : r.S m v l := by
  rcases h with ⟨rfl, rfl⟩ | ⟨b, rows, h1, rfl, h3, h4, h5⟩
  · exact Rp.S.nil
  · exact h5.slice hp.sub h3
theorem OL.len (h : OL r lo fr m v l) : zqu v = l.length ∧ isSl v = true ∧ zqr v = l.length := by
  rcases h with ⟨rfl, rfl⟩ | ⟨b, rows, h1, rfl, h3, h4, h5⟩ <;> exact ⟨rfl, rfl, rfl⟩
end
/-- canonical fractions -/
def cfRp : Rp Fr := ⟨3, fun m cs x => ∃ a b, cs = [.bool x.neg, a, b] ∧ Sl m a (digs x.n) ∧ Sl m b (digs x.d), fun _ _ _ ⟨_, _, h, _⟩ => by rw [h]; rfl, fun _ _ _ _ hs ⟨a, b, h, h1, h2⟩ => ⟨a, b, h, h1.sub' hs, h2.sub' hs⟩⟩
theorem cfz : cfRp.z = 3 := rfl
def redF (x : Fr) : Fr := (reduceE x).2

set_option maxHeartbeats 8000000 in
theorem lows_loop {m : Mem} {v : Value} {ls : List Fr} (hv : frRp.S m v ls) (hlen : ls.length < 1000000) {Q : IExit → Slots → Mem → Prop} : ∀ (l2 : List Fr) (i : Nat) (acc : List Fr) (u : Value) (fr mm : Mem) (σ : Slots), ls.drop i = l2 → i + l2.length = ls.length → acc.length = i → Old m mm → Part fr mm → Sub m fr → OL cfRp m.next fr mm u acc →
    σ 3 = u → σ 8 = v → σ 9 = I ls.length → σ 10 = I i →
    (∀ σ' m' fr' u, Old m m' → Part fr' m' → Sub m fr' → OL cfRp m.next fr' m' u (acc ++ l2.map redF) → σ' 3 = u → Q (.exit 0) σ' m') →
    WP Tryz.prog (.loop ir68_l0) σ mm Q := by
  intro l2
  induction l2 with
  | nil =>
    intro i acc u fr mm σ hd hi ha ho hp hs hO s3 s8 s9 s10 hQ
    refine wp_round fun J hJ => ?_
    have e : i = ls.length := by simpa using hi
    subst e
    simp (disch := first | omega | (simp only [zqp, zqq]; omega)) [ir68_l0, ir68_k1, ir68_k2, ir68_k3, ir68_k4, ir68_k5, ir68_k6, s3, s8, s9, s10, zqa, zqb, zqc, zqd, zqe, zqf, zqg, zqh, zqi, zqj, zqk, u64b, u32b, zql, zqm, zqn, zqo, -zqu, -isSl, -zqs, -zqt, -zqv, -zqr]
    exact hQ _ _ fr u ho hp hs (by simpa using hO) (by simp [s3])
  | cons x l2 ih =>
    intro i acc u fr mm σ hd hi ha ho hp hs hO s3 s8 s9 s10 hQ
    refine wp_round fun J hJ => ?_
    have hx : ls[i]? = some x := by rw [← List.head?_drop, hd]; rfl
    have hd' : ls.drop (i + 1) = l2 := by rw [← List.tail_drop, hd]; rfl
    simp only [List.length_cons] at hi
    obtain ⟨h1, h2, h3, h4⟩ := hv.len
    replace h3 : zqs 3 v = true := h3
    have q0 : (i : Int) < ls.length := by omega
    have w0 : IntKind.i64.wrap ((i : Int) + 1) = (i : Int) + 1 := i64_id (by omega) (by omega)
    obtain ⟨q, a, c, q', a', c', a1, a2, hxv⟩ := frRp.load hv ((Sub.of_old ho).trans (Sub.bump mm 4)) hx
    simp (disch := first | omega | (simp only [zqp, zqq]; omega)) [ir68_l0, ir68_k1, ir68_k2, ir68_k3, ir68_k4, ir68_k5, ir68_k6, s3, s8, s9, s10, q0, h1, h2, h3, a1, a2, zqa, zqb, zqc, zqd, zqe, zqf, zqg, zqh, zqi, zqj, zqk, u64b, u32b, zql, zqm, zqn, zqo, -zqu, -isSl, -zqs, -zqt, -zqv, -zqr]
    obtain ⟨M, hM⟩ : ∃ M, M = ((mm.bump 4).put (mm.next + 2) (some ⟨[.bool x.neg, .slice q a c, .slice q' a' c'], true⟩)).bump 8 := ⟨_, rfl⟩
    rw [← hM]
    have oM : Old mm M := by rw [hM]; exact (((Old.refl mm).bump 4).put (by omega)).bump 8
    have hnM : M.next = mm.next + 12 := by rw [hM]; simp
    have e0 := hp.next
    have pM : Part ((fr.bump 4).bump 8) M := by rw [hM]; exact ((hp.bump 4).put_out (by rw [← e0]; exact fresh_bump)).bump 8
    have sM : Sub fr ((fr.bump 4).bump 8) := (Sub.bump fr 4).trans (Sub.bump _ 8)
    have nM : ∀ b, fr.get b = none → ((fr.bump 4).bump 8).get b = none := fun b hb => by rw [Mem.zqn, Mem.zqn]; exact hb
    refine (call_part pM (reduce_wp (hxv.sub (hs.trans sM))) (fun r p h => h.1)).mono fun r1 m2 hp2 => ?_
    obtain ⟨fr2, ⟨_, q1, rfl, hq1⟩, p2, o2, s2, n2⟩ := hp2
    obtain ⟨u1, u2, u3, u4, u5, u6, rfl⟩ := hq1.form
    have hO2 := (hO.mono sM oM (fun b hb hn => nM b hn)).mono s2 o2 n2
    obtain ⟨id6, hid6⟩ : ∃ id6, id6 = mm.next + 4 + 5 := ⟨_, rfl⟩
    have f6 : fr2.get id6 = none := n2 id6 (by omega) (nM _ (get_none (by rw [e0]; omega)))
    have hn2 := o2.next
    have hno := ho.next
    have e2 := p2.next
    have lt6 : id6 < m2.next := by omega
    have go : ∀ (m3 : Mem) (σ' : Slots), Old m m3 → Part (fr2.bump 5) m3 → OL cfRp m.next (fr2.bump 5) m3 (.slice (some ⟨m2.next + 3, 0, none⟩) (acc.length + 1) 3) (acc ++ [redF x]) → σ' 3 = .slice (some ⟨m2.next + 3, 0, none⟩) (acc.length + 1) 3 → σ' 8 = v → σ' 9 = I ls.length → σ' 10 = I ((i : Int) + 1) → J σ' m3 := by
      intro m3 σ' o3 p3 hO3 t3 t8 t9 t10
      exact hJ _ _ (ih (i + 1) (acc ++ [redF x]) _ (fr2.bump 5) m3 σ' hd' (by omega) (by simp [ha]) o3 p3 (((hs.trans sM).trans s2).trans (Sub.bump _ 5)) hO3 t3 t8 t9 (by simp [t10]) (fun σ9 m9 fr9 u9 k1 k2 k3 k4 k5 => hQ σ9 m9 fr9 u9 k1 k2 k3 (by simpa using k4) k5))
    have om2 := (ho.trans oM).trans o2
    have hrow : cfRp.R (fr2.bump 5) [.bool (reduceE x).2.neg, .slice u1 u2 u3, .slice u4 u5 u6] (redF x) := by
      obtain ⟨a9, b9, h9, h9a, h9b⟩ := hq1
      simp only [Value.agg.injEq, Array.mk.injEq, List.cons.injEq, and_true, true_and] at h9
      obtain ⟨rfl, rfl⟩ := h9
      exact ⟨_, _, rfl, h9a.sub' (Sub.bump _ 5), h9b.sub' (Sub.bump _ 5)⟩
    have lim : ((acc.length : Int) + 1) * 56 ≤ 140737488355328 := by omega
    have lim2 : (acc.length + 1) * 56 ≤ 140737488355328 := by omega
    have lim3 : acc.length + 1 ≤ 9223372036854775807 := by omega
    rcases hO2 with ⟨rfl, rfl⟩ | ⟨ob, rows, b1, rfl, b3, b4, b5⟩
    · simp (disch := first | omega | (simp only [zqp, zqq]; omega)) [← hid6, s3, s8, s9, s10, w0, lt6, zqa, zqb, zqc, zqd, zqe, zqf, zqg, zqh, zqi, zqj, zqk, u64b, u32b, zql, zqm, zqn, zqo, -zqu, -isSl, -zqs, -zqt, -zqv, -zqr]
      refine go _ _ ?_ ?_ ?_ (by simp) (by simp [s8]) (by simp [s9]) (by simp)
      · exact (((om2.put (by omega)).bump 5).put (by omega)).put (by omega)
      · exact ((((p2.put_out f6).bump 5).put_out (by rw [← e2]; exact fresh_bump)).put_out (by rw [← e2]; exact fresh_bump))
      · refine .inr ⟨m2.next + 3, [[.bool (reduceE x).2.neg, .slice u1 u2 u3, .slice u4 u5 u6]], by omega, by simp; rfl, by rw [zql (by simp)]; rfl, by rw [← e2]; exact fresh_bump, Rp.L.nil.snoc hrow⟩
    · have hfl : rows.flatten.length = acc.length * 3 := b5.flen
      have ltb := get_lt b3
      have ne1 : ob ≠ id6 := fun e => by
        have := (hO.mono sM oM (fun b hb hn => nM b hn))
        subst e
        rcases hO with ⟨h, _⟩ | ⟨ob', rows', c1, c2, c3, c4, c5⟩
        · cases h
        · simp at c2
          rw [← c2] at c3
          have := get_lt c3
          omega
      have tk : List.take (acc.length * 3) rows.flatten = rows.flatten := List.take_of_length_le (by omega)
      simp (disch := first | omega | (simp only [zqp, zqq]; omega)) [← hid6, s3, s8, s9, s10, w0, lt6, cfz, b3, hfl, ne1, lim, lim2, lim3, tk, zqa, zqb, zqc, zqd, zqe, zqf, zqg, zqh, zqi, zqj, zqk, u64b, u32b, zql, zqm, zqn, zqo, -zqu, -isSl, -zqs, -zqt, -zqv, -zqr]
      refine go _ _ ?_ ?_ ?_ (by simp) (by simp [s8]) (by simp [s9]) (by simp)
      · exact ((((om2.put (by omega)).bump 5).put (by omega)).put (by omega)).put (by omega)
      · exact (((((p2.put_out f6).bump 5).put_out (by rw [← e2]; exact fresh_bump)).put_out (by rw [Mem.zqn]; exact b4)).put_out (by rw [← e2]; exact fresh_bump))
      · refine .inr ⟨m2.next + 3, rows ++ [[.bool (reduceE x).2.neg, .slice u1 u2 u3, .slice u4 u5 u6]], by omega, by simp; rfl, by rw [zql (by simp)]; simp, by rw [← e2]; exact fresh_bump, (b5.mono (Sub.bump _ 5)).snoc hrow⟩
theorem lows_wp {m : Mem} {v : Value} {ls : List Fr} (hv : frRp.S m v ls) (hlen : ls.length < 1000000) : WPCall Tryz.prog 68 [v] m fun r m' => Old m m' ∧ cfRp.S m' r (ls.map redF) := by
  rw [call68 (by simp)]
  obtain ⟨h1, h2, h3, h4⟩ := hv.len
  simp (disch := first | omega | (simp only [zqp, zqq]; omega)) [ir68_b, ir68_k1, ir68_k2, ir68_k3, ir68_k4, ir68_k5, ir68_k6, h1, h2, zqa, zqb, zqc, zqd, zqe, zqf, zqg, zqh, zqi, zqj, zqk, u64b, u32b, zql, zqm, zqn, zqo, -zqu, -isSl, -zqs, -zqt, -zqv, -zqr]
  refine lows_loop hv hlen ls 0 [] (.slice none 0 0) m m _ rfl (by simp) rfl (Old.refl m) (Part.refl m) (Sub.refl m) (.inl ⟨rfl, rfl⟩) (by simp) (by simp) (by simp [h1]) (by simp) fun σ' m' fr' u o p s hO q3 => ?_
  simp (disch := first | omega | (simp only [zqp, zqq]; omega)) [q3, zqa, zqb, zqc, zqd, zqe, zqf, zqg, zqh, zqi, zqj, zqk, u64b, u32b, zql, zqm, zqn, zqo, -zqu, -isSl, -zqs, -zqt, -zqv, -zqr]
  exact ⟨o, by simpa using hO.slice p⟩
end Go.Proofs.YtkpifdkccdndcaaGreat
