/-
  'lowestLaw' of the program.
-/
import Derived.Test.YtkpifdkccdndcaaGreatOwn
namespace Go.Big
structure LawD where
  name : ByteArray
  s : List Fr
  rs : List (List Fr)
  e : List Fr
end Go.Big
namespace Go.Proofs.YtkpifdkccdndcaaGreat
open Go Go.DI Go.Big
set_option linter.unusedSimpArgs false
set_option linter.unusedVariables false

def lawR (q : Rp Fr) : Rp LawD := ⟨4, fun m cs x => ∃ vs vr ve, cs = [.string x.name, vs, vr, ve] ∧ q.S m vs x.s ∧ q.list.S m vr x.rs ∧ q.S m ve x.e, fun _ _ _ ⟨_, _, _, h, _⟩ => by rw [h]; rfl,
  fun _ _ _ _ hs ⟨a, b, c, h, h1, h2, h3⟩ => ⟨a, b, c, h, h1.mono hs, h2.mono hs, h3.mono hs⟩⟩
def lowLaw (x : LawD) : LawD := ⟨x.name, x.s.map redF, x.rs.map (·.map redF), x.e.map redF⟩
theorem clz : (cfRp.list).z = 1 := rfl
theorem one_row {w : Value} : [w] = [w] := rfl

set_option maxHeartbeats 8000000 in
theorem lowlaw_loop {m : Mem} {vr : Value} {rs : List (List Fr)} (hv : frRp.list.S m vr rs) (hlen : rs.length < 1000000) (hrb : ∀ row ∈ rs, row.length < 1000000) {c3 c2 lo : Nat} {nm : ByteArray} {r1 r2 p1 : Value} {Z : Blk} (hlo : c3 < lo) (hlo2 : c2 < lo) (hm3 : m.next ≤ c3) (hm2 : m.next ≤ c2) (hne : c2 ≠ c3) {f0 : Mem} {Q : IExit → Slots → Mem → Prop} : ∀ (l2 : List (List Fr)) (i : Nat) (acc : List (List Fr)) (u : Value) (fr mm : Mem) (σ : Slots), rs.drop i = l2 → i + l2.length = rs.length → acc.length = i → Old m mm → Part fr mm → Sub m fr → Sub f0 fr → fr.get c3 = none → fr.get c2 = none → lo ≤ mm.next → mm.get c3 = some ⟨[.string nm, r1, u, r2], true⟩ → mm.get c2 = some Z → OL cfRp.list lo fr mm u acc →
    σ 1 = p1 → σ 2 = ptr c2 → σ 3 = ptr c3 → σ 16 = vr → σ 17 = I rs.length → σ 18 = I i →
    (∀ σ' m' fr' u, Old m m' → Part fr' m' → Sub f0 fr' → fr'.get c2 = none → m'.get c3 = some ⟨[.string nm, r1, u, r2], true⟩ → m'.get c2 = some Z → OL cfRp.list lo fr' m' u (acc ++ l2.map (·.map redF)) → σ' 2 = ptr c2 → σ' 3 = ptr c3 → Q (.exit 0) σ' m') →
    WP Tryz.prog (.loop ir67_l0) σ mm Q := by
  intro l2
  induction l2 with
  | nil =>
    intro i acc u fr mm σ hd hi ha ho hp hs hs0 n3 n2 hlm g3 g2 hO s1 s2 s3 s16 s17 s18 hQ
    refine wp_round fun J hJ => ?_
    have e : i = rs.length := by simpa using hi
    subst e
    simp (disch := first | omega | (simp only [zqp, zqq]; omega)) [ir67_l0, ir67_k1, ir67_k2, ir67_k3, ir67_k4, ir67_k5, s1, s2, s3, s16, s17, s18, zqa, zqb, zqc, zqd, zqe, zqf, zqg, zqh, zqi, zqj, zqk, u64b, u32b, zql, zqm, zqn, zqo, -zqu, -isSl, -zqs, -zqt, -zqv, -zqr]
    exact hQ _ _ fr u ho hp hs0 n2 g3 g2 (by simpa using hO) (by simp [s2]) (by simp [s3])
  | cons row l2 ih =>
    intro i acc u fr mm σ hd hi ha ho hp hs hs0 n3 n2 hlm g3 g2 hO s1 s2 s3 s16 s17 s18 hQ
    refine wp_round fun J hJ => ?_
    have hx : rs[i]? = some row := by rw [← List.head?_drop, hd]; rfl
    have hd' : rs.drop (i + 1) = l2 := by rw [← List.tail_drop, hd]; rfl
    simp only [List.length_cons] at hi
    obtain ⟨h1, h2, h3, h4⟩ := hv.len
    replace h3 : zqs 1 vr = true := h3
    have q0 : (i : Int) < rs.length := by omega
    have w0 : IntKind.i64.wrap ((i : Int) + 1) = (i : Int) + 1 := i64_id (by omega) (by omega)
    obtain ⟨w, b1, b2, hrw⟩ := Rp.S.load1 rfl hv (Sub.of_old ho) hx
    have hl3 := get_lt g3
    have hl2' := get_lt g2
    obtain ⟨p, a, c, hu⟩ : ∃ p a c, u = .slice p a c := by
      rcases hO with ⟨rfl, _⟩ | ⟨_, _, _, rfl, _⟩ <;> exact ⟨_, _, _, rfl⟩
    simp (disch := first | omega | (simp only [zqp, zqq]; omega)) [ir67_l0, ir67_k1, ir67_k2, ir67_k3, ir67_k4, ir67_k5, s1, s2, s3, s16, s17, s18, q0, h1, h2, h3, b1, b2, g3, zqa, zqb, zqc, zqd, zqe, zqf, zqg, zqh, zqi, zqj, zqk, u64b, u32b, zql, zqm, zqn, zqo, -zqu, -isSl, -zqs, -zqt, -zqv, -zqr]
    have e0 := hp.next
    have pM : Part (fr.bump 8) (mm.bump 8) := hp.bump 8
    have sM : Sub fr (fr.bump 8) := Sub.bump fr 8
    have nM : ∀ b, fr.get b = none → (fr.bump 8).get b = none := fun b hb => by rw [Mem.zqn]; exact hb
    have oM : Old mm (mm.bump 8) := (Old.refl mm).bump 8
    refine (call_part pM (lows_wp (hrw.mono (hs.trans sM)) (hrb row (List.mem_of_getElem? hx))) (fun r p h => h.1)).mono fun r m2 hp2 => ?_
    obtain ⟨fr2, ⟨_, hr⟩, p2, o2, s2', n2'⟩ := hp2
    obtain ⟨pr, nr, cr, rfl⟩ := Rp.S.form hr
    refine callK_mk o2 (fun p hp b hb => by simp at hp; rcases hp with rfl; simp [blkOf] at hb; simp; omega) ?_
    have hO2 := (hO.mono sM oM (fun b hb hn => nM b hn)).mono s2' o2 n2'
    have hn2 := o2.next
    simp only [zqq] at hn2
    have e2 := p2.next
    have g32 := o2.some (oM.some g3)
    have g22 := o2.some (oM.some g2)
    have hl32 := get_lt g32
    have f4 : fr2.get (mm.next + 4) = none := n2' _ (by simp) (by rw [← e0]; exact fresh_bump)
    have f5 : fr2.get (mm.next + 5) = none := n2' _ (by simp) (by rw [← e0]; exact fresh_bump)
    have f3 : fr2.get c3 = none := n2' _ (by simp; omega) (nM _ n3)
    have f2 : fr2.get c2 = none := n2' _ (by simp; omega) (nM _ n2)
    have om2 := (ho.trans oM).trans o2
    have hno := ho.next
    have l5 : mm.next + 5 < m2.next := by omega
    have l4 : mm.next + 4 < m2.next := by omega
    have ne1 : c3 ≠ mm.next + 5 := by omega
    have ne2 : c3 ≠ mm.next + 4 := by omega
    have ne3 : c2 ≠ mm.next + 5 := by omega
    have ne4 : c2 ≠ mm.next + 4 := by omega
    have go : ∀ (m3 : Mem) (σ' : Slots) (rows : List (List Value)), Old m m3 → Part fr2 m3 → mm.next ≤ m3.next → m3.get c3 = some ⟨[.string nm, r1, .slice (some ⟨mm.next + 5, 0, none⟩) (acc.length + 1) 1, r2], true⟩ → m3.get (mm.next + 5) = some ⟨rows.flatten, true⟩ → cfRp.list.L fr2 rows (acc ++ [row.map redF]) → (c2 ≠ c3 → m3.get c2 = some Z) → σ' 1 = p1 → σ' 2 = ptr c2 → σ' 3 = ptr c3 → σ' 16 = vr → σ' 17 = I rs.length → σ' 18 = I ((i : Int) + 1) → J σ' m3 := by
      intro m3 σ' rows o3 p3 hnn t3 t5 tL tc q1 q2 q3 q16 q17 q18
      refine hJ _ _ (ih (i + 1) (acc ++ [row.map redF]) (.slice (some ⟨mm.next + 5, 0, none⟩) (acc.length + 1) 1) fr2 m3 σ' hd' (by omega) (by simp [ha]) o3 p3 ((hs.trans sM).trans s2') ((hs0.trans sM).trans s2') f3 f2 (by omega) t3 (tc hne) (.inr ⟨mm.next + 5, rows, by omega, by simp; rfl, t5, f5, tL⟩) q1 q2 q3 q16 q17 (by simp [q18]) (fun σ9 m9 fr9 u9 k1 k2 k3 k4 k5 k6 k7 => hQ σ9 m9 fr9 u9 k1 k2 k3 k4 k5 k6 (by simpa using k7)))
    have hrow : cfRp.list.R fr2 [.slice pr nr cr] (row.map redF) := ⟨_, rfl, hr⟩
    have lim : ((acc.length : Int) + 1) * 24 ≤ 140737488355328 := by omega
    have lim2 : (acc.length + 1) * 24 ≤ 140737488355328 := by omega
    have lim3 : acc.length + 1 ≤ 9223372036854775807 := by omega
    rcases hO2 with ⟨rfl, rfl⟩ | ⟨ob, rows, b1', rfl, b3, b4, b5⟩
    · simp (disch := first | omega | (simp only [zqp, zqq]; omega)) [s1, s2, s3, s16, s17, s18, w0, l4, l5, ne1, ne2, g32, zqa, zqb, zqc, zqd, zqe, zqf, zqg, zqh, zqi, zqj, zqk, u64b, u32b, zql, zqm, zqn, zqo, -zqu, -isSl, -zqs, -zqt, -zqv, -zqr]
      refine go _ _ [[.slice pr nr cr]] ?_ ?_ (by simp; omega) (by rw [zql (by simpa using hl32)]; rfl) (by rw [zqm (by omega), zql (by simpa using l5)]; rfl) (Rp.L.nil.snoc hrow) (fun h => by rw [zqm h, zqm ne3, zqm ne4]; exact g22) (by simp [s1]) (by simp [s2]) (by simp [s3]) (by simp [s16]) (by simp [s17]) (by simp)
      · exact ((om2.put (by omega)).put (by omega)).put (by omega)
      · exact ((p2.put_out f4).put_out f5).put_out f3
    · have hfl : rows.flatten.length = acc.length * 1 := b5.flen
      rw [Nat.mul_one] at hfl
      have ltb := get_lt b3
      have hob : ob < mm.next := by
        rcases hO with ⟨h, _⟩ | ⟨ob', rows', c1, c2', c3', c4, c5⟩
        · cases h
        · simp only [Value.slice.injEq, Option.some.injEq, Addr.mk.injEq] at c2'
          have := get_lt c3'
          omega
      have nb1 : ob ≠ mm.next + 4 := by omega
      have nb2 : ob ≠ mm.next + 5 := by omega
      have nb3 : c3 ≠ ob := by omega
      have nb4 : c2 ≠ ob := by omega
      have tk : List.take acc.length rows.flatten = rows.flatten := List.take_of_length_le (by omega)
      simp (disch := first | omega | (simp only [zqp, zqq]; omega)) [s1, s2, s3, s16, s17, s18, w0, l4, l5, ne1, ne2, g32, clz, b3, hfl, nb1, nb2, nb3, lim, lim2, lim3, tk, zqa, zqb, zqc, zqd, zqe, zqf, zqg, zqh, zqi, zqj, zqk, u64b, u32b, zql, zqm, zqn, zqo, -zqu, -isSl, -zqs, -zqt, -zqv, -zqr]
      refine go _ _ (rows ++ [[.slice pr nr cr]]) ?_ ?_ (by simp; omega) (by rw [zql (by simpa using hl32)]) (by rw [zqm (by omega), zql (by simpa using l5)]; simp) ((b5.mono (Sub.refl _)).snoc hrow) (fun h => by rw [zqm h, zqm ne3, zqm nb4, zqm ne4]; exact g22) (by simp [s1]) (by simp [s2]) (by simp [s3]) (by simp [s16]) (by simp [s17]) (by simp)
      · exact (((om2.put (by omega)).put (by omega)).put (by omega)).put (by omega)
      · exact (((p2.put_out f4).put_out b4).put_out f5).put_out f3
set_option maxHeartbeats 8000000 in
theorem lowlaw_wp {m : Mem} {x : LawD} {cs : List Value} (h : (lawR frRp).R m cs x) (h1 : x.s.length < 1000000) (h2 : x.rs.length < 1000000) (h3 : x.e.length < 1000000) (hrb : ∀ row ∈ x.rs, row.length < 1000000) :
    WPCall Tryz.prog 67 [.agg cs.toArray] m fun r m' => Old m m' ∧ ∃ cs', r = .agg cs'.toArray ∧ (lawR cfRp).R m' cs' (lowLaw x) := by
  rw [call67 (by simp)]
  obtain ⟨vs, vr, ve, rfl, hs, hr, he⟩ := h
  obtain ⟨p1, a1, c1, rfl⟩ := Rp.S.form hs
  obtain ⟨p2, a2, c2, rfl⟩ := Rp.S.form hr
  obtain ⟨p3, a3, c3, rfl⟩ := Rp.S.form he
  obtain ⟨k1, k2, _, _⟩ := hr.len
  simp (disch := first | omega | (simp only [zqp, zqq]; omega)) [ir67_b, ir67_k1, ir67_k3, ir67_k4, ir67_k5, zqa, zqb, zqc, zqd, zqe, zqf, zqg, zqh, zqi, zqj, zqk, u64b, u32b, zql, zqm, zqn, zqo, -zqu, -isSl, -zqs, -zqt, -zqv, -zqr]
  obtain ⟨mm, hmm⟩ : ∃ mm, mm = (((m.bump 2).put m.next (some ⟨[.string x.name, .slice p1 a1 c1, .slice p2 a2 c2, .slice p3 a3 c3], true⟩)).put (m.next + 1) (some ⟨[.string ⟨#[]⟩, .slice none 0 0, .slice none 0 0, .slice none 0 0], true⟩)).bump 11 := ⟨_, rfl⟩
  rw [← hmm]
  have om : Old m mm := by rw [hmm]; exact ((((Old.refl m).bump 2).put (by omega)).put (by omega)).bump 11
  have hn : mm.next = m.next + 13 := by rw [hmm]; simp
  have pm : Part ((m.bump 2).bump 11) mm := by rw [hmm]; exact (((((Part.refl m).bump 2).put_out (fresh_bump (j := 0))).put_out fresh_bump).bump 11)
  have sm : Sub m ((m.bump 2).bump 11) := (Sub.bump m 2).trans (Sub.bump _ 11)
  have fr0 : ∀ b, m.next ≤ b → ((m.bump 2).bump 11).get b = none := fun b hb => by rw [Mem.zqn, Mem.zqn, get_none hb]
  have g0 : mm.get m.next = some ⟨[.string x.name, .slice p1 a1 c1, .slice p2 a2 c2, .slice p3 a3 c3], true⟩ := by rw [hmm, Mem.zqn, zqm (by omega), zql (by simp)]
  have gz : mm.get (m.next + 1) = some ⟨[.string ⟨#[]⟩, .slice none 0 0, .slice none 0 0, .slice none 0 0], true⟩ := by rw [hmm, Mem.zqn, zql (by simp)]
  refine (call_part pm (lows_wp (hs.mono sm) h1) (fun r p h => h.1)).mono fun r1 m1 hp1 => ?_
  obtain ⟨f1, ⟨_, hr1⟩, pt1, o1, s1, n1⟩ := hp1
  obtain ⟨q1, d1, e1, rfl⟩ := Rp.S.form hr1
  have g01 := o1.some g0
  have gz1 := o1.some gz
  have hn1 := o1.next
  refine callK_mk o1 (fun p hp b hb => by simp at hp; rcases hp with rfl | rfl <;> simp [blkOf] at hb <;> omega) ?_
  simp (disch := first | omega | (simp only [zqp, zqq]; omega)) [g01, zqa, zqb, zqc, zqd, zqe, zqf, zqg, zqh, zqi, zqj, zqk, u64b, u32b, zql, zqm, zqn, zqo, -zqu, -isSl, -zqs, -zqt, -zqv, -zqr]
  refine (call_part pt1 (lows_wp ((he.mono sm).mono s1) h3) (fun r p h => h.1)).mono fun r2 m2 hp2 => ?_
  obtain ⟨f2, ⟨_, hr2⟩, pt2, o2, s2, n2⟩ := hp2
  obtain ⟨q2, d2, e2, rfl⟩ := Rp.S.form hr2
  have g02 := o2.some g01
  have gz2 := o2.some gz1
  have hn2 := o2.next
  refine callK_mk o2 (fun p hp b hb => by simp at hp; rcases hp with rfl; simp [blkOf] at hb; omega) ?_
  have lt3 : m.next + 2 + 9 < m2.next := by omega
  have ff : ∀ b, m.next ≤ b → b < m.next + 13 → f2.get b = none := fun b hb hb' => n2 b (by omega) (n1 b (by omega) (fr0 b hb))
  simp (disch := first | omega | (simp only [zqp, zqq]; omega)) [g02, zqa, zqb, zqc, zqd, zqe, zqf, zqg, zqh, zqi, zqj, zqk, u64b, u32b, zql, zqm, zqn, zqo, -zqu, -isSl, -zqs, -zqt, -zqv, -zqr]
  obtain ⟨M, hM⟩ : ∃ M, M = m2.put (m.next + 2 + 9) (some ⟨[.string x.name, .slice q1 d1 e1, .slice none 0 0, .slice q2 d2 e2], true⟩) := ⟨_, rfl⟩
  rw [← hM]
  have oM : Old m M := by rw [hM]; exact ((om.trans o1).trans o2).put (by omega)
  have pM : Part f2 M := by rw [hM]; exact pt2.put_out (ff _ (by omega) (by omega))
  have g0M : M.get m.next = some ⟨[.string x.name, .slice p1 a1 c1, .slice p2 a2 c2, .slice p3 a3 c3], true⟩ := by rw [hM, zqm (by omega), g02]
  have gzM : M.get (m.next + 1) = some ⟨[.string ⟨#[]⟩, .slice none 0 0, .slice none 0 0, .slice none 0 0], true⟩ := by rw [hM, zqm (by omega), gz2]
  have g3M : M.get (m.next + 2 + 9) = some ⟨[.string x.name, .slice q1 d1 e1, .slice none 0 0, .slice q2 d2 e2], true⟩ := by rw [hM, zql lt3]
  have hnM : M.next = m2.next := by rw [hM]; rfl
  simp (disch := first | omega | (simp only [zqp, zqq]; omega)) [ir67_k2, ir67_k1, ir67_k3, ir67_k4, g0M, k1, k2, zqa, zqb, zqc, zqd, zqe, zqf, zqg, zqh, zqi, zqj, zqk, u64b, u32b, zql, zqm, zqn, zqo, -zqu, -isSl, -zqs, -zqt, -zqv, -zqr]
  refine lowlaw_loop (m := m) hr h2 hrb (c3 := m.next + 2 + 9) (c2 := m.next + 1) (lo := M.next) (nm := x.name) (r1 := .slice q1 d1 e1) (r2 := .slice q2 d2 e2) (p1 := ptr m.next) (by omega) (by omega) (by omega) (by omega) (by omega) (f0 := f2) x.rs 0 [] (.slice none 0 0) f2 M _ rfl (by simp) rfl oM pM ((sm.trans s1).trans s2) (Sub.refl _) (ff _ (by omega) (by omega)) (ff _ (by omega) (by omega)) (Nat.le_refl _) g3M gzM (.inl ⟨rfl, rfl⟩) (by simp) (by simp) (by simp) (by simp) (by simp [← k1]) (by simp) fun σ' m' fr' u o' p' sf n2' g3' gz' hO t2 t3 => ?_
  have hlt := get_lt gz'
  obtain ⟨pu, au, cu, rfl⟩ : ∃ p a c, u = .slice p a c := by
    rcases hO with ⟨rfl, _⟩ | ⟨_, _, _, rfl, _⟩ <;> exact ⟨_, _, _, rfl⟩
  simp (disch := first | omega | (simp only [zqp, zqq]; omega)) [t2, t3, g3', gz', ir67_k5, ir67_k1, ir67_k2, ir67_k3, ir67_k4, zqa, zqb, zqc, zqd, zqe, zqf, zqg, zqh, zqi, zqj, zqk, u64b, u32b, zql, zqm, zqn, zqo, -zqu, -isSl, -zqs, -zqt, -zqv, -zqr]
  refine ⟨o'.put (by omega), ?_⟩
  have hsub : Sub fr' (m'.put (m.next + 1) (some ⟨[.string x.name, .slice q1 d1 e1, .slice pu au cu, .slice q2 d2 e2], true⟩)) := (p'.put_out n2').sub
  refine ⟨_, _, _, rfl, (hr1.mono s2).mono (sf.trans hsub), ?_, hr2.mono (sf.trans hsub)⟩
  have hOf := hO
  rcases hOf with ⟨hu, hnil⟩ | ⟨b, rows, b1, hu, b3, b4, b5⟩
  · rw [hu, show (lowLaw x).rs = [] by simpa [lowLaw] using hnil]; exact Rp.S.nil
  · have hb : b ≠ m.next + 1 := by omega
    have := b5.slice hsub (b := b) (w := true) (by rw [zqm hb, b3])
    cases hu
    simpa [lowLaw] using this
end Go.Proofs.YtkpifdkccdndcaaGreat
