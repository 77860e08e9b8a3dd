/-
  The reference's 'reach'.
-/
import Derived.Test.YtapnkfkpkcajjaaMfU
namespace Go.Proofs.Ytapnkfkpkcajjaa
open Go Go.DI Go.Nets
set_option linter.unusedSimpArgs false
set_option linter.unusedVariables false

structure RF (n : Net) (v : Value) (fl : List Int) (fb nb bb eb lo : Nat) (me m : Mem) : Prop where
  old : Old me m
  nb : m.get nb = some ⟨netC n v, true⟩
  fb : ∃ fo, m.get fb = some ⟨fl.map (Value.int .i64 ·), fo⟩
  lo : lo ≤ m.next
structure RL (fb nb bb eb lo : Nat) (me : Mem) : Prop where
  a : me.next ≤ nb ∧ me.next ≤ bb ∧ me.next ≤ eb ∧ fb < me.next
  b : nb < lo ∧ bb < lo ∧ eb < lo ∧ me.next ≤ lo
  c : nb ≠ bb ∧ nb ≠ eb

set_option maxHeartbeats 8000000 in
set_option maxRecDepth 20000 in
theorem rreach_inner {n : Net} (hV : n.Valid) {N : Nat} (hN : n.nodes = N) {v : Value} {fl : List Int} (hfl : fl.length = n.arcs.length) {fb nb bb eb lo : Nat} {me : Mem} (hl : RL fb nb bb eb lo me) (hv : Arcs me v n.arcs) {x : Int} {Q : IExit → Slots → Mem → Prop} :
    ∀ (r i : Nat) (m : Mem) (σ : Slots) (qb off : Nat) (qc : List Value) (q : List Int) (se : Int → Bool) (byf : Int → Int), i + r = n.arcs.length → RF n v fl fb nb bb eb lo me m → lo ≤ qb → RI N bb eb qb off qc q se byf m → q.length + cntU se N ≤ 701 →
    Bfs n fl se (fun x => dec2 n.arcs.length (byf x)) (x :: q) → (∀ e : St, e.1 < i → 0 < room n fl e → stF n e = x → se (stT n e) = true) →
    σ 1 = .slice (some ⟨fb, 0, none⟩) fl.length 1 → σ 2 = ptr nb → σ 6 = .slice (some ⟨eb, 0, none⟩) N 1 → σ 7 = .slice (some ⟨bb, 0, none⟩) N 1 → σ 8 = .slice (some ⟨qb, off, none⟩) q.length 1 → σ 9 = I x → σ 10 = I i →
    (∀ σ' m' qb' off' qc' new se' byf', RF n v fl fb nb bb eb lo me m' → lo ≤ qb' → RI N bb eb qb' off' qc' (q ++ new) se' byf' m' → new.length + cntU se' N = cntU se N → Bfs n fl se' (fun x => dec2 n.arcs.length (byf' x)) (x :: (q ++ new)) → (∀ e : St, e.1 < n.arcs.length → 0 < room n fl e → stF n e = x → se' (stT n e) = true) →
      (∀ t, t < 8 → σ' t = σ t) → σ' 8 = .slice (some ⟨qb', off', none⟩) (q ++ new).length 1 → Q (.exit 2) σ' m') → WP Try.prog (.loop ir46_l0) σ m Q
  | 0, i, m, σ, qb, off, qc, q, se, byf, hi, hF, hqb, hR, hql, hB, hd, s1, s2, s6, s7, s8, s9, s10, hQ => by
    refine wp_round fun J hJ => ?_
    have h1 : ¬ i < n.arcs.length := by omega
    have gn := hF.nb
    obtain ⟨hlen, hsl⟩ := hv.len
    simp (disch := first | omega | (simp only [next_put, next_bump]; omega)) [ir46_l0_n, s2, s10, gn, hlen, hsl, h1, get_put_self, get_put_ne, get_bump, put_put, -lenOfV, -isSl]
    exact hQ _ _ qb off qc [] se byf hF hqb (by simpa using hR) (by simp) (by simpa using hB) (fun e he => hd e (by omega)) (fun t ht => by simp (disch := omega) only [upd_ne]) (by simp [s8])
  | r + 1, i, m, σ, qb, off, qc, q, se, byf, hi, hF, hqb, hR, hql, hB, hd, s1, s2, s6, s7, s8, s9, s10, hQ => by
    refine wp_round fun J hJ => ?_
    have h1 : i < n.arcs.length := by omega
    obtain ⟨a, ha⟩ : ∃ a, n.arcs[i]? = some a := ⟨n.arcs[i]'h1, by simp⟩
    obtain ⟨φ, hφ⟩ : ∃ φ, fl[i]? = some φ := ⟨fl[i]'(by omega), by simp⟩
    obtain ⟨hla1, hla2, hla3, hla4⟩ := hl.a
    obtain ⟨hlb1, hlb2, hlb3, hlb4⟩ := hl.b
    obtain ⟨hlc1, hlc2⟩ := hl.c
    have hF' := hF
    obtain ⟨hold, gn, ⟨fo, gf⟩, hlo⟩ := hF'
    have hlenv := hv.len
    obtain ⟨c, o, rfl, hc⟩ := hv.blk h1
    have gc := hold.some hc
    have hb4 : i * 4 + 4 ≤ n.arcs.length * 4 := by omega
    have c4 := arcs_at ha
    have lc := get_lt gc
    have lf := get_lt gf
    have w0 : IntKind.i64.wrap ((i : Int) + 1) = (i : Int) + 1 := i64_id (by have := hV.al; omega) (by have := hV.al; omega)
    simp (disch := first | omega | (simp only [next_put, next_bump]; omega)) [ir46_l0_n, s2, s10, gn, gc, h1, hb4, c4, arcC, get_put_self, get_put_ne, get_bump, put_put]
    have old1 : ∀ b y, m.get b = some y → ((m.bump 7).put (m.next + 5) (some ⟨[I a.f, I a.t, I a.c, I a.k], true⟩)).get b = some y := fun b y hb => by
      have := get_lt hb
      rw [get_put_ne (by omega), get_bump this, hb]
    obtain ⟨rb, re, rq, rql, rqv, rn1, rn2, rn3⟩ := id hR
    have lqb := get_lt rq
    have lbb := get_lt rb
    have leb := get_lt re
    refine ir46_f_wp hV hN (fb := fb) (ab := m.next + 5) (lo := lo) ha hφ ⟨old1 _ _ rb, old1 _ _ re, old1 _ _ rq, rql, rqv, rn1, rn2, rn3⟩ hB hqb (by simp only [next_put, next_bump]; omega) (by omega) (get_put_self (by simp)) (old1 _ _ gf) (by omega) (by omega) (by omega) (by omega) (by omega) (by omega) (by simp [s1]) (by simp [s6]) (by simp [s7]) (by simp [s8]) (by simp [s9]) (by simp [s10]) (by simp) (fun σ1 m1 qb1 off1 qc1 new1 se1 byf1 e1 e2 e3 e4 e5 e6 e7 e8 e9 e10 e11 => ?_)
    simp only [next_put, next_bump] at e8 e9 e11
    simp only [thenK_normal]
    have k1 : ∀ b, b < m.next → b ≠ bb → b ≠ eb → b ≠ qb → m1.get b = m.get b := fun b hb h2 h3 h4 => by rw [e8 b (by omega) h2 h3 h4, get_put_ne (by omega), get_bump hb]
    have gn1 : m1.get nb = some ⟨netC n (.slice (some ⟨c, 0, none⟩) n.arcs.length 4), true⟩ := by rw [k1 nb (get_lt gn) hlc1 hlc2 (by omega)]; exact gn
    have gf1 : m1.get fb = some ⟨fl.map (Value.int .i64 ·), fo⟩ := by rw [k1 fb lf (by omega) (by omega) (by omega)]; exact gf
    have ga1 : m1.get (m.next + 5) = some ⟨arcC a, true⟩ := by rw [e8 _ (by omega) (by omega) (by omega) (by omega)]; exact get_put_self (by simp)
    obtain ⟨ab1, ab2, ab3, ab4, ab5, an1, an2, an3⟩ := id e3
    have hq1 : m.next + 5 ≠ qb1 := by rcases e11 with h | h <;> omega
    have hqn : qb1 < lo ∨ lo ≤ qb1 := by omega
    refine ir46_g_wp hV hN (fb := fb) (ab := m.next + 5) (lo := lo) (nb := nb) (v := .slice (some ⟨c, 0, none⟩) n.arcs.length 4) ha hφ e3 e4 e10 (by omega) (by simp; omega) ga1 gf1 (by omega) (by omega) hq1 (by omega) (by omega) (by omega) gn1 hlenv hlc2 hlc1 (by omega) (by rw [e1 1 (by omega) (by omega)]; simp [s1]) (by rw [e1 6 (by omega) (by omega)]; simp [s6]) (by rw [e1 7 (by omega) (by omega)]; simp [s7]) e2 (by rw [e1 9 (by omega) (by omega)]; simp [s9]) (by rw [e1 10 (by omega) (by omega)]; simp [s10]) (by rw [e1 11 (by omega) (by omega)]; simp) (by rw [e1 2 (by omega) (by omega)]; simp [s2]) (fun σ2 m2 qb2 off2 qc2 new2 se2 byf2 f1 f2 f3 f4 f5 f6 f7 f8 f9 f10 f11 => ?_)
    have qq : ∀ t, t < 45 → t ≠ 8 → σ2 t = σ1 t := fun t ht h8 => f1 t (by omega) h8
    have q10 : σ2 10 = I i := by rw [qq 10 (by omega) (by omega), e1 10 (by omega) (by omega)]; simp [s10]
    have ql : ∀ t, t < 8 → σ2 t = σ t := fun t ht => by
      rw [qq t (by omega) (by omega), e1 t (by omega) (by omega)]; simp (disch := omega) only [upd_ne]
    have q9 : σ2 9 = I x := by rw [qq 9 (by omega) (by omega), e1 9 (by omega) (by omega)]; simp [s9]
    simp (disch := first | omega | (simp only [next_put, next_bump]; omega)) [q10, w0, get_put_self, get_put_ne, get_bump, put_put]
    have hF2 : RF n (.slice (some ⟨c, 0, none⟩) n.arcs.length 4) fl fb nb bb eb lo me m2 := by
      refine ⟨⟨by have := hold.next; omega, fun b hb => ?_⟩, ?_, ⟨fo, ?_⟩, by omega⟩
      · have := hold.next
        rw [f8 b (by omega) (by omega) (by omega) (by omega), k1 b (by omega) (by omega) (by omega) (by omega)]; exact hold.get b hb
      · rw [f8 nb (by have := get_lt gn1; omega) hlc1 hlc2 (by omega)]; exact gn1
      · rw [f8 fb (by omega) (by omega) (by omega) (by omega)]; exact gf1
    refine hJ _ _ (rreach_inner hV hN hfl hl hv r (i + 1) m2 _ qb2 off2 qc2 (q ++ new1 ++ new2) se2 byf2 (by omega) hF2 f10 f3 (by simp; omega) f4 (fun e he hr hx => ?_) (by simp [ql 1 (by omega), s1]) (by simp [ql 2 (by omega), s2]) (by simp [ql 6 (by omega), s6]) (by simp [ql 7 (by omega), s7]) (by simp [f2]) (by simp [q9]) (by simp) (fun σ' m' qb' off' qc' new' se' byf' g1 g2 g3 g4 g5 g6 g7 g8 => hQ σ' m' qb' off' qc' (new1 ++ new2 ++ new') se' byf' g1 g2 (by simpa using g3) (by simp; omega) (by simpa using g5) g6 (fun t ht => ?_) (by simpa using g8)))
    · by_cases hei : e.1 < i
      · exact f6 _ (e6 _ (hd e hei hr hx))
      · obtain ⟨j, bo⟩ := e
        simp only at he hei
        obtain rfl : j = i := by omega
        cases bo
        · exact f7 hr hx
        · exact f6 _ (e7 hr hx)
    · rw [g7 t ht]; simp (disch := omega) only [upd_ne]; exact ql t ht
end Go.Proofs.Ytapnkfkpkcajjaa
