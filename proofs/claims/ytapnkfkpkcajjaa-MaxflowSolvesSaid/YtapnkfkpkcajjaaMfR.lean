/-
  'MaxflowTurned'.
-/
import Derived.Test.YtapnkfkpkcajjaaMfP
import Derived.Test.YtapnkfkpkcajjaaMfQ
import Derived.Test.YtapnkfkpkcajjaaIrB
namespace Go.Proofs.Ytapnkfkpkcajjaa
open Go Go.DI Go.Nets
set_option linter.unusedSimpArgs false
set_option linter.unusedVariables false

theorem get_bump_none {m : Mem} {b k : Nat} (h : m.next ≤ b) : (m.bump k).get b = none := by
  have : ¬ b < m.next := by omega
  simp [Mem.get, Mem.bump, this]
theorem Arcs.put_free {m : Mem} {v : Value} {l : List Arc} (h : Arcs m v l) {q : Nat} (hq : m.get q = none) (x : Option Blk) : Arcs (m.put q x) v l := by
  rcases h with h | ⟨b, o, h1, h2⟩
  · exact .inl h
  · refine .inr ⟨b, o, h1, ?_⟩
    rw [get_put_ne]; exact h2
    intro e; rw [e, hq] at h2; cases h2
theorem ByteS.bump {m : Mem} {v : Value} {l : List Int} (h : ByteS m v l) (k : Nat) : ByteS (m.bump k) v l := h.mono ((Old.refl m).bump k)
theorem aw_wp (m : Mem) (K : Value → Mem → Prop) (hK : ∀ m', K (.bool true) m') : WPCall Try.prog 16 [] m K := (awake_wp m).mono fun r m' hp => by obtain ⟨rfl, _⟩ := hp; exact hK m'

set_option maxHeartbeats 8000000 in
set_option maxRecDepth 20000 in
theorem turn_loop {n : Net} (hl : n.arcs.length ≤ 2500) {v : Value} {nb mb : Nat} {m0 : Mem} (h2 : nb < m0.next) (h3 : mb < m0.next) (h4 : nb ≠ mb) (hn : m0.get nb = some ⟨netC n v, true⟩) (hv : Arcs m0 v n.arcs) (hvb : ∀ b l c, v = .slice (some ⟨b, 0, none⟩) l c → b < m0.next ∧ b ≠ mb) {x y z : Int} {Q : IExit → Slots → Mem → Prop} :
    ∀ (r : Nat) (m : Mem) (σ : Slots) (av : Value), r ≤ n.arcs.length → m0.next ≤ m.next → (∀ b, b < m0.next → b ≠ mb → m.get b = m0.get b) → m.get mb = some ⟨[I x, I y, I z, av], true⟩ → OwnA m av ((n.arcs.drop r).reverse.map turnA) m0.next →
    σ 3 = ptr nb → σ 4 = ptr mb → σ 5 = I ((r : Int) - 1) →
    (∀ σ' m' av', m0.next ≤ m'.next → (∀ b, b < m0.next → b ≠ mb → m'.get b = m0.get b) → m'.get mb = some ⟨[I x, I y, I z, av'], true⟩ → OwnA m' av' (n.arcs.reverse.map turnA) m0.next → σ' 3 = ptr nb → σ' 4 = ptr mb → Q (.exit 0) σ' m') → WP Try.prog (.loop ir8_l0) σ m Q
  | 0, m, σ, av, hr, hlo, hold, hm, hav, s3, s4, s5, hQ => by
    refine wp_round fun J hJ => ?_
    have k1 : ¬ (0 : Int) ≤ ((0 : Nat) : Int) - 1 := by omega
    simp (disch := first | omega | (simp only [next_put, next_bump]; omega)) [ir8_l0, s5, get_put_self, get_put_ne, get_bump, put_put]
    exact hQ _ _ av hlo hold hm (by simpa using hav) (by simp [s3]) (by simp [s4])
  | r + 1, m, σ, av, hr, hlo, hold, hm, hav, s3, s4, s5, hQ => by
    refine wp_round fun J hJ => ?_
    have hlt : r < n.arcs.length := by omega
    obtain ⟨a, ha⟩ : ∃ a, n.arcs[r]? = some a := ⟨n.arcs[r]'hlt, by simp⟩
    have hdrop : n.arcs.drop r = a :: n.arcs.drop (r + 1) := by
      rw [List.drop_eq_getElem_cons hlt]; rw [List.getElem?_eq_getElem hlt] at ha; cases ha; rfl
    have hal : ((n.arcs.drop (r + 1)).reverse.map turnA).length = n.arcs.length - (r + 1) := by simp
    have s5' : σ 5 = I (r : Int) := by rw [s5]; congr 1; omega
    have k1 : (0 : Int) ≤ (r : Int) := by omega
    obtain ⟨c, o, rfl, hc⟩ := hv.blk hlt
    obtain ⟨hvb1, hvb2⟩ := hvb _ _ _ rfl
    have gc : m.get c = some ⟨arcsC n.arcs, o⟩ := by rw [hold c hvb1 hvb2]; exact hc
    have gn : m.get nb = some ⟨netC n (.slice (some ⟨c, 0, none⟩) n.arcs.length 4), true⟩ := by rw [hold nb h2 h4]; exact hn
    have lc := get_lt gc
    have q0b := arcs_get ha (j := 0) (by omega)
    have q1 := arcs_get ha (j := 1) (by omega)
    have q2 := arcs_get ha (j := 2) (by omega)
    rw [Nat.add_zero] at q0b
    simp only [arcC] at q0b
    simp [arcC] at q1 q2
    have q0c : (arcsC n.arcs)[r * 4]? = some (I a.f) := q0b
    have q0 : ∀ h : r * 4 < (arcsC n.arcs).length, (arcsC n.arcs)[r * 4]'h = I a.f := fun h => by
      have := q0c; rw [List.getElem?_eq_getElem h] at this; simpa using this
    have b1 : r * 4 + 1 ≤ n.arcs.length * 4 := by omega
    have b2 : r * 4 + 2 ≤ n.arcs.length * 4 := by omega
    have b3 : r * 4 + 3 ≤ n.arcs.length * 4 := by omega
    have b4 : (r : Int) < n.arcs.length := by omega
    have w0 : IntKind.i64.wrap ((r : Int) - 1) = (r : Int) - 1 := i64_id (by omega) (by omega)
    generalize hall : (n.arcs.drop (r + 1)).reverse.map turnA = al at *
    have fin : ∀ (σ' : Slots) (m' : Mem), m.next ≤ m'.next → (∀ c', c' < m.next → c' ≠ mb → (∀ bb, av = .slice (some ⟨bb, 0, none⟩) al.length 4 → c' ≠ bb) → m'.get c' = m.get c') → m'.get mb = some ⟨[I x, I y, I z, .slice (some ⟨m.next + 22, 0, none⟩) (al.length + 1) 4], true⟩ → m'.get (m.next + 22) = some ⟨arcsC al ++ [I a.t, I a.f, I a.c, I 0], true⟩ →
        σ' 3 = ptr nb → σ' 4 = ptr mb → σ' 5 = I ((r : Int) - 1) → J σ' m' := by
      intro σ' m' f1 f4 f5 f6 q3 q4 q5
      have hbb : ∀ bb, av = .slice (some ⟨bb, 0, none⟩) al.length 4 → m0.next ≤ bb := by
        intro bb hbb
        rcases hav with ⟨h, _⟩ | ⟨b', h, _, hlo'⟩
        · rw [h] at hbb; cases hbb
        · rw [h] at hbb; cases hbb; exact hlo'
      have e1 : (n.arcs.drop r).reverse.map turnA = al ++ [turnA a] := by rw [hdrop, ← hall]; simp
      refine hJ _ _ (turn_loop hl h2 h3 h4 hn hv hvb r m' σ' _ (by omega) (by omega) (fun c' hc' hcm => ?_) f5 (.inr ⟨m.next + 22, by rw [e1]; simp, by rw [e1, arcsC_app]; exact f6, by omega⟩) q3 q4 q5 hQ)
      rw [f4 c' (by omega) hcm (fun bb hb' => by have := hbb bb hb'; omega)]; exact hold c' hc' hcm
    rcases id hav with ⟨rfl, h0⟩ | ⟨ab, rfl, hab, habl⟩
    · subst h0
      simp (disch := first | omega | (simp only [next_put, next_bump]; omega)) [ir8_l0, s3, s4, s5', k1, hm, gn, gc, q0, q0c, q1, q2, head_td, b1, b2, b3, b4, hlt, w0, get_put_self, get_put_ne, get_bump, put_put]
      exact fin _ _ (by simp only [next_put, next_bump]; omega) (fun c' hc' hcm hbb => by simp (disch := first | omega | (simp only [next_put, next_bump]; omega)) only [get_put_self, get_put_ne, get_bump]) (by simp (disch := first | omega | (simp only [next_put, next_bump]; omega)) only [get_put_self, get_put_ne, get_bump]; rfl) (by simp (disch := first | omega | (simp only [next_put, next_bump]; omega)) only [get_put_self, get_put_ne, get_bump]; rfl) (by simp [s3]) (by simp [s4]) (by simp)
    · have lab := get_lt hab
      have z1 : (al.length + 1) * 32 ≤ 140737488355328 := by omega
      have z2 : al.length + 1 ≤ 9223372036854775807 := by omega
      have z3 : List.take (al.length * 4) (arcsC al) = arcsC al := List.take_of_length_le (by simp)
      have z4 : ab ≠ mb := by omega
      have z5 : ab ≠ nb := by omega
      simp (disch := first | omega | (simp only [next_put, next_bump]; omega)) [ir8_l0, s3, s4, s5', k1, hm, gn, gc, q0, q0c, q1, q2, head_td, b1, b2, b3, b4, hlt, w0, hab, z1, z2, z3, z4, z5, get_put_self, get_put_ne, get_bump, put_put]
      exact fin _ _ (by simp only [next_put, next_bump]; omega) (fun c' hc' hcm hbb => by have := hbb ab rfl; simp (disch := first | omega | (simp only [next_put, next_bump]; omega)) only [get_put_self, get_put_ne, get_bump]) (by simp (disch := first | omega | (simp only [next_put, next_bump]; omega)) only [get_put_self, get_put_ne, get_bump]) (by simp (disch := first | omega | (simp only [next_put, next_bump]; omega)) only [get_put_self, get_put_ne, get_bump]) (by simp [s3]) (by simp [s4]) (by simp)

set_option maxHeartbeats 8000000 in
set_option maxRecDepth 20000 in
theorem mfTurned_wp {v : Value} {l : List Int} {m : Mem} (hv : ByteS m v l) (hb : ∀ x ∈ l, 0 ≤ x ∧ x < 256) : WPCall Try.prog 8 [v] m fun r _ => r = .bool true := by
  rw [call8 (by simp)]
  simp (disch := first | omega | (simp only [next_put, next_bump]; omega)) [ir8_b, get_put_self, get_put_ne, get_bump, put_put]
  refine (new_wp (hv.bump 5) hb).mono fun r m1 hp => ?_
  obtain ⟨tb, tv, l', rfl, htb, o1, hT⟩ := hp
  simp only [next_bump] at htb
  simp
  refine (network_wp hT).mono fun r m2 hp => ?_
  obtain ⟨n, nv, rfl, hA, hS, o2⟩ := hp
  have hV := hS.valid
  have n1 := o1.next
  have n2 := o2.next
  simp only [next_bump] at n1
  have free : m2.get (m.next + 3) = none := by rw [o2.get _ (by omega) (by omega), o1.get _ (by simp only [next_bump]; omega), get_bump_none (by omega)]
  have l1 : n.arcs.length ≤ 15 := hS.l15
  have l2 : 2 ≤ n.arcs.length := hS.l2
  obtain ⟨hlen, hsl⟩ := hA.len
  have w1 : IntKind.i64.wrap ((n.arcs.length : Int) - 1) = (n.arcs.length : Int) - 1 := i64_id (by omega) (by omega)
  simp (disch := first | omega | (simp only [next_put, next_bump]; omega)) [hlen, hsl, w1, get_put_self, get_put_ne, get_bump, put_put, -lenOfV, -isSl]
  obtain ⟨m3, hm3⟩ : ∃ m3, m3 = m2.put (m.next + 3) (some ⟨[I n.nodes, I n.src, I n.snk, nv], true⟩) := ⟨_, rfl⟩
  rw [← hm3]
  have hA3 : Arcs m3 nv n.arcs := by rw [hm3]; exact hA.put_free free _
  have g3 : m3.get (m.next + 3) = some ⟨netC n nv, true⟩ := by rw [hm3]; exact get_put_self (by omega)
  have n3 : m3.next = m2.next := by rw [hm3]; rfl
  have hvb : ∀ b l c, nv = .slice (some ⟨b, 0, none⟩) l c → b < m3.next := by
    intro b l c he
    rcases hA3 with ⟨h, _⟩ | ⟨b', o, h, hb'⟩
    · rw [h] at he; cases he
    · rw [h] at he; cases he; exact get_lt hb'
  have o3 : Old m3 ((m3.bump 9).put (m2.next + 7) (some ⟨[I n.nodes, I n.snk, I n.src, .slice none 0 0], true⟩)) := ((Old.refl m3).bump 9).put (by omega)
  refine turn_loop (n := n) (by omega) (v := nv) (nb := m.next + 3) (mb := m2.next + 7) (m0 := (m3.bump 9).put (m2.next + 7) (some ⟨[I n.nodes, I n.snk, I n.src, .slice none 0 0], true⟩)) (by simp only [next_put, next_bump]; omega) (by simp only [next_put, next_bump]; omega) (by omega) (o3.some g3) (hA3.mono o3) (fun b l c he => by have := hvb b l c he; simp only [next_put, next_bump]; omega) n.arcs.length _ _ (.slice none 0 0) (Nat.le_refl _) (Nat.le_refl _) (fun _ _ _ => rfl) (get_put_self (by simp only [next_bump]; omega)) (.inl ⟨rfl, by simp⟩) (by simp) (by simp) (by simp) (fun σ' m' av' f1 f2 f3 f4 f5 f6 => ?_)
  simp only [next_put, next_bump] at f1 f2
  have hold : ∀ b, b < m3.next → m'.get b = m3.get b := fun b hb => by rw [f2 b (by omega) (by omega)]; simp (disch := first | omega | (simp only [next_put, next_bump]; omega)) only [get_put_self, get_put_ne, get_bump]
  have g4 : m'.get (m.next + 3) = some ⟨netC n nv, true⟩ := by rw [hold _ (get_lt g3)]; exact g3
  have oo : Old m3 m' := ⟨by omega, hold⟩
  simp (disch := first | omega | (simp only [next_put, next_bump]; omega)) [g4, f5, f6, get_put_self, get_put_ne, get_bump, put_put]
  refine (solved_wp (n := n) hV (hA3.mono oo)).mono fun r m5 hp => ?_
  obtain ⟨o5, fl, cut, hf, rfl, _, hcr⟩ := hp
  have g5 := o5.some f3
  simp (disch := first | omega | (simp only [next_put, next_bump]; omega)) [g5, f5, f6, get_put_self, get_put_ne, get_bump, put_put]
  refine (solved_wp (n := ⟨n.nodes, n.snk, n.src, n.arcs.reverse.map turnA⟩) (turned_valid hV) (f4.arcs.mono o5)).mono fun r m6 hp => ?_
  obtain ⟨o6, fl2, cut2, hf2, rfl, _, hcr2⟩ := hp
  have heq := turned_law hV (hasCut_of hf hcr) (hasCut_of hf2 hcr2)
  simp (disch := first | omega | (simp only [next_put, next_bump]; omega)) [heq, get_put_self, get_put_ne, get_bump, put_put]
  refine aw_wp _ _ fun m' => ?_
  simp
theorem maxflowTurned_law (m : Mem) (us : List Value) (h : AbsArgs m [.slice (.int .u8)] us) : WPCall Try.prog 8 us m fun r _ => r = .bool true := by
  rcases h with _ | ⟨h1, h⟩
  cases h
  obtain ⟨h2, _, h3⟩ := h1.ints
  refine mfTurned_wp ?_ (fun x hx => u8_wf (h3 x hx))
  rcases h2 with h | ⟨b, h, h'⟩
  · exact .inl h
  · exact .inr ⟨b, false, h, h'⟩
end Go.Proofs.Ytapnkfkpkcajjaa
