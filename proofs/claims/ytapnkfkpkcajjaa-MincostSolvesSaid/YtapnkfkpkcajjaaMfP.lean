/-
  The tape's network.
-/
import Derived.Test.YtapnkfkpkcajjaaMfO
namespace Go.Proofs.Ytapnkfkpkcajjaa
open Go Go.DI Go.Nets
set_option linter.unusedSimpArgs false
set_option linter.unusedVariables false

theorem keep_ofs {σ : Slots} {ck : List (Operand × Operand)} {m m' : Mem} (h : ∀ p ∈ ck, ∃ b, blkOf (ev σ p.1) = some b ∧ m'.get b = m.get b) : keepOk σ ck m m' := by
  intro p hp c hc
  obtain ⟨b, hb, e⟩ := h p hp
  rw [hb] at hc; cases hc; exact e
theorem arcsC_app (l k : List Arc) : arcsC (l ++ k) = arcsC l ++ arcsC k := by simp [arcsC]
structure Small (n : Net) : Prop where
  valid : n.Valid
  nodes : n.nodes ≤ 7
  l2 : 2 ≤ n.arcs.length
  l15 : n.arcs.length ≤ 15
  arc : ∀ a ∈ n.arcs, 0 ≤ a.c ∧ a.c ≤ 5 ∧ 0 ≤ a.k ∧ a.k ≤ 4
def OwnA (m : Mem) (v : Value) (l : List Arc) (lo : Nat) : Prop := (v = .slice none 0 0 ∧ l = []) ∨ ∃ b, v = .slice (some ⟨b, 0, none⟩) l.length 4 ∧ m.get b = some ⟨arcsC l, true⟩ ∧ lo ≤ b
theorem OwnA.arcs {m : Mem} {v : Value} {l : List Arc} {lo : Nat} (h : OwnA m v l lo) : Arcs m v l := by
  rcases h with h | ⟨b, h1, h2, _⟩
  · exact .inl h
  · exact .inr ⟨b, true, h1, h2⟩
def SmallA (N : Int) (a : Arc) : Prop := (0 ≤ a.f ∧ a.f < N) ∧ (0 ≤ a.t ∧ a.t < N) ∧ (0 ≤ a.c ∧ a.c ≤ 5) ∧ (0 ≤ a.k ∧ a.k ≤ 4)

set_option maxHeartbeats 8000000 in
set_option maxRecDepth 20000 in
theorem net_loop {tb nb rb : Nat} {tv : Value} {l : List Int} {m0 : Mem} {N s t A : Int} (hN : 2 ≤ N ∧ N ≤ 7) (hA : A ≤ 15) (h1 : tb < m0.next) (h2 : nb < m0.next) (h3 : nb ≠ tb) (h4 : rb < m0.next) (h5 : rb ≠ tb) (h6 : rb ≠ nb) (hd : ∀ b n c, tv = .slice (some ⟨b, 0, none⟩) n c → b < m0.next ∧ b ≠ nb) {Q : IExit → Slots → Mem → Prop} :
    ∀ (r i : Nat) (m : Mem) (σ : Slots) (pos : Nat) (av : Value) (al : List Arc), A = ((i + r : Nat) : Int) → m0.next ≤ m.next → (∀ b, b < m0.next → b ≠ tb → b ≠ nb → m.get b = m0.get b) → m.get nb = some ⟨[I N, I s, I t, av], true⟩ → OwnA m av al m0.next → Tp tb tv l pos m → al.length = i → (∀ a ∈ al, SmallA N a) →
    σ 0 = ptr tb → σ 2 = ptr rb → σ 3 = ptr nb → σ 4 = I A → σ 5 = I i →
    (∀ σ' m' av' al', m0.next ≤ m'.next → (∀ b, b < m0.next → b ≠ tb → b ≠ nb → m'.get b = m0.get b) → m'.get nb = some ⟨[I N, I s, I t, av'], true⟩ → OwnA m' av' al' m0.next → (al'.length : Int) = A → (∀ a ∈ al', SmallA N a) → σ' 2 = ptr rb → σ' 3 = ptr nb → Q (.exit 0) σ' m') → WP Try.prog (.loop ir28_l0) σ m Q
  | 0, i, m, σ, pos, av, al, hi, hlo, hold, hn, hav, hT, hal, has, s0, s2, s3, s4, s5, hQ => by
    refine wp_round fun J hJ => ?_
    have k1 : ¬ (i : Int) < A := by omega
    simp (disch := first | omega | (simp only [next_put, next_bump]; omega)) [ir28_l0, s4, s5, k1, get_put_self, get_put_ne, get_bump, put_put]
    exact hQ _ _ av al hlo hold hn hav (by omega) has (by simp [s2]) (by simp [s3])
  | r + 1, i, m, σ, pos, av, al, hi, hlo, hold, hn, hav, hT, hal, has, s0, s2, s3, s4, s5, hQ => by
    refine wp_round fun J hJ => ?_
    have k1 : (i : Int) < A := by omega
    have w0 : IntKind.i64.wrap ((i : Int) + 1) = (i : Int) + 1 := i64_id (by omega) (by omega)
    simp (disch := first | omega | (simp only [next_put, next_bump]; omega)) [ir28_l0, s0, s3, s4, s5, k1, hn, get_put_self, get_put_ne, get_bump, put_put]
    refine (next_wp (hT.mono fun b x hb => by have := get_lt hb; simp (disch := first | omega | (simp only [next_put, next_bump]; omega)) only [get_put_self, get_put_ne, get_bump, hb]) (by omega)).mono fun r1 m1 hp => ?_
    obtain ⟨x1, p1, rfl, a1, b1, o1, n1, T1⟩ := hp
    have e1 := o1.get nb (by simp only [next_bump]; omega) h3
    refine ⟨keep_ofs (by simp [e1]), ?_⟩
    have g1 : m1.get nb = some ⟨[I N, I s, I t, av], true⟩ := by rw [e1, get_bump (by omega)]; exact hn
    simp (disch := first | omega | (simp only [next_put, next_bump]; omega)) [g1, get_put_self, get_put_ne, get_bump, put_put]
    refine (next_wp T1 (by omega)).mono fun r2 m2 hp => ?_
    obtain ⟨x2, p2, rfl, a2, b2, o2, n2, T2⟩ := hp
    simp only [next_bump] at n1
    have e2 := o2.get nb (by omega) h3
    refine ⟨keep_ofs (by simp [e2]), ?_⟩
    have g2 : m2.get nb = some ⟨[I N, I s, I t, av], true⟩ := by rw [e2]; exact g1
    simp (disch := first | omega | (simp only [next_put, next_bump]; omega)) [w0, get_put_self, get_put_ne, get_bump, put_put]
    refine (next_wp T2 (by omega)).mono fun r3 m3 hp => ?_
    obtain ⟨x3, p3, rfl, a3, b3, o3, n3, T3⟩ := hp
    have e3 := o3.get nb (by omega) h3
    refine ⟨keep_ofs (by simp [e3]), ?_⟩
    have g3 : m3.get nb = some ⟨[I N, I s, I t, av], true⟩ := by rw [e3]; exact g2
    simp (disch := first | omega | (simp only [next_put, next_bump]; omega)) [w0, get_put_self, get_put_ne, get_bump, put_put]
    refine (next_wp T3 (by omega)).mono fun r4 m4 hp => ?_
    obtain ⟨x4, p4, rfl, a4, b4, o4, n4, T4⟩ := hp
    have e4 := o4.get nb (by omega) h3
    refine ⟨keep_ofs (by simp [e4]), ?_⟩
    have g4 : m4.get nb = some ⟨[I N, I s, I t, av], true⟩ := by rw [e4]; exact g3
    have b1' := b1 (by omega)
    have b2' := b2 (by omega)
    have b3' := b3 (by omega)
    have b4' := b4 (by omega)
    have old4 : ∀ c, c < m.next → c ≠ tb → m4.get c = m.get c := fun c hc hne => by
      rw [o4.get c (by omega) hne, o3.get c (by omega) hne, o2.get c (by omega) hne, o1.get c (by simp only [next_bump]; omega) hne, get_bump hc]
    have fin : ∀ (σ' : Slots) (m' : Mem) (bk : Nat), m4.next ≤ m'.next → m0.next ≤ bk → bk ≠ tb → (∀ c, c < m.next → c ≠ nb → (∀ bb, av = .slice (some ⟨bb, 0, none⟩) al.length 4 → c ≠ bb) → m'.get c = m4.get c) → m'.get nb = some ⟨[I N, I s, I t, .slice (some ⟨bk, 0, none⟩) (al.length + 1) 4], true⟩ → m'.get bk = some ⟨arcsC al ++ [I x1, I x2, I x3, I x4], true⟩ →
        σ' 0 = ptr tb → σ' 2 = ptr rb → σ' 3 = ptr nb → σ' 4 = I A → σ' 5 = I ((i : Int) + 1) → J σ' m' := by
      intro σ' m' bk f1 f2 f3 f4 f5 f6 q0 q2 q3 q4 q5
      have hbb : ∀ bb, av = .slice (some ⟨bb, 0, none⟩) al.length 4 → m0.next ≤ bb := by
        intro bb hbb
        rcases hav with ⟨h, _⟩ | ⟨b', h, _, hlo'⟩
        · rw [h] at hbb; cases hbb
        · rw [h] at hbb; cases hbb; exact hlo'
      have keepT : Tp tb tv l p4 m' :=
        T4.keep (f4 tb (by omega) (fun h => h3 h.symm) (fun bb hb' => by have := hbb bb hb'; omega)) (fun b n c hb => by obtain ⟨y1, y2⟩ := hd b n c hb; exact f4 b (by omega) y2 (fun bb hb' => by have := hbb bb hb'; omega))
      refine hJ _ _ (net_loop hN hA h1 h2 h3 h4 h5 h6 hd r (i + 1) m' σ' p4 _ (al ++ [⟨x1, x2, x3, x4⟩]) (by omega) (by omega) (fun c hc hct hcn => ?_) f5 (.inr ⟨bk, by simp, by rw [arcsC_app]; exact f6, f2⟩) keepT (by simp [hal]) (fun a ha => ?_) q0 q2 q3 q4 (by rw [q5]; simp) hQ)
      · rw [f4 c (by omega) hcn (fun bb hb' => by have := hbb bb hb'; omega), old4 c (by omega) hct]; exact hold c hc hct hcn
      · rcases List.mem_append.1 ha with ha | ha
        · exact has a ha
        · simp at ha; subst ha; exact ⟨⟨a1, b1'⟩, ⟨a2, b2'⟩, ⟨a3, by show x3 ≤ 5; omega⟩, ⟨a4, by show x4 ≤ 4; omega⟩⟩
    rcases id hav with ⟨rfl, rfl⟩ | ⟨ab, rfl, hab, habl⟩
    · simp (disch := first | omega | (simp only [next_put, next_bump]; omega)) [g4, w0, s0, s3, s5, get_put_self, get_put_ne, get_bump, put_put]
      exact fin _ _ (m.next + 16) (by simp only [next_put, next_bump]; omega) (by omega) (by omega) (fun c hc hcn hbb => by simp (disch := first | omega | (simp only [next_put, next_bump]; omega)) only [get_put_self, get_put_ne, get_bump]) (by simp (disch := first | omega | (simp only [next_put, next_bump]; omega)) only [get_put_self, get_put_ne, get_bump]; rfl) (by simp (disch := first | omega | (simp only [next_put, next_bump]; omega)) only [get_put_self, get_put_ne, get_bump]; rfl) (by simp [s0]) (by simp [s2]) (by simp [s3]) (by simp [s4]) (by simp)
    · have hab4 : m4.get ab = some ⟨arcsC al, true⟩ := by rw [old4 ab (get_lt hab) (by omega)]; exact hab
      have lab := get_lt hab4
      have lab2 := get_lt hab
      have z1 : (al.length + 1) * 32 ≤ 140737488355328 := by omega
      have z2 : al.length + 1 ≤ 9223372036854775807 := by omega
      have z3 : List.take (al.length * 4) (arcsC al) = arcsC al := List.take_of_length_le (by simp)
      have z4 : ab ≠ nb := by omega
      simp (disch := first | omega | (simp only [next_put, next_bump]; omega)) [g4, w0, s0, s3, s5, hab4, z1, z2, z3, z4, get_put_self, get_put_ne, get_bump, put_put]
      exact fin _ _ (m.next + 16) (by simp only [next_put, next_bump]; omega) (by omega) (by omega) (fun c hc hcn hbb => by have := hbb ab rfl; simp (disch := first | omega | (simp only [next_put, next_bump]; omega)) only [get_put_self, get_put_ne, get_bump]) (by simp (disch := first | omega | (simp only [next_put, next_bump]; omega)) only [get_put_self, get_put_ne, get_bump]) (by simp (disch := first | omega | (simp only [next_put, next_bump]; omega)) only [get_put_self, get_put_ne, get_bump]) (by simp [s0]) (by simp [s2]) (by simp [s3]) (by simp [s4]) (by simp)

def NetPost (tb : Nat) (m : Mem) (r : Value) (m' : Mem) : Prop := ∃ n v, r = netV n v ∧ Arcs m' v n.arcs ∧ Small n ∧ OldX tb m m'
set_option maxHeartbeats 8000000 in
set_option maxRecDepth 20000 in
theorem network_wp {tb : Nat} {tv : Value} {l : List Int} {pos : Nat} {m : Mem} (hT : Tp tb tv l pos m) : WPCall Try.prog 28 [ptr tb] m (NetPost tb m) := by
  rw [call28 (by simp)]
  have ltb := hT.lt
  simp (disch := first | omega | (simp only [next_put, next_bump]; omega)) [ir28_b, get_put_self, get_put_ne, get_bump, put_put]
  refine (next_wp (hT.mono fun b x hb => by have := get_lt hb; simp (disch := first | omega | (simp only [next_put, next_bump]; omega)) only [get_put_self, get_put_ne, get_bump, hb]) (by omega)).mono fun r1 m1 hp => ?_
  obtain ⟨x1, p1, rfl, a1, b1, o1, n1, T1⟩ := hp
  simp only [next_put, next_bump] at n1
  have b1' := b1 (by omega)
  have gr1 : m1.get m.next = some ⟨[I 0, I 0, I 0, .slice none 0 0], true⟩ := o1.some (by simp (disch := first | omega | (simp only [next_put, next_bump]; omega)) only [get_put_self, get_put_ne, get_bump]) (by omega)
  have w1 : IntKind.i64.wrap (2 + x1) = 2 + x1 := i64_id (by omega) (by omega)
  simp (disch := first | omega | (simp only [next_put, next_bump]; omega)) [w1, get_put_self, get_put_ne, get_bump, put_put]
  refine (next_wp (T1.keep (m' := (m1.put (m.next + 1 + 4) (some ⟨[I (2 + x1), I 0, I 0, .slice none 0 0], true⟩))) (by simp (disch := first | omega | (simp only [next_put, next_bump]; omega)) only [get_put_self, get_put_ne, get_bump]) (fun b n c hb => by have := (T1.dlt b n c hb).1; have := (hT.dlt b n c hb).1; simp (disch := first | omega | (simp only [next_put, next_bump]; omega)) only [get_put_self, get_put_ne, get_bump])) (by omega)).mono fun r2 m2 hp => ?_
  obtain ⟨x2, p2, rfl, a2, b2, o2, n2, T2⟩ := hp
  simp only [next_put, next_bump] at n2
  have b2' := b2 (by omega)
  have gr2 : m2.get m.next = some ⟨[I 0, I 0, I 0, .slice none 0 0], true⟩ := o2.some (by simp (disch := first | omega | (simp only [next_put, next_bump]; omega)) only [get_put_self, get_put_ne, get_bump, gr1]) (by omega)
  have gn2 : m2.get (m.next + 1 + 4) = some ⟨[I (2 + x1), I 0, I 0, .slice none 0 0], true⟩ := o2.some (by simp (disch := first | omega | (simp only [next_put, next_bump]; omega)) only [get_put_self, get_put_ne, get_bump]) (by omega)
  have w2 : IntKind.i64.wrap (x2 + 1) = x2 + 1 := i64_id (by omega) (by omega)
  have w3 : IntKind.i64.wrap (2 + x1 - 1) = 2 + x1 - 1 := i64_id (by omega) (by omega)
  simp (disch := first | omega | (simp only [next_put, next_bump]; omega)) [gn2, w2, w3, get_put_self, get_put_ne, get_bump, put_put]
  refine (next_wp (T2.keep (m' := (m2.put (m.next + 1 + 4) (some ⟨[I (2 + x1), I x2, I 0, .slice none 0 0], true⟩))) (by simp (disch := first | omega | (simp only [next_put, next_bump]; omega)) only [get_put_self, get_put_ne, get_bump]) (fun b n c hb => by have := (T2.dlt b n c hb).1; have := (hT.dlt b n c hb).1; simp (disch := first | omega | (simp only [next_put, next_bump]; omega)) only [get_put_self, get_put_ne, get_bump])) (by omega)).mono fun r3 m3 hp => ?_
  obtain ⟨x3, p3, rfl, a3, b3, o3, n3, T3⟩ := hp
  simp only [next_put, next_bump] at n3
  have b3' := b3 (by omega)
  have e3 := o3.get (m.next + 1 + 4) (by simp only [next_put, next_bump]; omega) (by omega)
  refine ⟨keep_ofs (by simp [e3]), ?_⟩
  have gr3 : m3.get m.next = some ⟨[I 0, I 0, I 0, .slice none 0 0], true⟩ := o3.some (by simp (disch := first | omega | (simp only [next_put, next_bump]; omega)) only [get_put_self, get_put_ne, get_bump, gr2]) (by omega)
  have gn3 : m3.get (m.next + 1 + 4) = some ⟨[I (2 + x1), I x2, I 0, .slice none 0 0], true⟩ := o3.some (by simp (disch := first | omega | (simp only [next_put, next_bump]; omega)) only [get_put_self, get_put_ne, get_bump]) (by omega)
  have w4 : IntKind.i64.wrap (x2 + 1 + x3) = x2 + 1 + x3 := i64_id (by omega) (by omega)
  have k0 : ¬ 2 + x1 = 0 := by omega
  have e4 : (x2 + 1 + x3).tmod (2 + x1) = (x2 + 1 + x3) % (2 + x1) := Int.tmod_eq_emod_of_nonneg (by omega)
  have m0 := Int.emod_nonneg (x2 + 1 + x3) k0
  have m1' := Int.emod_lt_of_pos (x2 + 1 + x3) (show 0 < 2 + x1 by omega)
  have hne : x2 ≠ (x2 + 1 + x3) % (2 + x1) := by
    intro h
    by_cases hlt : x2 + 1 + x3 < 2 + x1
    · rw [Int.emod_eq_of_lt (by omega) hlt] at h; omega
    · have : (x2 + 1 + x3) % (2 + x1) = x2 + 1 + x3 - (2 + x1) := by
        rw [← Int.sub_emod_right, Int.emod_eq_of_lt (by omega) (by omega)]
      omega
  generalize hsk : (x2 + 1 + x3) % (2 + x1) = sk at *
  simp (disch := first | omega | (simp only [next_put, next_bump]; omega)) [gn3, w4, e4, k0, get_put_self, get_put_ne, get_bump, put_put]
  refine (next_wp (T3.keep (m' := (m3.put (m.next + 1 + 4) (some ⟨[I (2 + x1), I x2, I sk, .slice none 0 0], true⟩))) (by simp (disch := first | omega | (simp only [next_put, next_bump]; omega)) only [get_put_self, get_put_ne, get_bump]) (fun b n c hb => by have := (T3.dlt b n c hb).1; have := (hT.dlt b n c hb).1; simp (disch := first | omega | (simp only [next_put, next_bump]; omega)) only [get_put_self, get_put_ne, get_bump])) (by omega)).mono fun r4 m4 hp => ?_
  obtain ⟨x4, p4, rfl, a4, b4, o4, n4, T4⟩ := hp
  simp only [next_put, next_bump] at n4
  have b4' := b4 (by omega)
  have gr4 : m4.get m.next = some ⟨[I 0, I 0, I 0, .slice none 0 0], true⟩ := o4.some (by simp (disch := first | omega | (simp only [next_put, next_bump]; omega)) only [get_put_self, get_put_ne, get_bump, gr3]) (by omega)
  have gn4 : m4.get (m.next + 1 + 4) = some ⟨[I (2 + x1), I x2, I sk, .slice none 0 0], true⟩ := o4.some (by simp (disch := first | omega | (simp only [next_put, next_bump]; omega)) only [get_put_self, get_put_ne, get_bump]) (by omega)
  have w5 : IntKind.i64.wrap (2 + x4) = 2 + x4 := i64_id (by omega) (by omega)
  simp (disch := first | omega | (simp only [next_put, next_bump]; omega)) [gn4, w5, get_put_self, get_put_ne, get_bump, put_put]
  refine net_loop (tb := tb) (nb := m.next + 1 + 4) (rb := m.next) (tv := tv) (l := l) (m0 := m4) (N := 2 + x1) (s := x2) (t := sk) (A := 2 + x4) (by omega) (by omega) (by omega) (by omega) (by omega) (by omega) (by omega) (by omega) (fun b n c hb => by obtain ⟨y1, y2⟩ := hT.dlt b n c hb; omega) (2 + x4).toNat 0 m4 _ p4 (.slice none 0 0) [] (by omega) (Nat.le_refl _) (fun _ _ _ _ => rfl) gn4 (.inl ⟨rfl, rfl⟩) T4 rfl (by simp) (by simp) (by simp) (by simp) (by simp) (by simp) (fun σ' m' av al g1 g2 g3 g4 g5 g6 g7 g8 => ?_)
  have gr5 : m'.get m.next = some ⟨[I 0, I 0, I 0, .slice none 0 0], true⟩ := by rw [g2 _ (by omega) (by omega) (by omega)]; exact gr4
  have lr5 := get_lt gr5
  simp (disch := first | omega | (simp only [next_put, next_bump]; omega)) [g3, g7, g8, gr5, get_put_self, get_put_ne, get_bump, put_put]
  refine ⟨⟨2 + x1, x2, sk, al⟩, av, rfl, ?_, ⟨⟨by show 2 ≤ 2 + x1; omega, by show 2 + x1 ≤ 700; omega, by show al.length ≤ 2500; omega, ⟨a2, b2'⟩, ⟨m0, m1'⟩, hne, fun a ha => ?_⟩, by show 2 + x1 ≤ 7; omega, by show 2 ≤ al.length; omega, by show al.length ≤ 15; omega, fun a ha => ?_⟩, ⟨by simp only [next_put]; omega, fun b hb hbt => ?_⟩⟩
  · rcases g4 with ⟨h, h'⟩ | ⟨b, h, hb, hlo⟩
    · exact .inl ⟨h, h'⟩
    · exact .inr ⟨b, true, h, by rw [get_put_ne (by omega)]; exact hb⟩
  · obtain ⟨⟨q1, q2⟩, ⟨q3, q4⟩, ⟨q5, q6⟩, _⟩ := g6 a ha
    exact ⟨⟨q1, q2⟩, ⟨q3, q4⟩, q5, by omega⟩
  · obtain ⟨_, _, ⟨q5, q6⟩, ⟨q7, q8⟩⟩ := g6 a ha
    exact ⟨q5, q6, q7, q8⟩
  · rw [get_put_ne (by omega), g2 b (by omega) hbt (by omega), o4.get b (by simp only [next_put]; omega) hbt, get_put_ne (by omega), o3.get b (by simp only [next_put]; omega) hbt, get_put_ne (by omega), o2.get b (by simp only [next_put]; omega) hbt, get_put_ne (by omega), o1.get b (by simp only [next_put, next_bump]; omega) hbt]
    simp (disch := first | omega | (simp only [next_put, next_bump]; omega)) only [get_put_self, get_put_ne, get_bump]
end Go.Proofs.Ytapnkfkpkcajjaa
