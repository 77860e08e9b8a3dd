/-
  'MaxflowWeak'.
-/
import Derived.Test.YtapnkfkpkcajjaaMfS
namespace Go.Proofs.Ytapnkfkpkcajjaa
open Go Go.DI Go.Nets
set_option linter.unusedSimpArgs false
set_option linter.unusedVariables false

theorem u64_id {n : Int} (h1 : 0 ≤ n) (h2 : n < 18446744073709551616) : IntKind.u64.wrap n = n := by
  simp only [IntKind.wrap, IntKind.bits, IntKind.signed]
  simp
  omega
theorem bit_law (s i : Nat) (hs : s < 1000000) (hi : i < 64) : decide (IntKind.i64.wrap (((BitVec.ofInt 64 ((s : Int).fdiv (2 ^ i))) &&& 1#64).toNat : Int) = 1) = s.testBit i := by
  have e1 : (s : Int).fdiv (2 ^ i) = ((s / 2 ^ i : Nat) : Int) := by
    have e : ((2 : Int) ^ i) = ((2 ^ i : Nat) : Int) := by simp
    rw [e]
    rw [Int.fdiv_eq_ediv_of_nonneg _ (Int.natCast_nonneg _)]
    exact (Int.natCast_ediv s (2 ^ i)).symm
  rw [e1]
  have hq : s / 2 ^ i ≤ s := Nat.div_le_self _ _
  generalize hqq : s / 2 ^ i = q at *
  have e2 : ((BitVec.ofInt 64 (q : Int)) &&& 1#64).toNat = q % 2 := by
    have h1 : (BitVec.ofInt 64 (q : Int)).toNat = q := by
      rw [BitVec.toNat_ofInt]
      omega
    have h2 : (1#64).toNat = 1 := by decide
    rw [BitVec.toNat_and, h1, h2, Nat.and_one_is_mod]
  rw [e2, i64_id (by omega) (by omega)]
  rw [Nat.testBit_eq_decide_div_mod_eq, hqq]
  by_cases h : q % 2 = 1
  · simp [h]
  · have : ¬ ((q % 2 : Nat) : Int) = 1 := by omega
    simp only [h, decide_false, this]
theorem rowB_congr {N : Nat} {g h : Int → Bool} (e : ∀ k : Nat, k < N → g k = h k) : rowB N g = rowB N h := by
  apply List.ext_getElem
  · simp
  · intro i h1 h2
    simp at h1
    simp [e i h1]
theorem cutS_row {N s : Nat} : (cutS N s).map (Value.bool ·) = rowB N (fun x => s.testBit x.toNat) := by
  simp [cutS, rowB]

set_option maxHeartbeats 8000000 in
set_option maxRecDepth 20000 in
theorem weak_loop0 {n : Net} {v : Value} {N : Nat} (hN : n.nodes = N) (hN8 : N ≤ 8) {nb cb s : Nat} (hs : s < 1000000) {m0 : Mem} (hn : m0.get nb = some ⟨netC n v, true⟩) (hcb : m0.next ≤ cb) {Q : IExit → Slots → Mem → Prop} :
    ∀ (r i : Nat) (m : Mem) (σ : Slots) (g : Int → Bool), i + r = N → Old m0 m → m.get cb = some ⟨rowB N g, true⟩ → (∀ k : Nat, k < i → g k = s.testBit k) →
    σ 3 = ptr nb → σ 9 = I s → σ 10 = .slice (some ⟨cb, 0, none⟩) N 1 → σ 11 = I i →
    (∀ σ' m', Old m0 m' → m'.get cb = some ⟨(cutS N s).map (Value.bool ·), true⟩ → (∀ t, t < 11 → σ' t = σ t) → Q (.exit 2) σ' m') → WP Try.prog (.loop ir6_l0) σ m Q
  | 0, i, m, σ, g, hi, ho, hc, hg, s3, s9, s10, s11, hQ => by
    refine wp_round fun J hJ => ?_
    have h1 : ¬ (i : Int) < n.nodes := by omega
    have gn := ho.some hn
    simp (disch := first | omega | (simp only [next_put, next_bump]; omega)) [ir6_l0, s3, s11, gn, h1, get_put_self, get_put_ne, get_bump, put_put]
    refine hQ _ _ ho ?_ (fun t ht => by simp (disch := omega) only [upd_ne])
    rw [hc, cutS_row, rowB_congr (g := g) (h := fun x => s.testBit x.toNat) (fun k hk => by show g k = s.testBit ((k : Int).toNat); rw [Int.toNat_natCast]; exact hg k (by omega))]
  | r + 1, i, m, σ, g, hi, ho, hc, hg, s3, s9, s10, s11, hQ => by
    refine wp_round fun J hJ => ?_
    have h1 : (i : Int) < n.nodes := by omega
    have h2 : i < N := by omega
    have h3 : i + 1 ≤ N := h2
    have gn := ho.some hn
    have w0 : IntKind.i64.wrap ((i : Int) + 1) = (i : Int) + 1 := i64_id (by omega) (by omega)
    have w1 : IntKind.u64.wrap (i : Int) = i := u64_id (by omega) (by omega)
    have hmin : min i 64 = i := by omega
    have hbit := bit_law s i hs (by omega)
    simp (disch := first | omega | (simp only [next_put, next_bump]; omega)) [ir6_l0, s3, s9, s10, s11, gn, h1, h2, h3, hc, w0, w1, hmin, rowB_set, IntKind.bits, get_put_self, get_put_ne, get_bump, put_put]
    exact hJ _ _ (weak_loop0 hN hN8 hs hn hcb r (i + 1) _ _ _ (by omega) (ho.put hcb) (get_put_self (get_lt hc)) (fun k hk => by
      unfold setF
      by_cases hki : (k : Int) = i
      · rw [if_pos hki]
        obtain rfl : k = i := by omega
        exact hbit
      · rw [if_neg hki]; exact hg k (by omega)) (by simp [s3]) (by simp [s9]) (by simp [s10]) (by simp) (fun σ' m' g1 g2 g3 => hQ σ' m' g1 g2 (fun t ht => by rw [g3 t ht]; simp (disch := omega) only [upd_ne])))

theorem capR_eq {n : Net} (hV : n.Valid) {cut : List Bool} (hl : (cut.length : Int) = n.nodes) : capR n cut = if (cutF cut n.src && !cutF cut n.snk) = true then (capOf n.arcs (cutF cut), true) else (0, false) := by
  unfold capR
  rw [validB_iff.2 hV]
  simp [hl]
set_option maxHeartbeats 8000000 in
set_option maxRecDepth 20000 in
theorem weak_loop1 {n : Net} (hV : n.Valid) {v : Value} {N P : Nat} {V : Int} (hN : n.nodes = N) (hN7 : N ≤ 7) (hP : P = 2 ^ N) (hcV : HasCut n V) {nb : Nat} {m0 : Mem} (hn : m0.get nb = some ⟨netC n v, true⟩) (hv : Arcs m0 v n.arcs) {Q : IExit → Slots → Mem → Prop} :
    ∀ (r s : Nat) (m : Mem) (σ : Slots) (flag : Bool), s + r = P → Old m0 m → σ 3 = ptr nb → σ 5 = I V → σ 8 = .bool flag → σ 9 = I s → (flag = true ∨ ∃ s', s ≤ s' ∧ s' < P ∧ capR n (cutS N s') = (V, true)) →
    (∀ σ' m', Old m0 m' → σ' 8 = .bool true → Q (.exit 0) σ' m') → WP Try.prog (.loop ir6_l1) σ m Q
  | 0, s, m, σ, flag, hs, ho, s3, s5, s8, s9, hf, hQ => by
    refine wp_round fun J hJ => ?_
    have hP7 : P ≤ 128 := by rw [hP]; exact Nat.pow_le_pow_right (by omega) hN7
    have gn := ho.some hn
    have h1 : ¬ (s : Int) < P := by omega
    have hfl : flag = true := by
      rcases hf with h | ⟨s', h1, h2, _⟩
      · exact h
      · omega
    have p1 : IntKind.u64.wrap n.nodes = n.nodes := u64_id (by omega) (by omega)
    have p2 : n.nodes.toNat = N := by omega
    have p3 : min N 64 = N := by omega
    have p4 : ((2 : Int) ^ N) = (P : Int) := by rw [hP]; simp
    have p5 : IntKind.i64.wrap (P : Int) = P := i64_id (by omega) (by omega)
    have p6 : (0 : Int) ≤ n.nodes := by omega
    simp (disch := first | omega | (simp only [next_put, next_bump]; omega)) [ir6_l1, s3, s9, gn, h1, p1, p2, p3, p4, p5, p6, IntKind.bits, get_put_self, get_put_ne, get_bump, put_put]
    exact hQ _ _ ho (by simp [s8, hfl])
  | r + 1, s, m, σ, flag, hs, ho, s3, s5, s8, s9, hf, hQ => by
    refine wp_round fun J hJ => ?_
    have hP7 : P ≤ 128 := by rw [hP]; exact Nat.pow_le_pow_right (by omega) hN7
    have gn := ho.some hn
    have ln := get_lt gn
    have h1 : (s : Int) < P := by omega
    have p1 : IntKind.u64.wrap n.nodes = n.nodes := u64_id (by omega) (by omega)
    have p2 : n.nodes.toNat = N := by omega
    have p3 : min N 64 = N := by omega
    have p4 : ((2 : Int) ^ N) = (P : Int) := by rw [hP]; simp
    have p5 : IntKind.i64.wrap (P : Int) = P := i64_id (by omega) (by omega)
    have p6 : (0 : Int) ≤ n.nodes := by omega
    have h7 := hV.n7
    have hN' : n.nodes.toNat = N := by omega
    have z0 : 0 ≤ n.nodes := by omega
    have z1 : n.nodes ≤ 140737488355328 := by omega
    have z2 : n.nodes ≤ 9223372036854775807 := by omega
    have w0 : IntKind.i64.wrap ((s : Int) + 1) = (s : Int) + 1 := i64_id (by omega) (by omega)
    simp (disch := first | omega | (simp only [next_put, next_bump]; omega)) [ir6_l1, s3, s9, gn, h1, z0, z1, z2, p1, p2, p3, p4, p5, p6, IntKind.bits, get_put_self, get_put_ne, get_bump, put_put]
    refine weak_loop0 hN (by omega) (nb := nb) (cb := m.next + 2) (s := s) (by omega) (v := v) (m0 := m) gn (by omega) N 0 _ _ (fun _ => false) (by omega) (((Old.refl m).bump 4).put (by omega)) (by rw [get_put_self (by simp only [next_bump]; omega), rowB_zero]) (fun k hk => by omega) (by simp [s3]) (by simp [s9]) (by simp) (by simp) (fun σ' m' g1 g2 g3 => ?_)
    have q3 : σ' 3 = ptr nb := by rw [g3 3 (by omega)]; simp [s3]
    have q5 : σ' 5 = I V := by rw [g3 5 (by omega)]; simp [s5]
    have q8 : σ' 8 = .bool flag := by rw [g3 8 (by omega)]; simp [s8]
    have q9 : σ' 9 = I s := by rw [g3 9 (by omega)]; simp [s9]
    have q10 : σ' 10 = .slice (some ⟨m.next + 2, 0, none⟩) N 1 := by rw [g3 10 (by omega)]; simp
    have o1 := ho.trans g1
    have gn1 := o1.some hn
    have hcl : (cutS N s).length = N := by simp [cutS]
    have hcl' : ((cutS N s).length : Int) = n.nodes := by omega
    simp (disch := first | omega | (simp only [next_put, next_bump]; omega)) [q3, q9, q10, gn1, get_put_self, get_put_ne, get_bump, put_put]
    refine (cap_wp (n := n) (cut := cutS N s) (hv.mono o1) (.inr ⟨m.next + 2, true, by rw [hcl], g2⟩)).mono fun r' m2 hp => ?_
    obtain ⟨rfl, o2⟩ := hp
    have o3 := o1.trans o2
    have gn2 := o3.some hn
    have gc2 := o2.some g2
    have hcap := capR_eq hV hcl'
    generalize hcut : cutS N s = cut at *
    have s0 : 0 ≤ n.src := hV.src.1
    have s1 : n.src < n.nodes := hV.src.2
    have sx : n.src.toNat < cut.length := by omega
    have sy : n.src.toNat + 1 ≤ cut.length := sx
    have sz : n.src < (N : Int) := by omega
    have t0 : 0 ≤ n.snk := hV.snk.1
    have t1 : n.snk < n.nodes := hV.snk.2
    have tx : n.snk.toNat < cut.length := by omega
    have ty : n.snk.toNat + 1 ≤ cut.length := tx
    have tz : n.snk < (N : Int) := by omega
    have hs5 := cutF_get sx
    have ht5 := cutF_get tx
    have hs6 : ∀ h, cut[n.src.toNat]'h = cutF cut n.src := fun h => by rw [List.getElem?_eq_getElem h] at hs5; simpa using hs5
    have ht6 : ∀ h, cut[n.snk.toNat]'h = cutF cut n.snk := fun h => by rw [List.getElem?_eq_getElem h] at ht5; simpa using ht5
    rw [hcl] at sx sy tx ty
    have next : ∀ (σ'' : Slots) (m'' : Mem) (fl' : Bool), (flag = true → fl' = true) → (capR n cut = (V, true) → fl' = true) → Old m0 m'' → σ'' 3 = ptr nb → σ'' 5 = I V → σ'' 8 = .bool fl' → σ'' 9 = I ((s : Int) + 1) → J σ'' m'' := by
      intro σ'' m'' fl' f1 f2 of x3 x5 x8 x9
      refine hJ _ _ (weak_loop1 hV hN hN7 hP hcV hn hv r (s + 1) m'' σ'' fl' (by omega) of x3 x5 x8 (by rw [x9]; simp) ?_ hQ)
      rcases hf with h | ⟨s', e1, e2, e3⟩
      · exact .inl (f1 h)
      · by_cases hss : s' = s
        · subst hss; rw [hcut] at e3; exact .inl (f2 e3)
        · exact .inr ⟨s', by omega, e2, e3⟩
    cases k1 : cutF cut n.src
    · have hc0 : capR n cut = (0, false) := by rw [hcap]; simp [k1]
      cases hflag : flag
      all_goals
        simp (disch := first | omega | (simp only [next_put, next_bump]; omega)) [q3, q5, q8, q9, q10, gn2, gc2, head_td, s0, s1, sx, sy, sz, t0, t1, tx, ty, tz, hs5, ht5, hs6, ht6, hcl, w0, k1, hc0, hflag, get_put_self, get_put_ne, get_bump, put_put]
        exact next _ _ flag (fun h => h) (fun h => by rw [hc0] at h; cases h) o3 (by simp [q3]) (by simp [q5]) (by simp [hflag]) (by simp)
    cases k2 : cutF cut n.snk
    · have hc1 : capR n cut = (capOf n.arcs (cutF cut), true) := by rw [hcap]; simp [k1, k2]
      have hle := hcV.le hV k1 k2
      have hle' : ¬ capOf n.arcs (cutF cut) < V := by omega
      cases hflag : flag
      · by_cases heq : capOf n.arcs (cutF cut) = V
        · simp (disch := first | omega | (simp only [next_put, next_bump]; omega)) [q3, q5, q8, q9, q10, gn2, gc2, head_td, s0, s1, sx, sy, sz, t0, t1, tx, ty, tz, hs5, ht5, hs6, ht6, hcl, w0, k1, k2, hc1, hle', hflag, heq, get_put_self, get_put_ne, get_bump, put_put]
          exact next _ _ true (fun _ => rfl) (fun _ => rfl) o3 (by simp [q3]) (by simp [q5]) (by simp) (by simp)
        · simp (disch := first | omega | (simp only [next_put, next_bump]; omega)) [q3, q5, q8, q9, q10, gn2, gc2, head_td, s0, s1, sx, sy, sz, t0, t1, tx, ty, tz, hs5, ht5, hs6, ht6, hcl, w0, k1, k2, hc1, hle', hflag, heq, get_put_self, get_put_ne, get_bump, put_put]
          exact next _ _ false (fun h => by rw [hflag] at h; exact h) (fun h => by rw [hc1] at h; injection h with h _; exact absurd h heq) o3 (by simp [q3]) (by simp [q5]) (by simp) (by simp)
      · simp (disch := first | omega | (simp only [next_put, next_bump]; omega)) [q3, q5, q8, q9, q10, gn2, gc2, head_td, s0, s1, sx, sy, sz, t0, t1, tx, ty, tz, hs5, ht5, hs6, ht6, hcl, w0, k1, k2, hc1, hle', hflag, get_put_self, get_put_ne, get_bump, put_put]
        exact next _ _ true (fun _ => rfl) (fun _ => rfl) o3 (by simp [q3]) (by simp [q5]) (by simp) (by simp)
    · have hc0 : capR n cut = (0, false) := by rw [hcap]; simp [k1, k2]
      cases hflag : flag
      all_goals
        simp (disch := first | omega | (simp only [next_put, next_bump]; omega)) [q3, q5, q8, q9, q10, gn2, gc2, head_td, s0, s1, sx, sy, sz, t0, t1, tx, ty, tz, hs5, ht5, hs6, ht6, hcl, w0, k1, k2, hc0, hflag, get_put_self, get_put_ne, get_bump, put_put]
        exact next _ _ flag (fun h => h) (fun h => by rw [hc0] at h; cases h) o3 (by simp [q3]) (by simp [q5]) (by simp [hflag]) (by simp)

set_option maxHeartbeats 8000000 in
set_option maxRecDepth 20000 in
theorem mfWeak_wp {v : Value} {l : List Int} {m : Mem} (hv : ByteS m v l) (hb : ∀ x ∈ l, 0 ≤ x ∧ x < 256) : WPCall Try.prog 6 [v] m fun r _ => r = .bool true := by
  rw [call6 (by simp)]
  simp (disch := first | omega | (simp only [next_put, next_bump]; omega)) [ir6_b, get_put_self, get_put_ne, get_bump, put_put]
  refine (new_wp (hv.bump 5) hb).mono fun r m1 hp => ?_
  obtain ⟨tb, tv, l', rfl, htb, o1, hT⟩ := hp
  simp only [next_bump] at htb
  simp
  refine (network_wp hT).mono fun r m2 hp => ?_
  obtain ⟨n, nv, rfl, hA, hS, o2⟩ := hp
  have hV := hS.valid
  have n1 := o1.next
  have n2 := o2.next
  simp only [next_bump] at n1
  have free : m2.get (m.next + 3) = none := by rw [o2.get _ (by omega) (by omega), o1.get _ (by simp only [next_bump]; omega), get_bump_none (by omega)]
  simp (disch := first | omega | (simp only [next_put, next_bump]; omega)) [free, get_put_self, get_put_ne, get_bump, put_put]
  obtain ⟨m3, hm3⟩ : ∃ m3, m3 = m2.put (m.next + 3) (some ⟨[I n.nodes, I n.src, I n.snk, nv], true⟩) := ⟨_, rfl⟩
  rw [← hm3]
  have hA3 : Arcs m3 nv n.arcs := by rw [hm3]; exact hA.put_free free _
  have g3 : m3.get (m.next + 3) = some ⟨netC n nv, true⟩ := by rw [hm3]; exact get_put_self (by omega)
  refine (solve_wp (n := n) hA3).mono fun r m4 hp => ?_
  obtain ⟨o4, hp⟩ := hp
  rcases hp with ⟨h, _⟩ | ⟨_, w, u, fl, cut, rfl, hw, hu, hf, hcl, hvr, hcr⟩
  · rw [validB_iff.2 hV] at h; cases h
  have g4 := o4.some g3
  have hN8 : ¬ 8 < n.nodes := by have := hS.nodes; omega
  obtain ⟨N, hN⟩ : ∃ N : Nat, n.nodes = N := ⟨n.nodes.toNat, by have := hV.n2; omega⟩
  have hcV := hasCut_of hf hcr
  simp (disch := first | omega | (simp only [next_put, next_bump]; omega)) [g4, hN8, get_put_self, get_put_ne, get_bump, put_put]
  obtain ⟨s, hs1, hs2⟩ := bits_of cut
  have hcl' : cut.length = N := by omega
  rw [hcl'] at hs1 hs2
  refine weak_loop1 hV hN (by have := hS.nodes; omega) rfl hcV (nb := m.next + 3) (v := nv) (m0 := m4) g4 (hA3.mono o4) (2 ^ N) 0 m4 _ false (by omega) (Old.refl m4) (by simp) (by simp) (by simp) (by simp) (.inr ⟨s, Nat.zero_le _, hs1, by rw [hs2]; exact hcr⟩) (fun σ' m' f1 f2 => ?_)
  simp (disch := first | omega | (simp only [next_put, next_bump]; omega)) [f2, get_put_self, get_put_ne, get_bump, put_put]
  refine aw_wp _ _ fun m' => ?_
  simp
theorem maxflowWeak_law (m : Mem) (us : List Value) (h : AbsArgs m [.slice (.int .u8)] us) : WPCall Try.prog 6 us m fun r _ => r = .bool true := by
  rcases h with _ | ⟨h1, h⟩
  cases h
  obtain ⟨h2, _, h3⟩ := h1.ints
  refine mfWeak_wp ?_ (fun x hx => u8_wf (h3 x hx))
  rcases h2 with h | ⟨b, h, h'⟩
  · exact .inl h
  · exact .inr ⟨b, false, h, h'⟩
end Go.Proofs.Ytapnkfkpkcajjaa
