/-
  'MincostConvex'.
-/
import Derived.Test.YtapnkfkpkcajjaaMcO
import Derived.Test.YtapnkfkpkcajjaaMfP
namespace Go.Proofs.Ytapnkfkpkcajjaa
open Go Go.DI Go.Nets
set_option linter.unusedSimpArgs false
set_option linter.unusedVariables false

theorem costL_zero : ∀ (ar : List Arc), costL ar (List.replicate ar.length 0) = 0
  | [] => rfl
  | a :: ar => by simp only [List.length_cons, List.replicate_succ, costL, costL_zero ar]; simp

theorem none_bump {m : Mem} {b k : Nat} (h : m.next ≤ b) : (m.bump k).get b = none := by
  have : ¬ b < m.next := by omega
  simp [Mem.get, Mem.bump, this]
theorem Arcs.putF {m : Mem} {v : Value} {l : List Arc} (h : Arcs m v l) {q : Nat} (hq : m.get q = none) (x : Option Blk) : Arcs (m.put q x) v l := by
  rcases h with h | ⟨b, o, h, h'⟩
  · exact .inl h
  · exact .inr ⟨b, o, h, by rw [get_put_ne (fun e => by subst e; rw [hq] at h'; cases h')]; exact h'⟩
theorem ByteS.bmp {m : Mem} {v : Value} {l : List Int} (h : ByteS m v l) (k : Nat) : ByteS (m.bump k) v l := h.mono ((Old.refl m).bump k)
theorem Small.mv {n : Net} (h : Small n) : mvB n = true := mvB_iff.2 ⟨h.valid, fun a ha => by
  obtain ⟨h1, h2, h3, h4⟩ := h.arc a ha
  simp [costB]; omega⟩
theorem costL_bd {M : Int} (hM : M = 1000000000) : ∀ (ar : List Arc) (fs : List Int), (∀ a ∈ ar, 0 ≤ a.k ∧ a.k ≤ 1000 ∧ a.c ≤ 1000000) → (∀ (i : Nat) a φ, ar[i]? = some a → fs[i]? = some φ → 0 ≤ φ ∧ φ ≤ a.c) → 0 ≤ costL ar fs ∧ costL ar fs ≤ ar.length * M
  | [], _, _, _ => by simp [costL]
  | a :: ar, [], h, _ => by
    have h1 : 0 ≤ ((a :: ar).length : Int) * M := Int.mul_nonneg (by omega) (by omega)
    simp only [costL]; omega
  | a :: ar, φ :: fs, h, hb => by
    obtain ⟨g1, g2⟩ := costL_bd hM ar fs (fun b hb => h b (by simp [hb])) (fun i a φ ha hφ => hb (i + 1) a φ (by simpa using ha) (by simpa using hφ))
    obtain ⟨k1, k2, k3⟩ := h a (by simp)
    obtain ⟨f1, f2⟩ := hb 0 a φ rfl rfl
    have hm0 : 0 ≤ φ * a.k := Int.mul_nonneg (by omega) (by omega)
    have hm1 : φ * a.k ≤ M := by rw [hM]; exact Int.mul_le_mul (a := φ) (b := a.k) (c := 1000000) (d := 1000) (by omega) (by omega) (by omega) (by omega)
    have e : ((a :: ar).length : Int) * M = ar.length * M + M := by simp only [List.length_cons]; push_cast; rw [Int.add_mul]; omega
    simp only [costL]; omega
theorem cost_flow {n : Net} (hmb : mvB n = true) {fl : List Int} (hf : IsFlow n fl) : 0 ≤ costL n.arcs fl ∧ costL n.arcs fl ≤ 2500000000000 := by
  obtain ⟨hV, hc⟩ := mvB_iff.1 hmb
  obtain ⟨M, hM⟩ : ∃ M : Int, M = 1000000000 := ⟨_, rfl⟩
  obtain ⟨g1, g2⟩ := costL_bd hM n.arcs fl (fun a ha => by have := hc a ha; simp [costB] at this; omega) hf.bnd.2
  have hal := hV.al
  have : (n.arcs.length : Int) * M ≤ 2500 * M := Int.mul_le_mul_of_nonneg_right (by omega) (by omega)
  omega
/-- what the loop of 'MincostConvex' knows before amount a -/
def Cvx (n : Net) (a : Nat) (last step : Int) : Prop := (a = 0 ∧ last = 0 ∧ step = 0) ∨ ∃ f p, 0 < a ∧ IsFlow n f ∧ value n f = (a : Int) - 1 ∧ Opt n f p ∧ last = costL n.arcs f ∧ ((a = 1 ∧ step = 0) ∨ ∃ f0, IsFlow n f0 ∧ value n f0 = (a : Int) - 2 ∧ step = costL n.arcs f - costL n.arcs f0)
theorem Cvx.next {n : Net} (hmb : mvB n = true) {a : Nat} {last step : Int} (h : Cvx n a last step) {g : List Int} {q : Int → Int} (hg : IsFlow n g) (hv : value n g = a) (hq : Opt n g q) :
    (0 < a → step ≤ costL n.arcs g - last) ∧ Cvx n (a + 1) (costL n.arcs g) (if 0 < (a : Int) then costL n.arcs g - last else step) ∧ 0 ≤ last ∧ last ≤ 2500000000000 := by
  obtain ⟨hV, _⟩ := mvB_iff.1 hmb
  rcases h with ⟨rfl, rfl, rfl⟩ | ⟨f, p, ha, hf, hfv, hp, rfl, h⟩
  · refine ⟨fun h => by omega, .inr ⟨g, q, by omega, hg, by rw [hv]; rfl, hq, rfl, .inl ⟨rfl, by simp⟩⟩, by omega, by omega⟩
  · have cb := cost_flow hmb hf
    have l1 := hp.least hV hf hg
    refine ⟨fun _ => ?_, .inr ⟨g, q, by omega, hg, by rw [hv]; push_cast; omega, hq, rfl, .inr ⟨f, hf, by rw [hfv]; push_cast; omega, by rw [if_pos (by omega)]⟩⟩, cb.1, cb.2⟩
    have e1 : value n g - value n f = 1 := by omega
    rw [e1, Int.mul_one] at l1
    rcases h with ⟨h, rfl⟩ | ⟨f0, h0, h1, rfl⟩
    · subst h
      have z := zero_flow hV
      have lz := hp.least hV hf z.1
      have e2 : value n (List.replicate n.arcs.length 0) - value n f = 0 := by omega
      have e3 : costL n.arcs (List.replicate n.arcs.length 0) = 0 := costL_zero n.arcs
      rw [e2, Int.mul_zero, e3] at lz
      have cg := cost_flow hmb hg
      omega
    · have l0 := hp.least hV hf h0
      have e2 : value n f0 - value n f = -1 := by omega
      rw [e2, Int.mul_neg, Int.mul_one] at l0
      omega

set_option maxHeartbeats 4000000 in
set_option maxRecDepth 20000 in
theorem cvx_loop {n : Net} (hmb : mvB n = true) {v : Value} {nb : Nat} {g0 : List Int} (hg0 : IsFlow n g0) {V : Nat} (hVV : value n g0 = V) {m0 : Mem} (hn : m0.get nb = some ⟨netC n v, true⟩) (hv : Arcs m0 v n.arcs) {Q : IExit → Slots → Mem → Prop} : ∀ (r a : Nat) (last step : Int) (m : Mem) (σ : Slots), a + r = V + 1 → Old m0 m → Cvx n a last step →
    σ 3 = ptr nb → σ 4 = I V → σ 5 = I last → σ 6 = I step → σ 7 = I a → (∀ σ' m', Q (.exit 0) σ' m') → WP Try.prog (.loop ir11_l0) σ m Q
  | 0, a, last, step, m, σ, ha, ho, hc, s3, s4, s5, s6, s7, hQ => by
    refine wp_round fun J hJ => ?_
    have h1 : ¬ a ≤ V := by omega
    have h1' : ¬ (a : Int) ≤ V := by omega
    simp (disch := first | omega | (simp only [next_put, next_bump]; omega)) [ir11_l0, s4, s7, h1, h1', get_put_self, get_put_ne, get_bump, put_put]
    exact hQ _ _
  | r + 1, a, last, step, m, σ, ha, ho, hc, s3, s4, s5, s6, s7, hQ => by
    refine wp_round fun J hJ => ?_
    obtain ⟨hV, _⟩ := mvB_iff.1 hmb
    have h1 : a ≤ V := by omega
    have h1' : (a : Int) ≤ V := by omega
    have hgn := ho.some hn
    have hvl := value_le hV hg0
    simp (disch := first | omega | (simp only [next_put, next_bump]; omega)) [ir11_l0, s3, s4, s7, h1, h1', hgn, get_put_self, get_put_ne, get_bump, put_put]
    refine (msolved_wp hmb (hv.mono ho) hg0 (amount := a) (by omega) (by omega)).mono fun r' m1 hp => ?_
    obtain ⟨o1, fl, p, rfl, hf, hval, hopt⟩ := hp
    obtain ⟨c1, c2, c3, c4⟩ := hc.next hmb hf hval hopt
    have cb := cost_flow hmb hf
    generalize hC : costL n.arcs fl = C at *
    have w0 : IntKind.i64.wrap ((a : Int) + 1) = (a : Int) + 1 := i64_id (by omega) (by omega)
    have w1 : IntKind.i64.wrap (C - last) = C - last := i64_id (by omega) (by omega)
    have next : ∀ (σ' : Slots), σ' 3 = ptr nb → σ' 4 = I V → σ' 5 = I C → σ' 6 = I (if 0 < (a : Int) then C - last else step) → σ' 7 = I ((a : Int) + 1) → J σ' m1 := fun σ' q3 q4 q5 q6 q7 =>
      hJ _ _ (cvx_loop hmb hg0 hVV hn hv r (a + 1) C _ m1 σ' (by omega) (ho.trans o1) c2 q3 q4 q5 q6 (by rw [q7]; simp) hQ)
    by_cases k1 : 0 < (a : Int)
    · have k1' : 0 < a := by omega
      have k2 : ¬ C - last < step := by have := c1 k1'; omega
      simp (disch := first | omega | (simp only [next_put, next_bump]; omega)) [s3, s4, s5, s6, s7, w0, w1, k1, k1', k2, get_put_self, get_put_ne, get_bump, put_put]
      exact next _ (by simp [s3]) (by simp [s4]) (by simp) (by simp [k1']) (by simp)
    · have k1' : ¬ 0 < a := by omega
      simp (disch := first | omega | (simp only [next_put, next_bump]; omega)) [s3, s4, s5, s6, s7, w0, k1, k1', get_put_self, get_put_ne, get_bump, put_put]
      exact next _ (by simp [s3]) (by simp [s4]) (by simp) (by simp [s6, k1']) (by simp)

set_option maxHeartbeats 8000000 in
set_option maxRecDepth 20000 in
theorem mcConvex_wp {v : Value} {l : List Int} {m : Mem} (hv : ByteS m v l) (hb : ∀ x ∈ l, 0 ≤ x ∧ x < 256) : WPCall Try.prog 11 [v] m fun r _ => r = .bool true := by
  rw [call11 (by simp)]
  simp (disch := first | omega | (simp only [next_put, next_bump]; omega)) [ir11_b, get_put_self, get_put_ne, get_bump, put_put]
  refine (new_wp (hv.bmp 5) hb).mono fun r m1 hp => ?_
  obtain ⟨tb, tv, l', rfl, htb, o1, hT⟩ := hp
  simp only [next_bump] at htb
  simp
  refine (network_wp hT).mono fun r m2 hp => ?_
  obtain ⟨n, nv, rfl, hA, hS, o2⟩ := hp
  have hV := hS.valid
  have hmb := hS.mv
  have n1 := o1.next
  have n2 := o2.next
  simp only [next_bump] at n1
  have free : m2.get (m.next + 3) = none := by rw [o2.get _ (by omega) (by omega), o1.get _ (by simp only [next_bump]; omega), none_bump (by omega)]
  simp (disch := first | omega | (simp only [next_put, next_bump]; omega)) [free, get_put_self, get_put_ne, get_bump, put_put]
  obtain ⟨m3, hm3⟩ : ∃ m3, m3 = m2.put (m.next + 3) (some ⟨[I n.nodes, I n.src, I n.snk, nv], true⟩) := ⟨_, rfl⟩
  rw [← hm3]
  have hA3 : Arcs m3 nv n.arcs := by rw [hm3]; exact hA.putF free _
  have g3 : m3.get (m.next + 3) = some ⟨netC n nv, true⟩ := by rw [hm3]; exact get_put_self (by omega)
  refine (most_wp hV hA3).mono fun r m4 hp => ?_
  obtain ⟨o4, V, rfl, hc⟩ := hp
  have hV0 := hc.nonneg hV
  obtain ⟨⟨g0, hg0, hgv⟩, _⟩ := hc
  have g4 := o4.some g3
  obtain ⟨V', rfl⟩ : ∃ V' : Nat, V = V' := ⟨V.toNat, by omega⟩
  simp (disch := first | omega | (simp only [next_put, next_bump]; omega)) [g4, get_put_self, get_put_ne, get_bump, put_put]
  refine cvx_loop hmb hg0 hgv g4 (hA3.mono o4) (V' + 1) 0 0 0 m4 _ (by omega) (Old.refl _) (.inl ⟨rfl, rfl, rfl⟩) (by simp) (by simp) (by simp) (by simp) (by simp) (fun σ' m' => ?_)
  simp
  refine maw_wp _ _ fun m' => ?_
  simp
theorem mincostConvex_law (m : Mem) (us : List Value) (h : AbsArgs m [.slice (.int .u8)] us) : WPCall Try.prog 11 us m fun r _ => r = .bool true := by
  rcases h with _ | ⟨h1, h⟩
  cases h
  obtain ⟨h2, _, h3⟩ := h1.ints
  refine mcConvex_wp ?_ (fun x hx => u8_wf (h3 x hx))
  rcases h2 with h | ⟨b, h, h'⟩
  · exact .inl h
  · exact .inr ⟨b, false, h, h'⟩
end Go.Proofs.Ytapnkfkpkcajjaa
