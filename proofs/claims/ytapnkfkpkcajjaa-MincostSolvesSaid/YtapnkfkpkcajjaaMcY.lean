/-
  'MincostSolves'.
-/
import Derived.Test.YtapnkfkpkcajjaaMcX
namespace Go.Proofs.Ytapnkfkpkcajjaa
open Go Go.DI Go.Nets
set_option linter.unusedSimpArgs false
set_option linter.unusedVariables false

set_option maxHeartbeats 8000000 in
set_option maxRecDepth 20000 in
theorem rmsolve_loop {n : Net} (hV : n.Valid) {N : Nat} (hN : n.nodes = N) (hk : ∀ a ∈ n.arcs, 0 ≤ a.k ∧ a.k ≤ 1000) {v : Value} {fb nb : Nat} {m0 : Mem} (hfb : m0.next ≤ fb) (hn0 : m0.get nb = some ⟨netC n v, true⟩) (hv0 : Arcs m0 v n.arcs)
    {g : List Int} (hg : IsFlow n g) {amount : Int} (ham : amount ≤ value n g) {Q : IExit → Slots → Mem → Prop} :
    ∀ (K : Nat) (left : Int) (fl : List Int) (p : Int → Int) (m : Mem) (σ : Slots), left ≤ K → 0 ≤ left → IsFlow n fl → 0 ≤ value n fl → value n fl = amount - left → Opt n fl p → p n.src = 0 → (∀ v, 0 ≤ p v ∧ p v ≤ p n.snk) → p n.snk ≤ 1000 * N → Old m0 m → m.get fb = some ⟨fl.map (Value.int .i64 ·), true⟩ →
    σ 2 = ptr nb → σ 8 = .slice (some ⟨fb, 0, none⟩) fl.length 1 → σ 9 = I left →
    (∀ σ' m' fl' p', Old m0 m' → IsFlow n fl' → value n fl' = amount → Opt n fl' p' → (∀ v, 0 ≤ p' v ∧ p' v ≤ 1000000) → m'.get fb = some ⟨fl'.map (Value.int .i64 ·), true⟩ → σ' 2 = ptr nb → σ' 8 = .slice (some ⟨fb, 0, none⟩) fl'.length 1 → Q (.exit 0) σ' m') → WP Try.prog (.loop ir36_l2) σ m Q := by
  intro K
  have h700 := hV.n7
  have hkc := stC_bd hk
  have lnb0 := get_lt hn0
  have hvf : ∀ b l c, v = .slice (some ⟨b, 0, none⟩) l c → b ≠ fb := by
    intro b l c he
    rcases hv0 with ⟨h, _⟩ | ⟨b', o, h, hb⟩
    · rw [h] at he; cases he
    · rw [h] at he; cases he; have := get_lt hb; omega
  induction K with
  | zero =>
    intro left fl p m σ hK h0 hf hvn hval hopt hps hpb hpm ho gf s2 s8 s9 hQ
    obtain rfl : left = 0 := by omega
    refine wp_round fun J hJ => ?_
    simp (disch := first | omega | (simp only [next_put, next_bump]; omega)) [ir36_l2, s9, get_put_self, get_put_ne, get_bump, put_put]
    exact hQ _ _ fl p ho hf (by omega) hopt (fun v => by have := hpb v; omega) gf (by simp [s2]) (by simp [s8])
  | succ K ih =>
    intro left fl p m σ hK h0 hf hvn hval hopt hps hpb hpm ho gf s2 s8 s9 hQ
    have hpb2 : ∀ v, 0 ≤ p v ∧ p v ≤ 1000000 := fun v => by have := hpb v; omega
    by_cases hl : left = 0
    · subst hl
      refine wp_round fun J hJ => ?_
      simp (disch := first | omega | (simp only [next_put, next_bump]; omega)) [ir36_l2, s9, get_put_self, get_put_ne, get_bump, put_put]
      exact hQ _ _ fl p ho hf (by omega) hopt hpb2 gf (by simp [s2]) (by simp [s8])
    refine wp_round fun J hJ => ?_
    have hpos : 0 < left := by omega
    have gn := ho.some hn0
    have hv := hv0.mono ho
    simp (disch := first | omega | (simp only [next_put, next_bump]; omega)) [ir36_l2, s9, s2, s8, hpos, gn, get_put_self, get_put_ne, get_bump, put_put]
    refine (rdist_wp hV hN hf.bnd hopt hps hpb2 hk hv gf).mono fun r m1 hp1 => ?_
    obtain ⟨o1, db, bb, dist, byf, rfl, hdb, hbb, gd, gb, hD, hhi⟩ := hp1
    have gn1 := o1.some gn
    have gf1 := o1.some gf
    have hv1 := hv.mono o1
    have lfb := get_lt gf
    have hreach := hD.reached (by omega) (fun v => (hpb2 v).1) (fun e => (hkc e).2) (fun v => (hpb2 v).2)
    have hsn : sn (red p dist) n.snk = true := by
      cases hh : sn (red p dist) n.snk
      · have e1 := hreach.opt hV hf hh
        have e2 := weak hV hg hreach.src hh
        omega
      · rfl
    have hDf := sn_iff.1 hsn
    have hDd := (red_lt (hpb2 n.snk).1).1 hDf
    obtain ⟨l, hpa, hr, hnd⟩ := hreach.path hsn
    have hcap := hD.cap _ hDf
    have hD0 := hD.lo n.snk
    obtain ⟨t1, t2⟩ := hV.snk
    obtain ⟨k, hk1⟩ : ∃ k : Nat, n.snk = k := ⟨n.snk.toNat, by omega⟩
    have t3 : n.snk.toNat = k := by omega
    have t4 : k < N := by omega
    have t5 : n.snk < (N : Int) := by omega
    have t6 : k + 1 ≤ N := t4
    have hk' : (k : Int) = n.snk := hk1.symm
    have hri : (rowI N dist)[k]? = some (I (dist n.snk)) := by rw [rowI_get t4, hk']
    have hnf : ¬ dist n.snk = 1099511627776 := by unfold far at hDd; omega
    obtain ⟨d1, d2, d3⟩ := minAll_spec (n := n) (fl := fl) l left hpos hr
    simp (disch := first | omega | (simp only [next_put, next_bump]; omega)) [s2, s8, s9, gn1, gd, t1, t3, t4, t5, t6, hri, hnf, head_td, get_put_self, get_put_ne, get_bump, put_put]
    refine rmin2_loop hV hN hf.bnd hv1 gn1 gf1 gb l n.snk left _ hpa hr (by simp [s2]) (by simp [s8]) (by simp) (by simp) (by simp) (fun σ1 e1 e2 => ?_)
    have q2 : σ1 2 = ptr nb := by rw [e1 2 (by omega)]; simp [s2]
    have q8 : σ1 8 = .slice (some ⟨fb, 0, none⟩) fl.length 1 := by rw [e1 8 (by omega)]; simp [s8]
    have q9 : σ1 9 = I left := by rw [e1 9 (by omega)]; simp [s9]
    have q11 : σ1 11 = .slice (some ⟨bb, 0, none⟩) N 1 := by rw [e1 11 (by omega)]; simp
    simp (disch := first | omega | (simp only [next_put, next_bump]; omega)) [q2, gn1, get_put_self, get_put_ne, get_bump, put_put]
    refine rpush2_loop hV hN (d := minAll n fl left l) (by omega) (v := v) (nb := nb) (fb := fb) (bb := bb) (by omega) (by omega) hvf l n.snk fl m1 _ hf.bnd hv1 gn1 gf1 gb hpa (fun e he => ⟨hr e he, d3 e he⟩) hnd (by simp [q2]) (by simp [q8]) (by simp [q11]) (by simp [e2]) (by simp) (fun σ2 f1 => ?_)
    have haug := augmented hV hf hpa (d := minAll n fl left l) (by omega) (fun e he => ⟨hr e he, d3 e he⟩) hnd
    have hvle := value_le hV haug.1
    have hvg := value_le hV hg
    have hpl : (pushAll fl l (minAll n fl left l)).length = fl.length := by rw [haug.1.bnd.1, hf.bnd.1]
    generalize hdd : minAll n fl left l = d at *
    have w1 : IntKind.i64.wrap (left - d) = left - d := i64_id (by omega) (by omega)
    have r2 : σ2 2 = ptr nb := by rw [f1 2 (by omega)]; simp [q2]
    have r8 : σ2 8 = .slice (some ⟨fb, 0, none⟩) (pushAll fl l d).length 1 := by rw [f1 8 (by omega), hpl]; simp [q8]
    have r9 : σ2 9 = I left := by rw [f1 9 (by omega)]; simp [q9]
    have r12 : σ2 12 = I d := by rw [f1 12 (by omega)]; simp [e2]
    simp (disch := first | omega | (simp only [next_put, next_bump]; omega)) [r9, r12, w1, get_put_self, get_put_ne, get_bump, put_put]
    have hnew := hD.newOpt hopt hDf
    have htight := hD.tight hopt hDf hpa (Int.le_refl _)
    have hnp : ∀ v, newP p (red p dist) (red p dist n.snk) v = p v + (if red p dist v < red p dist n.snk then red p dist v else red p dist n.snk) := fun v => rfl
    have hsnk : newP p (red p dist) (red p dist n.snk) n.snk = p n.snk + red p dist n.snk := by rw [hnp]; split <;> omega
    have hsrc : newP p (red p dist) (red p dist n.snk) n.src = 0 := by rw [hnp, hD.src, hps]; split <;> omega
    refine hJ _ _ (ih (left - d) (pushAll fl l d) (newP p (red p dist) (red p dist n.snk)) _ _ (by omega) (by omega) haug.1 (by rw [haug.2]; omega) (by rw [haug.2]; omega) (hnew.push htight d) hsrc (fun v => ?_) (by rw [hsnk]; omega) ((ho.trans o1).put hfb) (get_put_self (get_lt gf1)) (by simp [r2]) (by simp [r8]) (by simp) hQ)
    rw [hsnk, hnp]
    have := hpb v
    have := hD.lo v
    split <;> omega

def RMSolved (n : Net) (amount : Int) (r : Value) : Prop := ∃ w u fl p, r = .tuple #[w, I (costL n.arcs fl), u, I 0] ∧ IsFlow n fl ∧ value n fl = amount ∧ Opt n fl p
set_option maxHeartbeats 8000000 in
set_option maxRecDepth 20000 in
theorem rmsolve_wp {n : Net} (hmb : mvB n = true) {v : Value} {m : Mem} (hv : Arcs m v n.arcs) {g : List Int} (hg : IsFlow n g) {amount : Int} (h0 : 0 ≤ amount) (ham : amount ≤ value n g) : WPCall Try.prog 36 [netV n v, I amount] m fun r m' => Old m m' ∧ RMSolved n amount r := by
  rw [call36 (by simp)]
  obtain ⟨hV, hcb⟩ := mvB_iff.1 hmb
  have hk : ∀ a ∈ n.arcs, 0 ≤ a.k ∧ a.k ≤ 1000 := fun a ha => costB_k (hcb a ha)
  obtain ⟨hlen, hsl⟩ := hv.len
  have hM : Old m ((m.bump 5).put m.next (some ⟨netC n v, true⟩)) := ((Old.refl m).bump 5).put (Nat.le_refl _)
  simp (disch := first | omega | (simp only [next_put, next_bump]; omega)) [ir36_b, get_put_self, get_put_ne, get_bump, put_put, -lenOfV, -isSl]
  refine (rmvalid_wp (hv.mono hM)).mono fun r m2 hp => ?_
  obtain ⟨rfl, ho⟩ := hp
  have ho2 := hM.trans ho
  have hg2 : m2.get m.next = some ⟨netC n v, true⟩ := ho.some (get_put_self (by simp))
  have hln := get_lt hg2
  have hv2 := hv.mono ho2
  obtain ⟨N, hN⟩ : ∃ N : Nat, n.nodes = N := ⟨n.nodes.toNat, by have := hV.n2; omega⟩
  have hal := hV.al
  have ha : ¬ amount < 0 := by omega
  have z3 : (n.arcs.length : Int) * 8 ≤ 140737488355328 := by omega
  have z4 : (n.arcs.length : Int) ≤ 9223372036854775807 := by omega
  have z5 : n.arcs.length * 8 ≤ 140737488355328 := by omega
  have z6 : n.arcs.length ≤ 9223372036854775807 := by omega
  obtain ⟨hz1, hz2⟩ := zero_flow hV
  have hzo : Opt n (List.replicate n.arcs.length 0) (fun _ => 0) := Opt.zero hV (fun a ha => (hk a ha).1)
  simp (disch := first | omega | (simp only [next_put, next_bump]; omega)) [hmb, ha, hg2, hlen, hsl, z3, z4, z5, z6, get_put_self, get_put_ne, get_bump, put_put, -lenOfV, -isSl]
  have o3 : Old m2 ((m2.bump 5).put (m2.next + 3) (some ⟨List.replicate n.arcs.length (Value.int .i64 0), true⟩)) := ((Old.refl m2).bump 5).put (by omega)
  refine rmsolve_loop hV hN hk (v := v) (nb := m.next) (fb := m2.next + 3) (m0 := m2) (by omega) hg2 hv2 hg (amount := amount) ham amount.toNat amount (List.replicate n.arcs.length 0) (fun _ => 0) _ _ (by omega) h0 hz1 (by omega) (by omega) hzo rfl (fun v => by simp) (by show (0 : Int) ≤ _; omega) o3 (by rw [get_put_self (by simp only [next_bump]; omega), List.map_replicate]) (by simp) (by simp) (by simp) (fun σ' m' fl' p' f1 f2 f3 f4 f5 f6 f7 f8 => ?_)
  have g3 := f1.some hg2
  have hv3 := hv2.mono f1
  simp (disch := first | omega | (simp only [next_put, next_bump]; omega)) [f7, f8, g3, get_put_self, get_put_ne, get_bump, put_put]
  refine (rcost_wp (n := n) (fl := fl') hv3 (.inr ⟨_, _, rfl, f6⟩)).mono fun r m5 hp5 => ?_
  obtain ⟨rfl, ho5⟩ := hp5
  have g5 := ho5.some g3
  have hcr : costR n fl' = (costL n.arcs fl', true) := by simp [costR, valueR_of hV f2, hmb]
  simp (disch := first | omega | (simp only [next_put, next_bump]; omega)) [f7, f8, g5, hcr, get_put_self, get_put_ne, get_bump, put_put]
  refine (rpot_wp hV hN f2.bnd f4 f5 hk (hv3.mono ho5) (ho5.some f6)).mono fun r m6 o6 => ?_
  simp (disch := first | omega | (simp only [next_put, next_bump]; omega)) [put_put, get_put_self, get_put_ne, get_bump, put_put]
  exact ⟨ho2.trans (f1.trans (ho5.trans o6)), _, _, fl', p', rfl, f2, f3, f4⟩

set_option maxHeartbeats 4000000 in
set_option maxRecDepth 20000 in
theorem so_loop {n : Net} (hmb : mvB n = true) {v : Value} {nb : Nat} {g0 : List Int} (hg0 : IsFlow n g0) {V : Nat} (hVV : value n g0 = V) {m0 : Mem} (hn : m0.get nb = some ⟨netC n v, true⟩) (hv : Arcs m0 v n.arcs) {Q : IExit → Slots → Mem → Prop} : ∀ (r a : Nat) (m : Mem) (σ : Slots), a + r = V + 1 → Old m0 m →
    σ 3 = ptr nb → σ 4 = I V → σ 5 = I a → (∀ σ' m', Old m0 m' → σ' 3 = ptr nb → σ' 4 = I V → Q (.exit 0) σ' m') → WP Try.prog (.loop ir10_l0) σ m Q
  | 0, a, m, σ, ha, ho, s3, s4, s5, hQ => by
    refine wp_round fun J hJ => ?_
    have h1 : ¬ a ≤ V := by omega
    have h1' : ¬ (a : Int) ≤ V := by omega
    simp (disch := first | omega | (simp only [next_put, next_bump]; omega)) [ir10_l0, s4, s5, h1, h1', get_put_self, get_put_ne, get_bump, put_put]
    exact hQ _ _ ho (by simp [s3]) (by simp [s4])
  | r + 1, a, m, σ, ha, ho, s3, s4, s5, hQ => by
    refine wp_round fun J hJ => ?_
    obtain ⟨hV, _⟩ := mvB_iff.1 hmb
    have h1 : a ≤ V := by omega
    have h1' : (a : Int) ≤ V := by omega
    have hgn := ho.some hn
    have hvl := value_le hV hg0
    have w0 : IntKind.i64.wrap ((a : Int) + 1) = (a : Int) + 1 := i64_id (by omega) (by omega)
    simp (disch := first | omega | (simp only [next_put, next_bump]; omega)) [ir10_l0, s3, s4, s5, h1, h1', hgn, get_put_self, get_put_ne, get_bump, put_put]
    refine (msolved_wp hmb (hv.mono ho) hg0 (amount := a) (by omega) (by omega)).mono fun r' m1 hp => ?_
    obtain ⟨o1, fl, p, rfl, hf, hval, hopt⟩ := hp
    have g1 := o1.some hgn
    simp (disch := first | omega | (simp only [next_put, next_bump]; omega)) [s3, s4, s5, g1, get_put_self, get_put_ne, get_bump, put_put]
    refine (rmsolve_wp hmb ((hv.mono ho).mono o1) hg0 (amount := a) (by omega) (by omega)).mono fun r' m2 hp => ?_
    obtain ⟨o2, w, u, fl2, p2, rfl, hf2, hval2, hopt2⟩ := hp
    have l1 := hopt.least hV hf hf2
    have l2 := hopt2.least hV hf2 hf
    have e1 : value n fl2 - value n fl = 0 := by omega
    have e2 : value n fl - value n fl2 = 0 := by omega
    rw [e1, Int.mul_zero] at l1
    rw [e2, Int.mul_zero] at l2
    have heq : costL n.arcs fl = costL n.arcs fl2 := by omega
    simp (disch := first | omega | (simp only [next_put, next_bump]; omega)) [s3, s4, s5, heq, w0, get_put_self, get_put_ne, get_bump, put_put]
    exact hJ _ _ (so_loop hmb hg0 hVV hn hv r (a + 1) m2 _ (by omega) ((ho.trans o1).trans o2) (by simp [s3]) (by simp [s4]) (by simp) hQ)

set_option maxHeartbeats 8000000 in
set_option maxRecDepth 20000 in
theorem mcSolves_wp {v : Value} {l : List Int} {m : Mem} (hv : ByteS m v l) (hb : ∀ x ∈ l, 0 ≤ x ∧ x < 256) : WPCall Try.prog 10 [v] m fun r _ => r = .bool true := by
  rw [call10 (by simp)]
  simp (disch := first | omega | (simp only [next_put, next_bump]; omega)) [ir10_b, get_put_self, get_put_ne, get_bump, put_put]
  refine (new_wp (hv.bmp 5) hb).mono fun r m1 hp => ?_
  obtain ⟨tb, tv, l', rfl, htb, o1, hT⟩ := hp
  simp only [next_bump] at htb
  simp
  refine (network_wp hT).mono fun r m2 hp => ?_
  obtain ⟨n, nv, rfl, hA, hS, o2⟩ := hp
  have hV := hS.valid
  have hmb := hS.mv
  have n1 := o1.next
  have n2 := o2.next
  simp only [next_bump] at n1
  have free : m2.get (m.next + 3) = none := by rw [o2.get _ (by omega) (by omega), o1.get _ (by simp only [next_bump]; omega), none_bump (by omega)]
  simp (disch := first | omega | (simp only [next_put, next_bump]; omega)) [free, get_put_self, get_put_ne, get_bump, put_put]
  obtain ⟨m3, hm3⟩ : ∃ m3, m3 = m2.put (m.next + 3) (some ⟨[I n.nodes, I n.src, I n.snk, nv], true⟩) := ⟨_, rfl⟩
  rw [← hm3]
  have hA3 : Arcs m3 nv n.arcs := by rw [hm3]; exact hA.putF free _
  have g3 : m3.get (m.next + 3) = some ⟨netC n nv, true⟩ := by rw [hm3]; exact get_put_self (by omega)
  refine (most_wp hV hA3).mono fun r m4 hp => ?_
  obtain ⟨o4, V, rfl, hc⟩ := hp
  have hV0 := hc.nonneg hV
  have hc' := hc
  obtain ⟨⟨g0, hg0, hgv⟩, _⟩ := hc
  have g4 := o4.some g3
  obtain ⟨V', rfl⟩ : ∃ V' : Nat, V = V' := ⟨V.toNat, by omega⟩
  simp (disch := first | omega | (simp only [next_put, next_bump]; omega)) [g4, get_put_self, get_put_ne, get_bump, put_put]
  refine so_loop hmb hg0 hgv g4 (hA3.mono o4) (V' + 1) 0 m4 _ (by omega) (Old.refl _) (by simp) (by simp) (by simp) (fun σ' m5 o5 q3 q4 => ?_)
  have w1 : IntKind.i64.wrap ((V' : Int) + 1) = (V' : Int) + 1 := i64_id (by omega) (by omega)
  have g5 := o5.some g4
  simp (disch := first | omega | (simp only [next_put, next_bump]; omega)) [q3, q4, g5, w1, get_put_self, get_put_ne, get_bump, put_put]
  refine (msolve_wp (n := n) ((hA3.mono o4).mono o5) (by have := hV.al; omega) ((V' : Int) + 1)).mono fun r m6 hp => ?_
  obtain ⟨o6, hp⟩ := hp
  have hr : r = .tuple #[.slice none 0 0, I 0, .slice none 0 0, I 12] := by
    rcases hp with ⟨h, _⟩ | ⟨_, _, g, cut, hgf, hcl, hcr, h⟩
    · rcases h with h | h
      · rw [hmb] at h; cases h
      · omega
    · have := (hasCut_of hgf hcr).unique hV hc'
      rcases h with ⟨_, h⟩ | ⟨h, _⟩
      · exact h
      · omega
  subst hr
  simp (disch := first | omega | (simp only [next_put, next_bump]; omega)) [put_put, get_put_self, get_put_ne, get_bump, put_put]
  refine maw_wp _ _ fun m' => ?_
  simp
theorem mincostSolves_law (m : Mem) (us : List Value) (h : AbsArgs m [.slice (.int .u8)] us) : WPCall Try.prog 10 us m fun r _ => r = .bool true := by
  rcases h with _ | ⟨h1, h⟩
  cases h
  obtain ⟨h2, _, h3⟩ := h1.ints
  refine mcSolves_wp ?_ (fun x hx => u8_wf (h3 x hx))
  rcases h2 with h | ⟨b, h, h'⟩
  · exact .inl h
  · exact .inr ⟨b, false, h, h'⟩
end Go.Proofs.Ytapnkfkpkcajjaa
