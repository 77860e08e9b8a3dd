/-
  The reference's maxflow again; 'Check' of mincost.
-/
import Derived.Test.YtapnkfkpkcajjaaMcL
import Derived.Test.YtapnkfkpkcajjaaMfX
namespace Go.Proofs.Ytapnkfkpkcajjaa
open Go Go.DI Go.Nets
set_option linter.unusedSimpArgs false
set_option linter.unusedVariables false
set_option maxHeartbeats 8000000 in
set_option maxRecDepth 20000 in
theorem rsolve2_loop {n : Net} (hV : n.Valid) {N : Nat} (hN : n.nodes = N) {v : Value} {nb fb : Nat} {m0 : Mem} (hfb0 : m0.next ≤ fb) (x5 : nb ≠ fb) (hvf : ∀ b l c, v = .slice (some ⟨b, 0, none⟩) l c → b ≠ fb) {Q : IExit → Slots → Mem → Prop} :
    ∀ (K : Nat) (fl : List Int) (m : Mem) (σ : Slots), 5368709117500 - value n fl ≤ K → IsFlow n fl → Old m0 m → Arcs m v n.arcs → m.get nb = some ⟨netC n v, true⟩ → m.get fb = some ⟨fl.map (Value.int .i64 ·), true⟩ → σ 1 = ptr nb → σ 6 = .slice (some ⟨fb, 0, none⟩) fl.length 1 →
    (∀ σ' m' fl' u, Old m0 m' → IsFlow n fl' → HasCut n (value n fl') → m'.get fb = some ⟨fl'.map (Value.int .i64 ·), true⟩ → σ' 2 = .slice (some ⟨fb, 0, none⟩) fl'.length 1 → σ' 3 = I (value n fl') → σ' 4 = u → σ' 5 = I 0 → Q .ret σ' m') → WP Try.prog (.loop ir29_l2) σ m Q := by
  intro K
  induction K with
  | zero =>
    intro fl m σ hK hfl ho hv hn hf s1 s6 hQ
    refine wp_round fun J hJ => ?_
    have hlo' := get_lt hf
    have hfo := hfl.bnd.1
    simp (disch := first | omega | (simp only [next_put, next_bump]; omega)) [ir29_l2, s1, s6, hn, get_put_self, get_put_ne, get_bump, put_put]
    refine (rreach_wp (n := n) hV hN hfo hv hf).mono fun r m1 hp => ?_
    obtain ⟨o1, bb, eb, byf, se, rfl, hbb, heb, gb, ge, hB⟩ := hp
    have hn1 := o1.some hn
    have hf1 := o1.some hf
    have hv1 := hv.mono o1
    obtain ⟨t1, t2⟩ := hV.snk
    obtain ⟨k, hk⟩ : ∃ k : Nat, n.snk = k := ⟨n.snk.toNat, by omega⟩
    have t3 : n.snk.toNat = k := by omega
    have t4 : k < N := by omega
    have t5 : n.snk < (N : Int) := by omega
    have t6 : k + 1 ≤ N := t4
    have hk' : (k : Int) = n.snk := hk.symm
    have hrb : (rowB N se)[k]? = some (.bool (se n.snk)) := by rw [rowB_get t4, hk']
    have hrb2 : ∀ h, (rowB N se)[k]'h = .bool (se n.snk) := fun h => by rw [rowB_getElem, hk']
    cases hse : se n.snk
    · simp (disch := first | omega | (simp only [next_put, next_bump]; omega)) [gb, ge, hn1, hf1, t1, t3, t4, t5, t6, hrb, hrb2, head_td, hse, s1, s6, get_put_self, get_put_ne, get_bump, put_put]
      refine (rvalue_wp (n := n) hv1 (.inr ⟨fb, true, rfl, hf1⟩)).mono fun r m2 hp => ?_
      obtain ⟨rfl, o2⟩ := hp
      have hvr := valueR_of hV hfl
      simp (disch := first | omega | (simp only [next_put, next_bump]; omega)) [hvr, get_put_self, get_put_ne, get_bump, put_put]
      exact hQ _ _ fl (.slice (some ⟨eb, 0, none⟩) N 1) ((ho.trans o1).trans o2) hfl ⟨⟨fl, hfl, rfl⟩, se, hB.src, hse, (hB.reached.opt hV hfl hse).symm⟩ (o2.some hf1) (by simp [s6]) (by simp) (by simp) (by simp)
    obtain ⟨l, hp, hr, hnd⟩ := hB.reached.path hse
    obtain ⟨d1, d2, d3⟩ := minAll_spec (n := n) (fl := fl) l 2147483647 (by omega) hr
    simp (disch := first | omega | (simp only [next_put, next_bump]; omega)) [gb, ge, hn1, hf1, t1, t3, t4, t5, t6, hrb, hrb2, head_td, hse, s1, s6, get_put_self, get_put_ne, get_bump, put_put]
    refine rmin_loop hV hN hfl.bnd hv1 hn1 hf1 gb l n.snk 2147483647 _ hp hr (by simp [s1]) (by simp [s6]) (by simp) (by simp) (by simp) (fun σ1 e1 e2 => ?_)
    have q1 : σ1 1 = ptr nb := by rw [e1 1 (by omega)]; simp [s1]
    have q6 : σ1 6 = .slice (some ⟨fb, 0, none⟩) fl.length 1 := by rw [e1 6 (by omega)]; simp [s6]
    have q8 : σ1 8 = .slice (some ⟨bb, 0, none⟩) N 1 := by rw [e1 8 (by omega)]; simp
    simp (disch := first | omega | (simp only [next_put, next_bump]; omega)) [q1, hn1, get_put_self, get_put_ne, get_bump, put_put]
    refine rpush_loop hV hN (d := minAll n fl 2147483647 l) (by omega) (v := v) (nb := nb) (fb := fb) (bb := bb) x5 (by omega) hvf l n.snk fl m1 _ hfl.bnd hv1 hn1 hf1 gb hp (fun e he => ⟨hr e he, d3 e he⟩) hnd (by simp [q1]) (by simp [q6]) (by simp [q8]) (by simp [e2]) (by simp) (fun σ2 f1 => ?_)
    have haug := augmented hV hfl hp (d := minAll n fl 2147483647 l) (by omega) (fun e he => ⟨hr e he, d3 e he⟩) hnd
    have hvle := value_le hV haug.1
    have hpl : (pushAll fl l (minAll n fl 2147483647 l)).length = fl.length := by rw [haug.1.bnd.1, hfo]
    have r1 : σ2 1 = ptr nb := by rw [f1 1 (by omega)]; simp [q1]
    have r6 : σ2 6 = .slice (some ⟨fb, 0, none⟩) (pushAll fl l (minAll n fl 2147483647 l)).length 1 := by rw [f1 6 (by omega), hpl]; simp [q6]
    simp
    exfalso
    omega
  | succ K ih =>
    intro fl m σ hK hfl ho hv hn hf s1 s6 hQ
    refine wp_round fun J hJ => ?_
    have hlo' := get_lt hf
    have hfo := hfl.bnd.1
    simp (disch := first | omega | (simp only [next_put, next_bump]; omega)) [ir29_l2, s1, s6, hn, get_put_self, get_put_ne, get_bump, put_put]
    refine (rreach_wp (n := n) hV hN hfo hv hf).mono fun r m1 hp => ?_
    obtain ⟨o1, bb, eb, byf, se, rfl, hbb, heb, gb, ge, hB⟩ := hp
    have hn1 := o1.some hn
    have hf1 := o1.some hf
    have hv1 := hv.mono o1
    obtain ⟨t1, t2⟩ := hV.snk
    obtain ⟨k, hk⟩ : ∃ k : Nat, n.snk = k := ⟨n.snk.toNat, by omega⟩
    have t3 : n.snk.toNat = k := by omega
    have t4 : k < N := by omega
    have t5 : n.snk < (N : Int) := by omega
    have t6 : k + 1 ≤ N := t4
    have hk' : (k : Int) = n.snk := hk.symm
    have hrb : (rowB N se)[k]? = some (.bool (se n.snk)) := by rw [rowB_get t4, hk']
    have hrb2 : ∀ h, (rowB N se)[k]'h = .bool (se n.snk) := fun h => by rw [rowB_getElem, hk']
    cases hse : se n.snk
    · simp (disch := first | omega | (simp only [next_put, next_bump]; omega)) [gb, ge, hn1, hf1, t1, t3, t4, t5, t6, hrb, hrb2, head_td, hse, s1, s6, get_put_self, get_put_ne, get_bump, put_put]
      refine (rvalue_wp (n := n) hv1 (.inr ⟨fb, true, rfl, hf1⟩)).mono fun r m2 hp => ?_
      obtain ⟨rfl, o2⟩ := hp
      have hvr := valueR_of hV hfl
      simp (disch := first | omega | (simp only [next_put, next_bump]; omega)) [hvr, get_put_self, get_put_ne, get_bump, put_put]
      exact hQ _ _ fl (.slice (some ⟨eb, 0, none⟩) N 1) ((ho.trans o1).trans o2) hfl ⟨⟨fl, hfl, rfl⟩, se, hB.src, hse, (hB.reached.opt hV hfl hse).symm⟩ (o2.some hf1) (by simp [s6]) (by simp) (by simp) (by simp)
    obtain ⟨l, hp, hr, hnd⟩ := hB.reached.path hse
    obtain ⟨d1, d2, d3⟩ := minAll_spec (n := n) (fl := fl) l 2147483647 (by omega) hr
    simp (disch := first | omega | (simp only [next_put, next_bump]; omega)) [gb, ge, hn1, hf1, t1, t3, t4, t5, t6, hrb, hrb2, head_td, hse, s1, s6, get_put_self, get_put_ne, get_bump, put_put]
    refine rmin_loop hV hN hfl.bnd hv1 hn1 hf1 gb l n.snk 2147483647 _ hp hr (by simp [s1]) (by simp [s6]) (by simp) (by simp) (by simp) (fun σ1 e1 e2 => ?_)
    have q1 : σ1 1 = ptr nb := by rw [e1 1 (by omega)]; simp [s1]
    have q6 : σ1 6 = .slice (some ⟨fb, 0, none⟩) fl.length 1 := by rw [e1 6 (by omega)]; simp [s6]
    have q8 : σ1 8 = .slice (some ⟨bb, 0, none⟩) N 1 := by rw [e1 8 (by omega)]; simp
    simp (disch := first | omega | (simp only [next_put, next_bump]; omega)) [q1, hn1, get_put_self, get_put_ne, get_bump, put_put]
    refine rpush_loop hV hN (d := minAll n fl 2147483647 l) (by omega) (v := v) (nb := nb) (fb := fb) (bb := bb) x5 (by omega) hvf l n.snk fl m1 _ hfl.bnd hv1 hn1 hf1 gb hp (fun e he => ⟨hr e he, d3 e he⟩) hnd (by simp [q1]) (by simp [q6]) (by simp [q8]) (by simp [e2]) (by simp) (fun σ2 f1 => ?_)
    have haug := augmented hV hfl hp (d := minAll n fl 2147483647 l) (by omega) (fun e he => ⟨hr e he, d3 e he⟩) hnd
    have hvle := value_le hV haug.1
    have hpl : (pushAll fl l (minAll n fl 2147483647 l)).length = fl.length := by rw [haug.1.bnd.1, hfo]
    have r1 : σ2 1 = ptr nb := by rw [f1 1 (by omega)]; simp [q1]
    have r6 : σ2 6 = .slice (some ⟨fb, 0, none⟩) (pushAll fl l (minAll n fl 2147483647 l)).length 1 := by rw [f1 6 (by omega), hpl]; simp [q6]
    simp
    refine hJ _ _ (ih _ _ _ (by rw [haug.2]; omega) haug.1 ((ho.trans o1).put hfb0) ?_ (by rw [get_put_ne x5]; exact hn1) (get_put_self (get_lt hf1)) (by simp [r1]) (by simp [r6]) hQ)
    rcases hv1 with h | ⟨b, o, h, h'⟩
    · exact .inl h
    · exact .inr ⟨b, o, h, by rw [get_put_ne (hvf _ _ _ h)]; exact h'⟩

def RS2 (n : Net) (m : Mem) (r : Value) (m' : Mem) : Prop := Old m m' ∧ ∃ w fl u, r = .tuple #[w, I (value n fl), u, I 0] ∧ Ints m' w fl ∧ IsFlow n fl ∧ HasCut n (value n fl)
set_option maxHeartbeats 8000000 in
set_option maxRecDepth 20000 in
theorem rsolve2_wp {n : Net} (hV : n.Valid) {v : Value} {m : Mem} (hv : Arcs m v n.arcs) : WPCall Try.prog 29 [netV n v] m fun r m' => RS2 n m r m' := by
  rw [call29 (by simp)]
  obtain ⟨hlen, hsl⟩ := hv.len
  have hM : Old m ((m.bump 5).put m.next (some ⟨netC n v, true⟩)) := ((Old.refl m).bump 5).put (Nat.le_refl _)
  simp (disch := first | omega | (simp only [next_put, next_bump]; omega)) [ir29_b, get_put_self, get_put_ne, get_bump, put_put, -lenOfV, -isSl]
  refine (rvalid_wp (hv.mono hM)).mono fun r m2 hp => ?_
  obtain ⟨rfl, ho⟩ := hp
  have ho2 := hM.trans ho
  have hg : m2.get m.next = some ⟨netC n v, true⟩ := ho.some (get_put_self (by simp))
  have hln := get_lt hg
  have hVV := validB_iff.2 hV
  have hv2 := hv.mono ho2
  obtain ⟨N, hN⟩ : ∃ N : Nat, n.nodes = N := ⟨n.nodes.toNat, by have := hV.n2; omega⟩
  have hal := hV.al
  have z3 : (n.arcs.length : Int) * 8 ≤ 140737488355328 := by omega
  have z4 : (n.arcs.length : Int) ≤ 9223372036854775807 := by omega
  have z5 : n.arcs.length * 8 ≤ 140737488355328 := by omega
  have z6 : n.arcs.length ≤ 9223372036854775807 := by omega
  obtain ⟨hz1, hz2⟩ := zero_flow hV
  have hvb : ∀ b l c, v = .slice (some ⟨b, 0, none⟩) l c → b < m2.next := by
    intro b l c he
    rcases hv2 with ⟨h, _⟩ | ⟨b', o, h, hb⟩
    · rw [h] at he; cases he
    · rw [h] at he; cases he; exact get_lt hb
  simp (disch := first | omega | (simp only [next_put, next_bump]; omega)) [hVV, hg, hlen, hsl, z3, z4, z5, z6, get_put_self, get_put_ne, get_bump, put_put, -lenOfV, -isSl]
  have o3 : Old m2 ((m2.bump 5).put (m2.next + 3) (some ⟨List.replicate n.arcs.length (Value.int .i64 0), true⟩)) := ((Old.refl m2).bump 5).put (by omega)
  refine rsolve2_loop hV hN (v := v) (nb := m.next) (fb := m2.next + 3) (m0 := m2) (by omega) (by omega) (fun b l c he => by have := hvb b l c he; omega) 5368709117500 (List.replicate n.arcs.length 0) _ _ (by rw [hz2]; omega) hz1 o3 (hv2.mono o3) (o3.some hg) (by rw [get_put_self (by simp only [next_bump]; omega), List.map_replicate]) (by simp) (by simp) (fun σ' m' fl' u f0 f1 f1b f1c f2 f3 f4 f5 => ?_)
  simp (disch := first | omega | (simp only [next_put, next_bump]; omega)) [f2, f3, f4, f5, get_put_self, get_put_ne, get_bump, put_put]
  exact ⟨ho2.trans f0, _, fl', _, rfl, .inr ⟨_, _, rfl, f1c⟩, f1, f1b⟩


set_option maxHeartbeats 4000000 in
set_option maxRecDepth 20000 in
theorem mcheck_wp {n : Net} {v w pv : Value} {fl ps : List Int} {m : Mem} (hv : Arcs m v n.arcs) (hw : Ints m w fl) (hp : Ints m pv ps) (hl : n.arcs.length < 1000000000) (amount : Int) : WPCall Try.prog 41 [netV n v, I amount, w, pv] m fun r m' => r = .bool (mcheckR n amount fl ps) ∧ Old m m' := by
  rw [call41 (by simp)]
  obtain ⟨hlen, hsl⟩ := hv.len
  obtain ⟨hplen, hpsl⟩ := hp.len
  have hM : Old m ((m.bump 2).put m.next (some ⟨netC n v, true⟩)) := ((Old.refl m).bump 2).put (Nat.le_refl _)
  simp (disch := first | omega | (simp only [next_put, next_bump]; omega)) [ir41_b, hlen, hsl, hplen, hpsl, get_put_self, get_put_ne, get_bump, put_put, -lenOfV, -isSl]
  refine (value_wp (hv.mono hM) (hw.mono hM)).mono fun r m2 hp => ?_
  obtain ⟨rfl, ho⟩ := hp
  have ho2 := hM.trans ho
  have hg2 : m2.get m.next = some ⟨netC n v, true⟩ := ho.some (get_put_self (by simp))
  cases hvb : (valueR n fl).2
  · simp (disch := first | omega | (simp only [next_put, next_bump]; omega)) [hg2, hvb, get_put_self, get_put_ne, get_bump, put_put]
    exact ⟨by simp [mcheckR, hvb], ho2⟩
  simp (disch := first | omega | (simp only [next_put, next_bump]; omega)) [hg2, hvb, get_put_self, get_put_ne, get_bump, put_put]
  refine (mvalid_wp (hv.mono ho2) hl).mono fun r m3 hp => ?_
  obtain ⟨rfl, ho3⟩ := hp
  have hom := ho2.trans ho3
  have hg3 := ho3.some hg2
  cases hmb : mvB n
  · simp (disch := first | omega | (simp only [next_put, next_bump]; omega)) [hg3, hvb, hmb, get_put_self, get_put_ne, get_bump, put_put]
    exact ⟨by simp [mcheckR, hvb, hmb], hom⟩
  obtain ⟨hV, hf, _⟩ := valueR_true hvb
  have hk : ∀ a ∈ n.arcs, 0 ≤ a.k ∧ a.k ≤ 1000 := fun a ha => costB_k ((mvB_iff.1 hmb).2 a ha)
  by_cases ha : (valueR n fl).1 = amount
  · by_cases hpl : (ps.length : Int) = n.nodes
    · simp (disch := first | omega | (simp only [next_put, next_bump]; omega)) [hg3, hvb, hmb, ha, hpl, hplen, hpsl, hlen, hsl, get_put_self, get_put_ne, get_bump, put_put, -lenOfV, -isSl]
      refine rng_loop (hp.mono hom) (by have := hV.n7; omega) ps.length 0 _ _ (by omega) (Old.refl _) (by simp) (by simp [hplen, hpl]) (by simp) (fun σ' m4 g1 g2 g3 => ?_) (fun σ' m4 g1 g2 g3 => ?_)
      · rw [List.drop_zero] at g2
        have q4 : σ' 4 = ptr m.next := by rw [g3 4 (by omega)]; simp
        have q2 : σ' 2 = w := by rw [g3 2 (by omega)]; simp
        have q3 : σ' 3 = pv := by rw [g3 3 (by omega)]; simp
        have hg4 := g1.some hg3
        simp (disch := first | omega | (simp only [next_put, next_bump]; omega)) [hg4, q4, hlen, hsl, get_put_self, get_put_ne, get_bump, put_put, -lenOfV, -isSl]
        refine chk_loop hV hk (hv.mono (hom.trans g1)) (hw.mono (hom.trans g1)) (hp.mono (hom.trans g1)) hf.1 hpl g2 n.arcs.length 0 _ _ (by omega) (Old.refl _) (by simp [q2]) (by simp [q3]) (by simp) (by simp [hlen]) (by simp) (fun σ'' m5 e1 e2 => ?_) (fun σ'' m5 e1 e2 e3 => ?_)
        · simp
          rw [List.drop_zero, List.drop_zero] at e2
          exact ⟨by simp [mcheckR, hvb, hmb, ha, hpl, g2, e2], (hom.trans g1).trans e1⟩
        · simp [e3]
          rw [List.drop_zero, List.drop_zero] at e2
          exact ⟨by simp [mcheckR, e2], (hom.trans g1).trans e1⟩
      · simp [g3]
        rw [List.drop_zero] at g2
        exact ⟨by simp [mcheckR, g2], hom.trans g1⟩
    · simp (disch := first | omega | (simp only [next_put, next_bump]; omega)) [hg3, hvb, hmb, ha, hpl, hplen, hpsl, get_put_self, get_put_ne, get_bump, put_put, -lenOfV, -isSl]
      exact ⟨by simp [mcheckR, hpl], hom⟩
  · simp (disch := first | omega | (simp only [next_put, next_bump]; omega)) [hg3, hvb, hmb, ha, hplen, hpsl, get_put_self, get_put_ne, get_bump, put_put, -lenOfV, -isSl]
    exact ⟨by simp [mcheckR, ha], hom⟩

set_option maxHeartbeats 4000000 in
set_option maxRecDepth 20000 in
theorem rmcheck_wp {n : Net} {v w pv : Value} {fl ps : List Int} {m : Mem} (hv : Arcs m v n.arcs) (hw : Ints m w fl) (hp : Ints m pv ps) (amount : Int) : WPCall Try.prog 42 [netV n v, I amount, w, pv] m fun r m' => r = .bool (mcheckR n amount fl ps) ∧ Old m m' := by
  rw [call42 (by simp)]
  obtain ⟨hlen, hsl⟩ := hv.len
  obtain ⟨hplen, hpsl⟩ := hp.len
  have hM : Old m ((m.bump 2).put m.next (some ⟨netC n v, true⟩)) := ((Old.refl m).bump 2).put (Nat.le_refl _)
  simp (disch := first | omega | (simp only [next_put, next_bump]; omega)) [ir42_b, hlen, hsl, hplen, hpsl, get_put_self, get_put_ne, get_bump, put_put, -lenOfV, -isSl]
  refine (rmvalid_wp (hv.mono hM)).mono fun r m2 hp => ?_
  obtain ⟨rfl, ho⟩ := hp
  have ho2 := hM.trans ho
  have hg2 : m2.get m.next = some ⟨netC n v, true⟩ := ho.some (get_put_self (by simp))
  cases hmb : mvB n
  · simp (disch := first | omega | (simp only [next_put, next_bump]; omega)) [hg2, hmb, get_put_self, get_put_ne, get_bump, put_put]
    exact ⟨by simp [mcheckR, hmb], ho2⟩
  by_cases hpl : (ps.length : Int) = n.nodes
  · simp (disch := first | omega | (simp only [next_put, next_bump]; omega)) [hg2, hmb, hpl, hplen, hpsl, get_put_self, get_put_ne, get_bump, put_put, -lenOfV, -isSl]
    refine (rvalue_wp (hv.mono ho2) (hw.mono ho2)).mono fun r m3 hp => ?_
    obtain ⟨rfl, ho3⟩ := hp
    have hom := ho2.trans ho3
    have hg3 := ho3.some hg2
    cases hvb : (valueR n fl).2
    · simp (disch := first | omega | (simp only [next_put, next_bump]; omega)) [hg3, hvb, get_put_self, get_put_ne, get_bump, put_put]
      exact ⟨by simp [mcheckR, hvb], hom⟩
    obtain ⟨hV, hf, _⟩ := valueR_true hvb
    have hk : ∀ a ∈ n.arcs, 0 ≤ a.k ∧ a.k ≤ 1000 := fun a ha => costB_k ((mvB_iff.1 hmb).2 a ha)
    by_cases ha : (valueR n fl).1 = amount
    · simp (disch := first | omega | (simp only [next_put, next_bump]; omega)) [hg3, hvb, ha, get_put_self, get_put_ne, get_bump, put_put]
      refine rrng_loop hg3 hpl.symm (hp.mono hom) (by have := hV.n7; omega) ps.length 0 _ _ (by omega) (Old.refl _) (by simp) (by simp) (by simp) (fun σ' m4 g1 g2 g3 => ?_) (fun σ' m4 g1 g2 g3 => ?_)
      · rw [List.drop_zero] at g2
        have q4 : σ' 4 = ptr m.next := by rw [g3 4 (by omega)]; simp
        have q2 : σ' 2 = w := by rw [g3 2 (by omega)]; simp
        have q3 : σ' 3 = pv := by rw [g3 3 (by omega)]; simp
        have hg4 := g1.some hg3
        simp (disch := first | omega | (simp only [next_put, next_bump]; omega)) [q4, get_put_self, get_put_ne, get_bump, put_put]
        refine rchk_loop hV hk hg4 (hv.mono (hom.trans g1)) (hw.mono (hom.trans g1)) (hp.mono (hom.trans g1)) hf.1 hpl g2 n.arcs.length 0 _ _ (by omega) (Old.refl _) (by simp [q2]) (by simp [q3]) (by simp [q4]) (by simp) (fun σ'' m5 e1 e2 => ?_) (fun σ'' m5 e1 e2 e3 => ?_)
        · simp
          rw [List.drop_zero, List.drop_zero] at e2
          exact ⟨by simp [mcheckR, hvb, hmb, ha, hpl, g2, e2], (hom.trans g1).trans e1⟩
        · simp [e3]
          rw [List.drop_zero, List.drop_zero] at e2
          exact ⟨by simp [mcheckR, e2], (hom.trans g1).trans e1⟩
      · simp [g3]
        rw [List.drop_zero] at g2
        exact ⟨by simp [mcheckR, g2], hom.trans g1⟩
    · simp (disch := first | omega | (simp only [next_put, next_bump]; omega)) [hg3, hvb, ha, get_put_self, get_put_ne, get_bump, put_put]
      exact ⟨by simp [mcheckR, ha], hom⟩
  · simp (disch := first | omega | (simp only [next_put, next_bump]; omega)) [hg2, hmb, hpl, hplen, hpsl, get_put_self, get_put_ne, get_bump, put_put, -lenOfV, -isSl]
    exact ⟨by simp [mcheckR, hpl], ho2⟩
end Go.Proofs.Ytapnkfkpkcajjaa
