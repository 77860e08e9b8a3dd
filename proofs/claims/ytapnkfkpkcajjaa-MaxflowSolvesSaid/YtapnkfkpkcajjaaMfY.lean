/-
  'MaxflowSolves'.
-/
import Derived.Test.YtapnkfkpkcajjaaMfX
namespace Go.Proofs.Ytapnkfkpkcajjaa
open Go Go.DI Go.Nets
set_option linter.unusedSimpArgs false
set_option linter.unusedVariables false

set_option maxHeartbeats 8000000 in
set_option maxRecDepth 20000 in
theorem rsolve_loop {n : Net} (hV : n.Valid) {N : Nat} (hN : n.nodes = N) {v : Value} {nb fb : Nat} (x5 : nb ≠ fb) (hvf : ∀ b l c, v = .slice (some ⟨b, 0, none⟩) l c → b ≠ fb) {Q : IExit → Slots → Mem → Prop} :
    ∀ (K : Nat) (fl : List Int) (m : Mem) (σ : Slots), 5368709117500 - value n fl ≤ K → IsFlow n fl → Arcs m v n.arcs → m.get nb = some ⟨netC n v, true⟩ → m.get fb = some ⟨fl.map (Value.int .i64 ·), true⟩ → σ 1 = ptr nb → σ 6 = .slice (some ⟨fb, 0, none⟩) fl.length 1 →
    (∀ σ' m' w V u, HasCut n V → σ' 2 = w → σ' 3 = I V → σ' 4 = u → σ' 5 = I 0 → Q .ret σ' m') → WP Try.prog (.loop ir29_l2) σ m Q := by
  intro K
  induction K with
  | zero =>
    intro fl m σ hK hfl hv hn hf s1 s6 hQ
    refine wp_round fun J hJ => ?_
    have hlo' := get_lt hf
    have hfo := hfl.bnd.1
    simp (disch := first | omega | (simp only [next_put, next_bump]; omega)) [ir29_l2, s1, s6, hn, get_put_self, get_put_ne, get_bump, put_put]
    refine (rreach_wp (n := n) hV hN hfo hv hf).mono fun r m1 hp => ?_
    obtain ⟨o1, bb, eb, byf, se, rfl, hbb, heb, gb, ge, hB⟩ := hp
    have hn1 := o1.some hn
    have hf1 := o1.some hf
    have hv1 := hv.mono o1
    obtain ⟨t1, t2⟩ := hV.snk
    obtain ⟨k, hk⟩ : ∃ k : Nat, n.snk = k := ⟨n.snk.toNat, by omega⟩
    have t3 : n.snk.toNat = k := by omega
    have t4 : k < N := by omega
    have t5 : n.snk < (N : Int) := by omega
    have t6 : k + 1 ≤ N := t4
    have hk' : (k : Int) = n.snk := hk.symm
    have hrb : (rowB N se)[k]? = some (.bool (se n.snk)) := by rw [rowB_get t4, hk']
    have hrb2 : ∀ h, (rowB N se)[k]'h = .bool (se n.snk) := fun h => by rw [rowB_getElem, hk']
    cases hse : se n.snk
    · simp (disch := first | omega | (simp only [next_put, next_bump]; omega)) [gb, ge, hn1, hf1, t1, t3, t4, t5, t6, hrb, hrb2, head_td, hse, s1, s6, get_put_self, get_put_ne, get_bump, put_put]
      refine (rvalue_wp (n := n) hv1 (.inr ⟨fb, true, rfl, hf1⟩)).mono fun r m2 hp => ?_
      obtain ⟨rfl, o2⟩ := hp
      have hvr := valueR_of hV hfl
      simp (disch := first | omega | (simp only [next_put, next_bump]; omega)) [hvr, get_put_self, get_put_ne, get_bump, put_put]
      exact hQ _ _ (.slice (some ⟨fb, 0, none⟩) fl.length 1) (value n fl) (.slice (some ⟨eb, 0, none⟩) N 1) ⟨⟨fl, hfl, rfl⟩, se, hB.src, hse, (hB.reached.opt hV hfl hse).symm⟩ (by simp [s6]) (by simp) (by simp) (by simp)
    obtain ⟨l, hp, hr, hnd⟩ := hB.reached.path hse
    obtain ⟨d1, d2, d3⟩ := minAll_spec (n := n) (fl := fl) l 2147483647 (by omega) hr
    simp (disch := first | omega | (simp only [next_put, next_bump]; omega)) [gb, ge, hn1, hf1, t1, t3, t4, t5, t6, hrb, hrb2, head_td, hse, s1, s6, get_put_self, get_put_ne, get_bump, put_put]
    refine rmin_loop hV hN hfl.bnd hv1 hn1 hf1 gb l n.snk 2147483647 _ hp hr (by simp [s1]) (by simp [s6]) (by simp) (by simp) (by simp) (fun σ1 e1 e2 => ?_)
    have q1 : σ1 1 = ptr nb := by rw [e1 1 (by omega)]; simp [s1]
    have q6 : σ1 6 = .slice (some ⟨fb, 0, none⟩) fl.length 1 := by rw [e1 6 (by omega)]; simp [s6]
    have q8 : σ1 8 = .slice (some ⟨bb, 0, none⟩) N 1 := by rw [e1 8 (by omega)]; simp
    simp (disch := first | omega | (simp only [next_put, next_bump]; omega)) [q1, hn1, get_put_self, get_put_ne, get_bump, put_put]
    refine rpush_loop hV hN (d := minAll n fl 2147483647 l) (by omega) (v := v) (nb := nb) (fb := fb) (bb := bb) x5 (by omega) hvf l n.snk fl m1 _ hfl.bnd hv1 hn1 hf1 gb hp (fun e he => ⟨hr e he, d3 e he⟩) hnd (by simp [q1]) (by simp [q6]) (by simp [q8]) (by simp [e2]) (by simp) (fun σ2 f1 => ?_)
    have haug := augmented hV hfl hp (d := minAll n fl 2147483647 l) (by omega) (fun e he => ⟨hr e he, d3 e he⟩) hnd
    have hvle := value_le hV haug.1
    have hpl : (pushAll fl l (minAll n fl 2147483647 l)).length = fl.length := by rw [haug.1.bnd.1, hfo]
    have r1 : σ2 1 = ptr nb := by rw [f1 1 (by omega)]; simp [q1]
    have r6 : σ2 6 = .slice (some ⟨fb, 0, none⟩) (pushAll fl l (minAll n fl 2147483647 l)).length 1 := by rw [f1 6 (by omega), hpl]; simp [q6]
    simp
    exfalso
    omega
  | succ K ih =>
    intro fl m σ hK hfl hv hn hf s1 s6 hQ
    refine wp_round fun J hJ => ?_
    have hlo' := get_lt hf
    have hfo := hfl.bnd.1
    simp (disch := first | omega | (simp only [next_put, next_bump]; omega)) [ir29_l2, s1, s6, hn, get_put_self, get_put_ne, get_bump, put_put]
    refine (rreach_wp (n := n) hV hN hfo hv hf).mono fun r m1 hp => ?_
    obtain ⟨o1, bb, eb, byf, se, rfl, hbb, heb, gb, ge, hB⟩ := hp
    have hn1 := o1.some hn
    have hf1 := o1.some hf
    have hv1 := hv.mono o1
    obtain ⟨t1, t2⟩ := hV.snk
    obtain ⟨k, hk⟩ : ∃ k : Nat, n.snk = k := ⟨n.snk.toNat, by omega⟩
    have t3 : n.snk.toNat = k := by omega
    have t4 : k < N := by omega
    have t5 : n.snk < (N : Int) := by omega
    have t6 : k + 1 ≤ N := t4
    have hk' : (k : Int) = n.snk := hk.symm
    have hrb : (rowB N se)[k]? = some (.bool (se n.snk)) := by rw [rowB_get t4, hk']
    have hrb2 : ∀ h, (rowB N se)[k]'h = .bool (se n.snk) := fun h => by rw [rowB_getElem, hk']
    cases hse : se n.snk
    · simp (disch := first | omega | (simp only [next_put, next_bump]; omega)) [gb, ge, hn1, hf1, t1, t3, t4, t5, t6, hrb, hrb2, head_td, hse, s1, s6, get_put_self, get_put_ne, get_bump, put_put]
      refine (rvalue_wp (n := n) hv1 (.inr ⟨fb, true, rfl, hf1⟩)).mono fun r m2 hp => ?_
      obtain ⟨rfl, o2⟩ := hp
      have hvr := valueR_of hV hfl
      simp (disch := first | omega | (simp only [next_put, next_bump]; omega)) [hvr, get_put_self, get_put_ne, get_bump, put_put]
      exact hQ _ _ (.slice (some ⟨fb, 0, none⟩) fl.length 1) (value n fl) (.slice (some ⟨eb, 0, none⟩) N 1) ⟨⟨fl, hfl, rfl⟩, se, hB.src, hse, (hB.reached.opt hV hfl hse).symm⟩ (by simp [s6]) (by simp) (by simp) (by simp)
    obtain ⟨l, hp, hr, hnd⟩ := hB.reached.path hse
    obtain ⟨d1, d2, d3⟩ := minAll_spec (n := n) (fl := fl) l 2147483647 (by omega) hr
    simp (disch := first | omega | (simp only [next_put, next_bump]; omega)) [gb, ge, hn1, hf1, t1, t3, t4, t5, t6, hrb, hrb2, head_td, hse, s1, s6, get_put_self, get_put_ne, get_bump, put_put]
    refine rmin_loop hV hN hfl.bnd hv1 hn1 hf1 gb l n.snk 2147483647 _ hp hr (by simp [s1]) (by simp [s6]) (by simp) (by simp) (by simp) (fun σ1 e1 e2 => ?_)
    have q1 : σ1 1 = ptr nb := by rw [e1 1 (by omega)]; simp [s1]
    have q6 : σ1 6 = .slice (some ⟨fb, 0, none⟩) fl.length 1 := by rw [e1 6 (by omega)]; simp [s6]
    have q8 : σ1 8 = .slice (some ⟨bb, 0, none⟩) N 1 := by rw [e1 8 (by omega)]; simp
    simp (disch := first | omega | (simp only [next_put, next_bump]; omega)) [q1, hn1, get_put_self, get_put_ne, get_bump, put_put]
    refine rpush_loop hV hN (d := minAll n fl 2147483647 l) (by omega) (v := v) (nb := nb) (fb := fb) (bb := bb) x5 (by omega) hvf l n.snk fl m1 _ hfl.bnd hv1 hn1 hf1 gb hp (fun e he => ⟨hr e he, d3 e he⟩) hnd (by simp [q1]) (by simp [q6]) (by simp [q8]) (by simp [e2]) (by simp) (fun σ2 f1 => ?_)
    have haug := augmented hV hfl hp (d := minAll n fl 2147483647 l) (by omega) (fun e he => ⟨hr e he, d3 e he⟩) hnd
    have hvle := value_le hV haug.1
    have hpl : (pushAll fl l (minAll n fl 2147483647 l)).length = fl.length := by rw [haug.1.bnd.1, hfo]
    have r1 : σ2 1 = ptr nb := by rw [f1 1 (by omega)]; simp [q1]
    have r6 : σ2 6 = .slice (some ⟨fb, 0, none⟩) (pushAll fl l (minAll n fl 2147483647 l)).length 1 := by rw [f1 6 (by omega), hpl]; simp [q6]
    simp
    refine hJ _ _ (ih _ _ _ (by rw [haug.2]; omega) haug.1 ?_ (by rw [get_put_ne x5]; exact hn1) (get_put_self (get_lt hf1)) (by simp [r1]) (by simp [r6]) hQ)
    rcases hv1 with h | ⟨b, o, h, h'⟩
    · exact .inl h
    · exact .inr ⟨b, o, h, by rw [get_put_ne (hvf _ _ _ h)]; exact h'⟩

def RSPost (n : Net) (r : Value) : Prop := ∃ w V u, r = .tuple #[w, I V, u, I 0] ∧ HasCut n V
set_option maxHeartbeats 8000000 in
set_option maxRecDepth 20000 in
theorem rsolve_wp {n : Net} (hV : n.Valid) {v : Value} {m : Mem} (hv : Arcs m v n.arcs) : WPCall Try.prog 29 [netV n v] m fun r _ => RSPost n r := by
  rw [call29 (by simp)]
  obtain ⟨hlen, hsl⟩ := hv.len
  have hM : Old m ((m.bump 5).put m.next (some ⟨netC n v, true⟩)) := ((Old.refl m).bump 5).put (Nat.le_refl _)
  simp (disch := first | omega | (simp only [next_put, next_bump]; omega)) [ir29_b, get_put_self, get_put_ne, get_bump, put_put, -lenOfV, -isSl]
  refine (rvalid_wp (hv.mono hM)).mono fun r m2 hp => ?_
  obtain ⟨rfl, ho⟩ := hp
  have ho2 := hM.trans ho
  have hg : m2.get m.next = some ⟨netC n v, true⟩ := ho.some (get_put_self (by simp))
  have hln := get_lt hg
  have hVV := validB_iff.2 hV
  have hv2 := hv.mono ho2
  obtain ⟨N, hN⟩ : ∃ N : Nat, n.nodes = N := ⟨n.nodes.toNat, by have := hV.n2; omega⟩
  have hal := hV.al
  have z3 : (n.arcs.length : Int) * 8 ≤ 140737488355328 := by omega
  have z4 : (n.arcs.length : Int) ≤ 9223372036854775807 := by omega
  have z5 : n.arcs.length * 8 ≤ 140737488355328 := by omega
  have z6 : n.arcs.length ≤ 9223372036854775807 := by omega
  obtain ⟨hz1, hz2⟩ := zero_flow hV
  have hvb : ∀ b l c, v = .slice (some ⟨b, 0, none⟩) l c → b < m2.next := by
    intro b l c he
    rcases hv2 with ⟨h, _⟩ | ⟨b', o, h, hb⟩
    · rw [h] at he; cases he
    · rw [h] at he; cases he; exact get_lt hb
  simp (disch := first | omega | (simp only [next_put, next_bump]; omega)) [hVV, hg, hlen, hsl, z3, z4, z5, z6, get_put_self, get_put_ne, get_bump, put_put, -lenOfV, -isSl]
  have o3 : Old m2 ((m2.bump 5).put (m2.next + 3) (some ⟨List.replicate n.arcs.length (Value.int .i64 0), true⟩)) := ((Old.refl m2).bump 5).put (by omega)
  refine rsolve_loop hV hN (v := v) (nb := m.next) (fb := m2.next + 3) (by omega) (fun b l c he => by have := hvb b l c he; omega) 5368709117500 (List.replicate n.arcs.length 0) _ _ (by rw [hz2]; omega) hz1 (hv2.mono o3) (o3.some hg) (by rw [get_put_self (by simp only [next_bump]; omega), List.map_replicate]) (by simp) (by simp) (fun σ' m' w V u f1 f2 f3 f4 f5 => ?_)
  simp (disch := first | omega | (simp only [next_put, next_bump]; omega)) [f2, f3, f4, f5, get_put_self, get_put_ne, get_bump, put_put]
  exact ⟨_, V, _, rfl, f1⟩

set_option maxHeartbeats 8000000 in
set_option maxRecDepth 20000 in
theorem mfSolves_wp {v : Value} {l : List Int} {m : Mem} (hv : ByteS m v l) (hb : ∀ x ∈ l, 0 ≤ x ∧ x < 256) : WPCall Try.prog 5 [v] m fun r _ => r = .bool true := by
  rw [call5 (by simp)]
  simp (disch := first | omega | (simp only [next_put, next_bump]; omega)) [ir5_b, get_put_self, get_put_ne, get_bump, put_put]
  refine (new_wp (hv.bump 5) hb).mono fun r m1 hp => ?_
  obtain ⟨tb, tv, l', rfl, htb, o1, hT⟩ := hp
  simp only [next_bump] at htb
  simp
  refine (network_wp hT).mono fun r m2 hp => ?_
  obtain ⟨n, nv, rfl, hA, hS, o2⟩ := hp
  have hV := hS.valid
  have n1 := o1.next
  have n2 := o2.next
  simp only [next_bump] at n1
  have free : m2.get (m.next + 3) = none := by rw [o2.get _ (by omega) (by omega), o1.get _ (by simp only [next_bump]; omega), get_bump_none (by omega)]
  simp (disch := first | omega | (simp only [next_put, next_bump]; omega)) [free, get_put_self, get_put_ne, get_bump, put_put]
  obtain ⟨m3, hm3⟩ : ∃ m3, m3 = m2.put (m.next + 3) (some ⟨[I n.nodes, I n.src, I n.snk, nv], true⟩) := ⟨_, rfl⟩
  rw [← hm3]
  have hA3 : Arcs m3 nv n.arcs := by rw [hm3]; exact hA.put_free free _
  have g3 : m3.get (m.next + 3) = some ⟨netC n nv, true⟩ := by rw [hm3]; exact get_put_self (by omega)
  refine (solved_wp (n := n) hV hA3).mono fun r m4 hp => ?_
  obtain ⟨o4, fl, cut, hf, rfl, _, hcr⟩ := hp
  have g4 := o4.some g3
  simp (disch := first | omega | (simp only [next_put, next_bump]; omega)) [g4, get_put_self, get_put_ne, get_bump, put_put]
  refine (rsolve_wp (n := n) hV (hA3.mono o4)).mono fun r m5 hp => ?_
  obtain ⟨w, V, u, rfl, hcV⟩ := hp
  have heq : value n fl = V := (hasCut_of hf hcr).unique hV hcV
  simp (disch := first | omega | (simp only [next_put, next_bump]; omega)) [heq, get_put_self, get_put_ne, get_bump, put_put]
  refine aw_wp _ _ fun m' => ?_
  simp
theorem maxflowSolves_law (m : Mem) (us : List Value) (h : AbsArgs m [.slice (.int .u8)] us) : WPCall Try.prog 5 us m fun r _ => r = .bool true := by
  rcases h with _ | ⟨h1, h⟩
  cases h
  obtain ⟨h2, _, h3⟩ := h1.ints
  refine mfSolves_wp ?_ (fun x hx => u8_wf (h3 x hx))
  rcases h2 with h | ⟨b, h, h'⟩
  · exact .inl h
  · exact .inr ⟨b, false, h, h'⟩
end Go.Proofs.Ytapnkfkpkcajjaa
