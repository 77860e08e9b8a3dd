/-
  'Solve'.
-/
import Derived.Test.YtapnkfkpkcajjaaMfK
namespace Go.Proofs.Ytapnkfkpkcajjaa
open Go Go.DI Go.Nets
set_option linter.unusedSimpArgs false
set_option linter.unusedVariables false

theorem capOf_congr {s s' : Int → Bool} : ∀ (l : List Arc), (∀ a ∈ l, s a.f = s' a.f ∧ s a.t = s' a.t) → capOf l s = capOf l s'
  | [], _ => rfl
  | a :: l, h => by
    obtain ⟨h1, h2⟩ := h a (by simp)
    simp only [capOf, h1, h2, capOf_congr l (fun b hb => h b (by simp [hb]))]
def cutL (N : Nat) (se : Int → Bool) : List Bool := (List.range N).map fun (x : Nat) => se x
theorem cutL_len {N : Nat} {se : Int → Bool} : (cutL N se).length = N := by simp [cutL]
theorem cutL_row {N : Nat} {se : Int → Bool} : rowB N se = (cutL N se).map (Value.bool ·) := by simp [rowB, cutL]
theorem cutF_cutL {N : Nat} {se : Int → Bool} {x : Int} (h0 : 0 ≤ x) (h1 : x < N) : cutF (cutL N se) x = se x := by
  unfold cutF cutL
  obtain ⟨k, rfl⟩ : ∃ k : Nat, x = k := ⟨x.toNat, by omega⟩
  have hk : k < N := by omega
  simp [List.getD_eq_getElem?_getD, hk]
theorem capR_of {n : Net} (hV : n.Valid) {N : Nat} (hN : n.nodes = N) {se : Int → Bool} (h1 : se n.src = true) (h2 : se n.snk = false) : capR n (cutL N se) = (capOf n.arcs se, true) := by
  obtain ⟨s1, s2⟩ := hV.src
  obtain ⟨t1, t2⟩ := hV.snk
  unfold capR
  rw [if_pos]
  · rw [capOf_congr n.arcs (s' := se)]
    intro a ha
    obtain ⟨⟨a1, a2⟩, ⟨a3, a4⟩, _⟩ := hV.arc a ha
    exact ⟨cutF_cutL a1 (by omega), cutF_cutL a3 (by omega)⟩
  · rw [cutF_cutL s1 (by omega), cutF_cutL t1 (by omega), h1, h2, validB_iff.2 hV, cutL_len]
    simp [hN]

set_option maxHeartbeats 4000000 in
set_option maxRecDepth 20000 in
theorem solve_loop {n : Net} (hV : n.Valid) {N : Nat} (hN : n.nodes = N) {v : Value} {sb fb ub nb lo : Nat} {m0 : Mem} (hfb : m0.next ≤ fb) (h1 : sb ≠ fb) (h2 : ∀ b l c, v = .slice (some ⟨b, 0, none⟩) l c → b ≠ fb) (h3 : ub ≠ fb) (h4 : fb < lo) (h5 : nb ≠ fb)
    {out : Int → List Int} {B : Int → Nat} (hI : OutInv n n.arcs.length out) {Q : IExit → Slots → Mem → Prop} :
    ∀ (K : Nat) (fl : List Int) (m : Mem) (σ : Slots), 5368709117500 - value n fl ≤ K → IsFlow n fl → 0 ≤ value n fl → Old m0 m → Sr n fl v sb fb ub N m → Outs2 out ub N lo B m → m.get nb = some ⟨netC n v, true⟩ →
    σ 1 = ptr nb → σ 6 = ptr sb → σ 9 = I (value n fl) →
    (∀ σ' m' fl' se eb, Old m0 m' → IsFlow n fl' → m'.get fb = some ⟨fl'.map (Value.int .i64 ·), true⟩ → m'.get eb = some ⟨rowB N se, true⟩ → value n fl' = capOf n.arcs se → se n.src = true → se n.snk = false →
      σ' 2 = .slice (some ⟨fb, 0, none⟩) fl'.length 1 → σ' 3 = I (value n fl') → σ' 4 = .slice (some ⟨eb, 0, none⟩) N 1 → σ' 5 = I 0 → Q .ret σ' m') → WP Try.prog (.loop ir25_l1) σ m Q := by
  intro K
  induction K with
  | zero =>
    intro fl m σ hK hf hv0 ho hS hO hnb s1 s6 s9 hQ
    refine wp_round fun J hJ => ?_
    have hom0 := ho
    have hOo := hO.outs
    have hlo' := get_lt hS.f
    have hOk : OutOk n out := ⟨fun x _ z hz => hI.from_ x z hz, fun e he => hI.all e he⟩
    simp (disch := first | omega | (simp only [next_put, next_bump]; omega)) [ir25_l1, s6, get_put_self, get_put_ne, get_bump, put_put]
    refine (reach_wp hV hN hf.bnd hS hOo hOk (fun x => by have := hI.len x; have := hV.al; omega)).mono fun r m1 hp => ?_
    obtain ⟨hom, bb, eb, byf, se, rfl, hbb, heb, hgb, hge, hB⟩ := hp
    have hS1 := hS.mono hom
    have hss1 := hS1.s
    have hO1 : Outs2 out ub N lo B m1 := hO.mono (fun b x hb => hom.some hb)
    have hnb1 := hom.some hnb
    obtain ⟨t1, t2⟩ := hV.snk
    obtain ⟨k, hk⟩ : ∃ k : Nat, n.snk = k := ⟨n.snk.toNat, by omega⟩
    have t3 : n.snk.toNat = k := by omega
    have t4 : k < N := by omega
    have t5 : n.snk < (N : Int) := by omega
    have t6 : k + 1 ≤ N := t4
    have hk' : (k : Int) = n.snk := hk.symm
    have hrb : (rowB N se)[k]? = some (.bool (se n.snk)) := by rw [rowB_get t4, hk']
    have hrb2 : ∀ h, (rowB N se)[k]'h = .bool (se n.snk) := fun h => by rw [rowB_getElem, hk']
    cases hse : se n.snk
    · simp (disch := first | omega | (simp only [next_put, next_bump]; omega)) [hge, hnb1, hss1, t1, t3, t4, t5, t6, hrb, hrb2, head_td, hse, s1, s6, s9, get_put_self, get_put_ne, get_bump, put_put]
      exact hQ _ _ fl se eb (ho.trans hom) hf hS1.f hge (hB.reached.opt hV hf hse) hB.src hse (by simp) (by simp [s9]) (by simp) (by simp)
    simp (disch := first | omega | (simp only [next_put, next_bump]; omega)) [hge, hnb1, hss1, t1, t3, t4, t5, t6, hrb, hrb2, head_td, hse, s1, s6, s9, get_put_self, get_put_ne, get_bump, put_put]
    obtain ⟨l, hp, hr, hnd⟩ := hB.reached.path hse
    refine (aug_wp hV hN hf.bnd hS1 hgb h1 h2 (by omega) hp hr hnd).mono fun r m3 hp3 => ?_
    obtain ⟨d, rfl, hd0, hd1, rfl⟩ := hp3
    have haug := augmented hV hf hp (d := d) (by omega) hd1 hnd
    have hvle := value_le hV haug.1
    have hvle2 := value_le hV hf
    have hpl : (pushAll fl l d).length = fl.length := by rw [haug.1.bnd.1, hf.bnd.1]
    have w1 : IntKind.i64.wrap (value n fl + d) = value n fl + d := i64_id (by omega) (by omega)
    simp (disch := first | omega | (simp only [next_put, next_bump]; omega)) [w1, get_put_self, get_put_ne, get_bump, put_put]
    exfalso
    have := value_le hV haug.1
    omega
  | succ K ih =>
    intro fl m σ hK hf hv0 ho hS hO hnb s1 s6 s9 hQ
    refine wp_round fun J hJ => ?_
    have hom0 := ho
    have hOo := hO.outs
    have hlo' := get_lt hS.f
    have hOk : OutOk n out := ⟨fun x _ z hz => hI.from_ x z hz, fun e he => hI.all e he⟩
    simp (disch := first | omega | (simp only [next_put, next_bump]; omega)) [ir25_l1, s6, get_put_self, get_put_ne, get_bump, put_put]
    refine (reach_wp hV hN hf.bnd hS hOo hOk (fun x => by have := hI.len x; have := hV.al; omega)).mono fun r m1 hp => ?_
    obtain ⟨hom, bb, eb, byf, se, rfl, hbb, heb, hgb, hge, hB⟩ := hp
    have hS1 := hS.mono hom
    have hss1 := hS1.s
    have hO1 : Outs2 out ub N lo B m1 := hO.mono (fun b x hb => hom.some hb)
    have hnb1 := hom.some hnb
    obtain ⟨t1, t2⟩ := hV.snk
    obtain ⟨k, hk⟩ : ∃ k : Nat, n.snk = k := ⟨n.snk.toNat, by omega⟩
    have t3 : n.snk.toNat = k := by omega
    have t4 : k < N := by omega
    have t5 : n.snk < (N : Int) := by omega
    have t6 : k + 1 ≤ N := t4
    have hk' : (k : Int) = n.snk := hk.symm
    have hrb : (rowB N se)[k]? = some (.bool (se n.snk)) := by rw [rowB_get t4, hk']
    have hrb2 : ∀ h, (rowB N se)[k]'h = .bool (se n.snk) := fun h => by rw [rowB_getElem, hk']
    cases hse : se n.snk
    · simp (disch := first | omega | (simp only [next_put, next_bump]; omega)) [hge, hnb1, hss1, t1, t3, t4, t5, t6, hrb, hrb2, head_td, hse, s1, s6, s9, get_put_self, get_put_ne, get_bump, put_put]
      exact hQ _ _ fl se eb (ho.trans hom) hf hS1.f hge (hB.reached.opt hV hf hse) hB.src hse (by simp) (by simp [s9]) (by simp) (by simp)
    simp (disch := first | omega | (simp only [next_put, next_bump]; omega)) [hge, hnb1, hss1, t1, t3, t4, t5, t6, hrb, hrb2, head_td, hse, s1, s6, s9, get_put_self, get_put_ne, get_bump, put_put]
    obtain ⟨l, hp, hr, hnd⟩ := hB.reached.path hse
    refine (aug_wp hV hN hf.bnd hS1 hgb h1 h2 (by omega) hp hr hnd).mono fun r m3 hp3 => ?_
    obtain ⟨d, rfl, hd0, hd1, rfl⟩ := hp3
    have haug := augmented hV hf hp (d := d) (by omega) hd1 hnd
    have hvle := value_le hV haug.1
    have hvle2 := value_le hV hf
    have hpl : (pushAll fl l d).length = fl.length := by rw [haug.1.bnd.1, hf.bnd.1]
    have w1 : IntKind.i64.wrap (value n fl + d) = value n fl + d := i64_id (by omega) (by omega)
    simp (disch := first | omega | (simp only [next_put, next_bump]; omega)) [w1, get_put_self, get_put_ne, get_bump, put_put]
    refine hJ _ _ (ih _ _ _ (by rw [haug.2]; omega) haug.1 (by rw [haug.2]; omega) ((ho.trans hom).put hfb) (hS1.putF h1 h2 hpl) ?_ (by rw [get_put_ne h5]; exact hnb1) (by simp [s1]) (by simp [s6]) (by simp [haug.2]) hQ)
    refine ⟨by rw [get_put_ne h3]; exact hO1.u, fun k hk hne => ?_, hO1.inj⟩
    obtain ⟨g1, g2⟩ := hO1.get k hk hne
    exact ⟨by rw [get_put_ne (by omega)]; exact g1, g2⟩

set_option maxHeartbeats 4000000 in
set_option maxRecDepth 20000 in
theorem solve_wp {n : Net} {v : Value} {m : Mem} (hv : Arcs m v n.arcs) : WPCall Try.prog 25 [netV n v] m fun r m' => Old m m' ∧
    ((validB n = false ∧ r = .tuple #[.slice none 0 0, I 0, .slice none 0 0, I 1]) ∨
     (n.Valid ∧ ∃ w u fl cut, r = .tuple #[w, I (value n fl), u, I 0] ∧ Ints m' w fl ∧ Bools m' u cut ∧ IsFlow n fl ∧ (cut.length : Int) = n.nodes ∧ valueR n fl = (value n fl, true) ∧ capR n cut = (value n fl, true))) := by
  rw [call25 (by simp)]
  obtain ⟨hlen, hsl⟩ := hv.len
  have hM : Old m ((m.bump 5).put m.next (some ⟨netC n v, true⟩)) := ((Old.refl m).bump 5).put (Nat.le_refl _)
  simp (disch := first | omega | (simp only [next_put, next_bump]; omega)) [ir25_b, get_put_self, get_put_ne, get_bump, put_put, -lenOfV, -isSl]
  refine (valid_wp (hv.mono hM)).mono fun r m2 hp => ?_
  obtain ⟨rfl, ho⟩ := hp
  have ho2 := hM.trans ho
  have hg : m2.get m.next = some ⟨netC n v, true⟩ := ho.some (get_put_self (by simp))
  have hln := get_lt hg
  have hn2 := ho2.next
  cases hV : validB n
  · simp (disch := first | omega | (simp only [next_put, next_bump]; omega)) [hV, hg, get_put_self, get_put_ne, get_bump, put_put, -lenOfV, -isSl]
    exact ho2
  have hVV := validB_iff.1 hV
  have hv2 := hv.mono ho2
  obtain ⟨N, hN⟩ : ∃ N : Nat, n.nodes = N := ⟨n.nodes.toNat, by have := hVV.n2; omega⟩
  have hN' : n.nodes.toNat = N := by omega
  have h7 := hVV.n7
  have hal := hVV.al
  have z0 : 0 ≤ n.nodes := by omega
  have z1 : n.nodes * 24 ≤ 140737488355328 := by omega
  have z2 : n.nodes ≤ 9223372036854775807 := by omega
  have z3 : (n.arcs.length : Int) * 8 ≤ 140737488355328 := by omega
  have z4 : (n.arcs.length : Int) ≤ 9223372036854775807 := by omega
  have z5 : n.arcs.length * 8 ≤ 140737488355328 := by omega
  have z6 : n.arcs.length ≤ 9223372036854775807 := by omega
  simp (disch := first | omega | (simp only [next_put, next_bump]; omega)) [hV, hg, hlen, hsl, hN', z0, z1, z2, z3, z4, z5, z6, get_put_self, get_put_ne, get_bump, put_put, -lenOfV, -isSl]
  obtain ⟨hz1, hz2⟩ := zero_flow hVV
  generalize hM3 : (((m2.bump 11).put (m2.next + 4) (some ⟨List.replicate n.arcs.length (Value.int .i64 0), true⟩)).put (m2.next + 7) (some ⟨List.replicate N (Value.slice none 0 0), true⟩)).put (m2.next + 9) (some ⟨[I n.nodes, I n.src, I n.snk, v, .slice (some ⟨m2.next + 4, 0, none⟩) n.arcs.length 1, .slice (some ⟨m2.next + 7, 0, none⟩) N 1], true⟩) = M3
  have hn3 : M3.next = m2.next + 11 := by rw [← hM3]; simp
  have hold3 : Old m2 M3 := ⟨by omega, fun b hb => by rw [← hM3]; simp (disch := first | omega | (simp only [next_put, next_bump]; omega)) only [get_put_ne, get_bump]⟩
  have gs : M3.get (m2.next + 9) = some ⟨[I n.nodes, I n.src, I n.snk, v, .slice (some ⟨m2.next + 4, 0, none⟩) n.arcs.length 1, .slice (some ⟨m2.next + 7, 0, none⟩) N 1], true⟩ := by
    rw [← hM3]; simp (disch := first | omega | (simp only [next_put, next_bump]; omega)) only [get_put_self]
  have gf : M3.get (m2.next + 4) = some ⟨List.replicate n.arcs.length (Value.int .i64 0), true⟩ := by
    rw [← hM3]; simp (disch := first | omega | (simp only [next_put, next_bump]; omega)) only [get_put_self, get_put_ne]
  have gu : M3.get (m2.next + 7) = some ⟨List.replicate N (Value.slice none 0 0), true⟩ := by
    rw [← hM3]; simp (disch := first | omega | (simp only [next_put, next_bump]; omega)) only [get_put_self, get_put_ne]
  have hrow : List.replicate N (Value.slice none 0 0) = rowS N (fun _ => []) (fun _ => 0) := by
    apply List.ext_getElem <;> simp [rowS, slv]
  have hvb : ∀ b l c, v = .slice (some ⟨b, 0, none⟩) l c → b < m2.next := by
    intro b l c he
    rcases hv2 with ⟨h, _⟩ | ⟨b', o, h, hb⟩
    · rw [h] at he; cases he
    · rw [h] at he; cases he; exact get_lt hb
  refine out_loop hVV hN (fl := List.replicate n.arcs.length 0) (v := v) (sb := m2.next + 9) (fb := m2.next + 4) (ub := m2.next + 7) (lo := m2.next + 11) (m0 := M3) (hv2.mono hold3) (by rw [gs, List.length_replicate]) (by omega) (by omega) (by omega) (fun b l c he => by have := hvb b l c he; omega) n.arcs.length 0 M3 _ (fun _ => []) (fun _ => 0) (by omega) (by omega) (fun _ _ _ => rfl) ⟨by rw [gu, hrow], fun k hk hne => absurd rfl hne, fun k k' hk hk' hkk h1 => absurd rfl h1⟩ ⟨fun x z hz => by simp at hz, fun e he => by omega, fun x => by simp⟩ (by simp) (by simp [hlen]) (by simp) (by simp) (fun σ' m' o' B' e1 e2 e3 e4 e5 => ?_)
  have q1 : σ' 1 = ptr m.next := by rw [e1 1 (by omega)]; simp
  have q6 : σ' 6 = ptr (m2.next + 9) := by rw [e1 6 (by omega)]; simp
  have old' : Old m2 m' := ⟨by omega, fun b hb => by rw [e3 b (by omega) (by omega), hold3.get b hb]⟩
  have hS : Sr n (List.replicate n.arcs.length 0) v (m2.next + 9) (m2.next + 4) (m2.next + 7) N m' := by
    refine ⟨by rw [e3 _ (by omega) (by omega), gs, List.length_replicate], hv2.mono old', ?_⟩
    rw [e3 _ (by omega) (by omega), gf, List.map_replicate]
  simp (disch := first | omega | (simp only [next_put, next_bump]; omega)) [hz2, get_put_self, get_put_ne, get_bump, put_put]
  refine solve_loop hVV hN (v := v) (sb := m2.next + 9) (fb := m2.next + 4) (ub := m2.next + 7) (nb := m.next) (lo := m2.next + 11) (m0 := m2) (by omega) (by omega) (fun b l c he => by have := hvb b l c he; omega) (by omega) (by omega) (by omega) e5 5368709117500 (List.replicate n.arcs.length 0) m' _ (by rw [hz2]; omega) hz1 (by rw [hz2]; omega) old' hS e4 (old'.some hg) (by simp [q1]) (by simp [q6]) (by simp [hz2]) (fun σ'' m'' fl' se eb f1 f2 f3 f4 f5 f6 f7 f8 f9 f10 f11 => ?_)
  simp (disch := first | omega | (simp only [next_put, next_bump]; omega)) [f8, f9, f10, f11, get_put_self, get_put_ne, get_bump, put_put]
  refine ⟨ho2.trans f1, hVV, _, _, fl', ⟨rfl, rfl, rfl⟩, .inr ⟨_, _, rfl, f3⟩, cutL N se, .inr ⟨_, _, by rw [cutL_len], by rw [f4, cutL_row]⟩, f2, by rw [cutL_len, hN], valueR_of hVV f2, ?_⟩
  rw [capR_of hVV hN f6 f7, f5]
end Go.Proofs.Ytapnkfkpkcajjaa
