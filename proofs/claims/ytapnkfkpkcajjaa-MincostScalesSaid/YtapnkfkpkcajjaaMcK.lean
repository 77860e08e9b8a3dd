/-
  'Solve' of mincost.
-/
import Derived.Test.YtapnkfkpkcajjaaMcJ
namespace Go.Proofs.Ytapnkfkpkcajjaa
open Go Go.DI Go.Nets
set_option linter.unusedSimpArgs false
set_option linter.unusedVariables false

def pL (N : Nat) (p : Int → Int) : List Int := (List.range N).map fun (x : Nat) => p x
theorem pL_len {N : Nat} {p : Int → Int} : (pL N p).length = N := by simp [pL]
theorem pL_row {N : Nat} {p : Int → Int} : rowI N p = (pL N p).map (Value.int .i64 ·) := by simp [rowI, pL]
theorem newP_eq {p dist : Int → Int} {D v : Int} : p v + (if D < dist v then D else dist v) = newP p dist D v := by
  unfold newP; split <;> split <;> omega

set_option maxHeartbeats 4000000 in
set_option maxRecDepth 20000 in
theorem pot_loop {n : Net} (hV : n.Valid) {N : Nat} (hN : n.nodes = N) {fl : List Int} {v : Value} {sb fb ub nb db : Nat} {p dist : Int → Int} (hp : ∀ v, 0 ≤ p v ∧ p v ≤ 1000000) (hd : ∀ v, 0 ≤ dist v ∧ dist v ≤ far) (h1 : sb ≠ ub) (h2 : nb ≠ ub) (h3 : db ≠ ub) {Q : IExit → Slots → Mem → Prop} :
    ∀ (r i : Nat) (m : Mem) (σ : Slots) (g : Int → Int), i + r = N → m.get sb = some ⟨[I n.nodes, I n.src, I n.snk, v, .slice (some ⟨fb, 0, none⟩) fl.length 1, .slice (some ⟨ub, 0, none⟩) N 1], true⟩ → m.get nb = some ⟨netC n v, true⟩ → m.get db = some ⟨rowI N dist, true⟩ → m.get ub = some ⟨rowI N g, true⟩ →
    (∀ v : Nat, v < N → g (v : Int) = if v < i then newP p dist (dist n.snk) v else p v) → σ 2 = ptr nb → σ 12 = ptr sb → σ 16 = .slice (some ⟨db, 0, none⟩) N 1 → σ 94 = .slice (some ⟨db, 0, none⟩) N 1 → σ 95 = I N → σ 96 = I i →
    (∀ σ', (∀ t, t < 18 → σ' t = σ t) → Q (.exit 4) σ' (m.put ub (some ⟨rowI N (newP p dist (dist n.snk)), true⟩))) → WP Try.prog (.loop ir33_l1) σ m Q
  | 0, i, m, σ, g, hi, gs, gn, gd, gu, hg, s2, s12, s16, s94, s95, s96, hQ => by
    refine wp_round fun J hJ => ?_
    have hi1 : ¬ i < N := by omega
    have e : rowI N g = rowI N (newP p dist (dist n.snk)) := rowI_congrN fun v hv' => by rw [hg v hv', if_pos (by omega)]
    simp [ir33_l1, s95, s96, hi1]
    have := hQ (upd σ 97 (.bool false)) (fun t ht => by simp (disch := omega) only [upd_ne])
    rw [← e, put_same gu] at this
    exact this
  | r + 1, i, m, σ, g, hi, gs, gn, gd, gu, hg, s2, s12, s16, s94, s95, s96, hQ => by
    refine wp_round fun J hJ => ?_
    have hi1 : i < N := by omega
    have hi2 : i + 1 ≤ N := hi1
    have lu := get_lt gu
    have h7 := hV.n7
    obtain ⟨t1, t2⟩ := hV.snk
    obtain ⟨k, hk⟩ : ∃ k : Nat, n.snk = k := ⟨n.snk.toNat, by omega⟩
    have t3 : n.snk.toNat = k := by omega
    have t4 : k < N := by omega
    have t5 : n.snk < (N : Int) := by omega
    have t6 : k + 1 ≤ N := t4
    have hri : ∀ (g : Int → Int) (x : Nat), x < N → (rowI N g)[x]? = some (I (g x)) := fun g x hx => rowI_get hx
    have hr1 := fun g => hri g k t4
    have hr2 := fun g => hri g i hi1
    have hgi : g (i : Int) = p i := by rw [hg i hi1, if_neg (by omega)]
    have hpi := hp i
    have hdi := hd i
    have hds := hd n.snk
    unfold far at hdi hds
    have hk' : (k : Int) = n.snk := hk.symm
    have w0 : IntKind.i64.wrap ((i : Int) + 1) = (i : Int) + 1 := i64_id (by omega) (by omega)
    have w1 : IntKind.i64.wrap (p i + (if dist n.snk < dist i then dist n.snk else dist i)) = newP p dist (dist n.snk) i := by
      rw [newP_eq]
      refine i64_id ?_ ?_ <;> (unfold newP; split <;> omega)
    simp (disch := first | omega | (simp only [next_put, next_bump]; omega)) [ir33_l1, s2, s12, s16, s94, s95, s96, hi1, hi2, gs, gn, gd, gu, t1, t3, t4, t5, t6, hr1, hr2, hgi, hk', head_td, w0, w1, rowI_setF, get_put_self, get_put_ne, get_bump, put_put, -rowI_set]
    refine hJ _ _ (pot_loop hV hN hp hd h1 h2 h3 r (i + 1) _ _ (setF g i (newP p dist (dist n.snk) i)) (by omega) (by rw [get_put_ne h1]; exact gs) (by rw [get_put_ne h2]; exact gn) (by rw [get_put_ne h3]; exact gd) (get_put_self lu) (fun v hv' => ?_) (by simp [s2]) (by simp [s12]) (by simp [s16]) (by simp [s94]) (by simp [s95]) (by simp) (fun σ' q => ?_))
    · by_cases h : v = i
      · subst h; rw [setF_same, if_pos (by omega)]
      · rw [setF_ne (by omega), hg v hv']
        by_cases h' : v < i
        · rw [if_pos h', if_pos (by omega)]
        · rw [if_neg h', if_neg (by omega)]
    · rw [put_put]
      exact hQ σ' (fun t ht => by rw [q t ht]; simp (disch := omega) only [upd_ne])

set_option maxHeartbeats 4000000 in
set_option maxRecDepth 20000 in
theorem msolve_loop {n : Net} (hV : n.Valid) {N : Nat} (hN : n.nodes = N) (hk : ∀ a ∈ n.arcs, 0 ≤ a.k ∧ a.k ≤ 1000) (hkc : ∀ e, -1000 ≤ stC n e ∧ stC n e ≤ 1000) {v : Value} {sb fb ub ob nb lo : Nat} {m0 : Mem} (hfb : m0.next ≤ fb) (hub : m0.next ≤ ub) (h1 : sb ≠ fb) (h2 : ∀ b l c, v = .slice (some ⟨b, 0, none⟩) l c → b ≠ fb ∧ b ≠ ub) (h3 : ub ≠ fb) (h4 : fb < lo) (h5 : nb ≠ fb) (h6 : sb ≠ ub) (h7 : nb ≠ ub) (h8 : ub < lo) (h9 : ob ≠ fb) (h10 : ob ≠ ub)
    {out : Int → List Int} {B : Int → Nat} (hI : OutInv n n.arcs.length out) {g : List Int} (hg : IsFlow n g) {amount : Int} (ham : amount ≤ value n g) {Q : IExit → Slots → Mem → Prop} :
    ∀ (K : Nat) (left : Int) (fl : List Int) (p : Int → Int) (m : Mem) (σ : Slots), left ≤ K → 0 ≤ left → IsFlow n fl → 0 ≤ value n fl → value n fl = amount - left → Opt n fl p → p n.src = 0 → (∀ v, 0 ≤ p v ∧ p v ≤ p n.snk) → p n.snk ≤ 1000 * N → Old m0 m → Sr n fl v sb fb ub N m → m.get ub = some ⟨rowI N p, true⟩ → Outs2 out ob N lo B m → m.get nb = some ⟨netC n v, true⟩ →
    σ 1 = I left → σ 2 = ptr nb → σ 12 = ptr sb → σ 13 = .slice (some ⟨ob, 0, none⟩) N 1 →
    (∀ σ' m' fl' p', Old m0 m' → IsFlow n fl' → value n fl' = amount → Opt n fl' p' → (∀ v, 0 ≤ p' v ∧ p' v ≤ 1000000) → Sr n fl' v sb fb ub N m' → m'.get ub = some ⟨rowI N p', true⟩ → m'.get nb = some ⟨netC n v, true⟩ → σ' 2 = ptr nb → σ' 12 = ptr sb → Q (.exit 2) σ' m') → WP Try.prog (.loop ir33_l2) σ m Q := by
  intro K
  induction K with
  | zero =>
    intro left fl p m σ hK h0 hf hv0 hval hopt hps hpb hpm ho hS hP hO hnb s1 s2 s12 s13 hQ
    obtain rfl : left = 0 := by omega
    have h700 := hV.n7
    refine wp_round fun J hJ => ?_
    simp (disch := first | omega | (simp only [next_put, next_bump]; omega)) [ir33_l2, s1, get_put_self, get_put_ne, get_bump, put_put]
    exact hQ _ _ fl p ho hf (by omega) hopt (fun v => by have := hpb v; omega) hS hP hnb (by simp [s2]) (by simp [s12])
  | succ K ih =>
    intro left fl p m σ hK h0 hf hv0 hval hopt hps hpb hpm ho hS hP hO hnb s1 s2 s12 s13 hQ
    have h700 := hV.n7
    have hpb2 : ∀ v, 0 ≤ p v ∧ p v ≤ 1000000 := fun v => by have := hpb v; omega
    by_cases hl : left = 0
    · refine wp_round fun J hJ => ?_
      subst hl
      simp (disch := first | omega | (simp only [next_put, next_bump]; omega)) [ir33_l2, s1, get_put_self, get_put_ne, get_bump, put_put]
      exact hQ _ _ fl p ho hf (by omega) hopt hpb2 hS hP hnb (by simp [s2]) (by simp [s12])
    refine wp_round fun J hJ => ?_
    have hpos : 0 < left := by omega
    have hOo := hO.outs
    have hOk : OutOk n out := ⟨fun x _ z hz => hI.from_ x z hz, fun e he => hI.all e he⟩
    simp (disch := first | omega | (simp only [next_put, next_bump]; omega)) [ir33_l2, s1, s12, s13, hpos, get_put_self, get_put_ne, get_bump, put_put]
    refine (dist_wp hV hN hf.bnd hopt hps hpb2 hk hkc hS hP hOo hOk (fun x => by have := hI.len x; have := hV.al; omega)).mono fun r m1 hp1 => ?_
    obtain ⟨hom, db, bb, dist, byf, rfl, hdb, hbb, hdb2, hgd, hgb, hD⟩ := hp1
    have hS1 := hS.mono hom
    have hP1 := hom.some hP
    have hO1 : Outs2 out ob N lo B m1 := hO.mono (fun b x hb => hom.some hb)
    have hnb1 := hom.some hnb
    have lub := get_lt hP
    have lfb := get_lt hS.f
    have lsb := get_lt hS.s
    have n0 := ho.next
    have n1 := hom.next
    have hreach := hD.reached (by omega) (fun v => (hpb2 v).1) (fun e => (hkc e).2) (fun v => (hpb2 v).2)
    have hsn : sn dist n.snk = true := by
      cases hh : sn dist n.snk
      · have e1 := hreach.opt hV hf hh
        have e2 := weak hV hg hreach.src hh
        omega
      · rfl
    have hDf := sn_iff.1 hsn
    obtain ⟨l, hpa, hr, hnd⟩ := hreach.path hsn
    have hcap := hD.cap _ hDf
    have hD0 := hD.lo n.snk
    simp (disch := first | omega | (simp only [next_put, next_bump]; omega)) [s1, s2, s12, s13, get_put_self, get_put_ne, get_bump, put_put]
    refine pot_loop hV hN (p := p) (dist := dist) (fl := fl) (v := v) (sb := sb) (fb := fb) (ub := ub) (nb := nb) (db := db) hpb2 (fun v => ⟨hD.lo v, hD.hi v⟩) h6 h7 (by omega) N 0 m1 _ p (by omega) hS1.s hnb1 hgd hP1 (fun v hv => by simp) (by simp [s2]) (by simp [s12]) (by simp) (by simp) (by simp) (by simp) (fun σ' q => ?_)
    have q1 := q 1 (by omega)
    have q2 := q 2 (by omega)
    have q12 := q 12 (by omega)
    have q13 := q 13 (by omega)
    have q17 := q 17 (by omega)
    simp [s1, s2, s12, s13] at q1 q2 q12 q13 q17
    simp (disch := first | omega | (simp only [next_put, next_bump]; omega)) [q1, q2, q12, q13, q17, get_put_self, get_put_ne, get_bump, put_put]
    have hSp : Sr n fl v sb fb ub N (m1.put ub (some ⟨rowI N (newP p dist (dist n.snk)), true⟩)) := by
      refine ⟨by rw [get_put_ne h6]; exact hS1.s, ?_, by rw [get_put_ne (Ne.symm h3)]; exact hS1.f⟩
      rcases hS1.a with h | ⟨b, o, g1, g2⟩
      · exact .inl h
      · exact .inr ⟨b, o, g1, by rw [get_put_ne (h2 _ _ _ g1).2]; exact g2⟩
    refine (maug_wp hV hN hk hf.bnd hSp (bb := bb) (byf := byf) (by rw [get_put_ne (by omega)]; exact hgb) h1 (fun b l c h => (h2 b l c h).1) (by omega) hpa hr hnd (most := left) hpos).mono fun r m3 hp3 => ?_
    obtain ⟨d, rfl, hd0, hdl, hd1, hkf, hgf⟩ := hp3
    have haug := augmented hV hf hpa (d := d) (by omega) hd1 hnd
    have hvle := value_le hV haug.1
    have hvle2 := value_le hV hf
    have hvg := value_le hV hg
    have hpl : (pushAll fl l d).length = fl.length := by rw [haug.1.bnd.1, hf.bnd.1]
    have kn := hkf.next
    have kget := hkf.get
    simp only [next_put] at kn kget
    have w1 : IntKind.i64.wrap (left - d) = left - d := i64_id (by omega) (by omega)
    have lnb := get_lt hnb
    have lob := get_lt hO.u
    simp (disch := first | omega | (simp only [next_put, next_bump]; omega)) [q1, w1, get_put_self, get_put_ne, get_bump, put_put]
    have hnew := hD.newOpt hopt hDf
    have htight := hD.tight hopt hDf hpa (Int.le_refl _)
    have hnp : ∀ v, newP p dist (dist n.snk) v = p v + (if dist v < dist n.snk then dist v else dist n.snk) := fun v => rfl
    have hsnk : newP p dist (dist n.snk) n.snk = p n.snk + dist n.snk := by rw [hnp]; split <;> omega
    have hsrc : newP p dist (dist n.snk) n.src = 0 := by rw [hnp, hD.src, hps]; split <;> omega
    have hget : ∀ c, c < m1.next → c ≠ fb → c ≠ ub → m3.get c = m1.get c := fun c c1 c2 c3 => by rw [kget c c1 c2, get_put_ne c3]
    refine hJ _ _ (ih (left - d) (pushAll fl l d) (newP p dist (dist n.snk)) m3 _ (by omega) (by omega) haug.1 (by rw [haug.2]; omega) (by rw [haug.2]; omega) (hnew.push htight d) hsrc (fun v => ?_) (by rw [hsnk]; omega) ⟨by omega, fun c hc => ?_⟩ ⟨?_, ?_, hgf⟩ ?_ ?_ ?_ (by simp) (by simp [q2]) (by simp [q12]) (by simp [q13]) hQ)
    · rw [hsnk, hnp]
      have := hpb v
      have := hD.lo v
      split <;> omega
    · rw [hget c (by omega) (by omega) (by omega), hom.get c (by omega), ho.get c hc]
    · rw [hget sb (by omega) h1 h6, hpl]; exact hS1.s
    · rcases hS1.a with h | ⟨b, o, g1, g2⟩
      · exact .inl h
      · exact .inr ⟨b, o, g1, by rw [hget b (get_lt g2) (h2 _ _ _ g1).1 (h2 _ _ _ g1).2]; exact g2⟩
    · rw [kget ub (by omega) h3, get_put_self (by omega)]
    · refine ⟨by rw [hget ob (by omega) h9 h10]; exact hO1.u, fun k hk hne => ?_, hO1.inj⟩
      obtain ⟨g1, g2⟩ := hO1.get k hk hne
      exact ⟨by rw [hget _ (get_lt g1) (by omega) (by omega)]; exact g1, g2⟩
    · rw [hget nb (by omega) h5 h7]; exact hnb1

theorem mvB_iff {n : Net} : mvB n = true ↔ n.Valid ∧ ∀ a ∈ n.arcs, costB a = true := by
  simp only [mvB, Bool.and_eq_true, List.all_eq_true, validB_iff]
  exact ⟨fun h => ⟨h.2, h.1⟩, fun h => ⟨h.2, h.1⟩⟩
theorem costB_k {a : Arc} (h : costB a = true) : 0 ≤ a.k ∧ a.k ≤ 1000 := by
  simp [costB] at h; omega
theorem stC_bd {n : Net} (h : ∀ a ∈ n.arcs, 0 ≤ a.k ∧ a.k ≤ 1000) (e : St) : -1000 ≤ stC n e ∧ stC n e ≤ 1000 := by
  unfold stC
  split
  · rename_i a ha
    have := h a (List.mem_of_getElem? ha)
    split <;> omega
  · omega
/-- what Solve returns -/
def MSolved (n : Net) (amount : Int) (r : Value) (m' : Mem) : Prop :=
  ((mvB n = false ∨ amount < 0) ∧ r = .tuple #[.slice none 0 0, I 0, .slice none 0 0, I 1]) ∨
  (mvB n = true ∧ 0 ≤ amount ∧ ∃ g cut, IsFlow n g ∧ (cut.length : Int) = n.nodes ∧ capR n cut = (value n g, true) ∧
    ((value n g < amount ∧ r = .tuple #[.slice none 0 0, I 0, .slice none 0 0, I 12]) ∨
     (amount ≤ value n g ∧ ∃ w u fl p, r = .tuple #[w, I (costL n.arcs fl), u, I 0] ∧ Ints m' w fl ∧ Ints m' u (pL n.nodes.toNat p) ∧ IsFlow n fl ∧ value n fl = amount ∧ Opt n fl p ∧ ∀ v, 0 ≤ p v ∧ p v ≤ 1000000)))

set_option maxHeartbeats 4000000 in
set_option maxRecDepth 20000 in
theorem msolve_wp {n : Net} {v : Value} {m : Mem} (hv : Arcs m v n.arcs) (hl : n.arcs.length < 1000000000) (amount : Int) : WPCall Try.prog 33 [netV n v, I amount] m fun r m' => Old m m' ∧ MSolved n amount r m' := by
  rw [call33 (by simp)]
  obtain ⟨hlen, hsl⟩ := hv.len
  have hM : Old m ((m.bump 5).put m.next (some ⟨netC n v, true⟩)) := ((Old.refl m).bump 5).put (Nat.le_refl _)
  simp (disch := first | omega | (simp only [next_put, next_bump]; omega)) [ir33_b, get_put_self, get_put_ne, get_bump, put_put, -lenOfV, -isSl]
  refine (mvalid_wp (hv.mono hM) hl).mono fun r m2 hp => ?_
  obtain ⟨rfl, ho⟩ := hp
  have ho2 := hM.trans ho
  have hg : m2.get m.next = some ⟨netC n v, true⟩ := ho.some (get_put_self (by simp))
  have hln := get_lt hg
  have hn2 := ho2.next
  cases hV : mvB n
  · simp (disch := first | omega | (simp only [next_put, next_bump]; omega)) [hV, hg, get_put_self, get_put_ne, get_bump, put_put, -lenOfV, -isSl]
    exact ⟨ho2, .inl ⟨.inl hV, rfl⟩⟩
  by_cases ha : amount < 0
  · simp (disch := first | omega | (simp only [next_put, next_bump]; omega)) [hV, hg, ha, get_put_self, get_put_ne, get_bump, put_put, -lenOfV, -isSl]
    exact ⟨ho2, .inl ⟨.inr ha, rfl⟩⟩
  obtain ⟨hVV, hcb⟩ := mvB_iff.1 hV
  have hk : ∀ a ∈ n.arcs, 0 ≤ a.k ∧ a.k ≤ 1000 := fun a ha => costB_k (hcb a ha)
  have hv2 := hv.mono ho2
  obtain ⟨N, hN⟩ : ∃ N : Nat, n.nodes = N := ⟨n.nodes.toNat, by have := hVV.n2; omega⟩
  have hN' : n.nodes.toNat = N := by omega
  have h7 := hVV.n7
  have hal := hVV.al
  simp (disch := first | omega | (simp only [next_put, next_bump]; omega)) [hV, hg, ha, get_put_self, get_put_ne, get_bump, put_put, -lenOfV, -isSl]
  refine (solve_wp (n := n) hv2).mono fun r m3 hp => ?_
  obtain ⟨ho3, hp⟩ := hp
  rcases hp with ⟨h, _⟩ | ⟨_, w0, u0, fl0, cut, rfl, hw0, hu0, hf0, hcl, hvr0, hcr⟩
  · rw [validB_iff.2 hVV] at h; cases h
  have hg3 := ho3.some hg
  have hln3 := get_lt hg3
  have hv3 := hv2.mono ho3
  have ho23 := ho2.trans ho3
  have hn3 := ho23.next
  by_cases hlt : value n fl0 < amount
  · simp (disch := first | omega | (simp only [next_put, next_bump]; omega)) [hV, hg3, hlt, get_put_self, get_put_ne, get_bump, put_put, -lenOfV, -isSl]
    exact ⟨ho23, .inr ⟨hV, by omega, fl0, cut, hf0, hcl, hcr, .inl ⟨hlt, rfl⟩⟩⟩
  have z0 : 0 ≤ n.nodes := by omega
  have z1 : n.nodes * 24 ≤ 140737488355328 := by omega
  have z1' : n.nodes * 8 ≤ 140737488355328 := by omega
  have z2 : n.nodes ≤ 9223372036854775807 := by omega
  have z3 : (n.arcs.length : Int) * 8 ≤ 140737488355328 := by omega
  have z4 : (n.arcs.length : Int) ≤ 9223372036854775807 := by omega
  have z5 : n.arcs.length * 8 ≤ 140737488355328 := by omega
  have z6 : n.arcs.length ≤ 9223372036854775807 := by omega
  simp (disch := first | omega | (simp only [next_put, next_bump]; omega)) [hV, hg3, hlt, hlen, hsl, hN', z0, z1, z1', z2, z3, z4, z5, z6, rowI_zero, get_put_self, get_put_ne, get_bump, put_put, -lenOfV, -isSl, -rowI_set]
  obtain ⟨hz1, hz2⟩ := zero_flow hVV
  have hzo : Opt n (List.replicate n.arcs.length 0) (fun _ => 0) := Opt.zero hVV (fun a ha => (hk a ha).1)
  generalize hM3 : ((((((m3.bump 11).put (m3.next + 4) (some ⟨rowI n.arcs.length (fun _ => 0), true⟩)).put (m3.next + 7) (some ⟨rowI N (fun _ => 0), true⟩)).put (m3.next + 9) (some ⟨[I n.nodes, I n.src, I n.snk, v, .slice (some ⟨m3.next + 4, 0, none⟩) n.arcs.length 1, .slice (some ⟨m3.next + 7, 0, none⟩) N 1], true⟩)).bump 4).put (m3.next + 11 + 2) (some ⟨List.replicate N (Value.slice none 0 0), true⟩)) = M3
  have hn3 : M3.next = m3.next + 15 := by rw [← hM3]; simp
  have hold3 : Old m3 M3 := ⟨by omega, fun b hb => by rw [← hM3]; simp (disch := first | omega | (simp only [next_put, next_bump]; omega)) only [get_put_ne, get_bump]⟩
  have gs : M3.get (m3.next + 9) = some ⟨[I n.nodes, I n.src, I n.snk, v, .slice (some ⟨m3.next + 4, 0, none⟩) n.arcs.length 1, .slice (some ⟨m3.next + 7, 0, none⟩) N 1], true⟩ := by
    rw [← hM3]; simp (disch := first | omega | (simp only [next_put, next_bump]; omega)) only [get_put_self, get_put_ne, get_bump]
  have gf : M3.get (m3.next + 4) = some ⟨rowI n.arcs.length (fun _ => 0), true⟩ := by
    rw [← hM3]; simp (disch := first | omega | (simp only [next_put, next_bump]; omega)) only [get_put_self, get_put_ne, get_bump]
  have gu : M3.get (m3.next + 7) = some ⟨rowI N (fun _ => 0), true⟩ := by
    rw [← hM3]; simp (disch := first | omega | (simp only [next_put, next_bump]; omega)) only [get_put_self, get_put_ne, get_bump]
  have go : M3.get (m3.next + 13) = some ⟨List.replicate N (Value.slice none 0 0), true⟩ := by
    rw [← hM3]; simp (disch := first | omega | (simp only [next_put, next_bump]; omega)) only [get_put_self, get_put_ne, get_bump]
  have hrow : List.replicate N (Value.slice none 0 0) = rowS N (fun _ => []) (fun _ => 0) := by
    apply List.ext_getElem <;> simp [rowS, slv]
  have hvb : ∀ b l c, v = .slice (some ⟨b, 0, none⟩) l c → b < m3.next := by
    intro b l c he
    rcases hv3 with ⟨h, _⟩ | ⟨b', o, h, hb⟩
    · rw [h] at he; cases he
    · rw [h] at he; cases he; exact get_lt hb
  refine mout_loop hVV hN (v := v) (ub := m3.next + 13) (lo := m3.next + 15) (m0 := M3) (hv3.mono hold3) (by omega) (fun b l c he => by have := hvb b l c he; omega) n.arcs.length 0 M3 _ (fun _ => []) (fun _ => 0) (by omega) (by omega) (fun _ _ _ => rfl) ⟨by rw [go, hrow], fun k hk hne => absurd rfl hne, fun k k' hk hk' hkk h1 => absurd rfl h1⟩ ⟨fun x z hz => by simp at hz, fun e he => by omega, fun x => by simp⟩ (by simp) (by simp [hlen]) (by simp) (by simp) (fun σ' m' o' B' e1 e2 e3 e4 e5 => ?_)
  have q1 : σ' 1 = I amount := by rw [e1 1 (by omega)]; simp
  have q2 : σ' 2 = ptr m.next := by rw [e1 2 (by omega)]; simp
  have q12 : σ' 12 = ptr (m3.next + 9) := by rw [e1 12 (by omega)]; simp
  have q13 : σ' 13 = .slice (some ⟨m3.next + 13, 0, none⟩) N 1 := by rw [e1 13 (by omega)]; simp
  have old' : Old m3 m' := ⟨by omega, fun b hb => by rw [e3 b (by omega) (by omega), hold3.get b hb]⟩
  have hS : Sr n (List.replicate n.arcs.length 0) v (m3.next + 9) (m3.next + 4) (m3.next + 7) N m' := by
    refine ⟨by rw [e3 _ (by omega) (by omega), gs, List.length_replicate], hv3.mono old', ?_⟩
    rw [e3 _ (by omega) (by omega), gf, ← rowI_zero, List.map_replicate]
  simp (disch := first | omega | (simp only [next_put, next_bump]; omega)) [get_put_self, get_put_ne, get_bump, put_put]
  refine msolve_loop hVV hN hk (stC_bd hk) (v := v) (sb := m3.next + 9) (fb := m3.next + 4) (ub := m3.next + 7) (ob := m3.next + 13) (nb := m.next) (lo := m3.next + 15) (m0 := m3) (by omega) (by omega) (by omega) (fun b l c he => by have := hvb b l c he; omega) (by omega) (by omega) (by omega) (by omega) (by omega) (by omega) (by omega) (by omega) e5 hf0 (amount := amount) (by omega) amount.toNat amount (List.replicate n.arcs.length 0) (fun _ => 0) m' _ (by omega) (by omega) hz1 (by omega) (by omega) hzo rfl (fun v => by simp) (by show (0 : Int) ≤ _; omega) old' hS (by rw [e3 _ (by omega) (by omega), gu]) e4 (old'.some hg3) (by simp [q1]) (by simp [q2]) (by simp [q12]) (by simp [q13]) (fun σ'' m'' fl' p' f1 f2 f3 f4 f5 f6 f7 f8 f9 f10 => ?_)
  have hss := f6.s
  simp (disch := first | omega | (simp only [next_put, next_bump]; omega)) [f8, f9, f10, hss, get_put_self, get_put_ne, get_bump, put_put]
  refine (cost_wp (n := n) (fl := fl') f6.a (.inr ⟨_, _, rfl, f6.f⟩) hl).mono fun r m5 hp5 => ?_
  obtain ⟨rfl, ho5⟩ := hp5
  have hss5 := ho5.some hss
  have hcr : costR n fl' = (costL n.arcs fl', true) := by simp [costR, valueR_of hVV f2, hV]
  simp (disch := first | omega | (simp only [next_put, next_bump]; omega)) [f8, f9, f10, hss5, hcr, get_put_self, get_put_ne, get_bump, put_put]
  refine ⟨ho23.trans (f1.trans ho5), .inr ⟨hV, by omega, fl0, cut, hf0, hcl, by assumption, .inr ⟨by omega, _, _, fl', p', rfl, .inr ⟨_, _, rfl, ho5.some f6.f⟩, .inr ⟨m3.next + 7, true, by rw [pL_len, hN'], ?_⟩, f2, f3, f4, f5⟩⟩⟩
  rw [hN', ← pL_row]; exact ho5.some f7
end Go.Proofs.Ytapnkfkpkcajjaa
