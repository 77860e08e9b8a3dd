/-
  Distances of mincost's reference: a round.
-/
import Derived.Test.YtapnkfkpkcajjaaMcT
namespace Go.Proofs.Ytapnkfkpkcajjaa
open Go Go.DI Go.Nets
set_option linter.unusedSimpArgs false
set_option linter.unusedVariables false

/-- what a round over the arcs knows -/
structure BFI (n : Net) (fl : List Int) (p : Int → Int) (N M0 i : Nat) (dist byf : Int → Int) (g : Bool) : Prop where
  bf : ∃ q, BF n fl p N dist (fun x => dec2 n.arcs.length (byf x)) q
  no : g = false → sumN (capD (red p dist)) N = M0 ∧ ∀ e : St, e.1 < i → 0 < room n fl e → dist (stF n e) < far → dist (stT n e) ≤ dist (stF n e) + stC n e
  yes : g = true → sumN (capD (red p dist)) N + 1 ≤ M0
set_option maxHeartbeats 4000000 in
set_option maxRecDepth 20000 in
theorem bf_inner {n : Net} (hV : n.Valid) {N : Nat} (hN : n.nodes = N) {fl : List Int} (hbd : Bnd n fl) {p : Int → Int} (hp : Opt n fl p) (hpp : ∀ v, 0 ≤ p v ∧ p v ≤ 1000000) (hk : ∀ a ∈ n.arcs, 0 ≤ a.k ∧ a.k ≤ 1000) {v : Value} {nb fb db bb : Nat} {fo : Bool} {m0 : Mem} (hn : m0.get nb = some ⟨netC n v, true⟩) (hv : Arcs m0 v n.arcs) (hf : m0.get fb = some ⟨fl.map (Value.int .i64 ·), fo⟩) (hdb : m0.next ≤ db) (hbb : m0.next ≤ bb) (hdbb : bb ≠ db) {M0 : Nat} {Q : IExit → Slots → Mem → Prop} :
    ∀ (r i : Nat) (m : Mem) (σ : Slots) (dist byf : Int → Int) (g : Bool), i + r = n.arcs.length → Old m0 m → m.get db = some ⟨rowI N dist, true⟩ → m.get bb = some ⟨rowI N byf, true⟩ → BFI n fl p N M0 i dist byf g →
    σ 1 = .slice (some ⟨fb, 0, none⟩) fl.length 1 → σ 2 = ptr nb → σ 6 = .slice (some ⟨db, 0, none⟩) N 1 → σ 7 = .slice (some ⟨bb, 0, none⟩) N 1 → σ 9 = .bool g → σ 10 = I i →
    (∀ σ' m' dist' byf' g', Old m0 m' → m'.get db = some ⟨rowI N dist', true⟩ → m'.get bb = some ⟨rowI N byf', true⟩ → BFI n fl p N M0 n.arcs.length dist' byf' g' → (∀ t, t < 9 → σ' t = σ t) → σ' 9 = .bool g' → Q (.exit 4) σ' m') → WP Try.prog (.loop ir49_l1) σ m Q
  | 0, i, m, σ, dist, byf, g, hi, ho, gd, gb, hB, s1, s2, s6, s7, s9, s10, hQ => by
    refine wp_round fun J hJ => ?_
    have h1 : ¬ (i : Int) < n.arcs.length := by omega
    have h1' : ¬ i < n.arcs.length := by omega
    obtain rfl : i = n.arcs.length := by omega
    obtain ⟨hlen, hsl⟩ := hv.len
    have gn := ho.some hn
    simp (disch := first | omega | (simp only [next_put, next_bump]; omega)) [ir49_l1_n, s2, s10, h1, h1', gn, hlen, hsl, get_put_self, get_put_ne, get_bump, put_put, -lenOfV, -isSl]
    exact hQ _ _ dist byf g ho gd gb hB (fun t ht => by simp (disch := omega) only [upd_ne]) (by simp [s9])
  | r + 1, i, m, σ, dist, byf, g, hi, ho, gd, gb, hB, s1, s2, s6, s7, s9, s10, hQ => by
    refine wp_round fun J hJ => ?_
    have k1 : i < n.arcs.length := by omega
    have k1' : (i : Int) < n.arcs.length := by omega
    obtain ⟨a, ha⟩ : ∃ a, n.arcs[i]? = some a := ⟨n.arcs[i]'k1, by simp⟩
    obtain ⟨φ, hφ⟩ : ∃ φ, fl[i]? = some φ := ⟨fl[i]'(by rw [hbd.1]; exact k1), by simp⟩
    obtain ⟨⟨f0, f1⟩, ⟨t0, t1⟩, c0, c1⟩ := hV.arc a (List.mem_of_getElem? ha)
    have hka := hk a (List.mem_of_getElem? ha)
    have hkc := stC_bd hk
    have hal := hV.al
    have h700 := hV.n7
    obtain ⟨kf, hkf⟩ : ∃ k : Nat, a.f = k := ⟨a.f.toNat, by omega⟩
    obtain ⟨kt, hkt⟩ : ∃ k : Nat, a.t = k := ⟨a.t.toNat, by omega⟩
    have lf : kf < N := by omega
    have lt : kt < N := by omega
    obtain ⟨hlen, hsl⟩ := hv.len
    obtain ⟨x1, x2, x3, x4, x5, x6⟩ := stF_f ha
    obtain ⟨y1, y2⟩ := room_f ha hφ
    obtain ⟨c, o, hvc, hc⟩ := hv.blk k1
    have gn := ho.some hn
    have gf := ho.some hf
    have gc := ho.some hc
    have lc := get_lt gc
    have ln := get_lt hn
    have lff := get_lt hf
    have ld := get_lt gd
    have lb := get_lt gb
    have n0 := ho.next
    have b4 : i * 4 + 4 ≤ n.arcs.length * 4 := by omega
    have c4 := arcs_at ha
    have w0 : IntKind.i64.wrap ((i : Int) + 1) = (i : Int) + 1 := i64_id (by omega) (by omega)
    simp (disch := first | omega | (simp only [next_put, next_bump]; omega)) [ir49_l1_n, s2, s10, k1, k1', gn, hvc, gc, b4, c4, arcC, get_put_self, get_put_ne, get_bump, put_put]
    have oM : Old m ((m.bump 7).put (m.next + 5) (some ⟨[I a.f, I a.t, I a.c, I a.k], true⟩)) := ((Old.refl m).bump 7).put (by omega)
    have gaM : ((m.bump 7).put (m.next + 5) (some ⟨[I a.f, I a.t, I a.c, I a.k], true⟩)).get (m.next + 5) = some ⟨arcC a, true⟩ := get_put_self (by simp only [next_bump]; omega)
    obtain ⟨M, hMM⟩ : ∃ M, M = (m.bump 7).put (m.next + 5) (some ⟨[I a.f, I a.t, I a.c, I a.k], true⟩) := ⟨_, rfl⟩
    rw [← hMM] at oM gaM ⊢
    have hMn : M.next = m.next + 7 := by rw [hMM]; simp
    obtain ⟨q, hbf⟩ := hB.bf
    have bd : ∀ {dist' : Int → Int} {by' : Int → St} {q'}, BF n fl p N dist' by' q' → ∀ v, 0 ≤ dist' v ∧ dist' v ≤ 1099511627776 := fun {dist'} {by'} {q'} h v => by
      have h1 := h.hi v
      by_cases hv : dist' v < far
      · have := h.bd (by omega) (fun v => (hpp v).1) hv
        unfold far at h1; omega
      · unfold far at h1 hv; omega
    -- the second half, from any state
    have half : ∀ (m1 : Mem) (σ1 : Slots) (d1 b1 : Int → Int) (g1 : Bool), Old m0 m1 → M.next ≤ m1.next → m1.get (m.next + 5) = some ⟨arcC a, true⟩ → m1.get db = some ⟨rowI N d1, true⟩ → m1.get bb = some ⟨rowI N b1, true⟩ → (∃ q, BF n fl p N d1 (fun x => dec2 n.arcs.length (b1 x)) q) →
        (g1 = false → sumN (capD (red p d1)) N = M0 ∧ ∀ e : St, (e.1 < i ∨ e = (i, true)) → 0 < room n fl e → d1 (stF n e) < far → d1 (stT n e) ≤ d1 (stF n e) + stC n e) → (g1 = true → sumN (capD (red p d1)) N + 1 ≤ M0) →
        (∀ t, t < 9 → σ1 t = σ t) → σ1 9 = .bool g1 → σ1 10 = I i → σ1 11 = ptr (m.next + 5) → ∀ {Q' : IExit → Slots → Mem → Prop}, (∀ σ' m' d' b' g', Old m0 m' → m'.get db = some ⟨rowI N d', true⟩ → m'.get bb = some ⟨rowI N b', true⟩ → BFI n fl p N M0 (i + 1) d' b' g' → (∀ t, t < 9 → σ' t = σ t) → σ' 9 = .bool g' → σ' 10 = I i → Q' .normal σ' m') → WP Try.prog ir49_g σ1 m1 Q' := by
      intro m1 σ1 d1 b1 g1 p1 p2 p3 p4 p5 p6 p7 p8 e0 e9 e10 e11 Q' hQ'
      obtain ⟨q1, hb1⟩ := p6
      have l4 := get_lt p4
      refine ir49_g_wp hN (v := v) (fl := fl) (fo := fo) (ab := m.next + 5) (db := db) (bb := bb) (fb := fb) (nb := nb) (a := a) (φ := φ) (dist := d1) (byf := b1) hlen hsl hal k1 p3 (p1.some hn) (p1.some hf) p4 p5 hφ hbd.1 hkf hkt lf lt hka (bd hb1) (by omega) (by omega) hdbb (by omega) (by rw [e0 1 (by omega)]; exact s1) (by rw [e0 2 (by omega)]; exact s2) (by rw [e0 6 (by omega)]; exact s6) (by rw [e0 7 (by omega)]; exact s7) e10 e11 (fun hc σ' r1 r2 => ?_) (fun hc σ' r1 => ?_)
      · obtain ⟨z1, z2, z3⟩ := hc
        obtain ⟨q2, hb2, hm⟩ := hb1.add hN (by omega) hp hpp hkc (e := (i, false)) (by rw [y2]; exact z1) (by rw [x4, hkt]; exact z2) (by rw [x4, x5, x6, hkt, hkf]; omega) (by rw [x5]; exact ⟨f0, f1⟩)
        rw [x4, x5, x6, hkt, hkf] at hb2 hm
        have e : d1 kt + -a.k = d1 kt - a.k := by omega
        rw [e] at hb2 hm
        have hby : (fun x => dec2 n.arcs.length (setF b1 (kf : Int) ((n.arcs.length : Int) + i) x)) = setF (fun x => dec2 n.arcs.length (b1 x)) (kf : Int) (i, false) := by
          funext x; unfold setF; split
          · exact dec2_b
          · rfl
        refine hQ' _ _ (setF d1 kf (d1 kt - a.k)) (setF b1 kf ((n.arcs.length : Int) + i)) true ⟨by have := p1.next; simp only [next_put]; omega, fun b hb => by rw [get_put_ne (by omega), get_put_ne (by omega), p1.get b hb]⟩ (by rw [get_put_ne (Ne.symm hdbb), get_put_self l4]) (by rw [get_put_self (by simp only [next_put]; exact get_lt p5)]) ⟨⟨q2, by rw [hby]; exact hb2⟩, (fun h => by cases h), fun _ => ?_⟩ (fun t ht => by rw [r1 t (by omega) (by omega), e0 t ht]) r2 (by rw [r1 10 (by omega) (by omega)]; exact e10)
        cases g1
        · have := (p7 rfl).1; omega
        · have := p8 rfl; omega
      · refine hQ' _ _ d1 b1 g1 p1 p4 p5 ⟨⟨q1, hb1⟩, fun h => ⟨(p7 h).1, fun e he hr hlt => ?_⟩, p8⟩ (fun t ht => by rw [r1 t (by omega), e0 t ht]) (by rw [r1 9 (by omega)]; exact e9) (by rw [r1 10 (by omega)]; exact e10)
        by_cases hlt2 : e.1 < i
        · exact (p7 h).2 e (.inl hlt2) hr hlt
        · obtain ⟨j, b⟩ := e
          simp only at he hlt2
          obtain rfl : j = i := by omega
          cases b
          · rw [y2] at hr
            rw [x4, hkt] at hlt
            rw [x4, x5, x6, hkt, hkf]
            by_cases h9 : d1 kt - a.k < d1 kf
            · exact absurd ⟨hr, hlt, h9⟩ hc
            · omega
          · exact (p7 h).2 _ (.inr rfl) hr hlt
    have fin : ∀ (σ' : Slots) (m' : Mem) (d' b' : Int → Int) (g' : Bool), Old m0 m' → m'.get db = some ⟨rowI N d', true⟩ → m'.get bb = some ⟨rowI N b', true⟩ → BFI n fl p N M0 (i + 1) d' b' g' → (∀ t, t < 9 → σ' t = σ t) → σ' 9 = .bool g' → σ' 10 = I ((i : Int) + 1) → J σ' m' := fun σ' m' d' b' g' u1 u2 u3 u4 u5 u9 u10 =>
      hJ _ _ (bf_inner hV hN hbd hp hpp hk hn hv hf hdb hbb hdbb r (i + 1) m' σ' d' b' g' (by omega) u1 u2 u3 u4 (by rw [u5 1 (by omega)]; exact s1) (by rw [u5 2 (by omega)]; exact s2) (by rw [u5 6 (by omega)]; exact s6) (by rw [u5 7 (by omega)]; exact s7) u9 (by rw [u10]; simp) (fun σ'' m'' d'' b'' g'' v1 v2 v3 v4 v5 v6 => hQ σ'' m'' d'' b'' g'' v1 v2 v3 v4 (fun t ht => by rw [v5 t ht, u5 t ht]) v6))
    have oM0 := ho.trans oM
    refine ir49_f_wp hN (v := v) (fl := fl) (fo := fo) (ab := m.next + 5) (db := db) (bb := bb) (fb := fb) (nb := nb) (a := a) (φ := φ) (dist := dist) (byf := byf) hlen hsl hal k1 gaM (oM.some gn) (oM.some gf) (oM.some gd) (oM.some gb) hφ hbd.1 hkf hkt lf lt hka (bd hbf) (by omega) (by omega) hdbb (by omega) (by simp [s1]) (by simp [s2]) (by simp [s6]) (by simp [s7]) (by simp [s10]) (by simp) (fun hc σ' r1 r2 => ?_) (fun hc σ' r1 => ?_)
    · obtain ⟨z1, z2, z3⟩ := hc
      obtain ⟨q2, hb2, hm⟩ := hbf.add hN (by omega) hp hpp hkc (e := (i, true)) (by rw [y1]; omega) (by rw [x1, hkf]; exact z2) (by rw [x1, x2, x3, hkt, hkf]; exact z3) (by rw [x2]; exact ⟨t0, t1⟩)
      rw [x1, x2, x3, hkt, hkf] at hb2 hm
      have hby : (fun x => dec2 n.arcs.length (setF byf (kt : Int) (i : Int) x)) = setF (fun x => dec2 n.arcs.length (byf x)) (kt : Int) (i, true) := by
        funext x; unfold setF; split
        · exact dec2_f k1
        · rfl
      simp only [thenK_normal]
      refine half _ σ' (setF dist kt (dist kf + a.k)) (setF byf kt (i : Int)) true ⟨by have := oM0.next; simp only [next_put]; omega, fun b hb => by rw [get_put_ne (by omega), get_put_ne (by omega), oM0.get b hb]⟩ (by simp only [next_put]; omega) (by rw [get_put_ne (by omega), get_put_ne (by omega)]; exact gaM) (by rw [get_put_ne (Ne.symm hdbb), get_put_self (get_lt (oM.some gd))]) (by rw [get_put_self (by simp only [next_put]; exact get_lt (oM.some gb))]) ⟨q2, by rw [hby]; exact hb2⟩ (fun h => by cases h) (fun _ => ?_) (fun t ht => by rw [r1 t (by omega) (by omega)]; simp (disch := omega) only [upd_ne]) r2 (by rw [r1 10 (by omega) (by omega)]; simp [s10]) (by rw [r1 11 (by omega) (by omega)]; simp) (fun σ'' m'' d' b' g' u1 u2 u3 u4 u5 u9 u10 => ?_)
      · cases g
        · have := (hB.no rfl).1; omega
        · have := hB.yes rfl; omega
      · simp (disch := first | omega | (simp only [next_put, next_bump]; omega)) [u10, w0, get_put_self, get_put_ne, get_bump, put_put]
        exact fin _ _ d' b' g' u1 u2 u3 u4 (fun t ht => by rw [← u5 t ht]; simp (disch := omega) only [upd_ne]) (by simp [u9]) (by simp)
    · simp only [thenK_normal]
      refine half _ σ' dist byf g oM0 (Nat.le_refl _) gaM (oM.some gd) (oM.some gb) ⟨q, hbf⟩ (fun h => ⟨(hB.no h).1, fun e he hr hlt => ?_⟩) hB.yes (fun t ht => by rw [r1 t (by omega)]; simp (disch := omega) only [upd_ne]) (by rw [r1 9 (by omega)]; simp [s9]) (by rw [r1 10 (by omega)]; simp [s10]) (by rw [r1 11 (by omega)]; simp) (fun σ'' m'' d' b' g' u1 u2 u3 u4 u5 u9 u10 => ?_)
      · rcases he with he | rfl
        · exact (hB.no h).2 e he hr hlt
        · rw [y1] at hr
          rw [x1, hkf] at hlt
          rw [x1, x2, x3, hkf, hkt]
          by_cases h9 : dist kf + a.k < dist kt
          · exact absurd ⟨by omega, hlt, h9⟩ hc
          · omega
      · simp (disch := first | omega | (simp only [next_put, next_bump]; omega)) [u10, w0, get_put_self, get_put_ne, get_bump, put_put]
        exact fin _ _ d' b' g' u1 u2 u3 u4 (fun t ht => by rw [← u5 t ht]; simp (disch := omega) only [upd_ne]) (by simp [u9]) (by simp)
end Go.Proofs.Ytapnkfkpkcajjaa
