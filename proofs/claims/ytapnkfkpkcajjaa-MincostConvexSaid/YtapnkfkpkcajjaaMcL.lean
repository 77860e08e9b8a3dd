/-
  Mincost's 'Cost' of the reference; the loops of 'Check'.
-/
import Derived.Test.YtapnkfkpkcajjaaMcK
namespace Go.Proofs.Ytapnkfkpkcajjaa
open Go Go.DI Go.Nets
set_option linter.unusedSimpArgs false
set_option linter.unusedVariables false

set_option maxHeartbeats 2000000 in
theorem rcost_loop {M : Int} (hM : M = 1000000000) {n : Net} {fl : List Int} {v w : Value} {nb : Nat} {m0 : Mem} (hn : m0.get nb = some ⟨netC n v, true⟩) (hv : Arcs m0 v n.arcs) (hw : Ints m0 w fl) (hb : Bnd n fl) (hV : n.Valid) (hk : ∀ a ∈ n.arcs, costB a = true) {Q : IExit → Slots → Mem → Prop} : ∀ (r i : Nat) (acc : Int) (m : Mem) (σ : Slots), i + r = n.arcs.length → Old m0 m → 0 ≤ acc → acc ≤ i * M →
    σ 1 = w → σ 2 = ptr nb → σ 9 = I i → σ 8 = I acc →
    (∀ σ' m', Old m0 m' → σ' 8 = I (acc + costL (n.arcs.drop i) (fl.drop i)) → Q (.exit 0) σ' m') → WP Try.prog (.loop ir39_l0) σ m Q
  | 0, i, acc, m, σ, hi, ho, p1, p2, s1, s2, s9, s8, hQ => by
    refine wp_round fun J hJ => ?_
    obtain ⟨hlen, hsl⟩ := hw.len
    have h1 : ¬ (i : Int) < fl.length := by rw [hb.1]; omega
    have h1' : ¬ i < fl.length := by omega
    simp [ir39_l0, s1, s9, h1, h1', hlen, hsl, -lenOfV, -isSl]
    exact hQ _ _ ho (by rw [List.drop_of_length_le (by omega)]; simp [s8, costL])
  | r + 1, i, acc, m, σ, hi, ho, p1, p2, s1, s2, s9, s8, hQ => by
    refine wp_round fun J hJ => ?_
    have h1 : i < n.arcs.length := by omega
    have hal := hV.al
    obtain ⟨a, ha⟩ : ∃ a, n.arcs[i]? = some a := ⟨n.arcs[i]'h1, by simp⟩
    have hfi : i < fl.length := by rw [hb.1]; exact h1
    obtain ⟨φ, hφ⟩ : ∃ φ, fl[i]? = some φ := ⟨fl[i]'hfi, by simp⟩
    have hφ2 : ∀ h, fl[i]'h = φ := fun h => by rw [List.getElem?_eq_getElem h] at hφ; simpa using hφ
    have hbd := hb.2 i a φ ha hφ
    have hka := hk a (List.mem_of_getElem? ha)
    simp [costB] at hka
    have hm0 : 0 ≤ φ * a.k := Int.mul_nonneg (by omega) (by omega)
    have hm1 : φ * a.k ≤ M := by rw [hM]; exact Int.mul_le_mul (a := φ) (b := a.k) (c := 1000000) (d := 1000) (by omega) (by omega) (by omega) (by omega)
    have hiM : (i : Int) * M ≤ 2500 * M := Int.mul_le_mul_of_nonneg_right (by omega) (by omega)
    have hsM : ((i + 1 : Nat) : Int) * M = i * M + M := by push_cast; rw [Int.add_mul]; omega
    obtain ⟨c, o, rfl, hc⟩ := hv.blk h1
    obtain ⟨d, o', rfl, hd⟩ := hw.blk hfi
    have hgc := ho.some hc
    have hgd := ho.some hd
    have hgn := ho.some hn
    have hlc := get_lt hgc
    have hld := get_lt hgd
    have hn0 := ho.next
    have b3 : i * 4 + 3 ≤ n.arcs.length * 4 := by omega
    have b4 : i * 4 + 4 ≤ n.arcs.length * 4 := by omega
    have b5 : (i : Int) < fl.length := by omega
    have b6 : i + 1 ≤ fl.length := hfi
    have q3 := arcs_get ha (j := 3) (by omega)
    simp [arcC] at q3
    have w0 : IntKind.i64.wrap ((i : Int) + 1) = (i : Int) + 1 := i64_id (by omega) (by omega)
    have w1 : IntKind.i64.wrap (φ * a.k) = φ * a.k := i64_id (by omega) (by omega)
    have w2 : IntKind.i64.wrap (acc + φ * a.k) = acc + φ * a.k := i64_id (by omega) (by omega)
    simp (disch := first | omega | (simp only [next_put, next_bump]; omega)) [ir39_l0, s1, s2, s9, s8, h1, hfi, hgc, hgd, hgn, b3, b4, b5, b6, q3, head_td, hφ, hφ2, w0, w1, w2, addrOk, addrOwn, loadV, storeM, cellsAt, regBump, get_put_self, get_put_ne, get_bump, put_put]
    refine hJ _ _ (rcost_loop hM hn hv hw hb hV hk r (i + 1) (acc + φ * a.k) _ _ (by omega) ho (by omega) (by omega) (by simp [s1]) (by simp [s2]) (by simp) (by simp) (fun σ'' m'' g1 g2 => hQ _ _ g1 ?_))
    rw [g2, costL_drop ha hφ, Int.add_assoc]

theorem rcost_wp {n : Net} {fl : List Int} {v w : Value} {m : Mem} (hv : Arcs m v n.arcs) (hw : Ints m w fl) : WPCall Try.prog 39 [netV n v, w] m fun r m' => r = .tuple #[I (costR n fl).1, .bool (costR n fl).2] ∧ Old m m' := by
  rw [call39 (by simp)]
  have hM : Old m ((m.bump 3).put m.next (some ⟨netC n v, true⟩)) := ((Old.refl m).bump 3).put (Nat.le_refl _)
  have hg : ((m.bump 3).put m.next (some ⟨netC n v, true⟩)).get m.next = some ⟨netC n v, true⟩ := get_put_self (by simp)
  simp (disch := first | omega | (simp only [next_put, next_bump]; omega)) [ir39_b, addrOk, loadV, cellsAt, get_put_self, get_put_ne, get_bump, put_put, -lenOfV, -isSl]
  refine (rmvalid_wp (hv.mono hM)).mono fun r m2 hr => ?_
  obtain ⟨rfl, h2⟩ := hr
  have hg2 := h2.some hg
  cases hmb : mvB n
  · simp [hmb]
    exact ⟨by simp [costR, hmb], hM.trans h2⟩
  simp [hmb, hg2, addrOk, loadV, cellsAt, -lenOfV, -isSl]
  refine (rvalue_wp ((hv.mono hM).mono h2) ((hw.mono hM).mono h2)).mono fun r m3 hr => ?_
  obtain ⟨rfl, h3⟩ := hr
  have hg3 := h3.some hg2
  cases hvb : (valueR n fl).2
  · simp [hvb]
    exact ⟨by simp [costR, hvb], (hM.trans h2).trans h3⟩
  obtain ⟨hV, hf, _⟩ := valueR_true hvb
  have hall := (mvB_iff.1 hmb).2
  simp [hvb, addrOk, loadV, cellsAt, -lenOfV, -isSl]
  refine rcost_loop rfl hg3 (((hv.mono hM).mono h2).mono h3) (((hw.mono hM).mono h2).mono h3) hf.1 hV hall n.arcs.length 0 0 _ _ (by omega) (Old.refl _) (by omega) (by simp) (by simp) (by simp) (by simp) (by simp) (fun σ' m' g1 g2 => ?_)
  simp [g2]
  exact ⟨by simp [costR, hvb, hmb], ((hM.trans h2).trans h3).trans g1⟩

def potF (ps : List Int) (x : Int) : Int := ps.getD x.toNat 0
def chkA (ps : List Int) (a : Arc) (φ : Int) : Bool := !(decide (a.k + potF ps a.f - potF ps a.t < 0) && decide (φ < a.c) || decide (0 < a.k + potF ps a.f - potF ps a.t) && decide (0 < φ))
def chkL (ps : List Int) : List Arc → List Int → Bool
  | a :: ar, φ :: fs => chkA ps a φ && chkL ps ar fs
  | _, _ => true
def rngB (x : Int) : Bool := !decide (x < -1000000000) && !decide (1000000000 < x)
def mcheckR (n : Net) (amount : Int) (fl ps : List Int) : Bool := (valueR n fl).2 && mvB n && decide ((valueR n fl).1 = amount) && decide ((ps.length : Int) = n.nodes) && ps.all rngB && chkL ps n.arcs fl
theorem potF_get {ps : List Int} {x : Int} (h : x.toNat < ps.length) : ps[x.toNat]? = some (potF ps x) := by
  unfold potF; rw [List.getD_eq_getElem?_getD, List.getElem?_eq_getElem h]; rfl
theorem chkL_drop {ps : List Int} {ar : List Arc} {fl : List Int} {i : Nat} {a : Arc} {φ : Int} (ha : ar[i]? = some a) (hf : fl[i]? = some φ) : chkL ps (ar.drop i) (fl.drop i) = (chkA ps a φ && chkL ps (ar.drop (i + 1)) (fl.drop (i + 1))) := by
  obtain ⟨h1, rfl⟩ := List.getElem?_eq_some_iff.1 ha
  obtain ⟨h2, rfl⟩ := List.getElem?_eq_some_iff.1 hf
  rw [List.drop_eq_getElem_cons h1, List.drop_eq_getElem_cons h2]; rfl
theorem rng_potF {ps : List Int} (h : ps.all rngB = true) (x : Int) : -1000000000 ≤ potF ps x ∧ potF ps x ≤ 1000000000 := by
  unfold potF
  rw [List.getD_eq_getElem?_getD]
  cases hx : ps[x.toNat]? with
  | none => simp
  | some y =>
    have := (List.all_eq_true.1 h) y (List.mem_of_getElem? hx)
    simp [rngB] at this
    simp; omega

set_option maxHeartbeats 2000000 in
theorem rng_loop {ps : List Int} {pv : Value} {m0 : Mem} (hp : Ints m0 pv ps) (hl : ps.length < 1000000000) {Q : IExit → Slots → Mem → Prop} : ∀ (r i : Nat) (m : Mem) (σ : Slots), i + r = ps.length → Old m0 m →
    σ 41 = pv → σ 42 = I ps.length → σ 43 = I i →
    (∀ σ' m', Old m0 m' → (ps.drop i).all rngB = true → (∀ t, t < 5 → σ' t = σ t) → Q (.exit 0) σ' m') → (∀ σ' m', Old m0 m' → (ps.drop i).all rngB = false → σ' 8 = .bool false → Q .ret σ' m') → WP Try.prog (.loop ir41_l0) σ m Q
  | 0, i, m, σ, hi, ho, s41, s42, s43, hQ, hR => by
    refine wp_round fun J hJ => ?_
    have h1 : ¬ i < ps.length := by omega
    have h1' : ¬ (i : Int) < ps.length := by omega
    simp (disch := first | omega | (simp only [next_put, next_bump]; omega)) [ir41_l0, s41, s42, s43, h1, h1', get_put_self, get_put_ne, get_bump, put_put]
    exact hQ _ _ ho (by rw [List.drop_of_length_le (by omega)]; rfl) (fun t ht => by simp (disch := omega) only [upd_ne])
  | r + 1, i, m, σ, hi, ho, s41, s42, s43, hQ, hR => by
    refine wp_round fun J hJ => ?_
    have h1 : i < ps.length := by omega
    have h1' : (i : Int) < ps.length := by omega
    have h2 : i + 1 ≤ ps.length := by omega
    obtain ⟨x, hx⟩ : ∃ x, ps[i]? = some x := ⟨ps[i]'h1, by simp⟩
    have hx2 : ∀ h, ps[i]'h = x := fun h => by rw [List.getElem?_eq_getElem h] at hx; simpa using hx
    have hdrop : ps.drop i = x :: ps.drop (i + 1) := by
      rw [List.drop_eq_getElem_cons h1]; rw [List.getElem?_eq_getElem h1] at hx; cases hx; rfl
    obtain ⟨c, o, rfl, hc⟩ := hp.blk h1
    have hgc := ho.some hc
    have w0 : IntKind.i64.wrap ((i : Int) + 1) = (i : Int) + 1 := i64_id (by omega) (by omega)
    have stop : ∀ (σ' : Slots), rngB x = false → σ' 8 = .bool false → Q .ret σ' m := fun σ' hno q => hR _ _ ho (by rw [hdrop, List.all_cons, hno]; rfl) q
    by_cases k1 : x < -1000000000
    · simp (disch := first | omega | (simp only [next_put, next_bump]; omega)) [ir41_l0, s41, s42, s43, h1, h1', h2, hgc, hx, hx2, head_td, k1, get_put_self, get_put_ne, get_bump, put_put]
      exact stop _ (by simp [rngB, k1]) (by simp)
    by_cases k2 : 1000000000 < x
    · simp (disch := first | omega | (simp only [next_put, next_bump]; omega)) [ir41_l0, s41, s42, s43, h1, h1', h2, hgc, hx, hx2, head_td, k1, k2, get_put_self, get_put_ne, get_bump, put_put]
      exact stop _ (by simp [rngB, k2]) (by simp)
    simp (disch := first | omega | (simp only [next_put, next_bump]; omega)) [ir41_l0, s41, s42, s43, h1, h1', h2, hgc, hx, hx2, head_td, k1, k2, w0, get_put_self, get_put_ne, get_bump, put_put]
    refine hJ _ _ (rng_loop hp hl r (i + 1) _ _ (by omega) ho (by simp [s41]) (by simp [s42]) (by simp) (fun σ'' m'' g1 g2 g3 => hQ _ _ g1 ?_ (fun t ht => ?_)) (fun σ'' m'' g1 g2 g3 => hR _ _ g1 ?_ g3))
    · rw [hdrop, List.all_cons, g2]; simp [rngB, k1, k2]
    · rw [g3 t ht]; simp (disch := omega) only [upd_ne]
    · rw [hdrop, List.all_cons, g2]; simp

set_option maxHeartbeats 2000000 in
theorem rrng_loop {ps : List Int} {pv : Value} {m0 : Mem} {n : Net} {v : Value} {nb : Nat} (hn : m0.get nb = some ⟨netC n v, true⟩) (hnl : n.nodes = ps.length) (hp : Ints m0 pv ps) (hl : ps.length < 1000000000) {Q : IExit → Slots → Mem → Prop} : ∀ (r i : Nat) (m : Mem) (σ : Slots), i + r = ps.length → Old m0 m →
    σ 3 = pv → σ 4 = ptr nb → σ 11 = I i →
    (∀ σ' m', Old m0 m' → (ps.drop i).all rngB = true → (∀ t, t < 5 → σ' t = σ t) → Q (.exit 0) σ' m') → (∀ σ' m', Old m0 m' → (ps.drop i).all rngB = false → σ' 8 = .bool false → Q .ret σ' m') → WP Try.prog (.loop ir42_l0) σ m Q
  | 0, i, m, σ, hi, ho, s3, s4, s11, hQ, hR => by
    refine wp_round fun J hJ => ?_
    have h1 : ¬ i < ps.length := by omega
    have h1' : ¬ (i : Int) < ps.length := by omega
    have hgn := ho.some hn
    simp (disch := first | omega | (simp only [next_put, next_bump]; omega)) [ir42_l0, s3, s4, s11, h1, h1', hgn, hnl, get_put_self, get_put_ne, get_bump, put_put]
    exact hQ _ _ ho (by rw [List.drop_of_length_le (by omega)]; rfl) (fun t ht => by simp (disch := omega) only [upd_ne])
  | r + 1, i, m, σ, hi, ho, s3, s4, s11, hQ, hR => by
    refine wp_round fun J hJ => ?_
    have h1 : i < ps.length := by omega
    have h1' : (i : Int) < ps.length := by omega
    have h2 : i + 1 ≤ ps.length := by omega
    obtain ⟨x, hx⟩ : ∃ x, ps[i]? = some x := ⟨ps[i]'h1, by simp⟩
    have hx2 : ∀ h, ps[i]'h = x := fun h => by rw [List.getElem?_eq_getElem h] at hx; simpa using hx
    have hdrop : ps.drop i = x :: ps.drop (i + 1) := by
      rw [List.drop_eq_getElem_cons h1]; rw [List.getElem?_eq_getElem h1] at hx; cases hx; rfl
    obtain ⟨c, o, rfl, hc⟩ := hp.blk h1
    have hgc := ho.some hc
    have hgn := ho.some hn
    have w0 : IntKind.i64.wrap ((i : Int) + 1) = (i : Int) + 1 := i64_id (by omega) (by omega)
    have stop : ∀ (σ' : Slots), rngB x = false → σ' 8 = .bool false → Q .ret σ' m := fun σ' hno q => hR _ _ ho (by rw [hdrop, List.all_cons, hno]; rfl) q
    by_cases k1 : x < -1000000000
    · simp (disch := first | omega | (simp only [next_put, next_bump]; omega)) [ir42_l0, s3, s4, s11, h1, h1', h2, hgc, hx, hx2, head_td, k1, hgn, hnl, get_put_self, get_put_ne, get_bump, put_put]
      exact stop _ (by simp [rngB, k1]) (by simp)
    by_cases k2 : 1000000000 < x
    · simp (disch := first | omega | (simp only [next_put, next_bump]; omega)) [ir42_l0, s3, s4, s11, h1, h1', h2, hgc, hx, hx2, head_td, k1, k2, hgn, hnl, get_put_self, get_put_ne, get_bump, put_put]
      exact stop _ (by simp [rngB, k2]) (by simp)
    simp (disch := first | omega | (simp only [next_put, next_bump]; omega)) [ir42_l0, s3, s4, s11, h1, h1', h2, hgc, hx, hx2, head_td, k1, k2, w0, hgn, hnl, get_put_self, get_put_ne, get_bump, put_put]
    refine hJ _ _ (rrng_loop hn hnl hp hl r (i + 1) _ _ (by omega) ho (by simp [s3]) (by simp [s4]) (by simp) (fun σ'' m'' g1 g2 g3 => hQ _ _ g1 ?_ (fun t ht => ?_)) (fun σ'' m'' g1 g2 g3 => hR _ _ g1 ?_ g3))
    · rw [hdrop, List.all_cons, g2]; simp [rngB, k1, k2]
    · rw [g3 t ht]; simp (disch := omega) only [upd_ne]
    · rw [hdrop, List.all_cons, g2]; simp

set_option maxHeartbeats 4000000 in
set_option maxRecDepth 20000 in
theorem chk_loop {n : Net} (hV : n.Valid) (hk : ∀ a ∈ n.arcs, 0 ≤ a.k ∧ a.k ≤ 1000) {fl ps : List Int} {v w pv : Value} {m0 : Mem} (hv : Arcs m0 v n.arcs) (hw : Ints m0 w fl) (hp : Ints m0 pv ps) (hb : Bnd n fl) (hpl : (ps.length : Int) = n.nodes) (hpr : ps.all rngB = true) {Q : IExit → Slots → Mem → Prop} : ∀ (r i : Nat) (m : Mem) (σ : Slots), i + r = n.arcs.length → Old m0 m →
    σ 2 = w → σ 3 = pv → σ 55 = v → σ 56 = I n.arcs.length → σ 57 = I i →
    (∀ σ' m', Old m0 m' → chkL ps (n.arcs.drop i) (fl.drop i) = true → Q (.exit 2) σ' m') → (∀ σ' m', Old m0 m' → chkL ps (n.arcs.drop i) (fl.drop i) = false → σ' 8 = .bool false → Q .ret σ' m') → WP Try.prog (.loop ir41_l1) σ m Q
  | 0, i, m, σ, hi, ho, s2, s3, s55, s56, s57, hQ, hR => by
    refine wp_round fun J hJ => ?_
    have h1 : ¬ i < n.arcs.length := by omega
    obtain ⟨hlen, hsl⟩ := hv.len
    simp (disch := first | omega | (simp only [next_put, next_bump]; omega)) [ir41_l1, s2, s3, s55, s56, s57, h1, get_put_self, get_put_ne, get_bump, put_put]
    exact hQ _ _ ho (by rw [List.drop_of_length_le (by omega)]; simp [chkL])
  | r + 1, i, m, σ, hi, ho, s2, s3, s55, s56, s57, hQ, hR => by
    refine wp_round fun J hJ => ?_
    have h1 : i < n.arcs.length := by omega
    obtain ⟨a, ha⟩ : ∃ a, n.arcs[i]? = some a := ⟨n.arcs[i]'h1, by simp⟩
    have hfi : i < fl.length := by rw [hb.1]; exact h1
    obtain ⟨φ, hφ⟩ : ∃ φ, fl[i]? = some φ := ⟨fl[i]'hfi, by simp⟩
    have hφ2 : ∀ h, fl[i]'h = φ := fun h => by rw [List.getElem?_eq_getElem h] at hφ; simpa using hφ
    have hdrop := chkL_drop (ps := ps) ha hφ
    have hok := hV.arc a (List.mem_of_getElem? ha)
    have hka := hk a (List.mem_of_getElem? ha)
    obtain ⟨⟨f1, f2⟩, ⟨t1, t2⟩, c1, c2⟩ := hok
    have hal := hV.al
    rw [← hpl] at f2 t2
    have f3 : a.f.toNat < ps.length := by omega
    have t3 : a.t.toNat < ps.length := by omega
    have hf3 := potF_get f3
    have ht3 := potF_get t3
    have hf4 : ∀ h, ps[a.f.toNat]'h = potF ps a.f := fun h => by rw [List.getElem?_eq_getElem h] at hf3; simpa using hf3
    have ht4 : ∀ h, ps[a.t.toNat]'h = potF ps a.t := fun h => by rw [List.getElem?_eq_getElem h] at ht3; simpa using ht3
    have rf := rng_potF hpr a.f
    have rt := rng_potF hpr a.t
    obtain ⟨c, o, rfl, hc⟩ := hv.blk h1
    obtain ⟨d, o2, rfl, hd⟩ := hw.blk hfi
    obtain ⟨e, o3, rfl, he⟩ := hp.blk f3
    obtain ⟨hlen, hsl⟩ := hv.len
    have hgc := ho.some hc
    have hgd := ho.some hd
    have hgp := ho.some he
    have hlc := get_lt hgc
    have hld := get_lt hgd
    have hle := get_lt hgp
    have hn0 := ho.next
    have b4 : i * 4 + 4 ≤ n.arcs.length * 4 := by omega
    have b5 : (i : Int) < fl.length := by omega
    have b6 : i + 1 ≤ fl.length := hfi
    have c4 := arcs_at ha
    have f5 : a.f.toNat + 1 ≤ ps.length := f3
    have t5 : a.t.toNat + 1 ≤ ps.length := t3
    have f6 : a.f < n.nodes := by omega
    have t6 : a.t < n.nodes := by omega
    have w0 : IntKind.i64.wrap ((i : Int) + 1) = (i : Int) + 1 := i64_id (by omega) (by omega)
    have w1 : IntKind.i64.wrap (a.k + potF ps a.f) = a.k + potF ps a.f := i64_id (by omega) (by omega)
    obtain ⟨C, hC⟩ : ∃ C, C = a.k + potF ps a.f - potF ps a.t := ⟨_, rfl⟩
    have w2 : IntKind.i64.wrap (a.k + potF ps a.f - potF ps a.t) = C := by rw [hC]; exact i64_id (by omega) (by omega)
    have hchk : chkA ps a φ = !(decide (C < 0) && decide (φ < a.c) || decide (0 < C) && decide (0 < φ)) := by rw [hC]; rfl
    have ho2 : ∀ y, Old m0 ((m.bump 6).put (m.next + 3) (some y)) := fun y => (ho.bump _).put (by omega)
    have next : ∀ (σ' : Slots) (m' : Mem), chkA ps a φ = true → Old m0 m' → σ' 2 = .slice (some ⟨d, 0, none⟩) fl.length 1 → σ' 3 = .slice (some ⟨e, 0, none⟩) ps.length 1 → σ' 55 = .slice (some ⟨c, 0, none⟩) n.arcs.length 4 → σ' 56 = I n.arcs.length → σ' 57 = I ((i : Int) + 1) → J σ' m' := by
      intro σ' m' hok ho' q2 q3 q55 q56 q57
      refine hJ _ _ (chk_loop hV hk hv hw hp hb hpl hpr r (i + 1) m' σ' (by omega) ho' q2 q3 q55 q56 (by rw [q57]; simp) (fun σ'' m'' g1 g2 => hQ _ _ g1 ?_) (fun σ'' m'' g1 g2 g3 => hR _ _ g1 ?_ g3))
      · rw [hdrop, hok, g2]; rfl
      · rw [hdrop, hok, g2]; rfl
    have stop : ∀ (σ' : Slots) (m' : Mem), chkA ps a φ = false → Old m0 m' → σ' 8 = .bool false → Q .ret σ' m' := fun σ' m' hno ho' q => hR _ _ ho' (by rw [hdrop, hno]; rfl) q
    by_cases k1 : C < 0
    · have k3 : ¬ 0 < C := by omega
      by_cases k2 : φ < a.c
      · simp (disch := first | omega | (simp only [next_put, next_bump]; omega)) [ir41_l1, s2, s3, s55, s56, s57, h1, hgc, hgd, hgp, b4, b5, b6, c4, arcC, head_td, hφ, hφ2, hf3, ht3, hf4, ht4, f1, f2, t1, t2, f5, t5, f6, t6, w0, w1, w2, k1, k2, k3, get_put_self, get_put_ne, get_bump, put_put]
        exact stop _ _ (by simp [hchk, k1, k2]) (ho2 _) (by simp)
      · by_cases k4 : 0 < φ
        · simp (disch := first | omega | (simp only [next_put, next_bump]; omega)) [ir41_l1, s2, s3, s55, s56, s57, h1, hgc, hgd, hgp, b4, b5, b6, c4, arcC, head_td, hφ, hφ2, hf3, ht3, hf4, ht4, f1, f2, t1, t2, f5, t5, f6, t6, w0, w1, w2, k1, k2, k3, k4, get_put_self, get_put_ne, get_bump, put_put]
          exact next _ _ (by simp [hchk, k1, k2, k3]) (ho2 _) (by simp [s2]) (by simp [s3]) (by simp [s55]) (by simp [s56]) (by simp)
        · simp (disch := first | omega | (simp only [next_put, next_bump]; omega)) [ir41_l1, s2, s3, s55, s56, s57, h1, hgc, hgd, hgp, b4, b5, b6, c4, arcC, head_td, hφ, hφ2, hf3, ht3, hf4, ht4, f1, f2, t1, t2, f5, t5, f6, t6, w0, w1, w2, k1, k2, k3, k4, get_put_self, get_put_ne, get_bump, put_put]
          exact next _ _ (by simp [hchk, k1, k2, k3]) (ho2 _) (by simp [s2]) (by simp [s3]) (by simp [s55]) (by simp [s56]) (by simp)
    · by_cases k3 : 0 < C
      · by_cases k4 : 0 < φ
        · by_cases k2 : φ < a.c
          · simp (disch := first | omega | (simp only [next_put, next_bump]; omega)) [ir41_l1, s2, s3, s55, s56, s57, h1, hgc, hgd, hgp, b4, b5, b6, c4, arcC, head_td, hφ, hφ2, hf3, ht3, hf4, ht4, f1, f2, t1, t2, f5, t5, f6, t6, w0, w1, w2, k1, k2, k3, k4, get_put_self, get_put_ne, get_bump, put_put]
            exact stop _ _ (by simp [hchk, k3, k4]) (ho2 _) (by simp)
          · simp (disch := first | omega | (simp only [next_put, next_bump]; omega)) [ir41_l1, s2, s3, s55, s56, s57, h1, hgc, hgd, hgp, b4, b5, b6, c4, arcC, head_td, hφ, hφ2, hf3, ht3, hf4, ht4, f1, f2, t1, t2, f5, t5, f6, t6, w0, w1, w2, k1, k2, k3, k4, get_put_self, get_put_ne, get_bump, put_put]
            exact stop _ _ (by simp [hchk, k3, k4]) (ho2 _) (by simp)
        · by_cases k2 : φ < a.c
          · simp (disch := first | omega | (simp only [next_put, next_bump]; omega)) [ir41_l1, s2, s3, s55, s56, s57, h1, hgc, hgd, hgp, b4, b5, b6, c4, arcC, head_td, hφ, hφ2, hf3, ht3, hf4, ht4, f1, f2, t1, t2, f5, t5, f6, t6, w0, w1, w2, k1, k2, k3, k4, get_put_self, get_put_ne, get_bump, put_put]
            exact next _ _ (by simp [hchk, k1, k3, k4]) (ho2 _) (by simp [s2]) (by simp [s3]) (by simp [s55]) (by simp [s56]) (by simp)
          · simp (disch := first | omega | (simp only [next_put, next_bump]; omega)) [ir41_l1, s2, s3, s55, s56, s57, h1, hgc, hgd, hgp, b4, b5, b6, c4, arcC, head_td, hφ, hφ2, hf3, ht3, hf4, ht4, f1, f2, t1, t2, f5, t5, f6, t6, w0, w1, w2, k1, k2, k3, k4, get_put_self, get_put_ne, get_bump, put_put]
            exact next _ _ (by simp [hchk, k1, k3, k4]) (ho2 _) (by simp [s2]) (by simp [s3]) (by simp [s55]) (by simp [s56]) (by simp)
      · by_cases k4 : 0 < φ
        · by_cases k2 : φ < a.c
          · simp (disch := first | omega | (simp only [next_put, next_bump]; omega)) [ir41_l1, s2, s3, s55, s56, s57, h1, hgc, hgd, hgp, b4, b5, b6, c4, arcC, head_td, hφ, hφ2, hf3, ht3, hf4, ht4, f1, f2, t1, t2, f5, t5, f6, t6, w0, w1, w2, k1, k2, k3, k4, get_put_self, get_put_ne, get_bump, put_put]
            exact next _ _ (by simp [hchk, k1, k3]) (ho2 _) (by simp [s2]) (by simp [s3]) (by simp [s55]) (by simp [s56]) (by simp)
          · simp (disch := first | omega | (simp only [next_put, next_bump]; omega)) [ir41_l1, s2, s3, s55, s56, s57, h1, hgc, hgd, hgp, b4, b5, b6, c4, arcC, head_td, hφ, hφ2, hf3, ht3, hf4, ht4, f1, f2, t1, t2, f5, t5, f6, t6, w0, w1, w2, k1, k2, k3, k4, get_put_self, get_put_ne, get_bump, put_put]
            exact next _ _ (by simp [hchk, k1, k3]) (ho2 _) (by simp [s2]) (by simp [s3]) (by simp [s55]) (by simp [s56]) (by simp)
        · by_cases k2 : φ < a.c
          · simp (disch := first | omega | (simp only [next_put, next_bump]; omega)) [ir41_l1, s2, s3, s55, s56, s57, h1, hgc, hgd, hgp, b4, b5, b6, c4, arcC, head_td, hφ, hφ2, hf3, ht3, hf4, ht4, f1, f2, t1, t2, f5, t5, f6, t6, w0, w1, w2, k1, k2, k3, k4, get_put_self, get_put_ne, get_bump, put_put]
            exact next _ _ (by simp [hchk, k1, k3]) (ho2 _) (by simp [s2]) (by simp [s3]) (by simp [s55]) (by simp [s56]) (by simp)
          · simp (disch := first | omega | (simp only [next_put, next_bump]; omega)) [ir41_l1, s2, s3, s55, s56, s57, h1, hgc, hgd, hgp, b4, b5, b6, c4, arcC, head_td, hφ, hφ2, hf3, ht3, hf4, ht4, f1, f2, t1, t2, f5, t5, f6, t6, w0, w1, w2, k1, k2, k3, k4, get_put_self, get_put_ne, get_bump, put_put]
            exact next _ _ (by simp [hchk, k1, k3]) (ho2 _) (by simp [s2]) (by simp [s3]) (by simp [s55]) (by simp [s56]) (by simp)

set_option maxHeartbeats 4000000 in
set_option maxRecDepth 20000 in
theorem rchk_loop {n : Net} (hV : n.Valid) (hk : ∀ a ∈ n.arcs, 0 ≤ a.k ∧ a.k ≤ 1000) {fl ps : List Int} {v w pv : Value} {m0 : Mem} {nb : Nat} (hn : m0.get nb = some ⟨netC n v, true⟩) (hv : Arcs m0 v n.arcs) (hw : Ints m0 w fl) (hp : Ints m0 pv ps) (hb : Bnd n fl) (hpl : (ps.length : Int) = n.nodes) (hpr : ps.all rngB = true) {Q : IExit → Slots → Mem → Prop} : ∀ (r i : Nat) (m : Mem) (σ : Slots), i + r = n.arcs.length → Old m0 m →
    σ 2 = w → σ 3 = pv → σ 4 = ptr nb → σ 12 = I i →
    (∀ σ' m', Old m0 m' → chkL ps (n.arcs.drop i) (fl.drop i) = true → Q (.exit 2) σ' m') → (∀ σ' m', Old m0 m' → chkL ps (n.arcs.drop i) (fl.drop i) = false → σ' 8 = .bool false → Q .ret σ' m') → WP Try.prog (.loop ir42_l1) σ m Q
  | 0, i, m, σ, hi, ho, s2, s3, s4, s12, hQ, hR => by
    refine wp_round fun J hJ => ?_
    have h1 : ¬ i < n.arcs.length := by omega
    obtain ⟨hlen, hsl⟩ := hv.len
    have hgn := ho.some hn
    have hlgn := get_lt hgn
    simp (disch := first | omega | (simp only [next_put, next_bump]; omega)) [ir42_l1, s2, s3, s4, s12, h1, hgn, hlen, hsl, get_put_self, get_put_ne, get_bump, put_put, -lenOfV, -isSl]
    exact hQ _ _ ho (by rw [List.drop_of_length_le (by omega)]; simp [chkL])
  | r + 1, i, m, σ, hi, ho, s2, s3, s4, s12, hQ, hR => by
    refine wp_round fun J hJ => ?_
    have h1 : i < n.arcs.length := by omega
    obtain ⟨a, ha⟩ : ∃ a, n.arcs[i]? = some a := ⟨n.arcs[i]'h1, by simp⟩
    have hfi : i < fl.length := by rw [hb.1]; exact h1
    obtain ⟨φ, hφ⟩ : ∃ φ, fl[i]? = some φ := ⟨fl[i]'hfi, by simp⟩
    have hφ2 : ∀ h, fl[i]'h = φ := fun h => by rw [List.getElem?_eq_getElem h] at hφ; simpa using hφ
    have hdrop := chkL_drop (ps := ps) ha hφ
    have hok := hV.arc a (List.mem_of_getElem? ha)
    have hka := hk a (List.mem_of_getElem? ha)
    obtain ⟨⟨f1, f2⟩, ⟨t1, t2⟩, c1, c2⟩ := hok
    have hal := hV.al
    rw [← hpl] at f2 t2
    have f3 : a.f.toNat < ps.length := by omega
    have t3 : a.t.toNat < ps.length := by omega
    have hf3 := potF_get f3
    have ht3 := potF_get t3
    have hf4 : ∀ h, ps[a.f.toNat]'h = potF ps a.f := fun h => by rw [List.getElem?_eq_getElem h] at hf3; simpa using hf3
    have ht4 : ∀ h, ps[a.t.toNat]'h = potF ps a.t := fun h => by rw [List.getElem?_eq_getElem h] at ht3; simpa using ht3
    have rf := rng_potF hpr a.f
    have rt := rng_potF hpr a.t
    obtain ⟨c, o, rfl, hc⟩ := hv.blk h1
    obtain ⟨d, o2, rfl, hd⟩ := hw.blk hfi
    obtain ⟨e, o3, rfl, he⟩ := hp.blk f3
    obtain ⟨hlen, hsl⟩ := hv.len
    have hgc := ho.some hc
    have hgd := ho.some hd
    have hgp := ho.some he
    have hlc := get_lt hgc
    have hld := get_lt hgd
    have hle := get_lt hgp
    have hgn := ho.some hn
    have hlgn := get_lt hgn
    have hn0 := ho.next
    have b4 : i * 4 + 4 ≤ n.arcs.length * 4 := by omega
    have b5 : (i : Int) < fl.length := by omega
    have b6 : i + 1 ≤ fl.length := hfi
    have c4 := arcs_at ha
    have f5 : a.f.toNat + 1 ≤ ps.length := f3
    have t5 : a.t.toNat + 1 ≤ ps.length := t3
    have f6 : a.f < n.nodes := by omega
    have t6 : a.t < n.nodes := by omega
    have w0 : IntKind.i64.wrap ((i : Int) + 1) = (i : Int) + 1 := i64_id (by omega) (by omega)
    have w1 : IntKind.i64.wrap (a.k + potF ps a.f) = a.k + potF ps a.f := i64_id (by omega) (by omega)
    obtain ⟨C, hC⟩ : ∃ C, C = a.k + potF ps a.f - potF ps a.t := ⟨_, rfl⟩
    have w2 : IntKind.i64.wrap (a.k + potF ps a.f - potF ps a.t) = C := by rw [hC]; exact i64_id (by omega) (by omega)
    have hchk : chkA ps a φ = !(decide (C < 0) && decide (φ < a.c) || decide (0 < C) && decide (0 < φ)) := by rw [hC]; rfl
    have ho2 : ∀ y, Old m0 ((m.bump 7).put (m.next + 5) (some y)) := fun y => (ho.bump _).put (by omega)
    have next : ∀ (σ' : Slots) (m' : Mem), chkA ps a φ = true → Old m0 m' → σ' 2 = .slice (some ⟨d, 0, none⟩) fl.length 1 → σ' 3 = .slice (some ⟨e, 0, none⟩) ps.length 1 → σ' 4 = ptr nb → σ' 12 = I ((i : Int) + 1) → J σ' m' := by
      intro σ' m' hok ho' q2 q3 q4 q12
      refine hJ _ _ (rchk_loop hV hk hn hv hw hp hb hpl hpr r (i + 1) m' σ' (by omega) ho' q2 q3 q4 (by rw [q12]; simp) (fun σ'' m'' g1 g2 => hQ _ _ g1 ?_) (fun σ'' m'' g1 g2 g3 => hR _ _ g1 ?_ g3))
      · rw [hdrop, hok, g2]; rfl
      · rw [hdrop, hok, g2]; rfl
    have stop : ∀ (σ' : Slots) (m' : Mem), chkA ps a φ = false → Old m0 m' → σ' 8 = .bool false → Q .ret σ' m' := fun σ' m' hno ho' q => hR _ _ ho' (by rw [hdrop, hno]; rfl) q
    by_cases k1 : C < 0
    · have k3 : ¬ 0 < C := by omega
      by_cases k2 : φ < a.c
      · simp (disch := first | omega | (simp only [next_put, next_bump]; omega)) [ir42_l1, s2, s3, s4, s12, h1, hgc, hgd, hgp, b4, b5, b6, c4, arcC, head_td, hφ, hφ2, hf3, ht3, hf4, ht4, f1, f2, t1, t2, f5, t5, f6, t6, w0, w1, w2, hgn, hlen, hsl, k1, k2, k3, get_put_self, get_put_ne, get_bump, put_put, -lenOfV, -isSl]
        exact stop _ _ (by simp [hchk, k1, k2]) (ho2 _) (by simp)
      · by_cases k4 : 0 < φ
        · simp (disch := first | omega | (simp only [next_put, next_bump]; omega)) [ir42_l1, s2, s3, s4, s12, h1, hgc, hgd, hgp, b4, b5, b6, c4, arcC, head_td, hφ, hφ2, hf3, ht3, hf4, ht4, f1, f2, t1, t2, f5, t5, f6, t6, w0, w1, w2, hgn, hlen, hsl, k1, k2, k3, k4, get_put_self, get_put_ne, get_bump, put_put, -lenOfV, -isSl]
          exact next _ _ (by simp [hchk, k1, k2, k3]) (ho2 _) (by simp [s2]) (by simp [s3]) (by simp [s4]) (by simp)
        · simp (disch := first | omega | (simp only [next_put, next_bump]; omega)) [ir42_l1, s2, s3, s4, s12, h1, hgc, hgd, hgp, b4, b5, b6, c4, arcC, head_td, hφ, hφ2, hf3, ht3, hf4, ht4, f1, f2, t1, t2, f5, t5, f6, t6, w0, w1, w2, hgn, hlen, hsl, k1, k2, k3, k4, get_put_self, get_put_ne, get_bump, put_put, -lenOfV, -isSl]
          exact next _ _ (by simp [hchk, k1, k2, k3]) (ho2 _) (by simp [s2]) (by simp [s3]) (by simp [s4]) (by simp)
    · by_cases k3 : 0 < C
      · by_cases k4 : 0 < φ
        · by_cases k2 : φ < a.c
          · simp (disch := first | omega | (simp only [next_put, next_bump]; omega)) [ir42_l1, s2, s3, s4, s12, h1, hgc, hgd, hgp, b4, b5, b6, c4, arcC, head_td, hφ, hφ2, hf3, ht3, hf4, ht4, f1, f2, t1, t2, f5, t5, f6, t6, w0, w1, w2, hgn, hlen, hsl, k1, k2, k3, k4, get_put_self, get_put_ne, get_bump, put_put, -lenOfV, -isSl]
            exact stop _ _ (by simp [hchk, k3, k4]) (ho2 _) (by simp)
          · simp (disch := first | omega | (simp only [next_put, next_bump]; omega)) [ir42_l1, s2, s3, s4, s12, h1, hgc, hgd, hgp, b4, b5, b6, c4, arcC, head_td, hφ, hφ2, hf3, ht3, hf4, ht4, f1, f2, t1, t2, f5, t5, f6, t6, w0, w1, w2, hgn, hlen, hsl, k1, k2, k3, k4, get_put_self, get_put_ne, get_bump, put_put, -lenOfV, -isSl]
            exact stop _ _ (by simp [hchk, k3, k4]) (ho2 _) (by simp)
        · by_cases k2 : φ < a.c
          · simp (disch := first | omega | (simp only [next_put, next_bump]; omega)) [ir42_l1, s2, s3, s4, s12, h1, hgc, hgd, hgp, b4, b5, b6, c4, arcC, head_td, hφ, hφ2, hf3, ht3, hf4, ht4, f1, f2, t1, t2, f5, t5, f6, t6, w0, w1, w2, hgn, hlen, hsl, k1, k2, k3, k4, get_put_self, get_put_ne, get_bump, put_put, -lenOfV, -isSl]
            exact next _ _ (by simp [hchk, k1, k3, k4]) (ho2 _) (by simp [s2]) (by simp [s3]) (by simp [s4]) (by simp)
          · simp (disch := first | omega | (simp only [next_put, next_bump]; omega)) [ir42_l1, s2, s3, s4, s12, h1, hgc, hgd, hgp, b4, b5, b6, c4, arcC, head_td, hφ, hφ2, hf3, ht3, hf4, ht4, f1, f2, t1, t2, f5, t5, f6, t6, w0, w1, w2, hgn, hlen, hsl, k1, k2, k3, k4, get_put_self, get_put_ne, get_bump, put_put, -lenOfV, -isSl]
            exact next _ _ (by simp [hchk, k1, k3, k4]) (ho2 _) (by simp [s2]) (by simp [s3]) (by simp [s4]) (by simp)
      · by_cases k4 : 0 < φ
        · by_cases k2 : φ < a.c
          · simp (disch := first | omega | (simp only [next_put, next_bump]; omega)) [ir42_l1, s2, s3, s4, s12, h1, hgc, hgd, hgp, b4, b5, b6, c4, arcC, head_td, hφ, hφ2, hf3, ht3, hf4, ht4, f1, f2, t1, t2, f5, t5, f6, t6, w0, w1, w2, hgn, hlen, hsl, k1, k2, k3, k4, get_put_self, get_put_ne, get_bump, put_put, -lenOfV, -isSl]
            exact next _ _ (by simp [hchk, k1, k3]) (ho2 _) (by simp [s2]) (by simp [s3]) (by simp [s4]) (by simp)
          · simp (disch := first | omega | (simp only [next_put, next_bump]; omega)) [ir42_l1, s2, s3, s4, s12, h1, hgc, hgd, hgp, b4, b5, b6, c4, arcC, head_td, hφ, hφ2, hf3, ht3, hf4, ht4, f1, f2, t1, t2, f5, t5, f6, t6, w0, w1, w2, hgn, hlen, hsl, k1, k2, k3, k4, get_put_self, get_put_ne, get_bump, put_put, -lenOfV, -isSl]
            exact next _ _ (by simp [hchk, k1, k3]) (ho2 _) (by simp [s2]) (by simp [s3]) (by simp [s4]) (by simp)
        · by_cases k2 : φ < a.c
          · simp (disch := first | omega | (simp only [next_put, next_bump]; omega)) [ir42_l1, s2, s3, s4, s12, h1, hgc, hgd, hgp, b4, b5, b6, c4, arcC, head_td, hφ, hφ2, hf3, ht3, hf4, ht4, f1, f2, t1, t2, f5, t5, f6, t6, w0, w1, w2, hgn, hlen, hsl, k1, k2, k3, k4, get_put_self, get_put_ne, get_bump, put_put, -lenOfV, -isSl]
            exact next _ _ (by simp [hchk, k1, k3]) (ho2 _) (by simp [s2]) (by simp [s3]) (by simp [s4]) (by simp)
          · simp (disch := first | omega | (simp only [next_put, next_bump]; omega)) [ir42_l1, s2, s3, s4, s12, h1, hgc, hgd, hgp, b4, b5, b6, c4, arcC, head_td, hφ, hφ2, hf3, ht3, hf4, ht4, f1, f2, t1, t2, f5, t5, f6, t6, w0, w1, w2, hgn, hlen, hsl, k1, k2, k3, k4, get_put_self, get_put_ne, get_bump, put_put, -lenOfV, -isSl]
            exact next _ _ (by simp [hchk, k1, k3]) (ho2 _) (by simp [s2]) (by simp [s3]) (by simp [s4]) (by simp)
end Go.Proofs.Ytapnkfkpkcajjaa
