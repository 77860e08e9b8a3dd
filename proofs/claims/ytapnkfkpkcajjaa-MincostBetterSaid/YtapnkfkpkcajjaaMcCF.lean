/-
  The residual network of mincost: 'step'.
  Mincost's 'Valid', of the program.
  The reference's 'Valid' of mincost.
  Mincost's 'Cost', of the program.
-/
import Derived.Test.YtapnkfkpkcajjaaMcB
import Derived.Test.YtapnkfkpkcajjaaMfF
import Derived.Test.YtapnkfkpkcajjaaMfBE
import Derived.Test.YtapnkfkpkcajjaaOpt
namespace Go.Proofs.Ytapnkfkpkcajjaa
open Go Go.DI Go.Nets
set_option linter.unusedSimpArgs false
set_option linter.unusedVariables false

def costS (n : Net) (d : Nat × Bool) : Int := match n.arcs[d.1]? with | some a => if d.2 then a.k else -a.k | none => 0
set_option maxHeartbeats 4000000 in
theorem step_wp {n : Net} (hV : n.Valid) {fl : List Int} (hb : Bnd n fl) {v : Value} {sb fb ub N : Nat} {m : Mem} (h : Sr n fl v sb fb ub N m) {z : Int} (hz : (dec z).1 < n.arcs.length) (hk : ∀ a ∈ n.arcs, 0 ≤ a.k ∧ a.k ≤ 1000) (Φ : Value → Mem → Prop) (hΦ : ∀ m', Old m m' → Φ (.tuple #[I (stF n (dec z)), I (stT n (dec z)), I (room n fl (dec z)), I (costS n (dec z))]) m') : WPCall Try.prog 55 [ptr sb, I z] m Φ := by
  rw [call55 (by simp)]
  have hs := h.s
  have hf := h.f
  have hal := hV.al
  rcases dec_cases z with ⟨i, h0, hi, hi2, hd⟩ | ⟨i, h0, hi, hd⟩
  all_goals
    rw [hd] at hz hΦ
    simp only at hz
    obtain ⟨c, o, rfl, hc⟩ := h.a.blk hz
    obtain ⟨a, ha⟩ : ∃ a, n.arcs[i]? = some a := ⟨n.arcs[i]'hz, by simp⟩
    have hfi : i < fl.length := by rw [hb.1]; exact hz
    obtain ⟨φ, hφ⟩ : ∃ φ, fl[i]? = some φ := ⟨fl[i]'hfi, by simp⟩
    have hφ2 : ∀ h, fl[i]'h = φ := fun h => by rw [List.getElem?_eq_getElem h] at hφ; simpa using hφ
    have hbd := hb.2 i a φ ha hφ
    have hac := (hV.arc a (List.mem_of_getElem? ha)).2.2
    have q0b := arcs_get ha (j := 0) (by omega)
    have q1 := arcs_get ha (j := 1) (by omega)
    have q2 := arcs_get ha (j := 2) (by omega)
    rw [Nat.add_zero] at q0b
    simp only [arcC] at q0b
    simp [arcC] at q1 q2
    have q0c : (arcsC n.arcs)[i * 4]? = some (I a.f) := q0b
    have q0 : ∀ h : i * 4 < (arcsC n.arcs).length, (arcsC n.arcs)[i * 4]'h = I a.f := fun h => by
      have := q0c; rw [List.getElem?_eq_getElem h] at this; simpa using this
    have b1 : i * 4 + 1 ≤ n.arcs.length * 4 := by omega
    have b2 : i * 4 + 2 ≤ n.arcs.length * 4 := by omega
    have b3 : i * 4 + 3 ≤ n.arcs.length * 4 := by omega
    have b4 : (i : Int) < n.arcs.length := by omega
    have b5 : (i : Int) < fl.length := by omega
    have b6 : i + 1 ≤ fl.length := hfi
    have w1 : IntKind.i64.wrap (a.c - φ) = a.c - φ := i64_id (by omega) (by omega)
    have w2 : IntKind.i64.wrap (i : Int) = i := i64_id (by omega) (by omega)
    have q3 := arcs_get ha (j := 3) (by omega)
    simp [arcC] at q3
    have t4 := arcs_at ha
    have hak := hk a (List.mem_of_getElem? ha)
    have w3 : IntKind.i64.wrap (-a.k) = -a.k := i64_id (by omega) (by omega)
    have w4 : IntKind.i64.wrap (0 - a.k) = -a.k := by rw [Int.zero_sub]; exact w3
    have b7 : i * 4 + 4 ≤ n.arcs.length * 4 := by omega
    have hsb := get_lt hs
    have hfb := get_lt hf
    have hcb := get_lt hc
  · have z1 : z < n.arcs.length := by omega
    have z2 : z < fl.length := by omega
    simp (disch := first | omega | (simp only [next_put, next_bump]; omega)) [ir55_b, hs, hf, hc, h0, hi2, q0, q0c, q1, q2, q3, t4, arcC, head_td, hφ, hφ2, b1, b2, b3, b4, b5, b6, b7, z1, z2, w1, w3, w4, hz, hfi, get_put_self, get_put_ne, get_bump, put_put, addrOk, addrOwn, loadV, storeM, cellsAt, regBump]
    have := hΦ ((m.bump 10).put (m.next + 8) (some { cells := [I a.f, I a.t, I a.c, I a.k], own := true })) (((Old.refl m).bump 10).put (by omega))
    simpa [stF, stT, room, costS, ha, hφ] using this
  · simp (disch := first | omega | (simp only [next_put, next_bump]; omega)) [ir55_b, hs, hf, hc, h0, hi, q0, q0c, q1, q2, q3, t4, arcC, head_td, hφ, hφ2, b1, b2, b3, b4, b5, b6, b7, w1, w2, w3, w4, hz, hfi, get_put_self, get_put_ne, get_bump, put_put, addrOk, addrOwn, loadV, storeM, cellsAt, regBump]
    have := hΦ ((m.bump 11).put (m.next + 9) (some { cells := [I a.f, I a.t, I a.c, I a.k], own := true })) (((Old.refl m).bump 11).put (by omega))
    simpa [stF, stT, room, costS, ha, hφ] using this

end Go.Proofs.Ytapnkfkpkcajjaa
namespace Go.Proofs.Ytapnkfkpkcajjaa
open Go Go.DI Go.Nets
set_option linter.unusedSimpArgs false
set_option linter.unusedVariables false

def costB (a : Arc) : Bool := !decide (a.k < 0) && !decide (1000 < a.k) && !decide (1000000 < a.c)
def mvB (n : Net) : Bool := n.arcs.all costB && validB n

set_option maxHeartbeats 2000000 in
theorem mvalid_loop {n : Net} {v : Value} {m0 : Mem} (hv : Arcs m0 v n.arcs) (hl : n.arcs.length < 1000000000) {Q : IExit → Slots → Mem → Prop} : ∀ (r i : Nat) (m : Mem) (σ : Slots), i + r = n.arcs.length → Old m0 m →
    σ 6 = v → σ 7 = I n.arcs.length → σ 8 = I i →
    (∀ σ' m', Old m0 m' → σ' 1 = σ 1 → (n.arcs.drop i).all costB = true → Q (.exit 0) σ' m') → (∀ σ' m', Old m0 m' → (n.arcs.drop i).all costB = false → σ' 2 = .bool false → Q .ret σ' m') → WP Try.prog (.loop ir40_l0) σ m Q
  | 0, i, m, σ, hi, ho, s6, s7, s8, hQ, hR => by
    refine wp_round fun J hJ => ?_
    have h1 : ¬ i < n.arcs.length := by omega
    simp [ir40_l0, s6, s7, s8, h1]
    exact hQ _ _ ho (by simp) (by rw [List.drop_of_length_le (by omega)]; rfl)
  | r + 1, i, m, σ, hi, ho, s6, s7, s8, hQ, hR => by
    refine wp_round fun J hJ => ?_
    have h1 : i < n.arcs.length := by omega
    obtain ⟨a, ha⟩ : ∃ a, n.arcs[i]? = some a := ⟨n.arcs[i]'h1, by simp⟩
    have hdrop : n.arcs.drop i = a :: n.arcs.drop (i + 1) := by
      rw [List.drop_eq_getElem_cons h1]; rw [List.getElem?_eq_getElem h1] at ha; cases ha; rfl
    obtain ⟨c, o, rfl, hc⟩ := hv.blk h1
    have hgc := ho.some hc
    have hlc := get_lt hgc
    have hn0 := ho.next
    have hb : i * 4 + 4 ≤ n.arcs.length * 4 := by omega
    have c4 := arcs_at ha
    have w0 : IntKind.i64.wrap ((i : Int) + 1) = (i : Int) + 1 := i64_id (by omega) (by omega)
    have ho2 : ∀ y, Old m0 ((m.bump 4).put (m.next + 2) (some y)) := fun y => (ho.bump 4).put (by omega)
    have stop : ∀ (σ' : Slots) (m' : Mem), costB a = false → Old m0 m' → σ' 2 = .bool false → Q .ret σ' m' := fun σ' m' hno ho' q2 => hR _ _ ho' (by rw [hdrop, List.all_cons, hno]; rfl) q2
    by_cases k1 : a.k < 0
    · simp (disch := first | omega | (simp only [next_put, next_bump]; omega)) [ir40_l0, s6, s7, s8, h1, hgc, hb, c4, arcC, get_put_self, get_put_ne, get_bump, put_put, k1]
      exact stop _ _ (by simp [costB, k1]) (ho2 _) (by simp)
    by_cases k2 : 1000 < a.k
    · simp (disch := first | omega | (simp only [next_put, next_bump]; omega)) [ir40_l0, s6, s7, s8, h1, hgc, hb, c4, arcC, get_put_self, get_put_ne, get_bump, put_put, k1, k2]
      exact stop _ _ (by simp [costB, k2]) (ho2 _) (by simp)
    by_cases k3 : 1000000 < a.c
    · simp (disch := first | omega | (simp only [next_put, next_bump]; omega)) [ir40_l0, s6, s7, s8, h1, hgc, hb, c4, arcC, get_put_self, get_put_ne, get_bump, put_put, k1, k2, k3]
      exact stop _ _ (by simp [costB, k3]) (ho2 _) (by simp)
    simp (disch := first | omega | (simp only [next_put, next_bump]; omega)) [ir40_l0, s6, s7, s8, h1, hgc, hb, c4, arcC, get_put_self, get_put_ne, get_bump, put_put, k1, k2, k3, w0]
    refine hJ _ _ (mvalid_loop hv hl r (i + 1) _ _ (by omega) (ho2 _) (by simp [s6]) (by simp [s7]) (by simp) (fun σ'' m'' g1 g0 g2 => hQ _ _ g1 (by rw [g0]; simp) ?_) (fun σ'' m'' g1 g2 g3 => hR _ _ g1 ?_ g3))
    · rw [hdrop, List.all_cons, g2]; simp [costB, k1, k2, k3]
    · rw [hdrop, List.all_cons, g2]; simp

theorem mvalid_wp {n : Net} {v : Value} {m : Mem} (hv : Arcs m v n.arcs) (hl : n.arcs.length < 1000000000) : WPCall Try.prog 40 [netV n v] m fun r m' => r = .bool (mvB n) ∧ Old m m' := by
  rw [call40 (by simp)]
  obtain ⟨hlen, hsl⟩ := hv.len
  have hM : Old m ((m.bump 2).put m.next (some ⟨netC n v, true⟩)) := ((Old.refl m).bump 2).put (Nat.le_refl _)
  have hg : ((m.bump 2).put m.next (some ⟨netC n v, true⟩)).get m.next = some ⟨netC n v, true⟩ := get_put_self (by simp)
  simp (disch := first | omega | (simp only [next_put, next_bump]; omega)) [ir40_b, hlen, hsl, get_put_self, get_put_ne, get_bump, put_put, -lenOfV, -isSl]
  refine mvalid_loop (hv.mono hM) hl n.arcs.length 0 _ _ (by omega) (Old.refl _) (by simp) (by simp [hlen]) (by simp) (fun σ' m' g1 g0 g2 => ?_) (fun σ' m' g1 g2 g3 => ?_)
  · have hg2 := g1.some hg
    simp at g0
    simp (disch := first | omega | (simp only [next_put, next_bump]; omega)) [g0, hg2, addrOk, loadV, cellsAt, -lenOfV, -isSl]
    refine (valid_wp ((hv.mono hM).mono g1)).mono fun r m2 hr => ?_
    obtain ⟨rfl, h2⟩ := hr
    rw [List.drop_zero] at g2
    simp
    exact ⟨by simp [mvB, g2], (hM.trans g1).trans h2⟩
  · simp [g3]
    rw [List.drop_zero] at g2
    exact ⟨by simp [mvB, g2], hM.trans g1⟩

end Go.Proofs.Ytapnkfkpkcajjaa
namespace Go.Proofs.Ytapnkfkpkcajjaa
open Go Go.DI Go.Nets
set_option linter.unusedSimpArgs false
set_option linter.unusedVariables false

set_option maxHeartbeats 2000000 in
theorem rmvalid_loop {n : Net} {v : Value} {b : Nat} {m0 : Mem} (hn : m0.get b = some ⟨netC n v, true⟩) (hv : Arcs m0 v n.arcs) (hl : n.arcs.length < 1000000000) {Q : IExit → Slots → Mem → Prop} : ∀ (r i : Nat) (m : Mem) (σ : Slots), i + r = n.arcs.length → Old m0 m →
    σ 1 = ptr b → σ 3 = I i →
    (∀ σ' m', Old m0 m' → (n.arcs.drop i).all costB = true → Q (.exit 0) σ' m') → (∀ σ' m', Old m0 m' → (n.arcs.drop i).all costB = false → σ' 2 = .bool false → Q .ret σ' m') → WP Try.prog (.loop ir32_l0) σ m Q
  | 0, i, m, σ, hi, ho, s1, s3, hQ, hR => by
    refine wp_round fun J hJ => ?_
    obtain ⟨hlen, hsl⟩ := hv.len
    have h1 : ¬ i < n.arcs.length := by omega
    have hgb := ho.some hn
    simp [ir32_l0, s1, s3, h1, hgb, hlen, hsl, addrOk, loadV, cellsAt, -lenOfV, -isSl]
    exact hQ _ _ ho (by rw [List.drop_of_length_le (by omega)]; rfl)
  | r + 1, i, m, σ, hi, ho, s1, s3, hQ, hR => by
    refine wp_round fun J hJ => ?_
    have h1 : i < n.arcs.length := by omega
    obtain ⟨a, ha⟩ : ∃ a, n.arcs[i]? = some a := ⟨n.arcs[i]'h1, by simp⟩
    have hdrop : n.arcs.drop i = a :: n.arcs.drop (i + 1) := by
      rw [List.drop_eq_getElem_cons h1]; rw [List.getElem?_eq_getElem h1] at ha; cases ha; rfl
    obtain ⟨c, o, rfl, hc⟩ := hv.blk h1
    have hgc := ho.some hc
    have hgb := ho.some hn
    have b3 : i * 4 + 3 ≤ n.arcs.length * 4 := by omega
    have b4 : i * 4 + 4 ≤ n.arcs.length * 4 := by omega
    have q2 := arcs_get ha (j := 2) (by omega)
    have q3 := arcs_get ha (j := 3) (by omega)
    simp [arcC] at q2 q3
    have w0 : IntKind.i64.wrap ((i : Int) + 1) = (i : Int) + 1 := i64_id (by omega) (by omega)
    have stop : ∀ (σ' : Slots) (m' : Mem), costB a = false → Old m0 m' → σ' 2 = .bool false → Q .ret σ' m' := fun σ' m' hno ho' q2 => hR _ _ ho' (by rw [hdrop, List.all_cons, hno]; rfl) q2
    by_cases k3 : 1000000 < a.c
    · simp [ir32_l0, s1, s3, h1, hgb, hgc, b3, b4, q2, q3, head_td, k3, addrOk, loadV, cellsAt]
      exact stop _ _ (by simp [costB, k3]) ho (by simp)
    by_cases k1 : a.k < 0
    · simp [ir32_l0, s1, s3, h1, hgb, hgc, b3, b4, q2, q3, head_td, k3, k1, addrOk, loadV, cellsAt]
      exact stop _ _ (by simp [costB, k1]) ho (by simp)
    by_cases k2 : 1000 < a.k
    · simp [ir32_l0, s1, s3, h1, hgb, hgc, b3, b4, q2, q3, head_td, k3, k1, k2, addrOk, loadV, cellsAt]
      exact stop _ _ (by simp [costB, k2]) ho (by simp)
    simp [ir32_l0, s1, s3, h1, hgb, hgc, b3, b4, q2, q3, head_td, k3, k1, k2, w0, addrOk, loadV, cellsAt]
    refine hJ _ _ (rmvalid_loop hn hv hl r (i + 1) _ _ (by omega) ho (by simp [s1]) (by simp) (fun σ'' m'' g1 g2 => hQ _ _ g1 ?_) (fun σ'' m'' g1 g2 g3 => hR _ _ g1 ?_ g3))
    · rw [hdrop, List.all_cons, g2]; simp [costB, k1, k2, k3]
    · rw [hdrop, List.all_cons, g2]; simp

theorem rmvalid_wp {n : Net} {v : Value} {m : Mem} (hv : Arcs m v n.arcs) : WPCall Try.prog 32 [netV n v] m fun r m' => r = .bool (mvB n) ∧ Old m m' := by
  rw [call32 (by simp)]
  have hM : Old m ((m.bump 2).put m.next (some ⟨netC n v, true⟩)) := ((Old.refl m).bump 2).put (Nat.le_refl _)
  have hg : ((m.bump 2).put m.next (some ⟨netC n v, true⟩)).get m.next = some ⟨netC n v, true⟩ := get_put_self (by simp)
  simp (disch := first | omega | (simp only [next_put, next_bump]; omega)) [ir32_b, get_put_self, get_put_ne, get_bump, put_put, addrOk, loadV, cellsAt, -lenOfV, -isSl]
  refine (rvalid_wp (hv.mono hM)).mono fun r m2 hr => ?_
  obtain ⟨rfl, h2⟩ := hr
  cases hvb : validB n
  · simp
    exact ⟨by simp [mvB, hvb], hM.trans h2⟩
  simp
  have hl : n.arcs.length < 1000000000 := by have := (validB_iff.1 hvb).al; omega
  refine rmvalid_loop (h2.some hg) ((hv.mono hM).mono h2) hl n.arcs.length 0 _ _ (by omega) (Old.refl _) (by simp) (by simp) (fun σ' m' g1 g2 => ?_) (fun σ' m' g1 g2 g3 => ?_)
  · simp
    rw [List.drop_zero] at g2
    exact ⟨by simp [mvB, g2, hvb], (hM.trans h2).trans g1⟩
  · simp [g3]
    rw [List.drop_zero] at g2
    exact ⟨by simp [mvB, g2], (hM.trans h2).trans g1⟩

end Go.Proofs.Ytapnkfkpkcajjaa
namespace Go.Proofs.Ytapnkfkpkcajjaa
open Go Go.DI Go.Nets
set_option linter.unusedSimpArgs false
set_option linter.unusedVariables false

def costR (n : Net) (fl : List Int) : Int × Bool := if (valueR n fl).2 && mvB n then (costL n.arcs fl, true) else (0, false)
theorem costL_drop {ar : List Arc} {fl : List Int} {i : Nat} {a : Arc} {φ : Int} (ha : ar[i]? = some a) (hf : fl[i]? = some φ) : costL (ar.drop i) (fl.drop i) = φ * a.k + costL (ar.drop (i + 1)) (fl.drop (i + 1)) := by
  obtain ⟨h1, rfl⟩ := List.getElem?_eq_some_iff.1 ha
  obtain ⟨h2, rfl⟩ := List.getElem?_eq_some_iff.1 hf
  rw [List.drop_eq_getElem_cons h1, List.drop_eq_getElem_cons h2]; rfl

set_option maxHeartbeats 2000000 in
theorem cost_loop {M : Int} (hM : M = 1000000000) {n : Net} {fl : List Int} {v w : Value} {m0 : Mem} (hv : Arcs m0 v n.arcs) (hw : Ints m0 w fl) (hb : Bnd n fl) (hV : n.Valid) (hk : ∀ a ∈ n.arcs, costB a = true) {Q : IExit → Slots → Mem → Prop} : ∀ (r i : Nat) (acc : Int) (m : Mem) (σ : Slots), i + r = n.arcs.length → Old m0 m → 0 ≤ acc → acc ≤ i * M →
    σ 1 = w → σ 25 = v → σ 26 = I n.arcs.length → σ 27 = I i → σ 8 = I acc →
    (∀ σ' m', Old m0 m' → σ' 8 = I (acc + costL (n.arcs.drop i) (fl.drop i)) → Q (.exit 0) σ' m') → WP Try.prog (.loop ir38_l0) σ m Q
  | 0, i, acc, m, σ, hi, ho, p1, p2, s1, s25, s26, s27, s8, hQ => by
    refine wp_round fun J hJ => ?_
    have h1 : ¬ i < n.arcs.length := by omega
    simp [ir38_l0, s26, s27, h1]
    exact hQ _ _ ho (by rw [List.drop_of_length_le (by omega)]; simp [s8, costL])
  | r + 1, i, acc, m, σ, hi, ho, p1, p2, s1, s25, s26, s27, s8, hQ => by
    refine wp_round fun J hJ => ?_
    have h1 : i < n.arcs.length := by omega
    have hal := hV.al
    obtain ⟨a, ha⟩ : ∃ a, n.arcs[i]? = some a := ⟨n.arcs[i]'h1, by simp⟩
    have hfi : i < fl.length := by rw [hb.1]; exact h1
    obtain ⟨φ, hφ⟩ : ∃ φ, fl[i]? = some φ := ⟨fl[i]'hfi, by simp⟩
    have hφ2 : ∀ h, fl[i]'h = φ := fun h => by rw [List.getElem?_eq_getElem h] at hφ; simpa using hφ
    have hbd := hb.2 i a φ ha hφ
    have hka := hk a (List.mem_of_getElem? ha)
    simp [costB] at hka
    have hm0 : 0 ≤ φ * a.k := Int.mul_nonneg (by omega) (by omega)
    have hm1 : φ * a.k ≤ M := by rw [hM]; exact Int.mul_le_mul (a := φ) (b := a.k) (c := 1000000) (d := 1000) (by omega) (by omega) (by omega) (by omega)
    have hiM : (i : Int) * M ≤ 2500 * M := Int.mul_le_mul_of_nonneg_right (by omega) (by omega)
    have hsM : ((i + 1 : Nat) : Int) * M = i * M + M := by push_cast; rw [Int.add_mul]; omega
    obtain ⟨c, o, rfl, hc⟩ := hv.blk h1
    obtain ⟨d, o', rfl, hd⟩ := hw.blk hfi
    have hgc := ho.some hc
    have hgd := ho.some hd
    have hlc := get_lt hgc
    have hld := get_lt hgd
    have hn0 := ho.next
    have b4 : i * 4 + 4 ≤ n.arcs.length * 4 := by omega
    have b5 : (i : Int) < fl.length := by omega
    have b6 : i + 1 ≤ fl.length := hfi
    have c4 := arcs_at ha
    have w0 : IntKind.i64.wrap ((i : Int) + 1) = (i : Int) + 1 := i64_id (by omega) (by omega)
    have w1 : IntKind.i64.wrap (φ * a.k) = φ * a.k := i64_id (by omega) (by omega)
    have w2 : IntKind.i64.wrap (acc + φ * a.k) = acc + φ * a.k := i64_id (by omega) (by omega)
    simp (disch := first | omega | (simp only [next_put, next_bump]; omega)) [ir38_l0, s1, s25, s26, s27, s8, h1, hfi, hgc, hgd, b4, b5, b6, c4, arcC, head_td, hφ, hφ2, get_put_self, get_put_ne, get_bump, put_put, w0, w1, w2, addrOk, addrOwn, loadV, storeM, cellsAt, regBump]
    refine hJ _ _ (cost_loop hM hv hw hb hV hk r (i + 1) (acc + φ * a.k) _ _ (by omega) ((ho.bump _).put (by omega)) (by omega) (by omega) (by simp [s1]) (by simp [s25]) (by simp [s26]) (by simp) (by simp) (fun σ'' m'' g1 g2 => hQ _ _ g1 ?_))
    rw [g2, costL_drop ha hφ, Int.add_assoc]

theorem cost_wp {n : Net} {fl : List Int} {v w : Value} {m : Mem} (hv : Arcs m v n.arcs) (hw : Ints m w fl) (hl : n.arcs.length < 1000000000) : WPCall Try.prog 38 [netV n v, w] m fun r m' => r = .tuple #[I (costR n fl).1, .bool (costR n fl).2] ∧ Old m m' := by
  rw [call38 (by simp)]
  obtain ⟨hlen, hsl⟩ := hv.len
  have hM : Old m ((m.bump 3).put m.next (some ⟨netC n v, true⟩)) := ((Old.refl m).bump 3).put (Nat.le_refl _)
  have hg : ((m.bump 3).put m.next (some ⟨netC n v, true⟩)).get m.next = some ⟨netC n v, true⟩ := get_put_self (by simp)
  simp (disch := first | omega | (simp only [next_put, next_bump]; omega)) [ir38_b, get_put_self, get_put_ne, get_bump, put_put, addrOk, loadV, cellsAt, -lenOfV, -isSl]
  refine (value_wp (hv.mono hM) (hw.mono hM)).mono fun r m2 hr => ?_
  obtain ⟨rfl, h2⟩ := hr
  have hg2 := h2.some hg
  cases hvb : (valueR n fl).2
  · simp [hvb]
    exact ⟨by simp [costR, hvb], hM.trans h2⟩
  simp [hvb, hg2, addrOk, loadV, cellsAt, -lenOfV, -isSl]
  refine (mvalid_wp ((hv.mono hM).mono h2) hl).mono fun r m3 hr => ?_
  obtain ⟨rfl, h3⟩ := hr
  have hg3 := h3.some hg2
  cases hmb : mvB n
  · simp
    exact ⟨by simp [costR, hmb], (hM.trans h2).trans h3⟩
  obtain ⟨hV, hf, _⟩ := valueR_true hvb
  have hall : ∀ a ∈ n.arcs, costB a = true := by
    simp only [mvB, Bool.and_eq_true, List.all_eq_true] at hmb; exact hmb.1
  simp [hg3, hlen, hsl, addrOk, loadV, cellsAt, -lenOfV, -isSl]
  refine cost_loop rfl (((hv.mono hM).mono h2).mono h3) (((hw.mono hM).mono h2).mono h3) hf.1 hV hall n.arcs.length 0 0 _ _ (by omega) (Old.refl _) (by omega) (by simp) (by simp) (by simp) (by simp [hlen]) (by simp) (by simp) (fun σ' m' g1 g2 => ?_)
  simp [g2]
  exact ⟨by simp [costR, hvb, hmb], ((hM.trans h2).trans h3).trans g1⟩

end Go.Proofs.Ytapnkfkpkcajjaa
