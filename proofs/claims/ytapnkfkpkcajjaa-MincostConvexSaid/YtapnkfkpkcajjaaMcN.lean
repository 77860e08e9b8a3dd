/-
  'solved' and what keeps mincost's statements awake.
-/
import Derived.Test.YtapnkfkpkcajjaaMcM
import Derived.Test.YtapnkfkpkcajjaaMfQ
namespace Go.Proofs.Ytapnkfkpkcajjaa
open Go Go.DI Go.Nets
set_option linter.unusedSimpArgs false
set_option linter.unusedVariables false

def heavyM (n : Net) : Bool := decide (40 < (n.arcs.length : Int)) || (decide (40 < n.nodes) && decide (n.nodes ≤ 700))
set_option maxHeartbeats 4000000 in
theorem mheavy_wp {n : Net} {v : Value} {m : Mem} (hv : Arcs m v n.arcs) : WPCall Try.prog 30 [netV n v] m fun r m' => r = .bool (heavyM n) ∧ Old m m' := by
  rw [call30 (by simp)]
  obtain ⟨hlen, hsl⟩ := hv.len
  have hM : Old m ((m.bump 2).put m.next (some ⟨netC n v, true⟩)) := ((Old.refl m).bump 2).put (Nat.le_refl _)
  by_cases k1 : 40 < (n.arcs.length : Int)
  · simp (disch := first | omega | (simp only [next_put, next_bump]; omega)) [ir30_b, hlen, hsl, k1, get_put_self, get_put_ne, get_bump, put_put, -lenOfV, -isSl]
    exact ⟨by simp [heavyM, k1], hM⟩
  by_cases k2 : 40 < n.nodes
  · by_cases k3 : n.nodes ≤ 700
    · simp (disch := first | omega | (simp only [next_put, next_bump]; omega)) [ir30_b, hlen, hsl, k1, k2, k3, get_put_self, get_put_ne, get_bump, put_put, -lenOfV, -isSl]
      exact ⟨by simp [heavyM, k1, k2, k3], hM⟩
    · simp (disch := first | omega | (simp only [next_put, next_bump]; omega)) [ir30_b, hlen, hsl, k1, k2, k3, get_put_self, get_put_ne, get_bump, put_put, -lenOfV, -isSl]
      exact ⟨by simp [heavyM, k1, k2, k3], hM⟩
  · simp (disch := first | omega | (simp only [next_put, next_bump]; omega)) [ir30_b, hlen, hsl, k1, k2, get_put_self, get_put_ne, get_bump, put_put, -lenOfV, -isSl]
    exact ⟨by simp [heavyM, k1, k2], hM⟩

theorem most_wp {n : Net} (hV : n.Valid) {v : Value} {m : Mem} (hv : Arcs m v n.arcs) : WPCall Try.prog 34 [netV n v] m fun r m' => Old m m' ∧ ∃ V, r = I V ∧ HasCut n V := by
  rw [call34 (by simp)]
  have hM : Old m ((m.bump 2).put m.next (some ⟨netC n v, true⟩)) := ((Old.refl m).bump 2).put (Nat.le_refl _)
  simp (disch := first | omega | (simp only [next_put, next_bump]; omega)) [ir34_b, get_put_self, get_put_ne, get_bump, put_put]
  refine (rsolve2_wp hV (hv.mono hM)).mono fun r m1 hp => ?_
  obtain ⟨o1, w, fl, u, rfl, hw, hf, hc⟩ := hp
  simp
  exact ⟨hM.trans o1, hc⟩

theorem chkL_of {ps : List Int} : ∀ (ar : List Arc) (fs : List Int), (∀ (i : Nat) a φ, ar[i]? = some a → fs[i]? = some φ → chkA ps a φ = true) → chkL ps ar fs = true
  | [], _, _ => by simp [chkL]
  | _ :: _, [], _ => by simp [chkL]
  | a :: ar, φ :: fs, h => by
    have := chkL_of ar fs (fun i a φ ha hφ => h (i + 1) a φ (by simpa using ha) (by simpa using hφ))
    simp [chkL, this, h 0 a φ rfl rfl]
theorem potF_pL {N : Nat} {p : Int → Int} {x : Int} (h0 : 0 ≤ x) (h1 : x < N) : potF (pL N p) x = p x := by
  unfold potF pL
  obtain ⟨k, rfl⟩ : ∃ k : Nat, x = k := ⟨x.toNat, by omega⟩
  have hk : k < N := by omega
  simp [List.getD_eq_getElem?_getD, hk]
theorem mcheckR_of {n : Net} (hmb : mvB n = true) {fl : List Int} (hf : IsFlow n fl) {p : Int → Int} (hp : Opt n fl p) (hpb : ∀ v, 0 ≤ p v ∧ p v ≤ 1000000) : mcheckR n (value n fl) fl (pL n.nodes.toNat p) = true := by
  obtain ⟨hV, _⟩ := mvB_iff.1 hmb
  have h2 := hV.n2
  have hl : ((pL n.nodes.toNat p).length : Int) = n.nodes := by rw [pL_len]; omega
  have hr : (pL n.nodes.toNat p).all rngB = true := by
    rw [List.all_eq_true]
    intro x hx
    simp only [pL, List.mem_map] at hx
    obtain ⟨k, _, rfl⟩ := hx
    have := hpb k
    simp [rngB]; omega
  have hc : chkL (pL n.nodes.toNat p) n.arcs fl = true := chkL_of _ _ fun i a φ ha hφ => by
    obtain ⟨⟨f1, f2⟩, ⟨t1, t2⟩, _⟩ := hV.arc a (List.mem_of_getElem? ha)
    obtain ⟨g1, g2⟩ := hp.arcs ha hφ
    unfold chkA
    rw [potF_pL f1 (by omega), potF_pL t1 (by omega)]
    generalize a.k + p a.f - p a.t = C at *
    by_cases k1 : φ < a.c
    · have := g1 k1
      by_cases k2 : 0 < φ
      · have := g2 k2; simp; omega
      · simp; omega
    · by_cases k2 : 0 < φ
      · have := g2 k2; simp; omega
      · simp; omega
  simp [mcheckR, valueR_of hV hf, hmb, hl, hr, hc]
theorem msolved_wp {n : Net} (hmb : mvB n = true) {v : Value} {m : Mem} (hv : Arcs m v n.arcs) {g0 : List Int} (hg0 : IsFlow n g0) {amount : Int} (h0 : 0 ≤ amount) (h1 : amount ≤ value n g0) : WPCall Try.prog 35 [netV n v, I amount] m fun r m' => Old m m' ∧ ∃ fl p, r = .tuple #[I (costL n.arcs fl), .bool true] ∧ IsFlow n fl ∧ value n fl = amount ∧ Opt n fl p := by
  rw [call35 (by simp)]
  obtain ⟨hV, _⟩ := mvB_iff.1 hmb
  have hM : Old m ((m.bump 3).put m.next (some ⟨netC n v, true⟩)) := ((Old.refl m).bump 3).put (Nat.le_refl _)
  have hg : ((m.bump 3).put m.next (some ⟨netC n v, true⟩)).get m.next = some ⟨netC n v, true⟩ := get_put_self (by simp)
  simp (disch := first | omega | (simp only [next_put, next_bump]; omega)) [ir35_b, get_put_self, get_put_ne, get_bump, put_put]
  refine (msolve_wp (n := n) (hv.mono hM) (by have := hV.al; omega) amount).mono fun r m1 hp => ?_
  obtain ⟨o1, hp⟩ := hp
  have g1 := o1.some hg
  have hv1 := (hv.mono hM).mono o1
  rcases hp with ⟨h, _⟩ | ⟨_, _, g, cut, hgf, hcl, hcr, h⟩
  · rcases h with h | h
    · rw [hmb] at h; cases h
    · omega
  obtain ⟨_, s, c1, c2, c3⟩ := hasCut_of hgf hcr
  have hle := weak hV hg0 c1 c2
  rcases h with ⟨h, _⟩ | ⟨_, w, u, fl, p, rfl, hw, hu, hf, hval, hopt, hpb⟩
  · omega
  simp (disch := first | omega | (simp only [next_put, next_bump]; omega)) [g1, get_put_self, get_put_ne, get_bump, put_put]
  refine (rcost_wp (n := n) hv1 hw).mono fun r m2 hp => ?_
  obtain ⟨rfl, o2⟩ := hp
  have g2 := o2.some g1
  have hcost : costR n fl = (costL n.arcs fl, true) := by simp [costR, valueR_of hV hf, hmb]
  simp (disch := first | omega | (simp only [next_put, next_bump]; omega)) [g2, hcost, get_put_self, get_put_ne, get_bump, put_put]
  refine (rmcheck_wp (n := n) (hv1.mono o2) (hw.mono o2) (hu.mono o2) amount).mono fun r m3 hp => ?_
  obtain ⟨rfl, o3⟩ := hp
  have hch := mcheckR_of hmb hf hopt hpb
  rw [hval] at hch
  simp (disch := first | omega | (simp only [next_put, next_bump]; omega)) [hch, get_put_self, get_put_ne, get_bump, put_put]
  exact ⟨hM.trans (o1.trans (o2.trans o3)), fl, rfl, hf, hval, p, hopt⟩

def nB : Net := ⟨2, 0, 1, [⟨0, 1, 1, 3⟩, ⟨0, 1, 1, 1⟩]⟩
theorem nB_ok : mvB nB = true := by decide
theorem nB_valid : nB.Valid := (mvB_iff.1 nB_ok).1
theorem nB_flow {fl : List Int} (hf : IsFlow nB fl) : ∃ x y, fl = [x, y] ∧ 0 ≤ x ∧ x ≤ 1 ∧ 0 ≤ y ∧ y ≤ 1 ∧ value nB fl = x + y ∧ costL nB.arcs fl = 3 * x + y := by
  have hl : fl.length = 2 := hf.bnd.1
  match fl, hl with
  | [x, y], _ =>
    have h1 := hf.bnd.2 0 ⟨0, 1, 1, 3⟩ x rfl rfl
    have h2 := hf.bnd.2 1 ⟨0, 1, 1, 1⟩ y rfl rfl
    simp at h1 h2
    refine ⟨x, y, rfl, h1.1, h1.2, h2.1, h2.2, ?_, ?_⟩
    · simp [value, nB, netAt, pt]
    · simp [nB, costL]; omega
theorem nB_cut {g : List Int} {cut : List Bool} (hg : IsFlow nB g) (hc : capR nB cut = (value nB g, true)) : value nB g = 2 := by
  unfold capR at hc
  split at hc
  · rename_i hcc
    have : capOf nB.arcs (cutF cut) = value nB g := by injection hc
    simp only [Bool.and_eq_true, decide_eq_true_eq, Bool.not_eq_true'] at hcc
    obtain ⟨⟨_, c1⟩, c2⟩ := hcc
    have c1' : cutF cut 0 = true := c1
    have c2' : cutF cut 1 = false := c2
    have h2 : capOf nB.arcs (cutF cut) = 2 := by simp [nB, capOf, c1', c2']
    omega
  · simp at hc
theorem nB_one {fl : List Int} {p : Int → Int} (hf : IsFlow nB fl) (hp : Opt nB fl p) (hv : value nB fl = 1) : fl = [0, 1] ∧ costL nB.arcs fl = 1 := by
  obtain ⟨x, y, rfl, x0, x1, y0, y1, e1, e2⟩ := nB_flow hf
  have g1 := hp.arcs (i := 0) (a := ⟨0, 1, 1, 3⟩) (φ := x) rfl rfl
  have g2 := hp.arcs (i := 1) (a := ⟨0, 1, 1, 1⟩) (φ := y) rfl rfl
  simp only at g1 g2
  have hx : x = 0 := by
    by_cases h : 0 < x
    · have a1 := g1.2 h
      have a2 := g2.1 (by omega)
      omega
    · omega
  have hy : y = 1 := by omega
  subst hx; subst hy
  exact ⟨rfl, by omega⟩
theorem nB_two {fl : List Int} (hf : IsFlow nB fl) (hv : value nB fl = 2) : costL nB.arcs fl = 4 := by
  obtain ⟨x, y, rfl, x0, x1, y0, y1, e1, e2⟩ := nB_flow hf
  omega

set_option maxHeartbeats 8000000 in
set_option maxRecDepth 20000 in
theorem mawake_wp (m : Mem) : WPCall Try.prog 31 [] m fun r m' => r = .bool true ∧ Old m m' := by
  rw [call31 (by simp)]
  simp (disch := first | omega | (simp only [next_put, next_bump]; omega)) [ir31_b, get_put_self, get_put_ne, get_bump, put_put]
  generalize hMA : ((m.bump 6).put (m.next + 2) (some ⟨[.int .i64 0, .int .i64 1, .int .i64 1, .int .i64 3, .int .i64 0, .int .i64 1, .int .i64 1, .int .i64 1], true⟩)).put (m.next + 4) (some ⟨[.int .i64 2, .int .i64 0, .int .i64 1, .slice (some ⟨m.next + 2, 0, none⟩) 2 4], true⟩) = MA
  have oA : Old m MA := ⟨by rw [← hMA]; simp only [next_put, next_bump]; omega, fun b hb => by rw [← hMA]; simp (disch := first | omega | (simp only [next_put, next_bump]; omega)) only [get_put_ne, get_bump]⟩
  have gA : MA.get (m.next + 2) = some ⟨arcsC nB.arcs, true⟩ := by
    rw [← hMA]; simp (disch := first | omega | (simp only [next_put, next_bump]; omega)) only [get_put_self, get_put_ne]; rfl
  have gA4 : MA.get (m.next + 4) = some ⟨[.int .i64 2, .int .i64 0, .int .i64 1, .slice (some ⟨m.next + 2, 0, none⟩) 2 4], true⟩ := by
    rw [← hMA]; simp (disch := first | omega | (simp only [next_put, next_bump]; omega)) only [get_put_self]
  have hvA : Arcs MA (.slice (some ⟨m.next + 2, 0, none⟩) 2 4) nB.arcs := .inr ⟨_, _, rfl, gA⟩
  refine (msolve_wp (n := nB) hvA (by decide) 1).mono fun r m1 hp => ?_
  obtain ⟨o1, hp⟩ := hp
  rcases hp with ⟨h, _⟩ | ⟨_, _, g, cut, hgf, hcl, hcr, h⟩
  · rw [nB_ok] at h; simp at h
  have hg2 := nB_cut hgf hcr
  rcases h with ⟨h, _⟩ | ⟨_, w, u, fl, p, rfl, hw, hu, hf, hval, hopt, hpb⟩
  · omega
  obtain ⟨rfl, hcost⟩ := nB_one hf hopt hval
  have g4 := o1.some gA4
  simp (disch := first | omega | (simp only [next_put, next_bump]; omega)) [g4, hcost, get_put_self, get_put_ne, get_bump, put_put]
  refine (msolve_wp (n := nB) (hvA.mono o1) (by decide) 2).mono fun r m2 hp => ?_
  obtain ⟨o2, hp⟩ := hp
  rcases hp with ⟨h, _⟩ | ⟨_, _, g', cut', hgf', hcl', hcr', h⟩
  · rw [nB_ok] at h; simp at h
  have hg2' := nB_cut hgf' hcr'
  rcases h with ⟨h, _⟩ | ⟨_, w', u', fl', p', rfl, hw', hu', hf', hval', hopt', hpb'⟩
  · omega
  have hcost' := nB_two hf' hval'
  have g42 := o2.some g4
  simp (disch := first | omega | (simp only [next_put, next_bump]; omega)) [g42, hcost', get_put_self, get_put_ne, get_bump, put_put]
  refine (msolve_wp (n := nB) ((hvA.mono o1).mono o2) (by decide) 3).mono fun r m3 hp => ?_
  obtain ⟨o3, hp⟩ := hp
  rcases hp with ⟨h, _⟩ | ⟨_, _, g'', cut'', hgf'', hcl'', hcr'', h⟩
  · rw [nB_ok] at h; simp at h
  have hg2'' := nB_cut hgf'' hcr''
  have hr : r = .tuple #[.slice none 0 0, I 0, .slice none 0 0, I 12] := by
    rcases h with ⟨_, h⟩ | ⟨h, _⟩
    · exact h
    · omega
  subst hr
  have hw3 := (hw.mono o2).mono o3
  have hu3 := (hu.mono o2).mono o3
  have hpl2 : (pL nB.nodes.toNat p).length = 2 := by rw [pL_len]; rfl
  obtain ⟨ub, uo, rfl, gu⟩ := hu3.blk (i := 0) (by rw [hpl2]; omega)
  obtain ⟨wb, wo, rfl, gw⟩ := hw3.blk (i := 1) (by decide)
  simp (disch := first | omega | (simp only [next_put, next_bump]; omega)) [hcost, hcost', hpl2, gw, head_td, get_put_self, get_put_ne, get_bump, put_put]
  exact oA.trans (o1.trans (o2.trans o3))

theorem maw_wp (m : Mem) (K : Value → Mem → Prop) (hK : ∀ m', K (.bool true) m') : WPCall Try.prog 31 [] m K := (mawake_wp m).mono fun r m' hp => by obtain ⟨rfl, _⟩ := hp; exact hK m'
end Go.Proofs.Ytapnkfkpkcajjaa
