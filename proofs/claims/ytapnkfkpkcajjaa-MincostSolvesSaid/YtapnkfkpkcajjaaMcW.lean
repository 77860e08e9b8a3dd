/-
  Potentials of mincost's reference.
-/
import Derived.Test.YtapnkfkpkcajjaaMcV
namespace Go.Proofs.Ytapnkfkpkcajjaa
open Go Go.DI Go.Nets
set_option linter.unusedSimpArgs false
set_option linter.unusedVariables false

def mP (P : Int → Int) : Int → Nat := fun v => (P v + 1000000).toNat
theorem mP_set (P : Int → Int) (x d : Int) : mP (setF P x d) = setF (mP P) x (d + 1000000).toNat := by
  funext v
  by_cases h : v = x
  · subst h; simp only [mP, setF_same]
  · simp only [mP, setF_ne h]
structure PB (ph P : Int → Int) : Prop where
  lo : ∀ v, ph v - 1000000 ≤ P v
  hi : ∀ v, P v ≤ 0
theorem PB.add {ph P : Int → Int} (h : PB ph P) (hp : ∀ v, 0 ≤ ph v ∧ ph v ≤ 1000000) {N : Nat} {x d : Int} (h0 : 0 ≤ x) (hx : x < N) (h1 : ph x - 1000000 ≤ d) (h2 : d < P x) : PB ph (setF P x d) ∧ sumN (mP (setF P x d)) N + 1 ≤ sumN (mP P) N := by
  refine ⟨⟨fun v => ?_, fun v => ?_⟩, ?_⟩
  · by_cases hv : v = x
    · subst hv; rw [setF_same]; exact h1
    · rw [setF_ne hv]; exact h.lo v
  · by_cases hv : v = x
    · subst hv; rw [setF_same]; have := h.hi v; omega
    · rw [setF_ne hv]; exact h.hi v
  · rw [mP_set]
    have := sumN_set (mP P) x (d + 1000000).toNat h0 N hx
    have e : (d + 1000000).toNat + 1 ≤ mP P x := by unfold mP; have := hp x; omega
    omega
def ir50_f : ICode := .seq (.region [
    ⟨0, some 25, none, .mov (.tmp 1), []⟩,
    ⟨1, some 26, none, .mov (.tmp 7), []⟩,
    ⟨2, some 27, none, .iaddr 1 (.tmp 25) (.tmp 26), []⟩,
    ⟨3, some 28, none, .load false 1 (.tmp 27), []⟩,
    ⟨4, some 29, none, .faddr 2 (.tmp 8), []⟩,
    ⟨5, some 30, none, .load false 1 (.tmp 29), []⟩,
    ⟨6, some 31, none, .bin .lss .other (.tmp 28) (.tmp 30), []⟩,
    ⟨7, some 32, none, .mov (.tmp 31), []⟩,
    ⟨8, some 33, some (32, true), .mov (.tmp 5), []⟩,
    ⟨9, some 34, some (32, true), .faddr 0 (.tmp 8), []⟩,
    ⟨10, some 35, some (32, true), .load false 1 (.tmp 34), []⟩,
    ⟨11, some 36, some (32, true), .iaddr 1 (.tmp 33) (.tmp 35), []⟩,
    ⟨12, some 37, some (32, true), .load false 1 (.tmp 36), []⟩,
    ⟨13, some 38, some (32, true), .faddr 3 (.tmp 8), []⟩,
    ⟨14, some 39, some (32, true), .load false 1 (.tmp 38), []⟩,
    ⟨15, some 40, some (32, true), .bin .add .other (.tmp 37) (.tmp 39), []⟩,
    ⟨16, some 41, some (32, true), .mov (.tmp 5), []⟩,
    ⟨17, some 42, some (32, true), .faddr 1 (.tmp 8), []⟩,
    ⟨18, some 43, some (32, true), .load false 1 (.tmp 42), []⟩,
    ⟨19, some 44, some (32, true), .iaddr 1 (.tmp 41) (.tmp 43), []⟩,
    ⟨20, some 45, some (32, true), .load false 1 (.tmp 44), []⟩,
    ⟨21, some 46, some (32, true), .bin .lss .other (.tmp 40) (.tmp 45), []⟩,
    ⟨22, some 47, none, .pick (.tmp 32) (.tmp 46) (.const (.bool false)), []⟩]) (.cond (.tmp 47) (.region [
     ⟨0, some 48, none, .mov (.tmp 5), []⟩,
     ⟨1, some 49, none, .faddr 1 (.tmp 8), []⟩,
     ⟨2, some 50, none, .load false 1 (.tmp 49), []⟩,
     ⟨3, some 51, none, .mov (.tmp 5), []⟩,
     ⟨4, some 52, none, .faddr 0 (.tmp 8), []⟩,
     ⟨5, some 53, none, .load false 1 (.tmp 52), []⟩,
     ⟨6, some 54, none, .iaddr 1 (.tmp 51) (.tmp 53), []⟩,
     ⟨7, some 55, none, .load false 1 (.tmp 54), []⟩,
     ⟨8, some 56, none, .faddr 3 (.tmp 8), []⟩,
     ⟨9, some 57, none, .load false 1 (.tmp 56), []⟩,
     ⟨10, some 58, none, .bin .add .other (.tmp 55) (.tmp 57), []⟩,
     ⟨11, some 59, none, .iaddr 1 (.tmp 48) (.tmp 50), []⟩,
     ⟨12, none, none, .store 1 (.tmp 59) (.tmp 58), []⟩,
     ⟨13, some 6, none, .mov (.const (.bool true)), []⟩]) (.skip))
def ir50_g : ICode := .seq (.region [
    ⟨0, some 60, none, .mov (.tmp 1), []⟩,
    ⟨1, some 61, none, .mov (.tmp 7), []⟩,
    ⟨2, some 62, none, .iaddr 1 (.tmp 60) (.tmp 61), []⟩,
    ⟨3, some 63, none, .load false 1 (.tmp 62), []⟩,
    ⟨4, some 64, none, .bin .gtr .other (.tmp 63) (.const (.int .i64 0)), []⟩,
    ⟨5, some 65, none, .mov (.tmp 64), []⟩,
    ⟨6, some 66, some (65, true), .mov (.tmp 5), []⟩,
    ⟨7, some 67, some (65, true), .faddr 1 (.tmp 8), []⟩,
    ⟨8, some 68, some (65, true), .load false 1 (.tmp 67), []⟩,
    ⟨9, some 69, some (65, true), .iaddr 1 (.tmp 66) (.tmp 68), []⟩,
    ⟨10, some 70, some (65, true), .load false 1 (.tmp 69), []⟩,
    ⟨11, some 71, some (65, true), .faddr 3 (.tmp 8), []⟩,
    ⟨12, some 72, some (65, true), .load false 1 (.tmp 71), []⟩,
    ⟨13, some 73, some (65, true), .bin .sub .other (.tmp 70) (.tmp 72), []⟩,
    ⟨14, some 74, some (65, true), .mov (.tmp 5), []⟩,
    ⟨15, some 75, some (65, true), .faddr 0 (.tmp 8), []⟩,
    ⟨16, some 76, some (65, true), .load false 1 (.tmp 75), []⟩,
    ⟨17, some 77, some (65, true), .iaddr 1 (.tmp 74) (.tmp 76), []⟩,
    ⟨18, some 78, some (65, true), .load false 1 (.tmp 77), []⟩,
    ⟨19, some 79, some (65, true), .bin .lss .other (.tmp 73) (.tmp 78), []⟩,
    ⟨20, some 80, none, .pick (.tmp 65) (.tmp 79) (.const (.bool false)), []⟩]) (.cond (.tmp 80) (.region [
     ⟨0, some 81, none, .mov (.tmp 5), []⟩,
     ⟨1, some 82, none, .faddr 0 (.tmp 8), []⟩,
     ⟨2, some 83, none, .load false 1 (.tmp 82), []⟩,
     ⟨3, some 84, none, .mov (.tmp 5), []⟩,
     ⟨4, some 85, none, .faddr 1 (.tmp 8), []⟩,
     ⟨5, some 86, none, .load false 1 (.tmp 85), []⟩,
     ⟨6, some 87, none, .iaddr 1 (.tmp 84) (.tmp 86), []⟩,
     ⟨7, some 88, none, .load false 1 (.tmp 87), []⟩,
     ⟨8, some 89, none, .faddr 3 (.tmp 8), []⟩,
     ⟨9, some 90, none, .load false 1 (.tmp 89), []⟩,
     ⟨10, some 91, none, .bin .sub .other (.tmp 88) (.tmp 90), []⟩,
     ⟨11, some 92, none, .iaddr 1 (.tmp 81) (.tmp 83), []⟩,
     ⟨12, none, none, .store 1 (.tmp 92) (.tmp 91), []⟩,
     ⟨13, some 6, none, .mov (.const (.bool true)), []⟩]) (.skip))
theorem ir50_l0_n : ir50_l0 = (.seq (.seq (.region [
    ⟨0, some 13, none, .mov (.tmp 7), []⟩,
    ⟨1, some 14, none, .faddr 3 (.tmp 2), []⟩,
    ⟨2, some 15, none, .load false 1 (.tmp 14), []⟩,
    ⟨3, some 16, none, .lenV (.tmp 15), []⟩,
    ⟨4, some 17, none, .bin .lss .other (.tmp 13) (.tmp 16), []⟩]) (.cond (.tmp 17) (.skip) (.exit 2))) (.seq (.block 3 (.seq (.region [
    ⟨0, some 20, none, .faddr 3 (.tmp 2), []⟩,
    ⟨1, some 21, none, .load false 1 (.tmp 20), []⟩,
    ⟨2, some 22, none, .mov (.tmp 7), []⟩,
    ⟨3, some 23, none, .iaddr 4 (.tmp 21) (.tmp 22), []⟩,
    ⟨4, some 24, none, .load true 4 (.tmp 23), []⟩,
    ⟨5, some 8, none, .alloc [.int .i64 0, .int .i64 0, .int .i64 0, .int .i64 0], []⟩,
    ⟨6, none, none, .store 4 (.tmp 8) (.tmp 24), []⟩]) (.seq (ir50_f) (ir50_g)))) (.region [
    ⟨0, some 18, none, .mov (.tmp 7), []⟩,
    ⟨1, some 19, none, .bin .add .other (.tmp 18) (.const (.int .i64 1)), []⟩,
    ⟨2, some 7, none, .mov (.tmp 19), []⟩])) : ICode) := rfl

set_option maxHeartbeats 4000000 in
set_option maxRecDepth 20000 in
theorem ir50_f_wp {n : Net} {N : Nat} (hN : n.nodes = N) {fl : List Int} {fo : Bool} {ab pb fb i kf kt : Nat} {a : Arc} {φ : Int} {P : Int → Int} {m : Mem} {σ : Slots} (hi : i < n.arcs.length)
    (ga : m.get ab = some ⟨arcC a, true⟩) (gf : m.get fb = some ⟨fl.map (Value.int .i64 ·), fo⟩) (gd : m.get pb = some ⟨rowI N P, true⟩) (hφ : fl[i]? = some φ) (hfl : fl.length = n.arcs.length) (hkf : a.f = kf) (hkt : a.t = kt) (lf : kf < N) (lt : kt < N) (ak : 0 ≤ a.k ∧ a.k ≤ 1000) (hd : ∀ v, -1000000 ≤ P v ∧ P v ≤ 0)
    (e1 : ab ≠ pb) (e4 : fb ≠ pb) (s1 : σ 1 = .slice (some ⟨fb, 0, none⟩) fl.length 1) (s5 : σ 5 = .slice (some ⟨pb, 0, none⟩) N 1) (s7 : σ 7 = I i) (s8 : σ 8 = ptr ab) {Q : IExit → Slots → Mem → Prop}
    (hY : φ < a.c ∧ P kf + a.k < P kt → ∀ σ', (∀ t, t < 9 → t ≠ 6 → σ' t = σ t) → σ' 6 = .bool true → Q .normal σ' (m.put pb (some ⟨rowI N (setF P kt (P kf + a.k)), true⟩)))
    (hNo : ¬ (φ < a.c ∧ P kf + a.k < P kt) → ∀ σ', (∀ t, t < 9 → σ' t = σ t) → Q .normal σ' m) : WP Try.prog ir50_f σ m Q := by
  have hφ2 : ∀ h, fl[i]'h = φ := fun h => by rw [List.getElem?_eq_getElem h] at hφ; simpa using hφ
  have b1 : i < fl.length := by omega
  have b2 : i + 1 ≤ fl.length := b1
  have b3 : (i : Int) < fl.length := by omega
  have f2 : kf + 1 ≤ N := lf
  have t2 : kt + 1 ≤ N := lt
  have f3 : (kf : Int) < N := by omega
  have t3 : (kt : Int) < N := by omega
  have hri : ∀ (g : Int → Int) (x : Nat), x < N → (rowI N g)[x]? = some (I (g x)) := fun g x hx => rowI_get hx
  have hrf := fun g => hri g kf lf
  have hrt := fun g => hri g kt lt
  have ld := get_lt gd
  have df := hd kf
  have dt := hd kt
  have w1 : IntKind.i64.wrap (P kf + a.k) = P kf + a.k := i64_id (by omega) (by omega)
  have w2 : IntKind.i64.wrap (P kt - a.k) = P kt - a.k := i64_id (by omega) (by omega)
  by_cases k1 : φ < a.c
  · by_cases k3 : P kf + a.k < P kt
    · simp (disch := first | omega | (simp only [next_put, next_bump]; omega)) [ir50_f, s1, s5, s7, s8, ga, gf, gd, arcC, hkf, hkt, hφ, hφ2, b1, b2, b3, lf, lt, f2, t2, f3, t3, hrf, hrt, head_td, w1, w2, e1, e4, ckOk, bne_iff_ne, rowI_setF, k1, k3, get_put_self, get_put_ne, get_bump, put_put, -rowI_set]
      exact hY ⟨k1, k3⟩ _ (fun t ht hne => by simp (disch := omega) only [upd_ne]) (by simp)
    · simp (disch := first | omega | (simp only [next_put, next_bump]; omega)) [ir50_f, s1, s5, s7, s8, ga, gf, gd, arcC, hkf, hkt, hφ, hφ2, b1, b2, b3, lf, lt, f2, t2, f3, t3, hrf, hrt, head_td, w1, w2, e1, e4, ckOk, bne_iff_ne, rowI_setF, k1, k3, get_put_self, get_put_ne, get_bump, put_put, -rowI_set]
      exact hNo (fun h => k3 h.2) _ (fun t ht => by simp (disch := omega) only [upd_ne])
  · simp (disch := first | omega | (simp only [next_put, next_bump]; omega)) [ir50_f, s1, s5, s7, s8, ga, gf, gd, arcC, hkf, hkt, hφ, hφ2, b1, b2, b3, lf, lt, f2, t2, f3, t3, hrf, hrt, head_td, w1, w2, e1, e4, ckOk, bne_iff_ne, rowI_setF, k1, get_put_self, get_put_ne, get_bump, put_put, -rowI_set]
    exact hNo (fun h => k1 h.1) _ (fun t ht => by simp (disch := omega) only [upd_ne])

set_option maxHeartbeats 4000000 in
set_option maxRecDepth 20000 in
theorem ir50_g_wp {n : Net} {N : Nat} (hN : n.nodes = N) {fl : List Int} {fo : Bool} {ab pb fb i kf kt : Nat} {a : Arc} {φ : Int} {P : Int → Int} {m : Mem} {σ : Slots} (hi : i < n.arcs.length)
    (ga : m.get ab = some ⟨arcC a, true⟩) (gf : m.get fb = some ⟨fl.map (Value.int .i64 ·), fo⟩) (gd : m.get pb = some ⟨rowI N P, true⟩) (hφ : fl[i]? = some φ) (hfl : fl.length = n.arcs.length) (hkf : a.f = kf) (hkt : a.t = kt) (lf : kf < N) (lt : kt < N) (ak : 0 ≤ a.k ∧ a.k ≤ 1000) (hd : ∀ v, -1000000 ≤ P v ∧ P v ≤ 0)
    (e1 : ab ≠ pb) (e4 : fb ≠ pb) (s1 : σ 1 = .slice (some ⟨fb, 0, none⟩) fl.length 1) (s5 : σ 5 = .slice (some ⟨pb, 0, none⟩) N 1) (s7 : σ 7 = I i) (s8 : σ 8 = ptr ab) {Q : IExit → Slots → Mem → Prop}
    (hY : 0 < φ ∧ P kt - a.k < P kf → ∀ σ', (∀ t, t < 9 → t ≠ 6 → σ' t = σ t) → σ' 6 = .bool true → Q .normal σ' (m.put pb (some ⟨rowI N (setF P kf (P kt - a.k)), true⟩)))
    (hNo : ¬ (0 < φ ∧ P kt - a.k < P kf) → ∀ σ', (∀ t, t < 9 → σ' t = σ t) → Q .normal σ' m) : WP Try.prog ir50_g σ m Q := by
  have hφ2 : ∀ h, fl[i]'h = φ := fun h => by rw [List.getElem?_eq_getElem h] at hφ; simpa using hφ
  have b1 : i < fl.length := by omega
  have b2 : i + 1 ≤ fl.length := b1
  have b3 : (i : Int) < fl.length := by omega
  have f2 : kf + 1 ≤ N := lf
  have t2 : kt + 1 ≤ N := lt
  have f3 : (kf : Int) < N := by omega
  have t3 : (kt : Int) < N := by omega
  have hri : ∀ (g : Int → Int) (x : Nat), x < N → (rowI N g)[x]? = some (I (g x)) := fun g x hx => rowI_get hx
  have hrf := fun g => hri g kf lf
  have hrt := fun g => hri g kt lt
  have ld := get_lt gd
  have df := hd kf
  have dt := hd kt
  have w1 : IntKind.i64.wrap (P kf + a.k) = P kf + a.k := i64_id (by omega) (by omega)
  have w2 : IntKind.i64.wrap (P kt - a.k) = P kt - a.k := i64_id (by omega) (by omega)
  by_cases k1 : 0 < φ
  · by_cases k3 : P kt - a.k < P kf
    · simp (disch := first | omega | (simp only [next_put, next_bump]; omega)) [ir50_g, s1, s5, s7, s8, ga, gf, gd, arcC, hkf, hkt, hφ, hφ2, b1, b2, b3, lf, lt, f2, t2, f3, t3, hrf, hrt, head_td, w1, w2, e1, e4, ckOk, bne_iff_ne, rowI_setF, k1, k3, get_put_self, get_put_ne, get_bump, put_put, -rowI_set]
      exact hY ⟨k1, k3⟩ _ (fun t ht hne => by simp (disch := omega) only [upd_ne]) (by simp)
    · simp (disch := first | omega | (simp only [next_put, next_bump]; omega)) [ir50_g, s1, s5, s7, s8, ga, gf, gd, arcC, hkf, hkt, hφ, hφ2, b1, b2, b3, lf, lt, f2, t2, f3, t3, hrf, hrt, head_td, w1, w2, e1, e4, ckOk, bne_iff_ne, rowI_setF, k1, k3, get_put_self, get_put_ne, get_bump, put_put, -rowI_set]
      exact hNo (fun h => k3 h.2) _ (fun t ht => by simp (disch := omega) only [upd_ne])
  · simp (disch := first | omega | (simp only [next_put, next_bump]; omega)) [ir50_g, s1, s5, s7, s8, ga, gf, gd, arcC, hkf, hkt, hφ, hφ2, b1, b2, b3, lf, lt, f2, t2, f3, t3, hrf, hrt, head_td, w1, w2, e1, e4, ckOk, bne_iff_ne, rowI_setF, k1, get_put_self, get_put_ne, get_bump, put_put, -rowI_set]
    exact hNo (fun h => k1 h.1) _ (fun t ht => by simp (disch := omega) only [upd_ne])

set_option maxHeartbeats 4000000 in
set_option maxRecDepth 20000 in
theorem pt_inner {n : Net} (hV : n.Valid) {N : Nat} (hN : n.nodes = N) {fl : List Int} (hbd : Bnd n fl) {p : Int → Int} (hp : Opt n fl p) (hpp : ∀ v, 0 ≤ p v ∧ p v ≤ 1000000) (hk : ∀ a ∈ n.arcs, 0 ≤ a.k ∧ a.k ≤ 1000) {v : Value} {nb fb pb : Nat} {fo : Bool} {m0 : Mem} (hn : m0.get nb = some ⟨netC n v, true⟩) (hv : Arcs m0 v n.arcs) (hf : m0.get fb = some ⟨fl.map (Value.int .i64 ·), fo⟩) (hpb : m0.next ≤ pb) {M0 : Nat} {Q : IExit → Slots → Mem → Prop} :
    ∀ (r i : Nat) (m : Mem) (σ : Slots) (P : Int → Int) (g : Bool), i + r = n.arcs.length → Old m0 m → m.get pb = some ⟨rowI N P, true⟩ → PB p P → sumN (mP P) N + (if g = true then 1 else 0) ≤ M0 →
    σ 1 = .slice (some ⟨fb, 0, none⟩) fl.length 1 → σ 2 = ptr nb → σ 5 = .slice (some ⟨pb, 0, none⟩) N 1 → σ 6 = .bool g → σ 7 = I i →
    (∀ σ' m' P' g', Old m0 m' → m'.get pb = some ⟨rowI N P', true⟩ → PB p P' → sumN (mP P') N + (if g' = true then 1 else 0) ≤ M0 → (∀ t, t < 6 → σ' t = σ t) → σ' 6 = .bool g' → Q (.exit 2) σ' m') → WP Try.prog (.loop ir50_l0) σ m Q
  | 0, i, m, σ, P, g, hi, ho, gd, hB, hm, s1, s2, s5, s6, s7, hQ => by
    refine wp_round fun J hJ => ?_
    have h1 : ¬ (i : Int) < n.arcs.length := by omega
    have h1' : ¬ i < n.arcs.length := by omega
    obtain ⟨hlen, hsl⟩ := hv.len
    have gn := ho.some hn
    simp (disch := first | omega | (simp only [next_put, next_bump]; omega)) [ir50_l0_n, s2, s7, h1, h1', gn, hlen, hsl, get_put_self, get_put_ne, get_bump, put_put, -lenOfV, -isSl]
    exact hQ _ _ P g ho gd hB hm (fun t ht => by simp (disch := omega) only [upd_ne]) (by simp [s6])
  | r + 1, i, m, σ, P, g, hi, ho, gd, hB, hm, s1, s2, s5, s6, s7, hQ => by
    refine wp_round fun J hJ => ?_
    have k1 : i < n.arcs.length := by omega
    have k1' : (i : Int) < n.arcs.length := by omega
    obtain ⟨a, ha⟩ : ∃ a, n.arcs[i]? = some a := ⟨n.arcs[i]'k1, by simp⟩
    obtain ⟨φ, hφ⟩ : ∃ φ, fl[i]? = some φ := ⟨fl[i]'(by rw [hbd.1]; exact k1), by simp⟩
    obtain ⟨⟨f0, f1⟩, ⟨t0, t1⟩, c0, c1⟩ := hV.arc a (List.mem_of_getElem? ha)
    have hka := hk a (List.mem_of_getElem? ha)
    have hal := hV.al
    obtain ⟨kf, hkf⟩ : ∃ k : Nat, a.f = k := ⟨a.f.toNat, by omega⟩
    obtain ⟨kt, hkt⟩ : ∃ k : Nat, a.t = k := ⟨a.t.toNat, by omega⟩
    have lf : kf < N := by omega
    have lt : kt < N := by omega
    obtain ⟨o1, o2⟩ := hp.arcs ha hφ
    rw [hkf, hkt] at o1 o2
    obtain ⟨c, o, hvc, hc⟩ := hv.blk k1
    have gn := ho.some hn
    have gf := ho.some hf
    have gc := ho.some hc
    have lc := get_lt gc
    have lnn := get_lt gn
    have lff := get_lt hf
    have ld := get_lt gd
    have n0 := ho.next
    have b4 : i * 4 + 4 ≤ n.arcs.length * 4 := by omega
    have c4 := arcs_at ha
    have w0 : IntKind.i64.wrap ((i : Int) + 1) = (i : Int) + 1 := i64_id (by omega) (by omega)
    simp (disch := first | omega | (simp only [next_put, next_bump]; omega)) [ir50_l0_n, s2, s7, k1, k1', gn, hvc, gc, b4, c4, arcC, get_put_self, get_put_ne, get_bump, put_put]
    have oM : Old m ((m.bump 7).put (m.next + 5) (some ⟨[I a.f, I a.t, I a.c, I a.k], true⟩)) := ((Old.refl m).bump 7).put (by omega)
    have gaM : ((m.bump 7).put (m.next + 5) (some ⟨[I a.f, I a.t, I a.c, I a.k], true⟩)).get (m.next + 5) = some ⟨arcC a, true⟩ := get_put_self (by simp only [next_bump]; omega)
    obtain ⟨M, hMM⟩ : ∃ M, M = (m.bump 7).put (m.next + 5) (some ⟨[I a.f, I a.t, I a.c, I a.k], true⟩) := ⟨_, rfl⟩
    rw [← hMM] at oM gaM ⊢
    have hMn : M.next = m.next + 7 := by rw [hMM]; simp
    have bd : ∀ {P' : Int → Int}, PB p P' → ∀ v, -1000000 ≤ P' v ∧ P' v ≤ 0 := fun h v => by
      have h1 := h.lo v
      have h2 := h.hi v
      have h3 := hpp v
      omega
    have fin : ∀ (σ' : Slots) (m' : Mem) (P' : Int → Int) (g' : Bool), Old m0 m' → m'.get pb = some ⟨rowI N P', true⟩ → PB p P' → sumN (mP P') N + (if g' = true then 1 else 0) ≤ M0 → (∀ t, t < 6 → σ' t = σ t) → σ' 6 = .bool g' → σ' 7 = I ((i : Int) + 1) → J σ' m' := fun σ' m' P' g' u1 u2 u3 u4 u5 u6 u7 =>
      hJ _ _ (pt_inner hV hN hbd hp hpp hk hn hv hf hpb r (i + 1) m' σ' P' g' (by omega) u1 u2 u3 u4 (by rw [u5 1 (by omega)]; exact s1) (by rw [u5 2 (by omega)]; exact s2) (by rw [u5 5 (by omega)]; exact s5) u6 (by rw [u7]; simp) (fun σ'' m'' P'' g'' v1 v2 v3 v4 v5 v6 => hQ σ'' m'' P'' g'' v1 v2 v3 v4 (fun t ht => by rw [v5 t ht, u5 t ht]) v6))
    have half : ∀ (m1 : Mem) (σ1 : Slots) (P1 : Int → Int) (g1 : Bool), Old m0 m1 → M.next ≤ m1.next → m1.get (m.next + 5) = some ⟨arcC a, true⟩ → m1.get pb = some ⟨rowI N P1, true⟩ → PB p P1 → sumN (mP P1) N + (if g1 = true then 1 else 0) ≤ M0 →
        (∀ t, t < 6 → σ1 t = σ t) → σ1 6 = .bool g1 → σ1 7 = I i → σ1 8 = ptr (m.next + 5) → ∀ {Q' : IExit → Slots → Mem → Prop}, (∀ σ' m' P' g', Old m0 m' → m'.get pb = some ⟨rowI N P', true⟩ → PB p P' → sumN (mP P') N + (if g' = true then 1 else 0) ≤ M0 → (∀ t, t < 6 → σ' t = σ t) → σ' 6 = .bool g' → σ' 7 = I i → Q' .normal σ' m') → WP Try.prog ir50_g σ1 m1 Q' := by
      intro m1 σ1 P1 g1 p1 p2 p3 p4 p6 p7 e0 e6 e7 e8 Q' hQ'
      refine ir50_g_wp hN (fl := fl) (fo := fo) (ab := m.next + 5) (pb := pb) (fb := fb) (a := a) (φ := φ) (P := P1) k1 p3 (p1.some hf) p4 hφ hbd.1 hkf hkt lf lt hka (bd p6) (by omega) (by omega) (by rw [e0 1 (by omega)]; exact s1) (by rw [e0 5 (by omega)]; exact s5) e7 e8 (fun hc σ' r1 r2 => ?_) (fun hc σ' r1 => ?_)
      · obtain ⟨z1, z3⟩ := hc
        have hlo := p6.lo (kt : Int)
        have := o2 z1
        obtain ⟨hb2, hm2⟩ := p6.add hpp (N := N) (x := kf) (d := P1 kt - a.k) (by omega) (by omega) (by omega) z3
        refine hQ' _ _ (setF P1 kf (P1 kt - a.k)) true ⟨by have := p1.next; simp only [next_put]; omega, fun b hb => by rw [get_put_ne (by omega), p1.get b hb]⟩ (by rw [get_put_self (get_lt p4)]) hb2 (by simp; omega) (fun t ht => by rw [r1 t (by omega) (by omega), e0 t ht]) r2 (by rw [r1 7 (by omega) (by omega)]; exact e7)
      · exact hQ' _ _ P1 g1 p1 p4 p6 p7 (fun t ht => by rw [r1 t (by omega), e0 t ht]) (by rw [r1 6 (by omega)]; exact e6) (by rw [r1 7 (by omega)]; exact e7)
    have oM0 := ho.trans oM
    refine ir50_f_wp hN (fl := fl) (fo := fo) (ab := m.next + 5) (pb := pb) (fb := fb) (a := a) (φ := φ) (P := P) k1 gaM (oM.some gf) (oM.some gd) hφ hbd.1 hkf hkt lf lt hka (bd hB) (by omega) (by omega) (by simp [s1]) (by simp [s5]) (by simp [s7]) (by simp) (fun hc σ' r1 r2 => ?_) (fun hc σ' r1 => ?_)
    · obtain ⟨z1, z3⟩ := hc
      have hlo := hB.lo (kf : Int)
      have := o1 z1
      obtain ⟨hb2, hm2⟩ := hB.add hpp (N := N) (x := kt) (d := P kf + a.k) (by omega) (by omega) (by omega) z3
      simp only [thenK_normal]
      refine half _ σ' (setF P kt (P kf + a.k)) true ⟨by have := oM0.next; simp only [next_put]; omega, fun b hb => by rw [get_put_ne (by omega), oM0.get b hb]⟩ (by simp only [next_put]; omega) (by rw [get_put_ne (by omega)]; exact gaM) (by rw [get_put_self (get_lt (oM.some gd))]) hb2 (by simp; omega) (fun t ht => by rw [r1 t (by omega) (by omega)]; simp (disch := omega) only [upd_ne]) r2 (by rw [r1 7 (by omega) (by omega)]; simp [s7]) (by rw [r1 8 (by omega) (by omega)]; simp) (fun σ'' m'' P' g' u1 u2 u3 u4 u5 u6 u7 => ?_)
      simp (disch := first | omega | (simp only [next_put, next_bump]; omega)) [u7, w0, get_put_self, get_put_ne, get_bump, put_put]
      exact fin _ _ P' g' u1 u2 u3 u4 (fun t ht => by rw [← u5 t ht]; simp (disch := omega) only [upd_ne]) (by simp [u6]) (by simp)
    · simp only [thenK_normal]
      refine half _ σ' P g oM0 (Nat.le_refl _) gaM (oM.some gd) hB hm (fun t ht => by rw [r1 t (by omega)]; simp (disch := omega) only [upd_ne]) (by rw [r1 6 (by omega)]; simp [s6]) (by rw [r1 7 (by omega)]; simp [s7]) (by rw [r1 8 (by omega)]; simp) (fun σ'' m'' P' g' u1 u2 u3 u4 u5 u6 u7 => ?_)
      simp (disch := first | omega | (simp only [next_put, next_bump]; omega)) [u7, w0, get_put_self, get_put_ne, get_bump, put_put]
      exact fin _ _ P' g' u1 u2 u3 u4 (fun t ht => by rw [← u5 t ht]; simp (disch := omega) only [upd_ne]) (by simp [u6]) (by simp)

set_option maxHeartbeats 4000000 in
set_option maxRecDepth 20000 in
theorem pt_outer {n : Net} (hV : n.Valid) {N : Nat} (hN : n.nodes = N) {fl : List Int} (hbd : Bnd n fl) {p : Int → Int} (hp : Opt n fl p) (hpp : ∀ v, 0 ≤ p v ∧ p v ≤ 1000000) (hk : ∀ a ∈ n.arcs, 0 ≤ a.k ∧ a.k ≤ 1000) {v : Value} {nb fb pb : Nat} {fo : Bool} {m0 : Mem} (hn : m0.get nb = some ⟨netC n v, true⟩) (hv : Arcs m0 v n.arcs) (hf : m0.get fb = some ⟨fl.map (Value.int .i64 ·), fo⟩) (hpb : m0.next ≤ pb) {Q : IExit → Slots → Mem → Prop} :
    ∀ (K : Nat) (m : Mem) (σ : Slots) (P : Int → Int) (g : Bool), sumN (mP P) N + (if g = true then 1 else 0) ≤ K → Old m0 m → m.get pb = some ⟨rowI N P, true⟩ → PB p P →
    σ 1 = .slice (some ⟨fb, 0, none⟩) fl.length 1 → σ 2 = ptr nb → σ 5 = .slice (some ⟨pb, 0, none⟩) N 1 → σ 6 = .bool g →
    (∀ σ' m', Old m0 m' → σ' 5 = .slice (some ⟨pb, 0, none⟩) N 1 → Q (.exit 0) σ' m') → WP Try.prog (.loop ir50_l1) σ m Q := by
  intro K
  induction K with
  | zero =>
    intro m σ P g hK ho gd hB s1 s2 s5 s6 hQ
    cases g
    · refine wp_round fun J hJ => ?_
      simp (disch := first | omega | (simp only [next_put, next_bump]; omega)) [ir50_l1, s6, get_put_self, get_put_ne, get_bump, put_put]
      exact hQ _ _ ho (by simp [s5])
    · simp at hK
  | succ K ih =>
    intro m σ P g hK ho gd hB s1 s2 s5 s6 hQ
    cases g
    · refine wp_round fun J hJ => ?_
      simp (disch := first | omega | (simp only [next_put, next_bump]; omega)) [ir50_l1, s6, get_put_self, get_put_ne, get_bump, put_put]
      exact hQ _ _ ho (by simp [s5])
    refine wp_round fun J hJ => ?_
    simp only [if_true] at hK
    simp (disch := first | omega | (simp only [next_put, next_bump]; omega)) [ir50_l1, s6, get_put_self, get_put_ne, get_bump, put_put]
    refine pt_inner hV hN hbd hp hpp hk hn hv hf hpb (M0 := K) n.arcs.length 0 m _ P false (by omega) ho gd hB (by simp; omega) (by simp [s1]) (by simp [s2]) (by simp [s5]) (by simp) (by simp) (fun σ' m' P' g' e1 e2 e3 e4 e5 e6 => ?_)
    simp (disch := first | omega | (simp only [next_put, next_bump]; omega)) [e6, get_put_self, get_put_ne, get_bump, put_put]
    refine hJ _ _ (ih m' σ' P' g' e4 e1 e2 e3 (by rw [e5 1 (by omega)]; simp [s1]) (by rw [e5 2 (by omega)]; simp [s2]) (by rw [e5 5 (by omega)]; simp [s5]) e6 hQ)

set_option maxHeartbeats 4000000 in
set_option maxRecDepth 20000 in
theorem rpot_wp {n : Net} (hV : n.Valid) {N : Nat} (hN : n.nodes = N) {fl : List Int} (hbd : Bnd n fl) {p : Int → Int} (hp : Opt n fl p) (hpp : ∀ v, 0 ≤ p v ∧ p v ≤ 1000000) (hk : ∀ a ∈ n.arcs, 0 ≤ a.k ∧ a.k ≤ 1000) {v : Value} {fb : Nat} {fo : Bool} {m : Mem} (hv : Arcs m v n.arcs) (hf : m.get fb = some ⟨fl.map (Value.int .i64 ·), fo⟩) :
    WPCall Try.prog 50 [netV n v, .slice (some ⟨fb, 0, none⟩) fl.length 1] m fun r m' => Old m m' := by
  rw [call50 (by simp)]
  have h7 := hV.n7
  have h2 := hV.n2
  have lf := get_lt hf
  have hN' : n.nodes.toNat = N := by omega
  have z0 : 0 ≤ n.nodes := by omega
  have z1 : n.nodes * 8 ≤ 140737488355328 := by omega
  have z2 : n.nodes ≤ 9223372036854775807 := by omega
  simp (disch := first | omega | (simp only [next_put, next_bump]; omega)) [ir50_b, hN', z0, z1, z2, rowI_zero, get_put_self, get_put_ne, get_bump, put_put, -rowI_set]
  obtain ⟨m0, hm0⟩ : ∃ m0, m0 = (m.bump 2).put m.next (some ⟨[I n.nodes, I n.src, I n.snk, v], true⟩) := ⟨_, rfl⟩
  have hM : Old m m0 := by rw [hm0]; exact ((Old.refl m).bump 2).put (Nat.le_refl _)
  have g0 : m0.get m.next = some ⟨netC n v, true⟩ := by rw [hm0]; exact get_put_self (by simp)
  have n0 : m0.next = m.next + 2 := by rw [hm0]; simp
  rw [← hm0]
  refine pt_outer hV hN hbd hp hpp hk (fb := fb) (fo := fo) (nb := m.next) (pb := m.next + 2 + 2) g0 (hv.mono hM) (hM.some hf) (by omega) (sumN (mP (fun _ => 0)) N + 1) _ _ (fun _ => 0) true (by simp) ?_ (get_put_self (by simp only [next_bump]; omega)) ⟨fun v => by have := hpp v; omega, fun v => Int.le_refl _⟩ (by simp) (by simp) (by simp) (by simp) (fun σ' m' e1 e2 => ?_)
  · exact ((Old.refl m0).bump _).put (by omega)
  · simp (disch := first | omega | (simp only [next_put, next_bump]; omega)) [e2, get_put_self, get_put_ne, get_bump, put_put]
    exact hM.trans e1
end Go.Proofs.Ytapnkfkpkcajjaa
