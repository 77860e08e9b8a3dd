/-
  Distances of mincost's reference: one arc.
-/
import Derived.Test.YtapnkfkpkcajjaaMcQ
import Derived.Test.YtapnkfkpkcajjaaMfX
namespace Go.Proofs.Ytapnkfkpkcajjaa
open Go Go.DI Go.Nets
set_option linter.unusedSimpArgs false
set_option linter.unusedVariables false

/-- reduced distances -/
def red (p dist : Int → Int) : Int → Int := fun v => if dist v < far then dist v - p v else far
theorem red_lt {p dist : Int → Int} {v : Int} (h0 : 0 ≤ p v) : red p dist v < far ↔ dist v < far := by
  unfold red
  by_cases h : dist v < far
  · rw [if_pos h]; omega
  · rw [if_neg h]; omega
theorem red_of {p dist : Int → Int} {v : Int} (h : dist v < far) : red p dist v = dist v - p v := if_pos h
theorem red_no {p dist : Int → Int} {v : Int} (h : ¬ dist v < far) : red p dist v = far := if_neg h
theorem red_set {p dist : Int → Int} {x d : Int} (h : d < far) : red p (setF dist x d) = setF (red p dist) x (d - p x) := by
  funext v
  by_cases hv : v = x
  · subst hv; rw [setF_same, red_of (by rw [setF_same]; exact h), setF_same]
  · rw [setF_ne hv]; unfold red; rw [setF_ne hv]
structure BF (n : Net) (fl : List Int) (p : Int → Int) (N : Nat) (dist : Int → Int) (by_ : Int → St) (q : List (Int × Int)) : Prop where
  dij : Dij n fl p N (red p dist) by_ q
  all : ∀ v, dist v < far → (v, red p dist v) ∈ q
  hi : ∀ v, dist v ≤ far
theorem BF.bd {n : Net} {fl : List Int} {p : Int → Int} {N : Nat} {dist : Int → Int} {by_ : Int → St} {q : List (Int × Int)} (h : BF n fl p N dist by_ q) (hN : N ≤ 700) (hp : ∀ v, 0 ≤ p v) {v : Int} (hv : dist v < far) : 0 ≤ dist v ∧ dist v ≤ 700000 := by
  have h1 := h.dij.lo v
  have h2 := h.dij.cap v ((red_lt (hp v)).2 hv)
  have h3 := hp v
  rw [red_of hv] at h1 h2
  omega
theorem BF.add {n : Net} {fl : List Int} {p : Int → Int} {N : Nat} {dist : Int → Int} {by_ : Int → St} {q : List (Int × Int)} (h : BF n fl p N dist by_ q) (hN : n.nodes = N) (hN7 : N ≤ 700) (hp : Opt n fl p) (hpp : ∀ v, 0 ≤ p v ∧ p v ≤ 1000000) (hk : ∀ e, -1000 ≤ stC n e ∧ stC n e ≤ 1000) {e : St} (h1 : 0 < room n fl e) (h2 : dist (stF n e) < far) (h3 : dist (stF n e) + stC n e < dist (stT n e)) (h4 : n.node (stT n e)) :
    ∃ q', BF n fl p N (setF dist (stT n e) (dist (stF n e) + stC n e)) (setF by_ (stT n e) e) q' ∧ sumN (capD (red p (setF dist (stT n e) (dist (stF n e) + stC n e)))) N + 1 ≤ sumN (capD (red p dist)) N := by
  have b1 := h.bd hN7 (fun v => (hpp v).1) h2
  have b2 := hk e
  have pT := hpp (stT n e)
  have pF := hpp (stF n e)
  have hhi := h.hi (stT n e)
  have hdf : dist (stF n e) + stC n e < far := by unfold far; omega
  have hrc : rc n p e = stC n e + p (stF n e) - p (stT n e) := rfl
  have hlt : red p dist (stF n e) + rc n p e < red p dist (stT n e) := by
    rw [red_of h2, hrc]
    by_cases hT : dist (stT n e) < far
    · rw [red_of hT]; omega
    · rw [red_no hT]; unfold far; omega
  have hd := h.dij.add hN hp (fun e => (hk e).2) h1 ((red_lt pF.1).2 h2) hlt h4
  have heq : red p dist (stF n e) + rc n p e = dist (stF n e) + stC n e - p (stT n e) := by rw [red_of h2, hrc]; omega
  rw [heq, ← red_set hdf] at hd
  refine ⟨_, ⟨hd, fun v hv => ?_, fun v => ?_⟩, ?_⟩
  · by_cases hvT : v = stT n e
    · subst hvT
      rw [red_set hdf, setF_same]; exact List.mem_cons_self
    · rw [setF_ne hvT] at hv
      rw [red_set hdf, setF_ne hvT]
      exact List.mem_cons_of_mem _ (h.all v hv)
  · by_cases hvT : v = stT n e
    · subst hvT; rw [setF_same]; omega
    · rw [setF_ne hvT]; exact h.hi v
  · rw [red_set hdf]
    have l1 := hd.lo (stT n e)
    have l2 := hd.cap (stT n e) (by rw [red_set hdf, setF_same]; omega)
    rw [red_set hdf, setF_same] at l1 l2
    refine capD_add h4.1 (by have := h4.2; omega) l1 (by omega) ?_
    omega
theorem BF.done {n : Net} {fl : List Int} {p : Int → Int} {N : Nat} {dist : Int → Int} {by_ : Int → St} {q : List (Int × Int)} (h : BF n fl p N dist by_ q) (hN7 : N ≤ 700) (hpp : ∀ v, 0 ≤ p v ∧ p v ≤ 1000000) (hk : ∀ e, -1000 ≤ stC n e ∧ stC n e ≤ 1000) (hr : ∀ e, 0 < room n fl e → dist (stF n e) < far → dist (stT n e) ≤ dist (stF n e) + stC n e) : Dij n fl p N (red p dist) by_ [] := by
  refine ⟨h.dij.src, h.dij.lo, h.dij.hi, h.dij.cap, h.dij.node, by simp, h.dij.back, fun e h1 h2 _ => ?_⟩
  have h2' := (red_lt (hpp _).1).1 h2
  have := hr e h1 h2'
  have b1 := h.bd hN7 (fun v => (hpp v).1) h2'
  have b2 := hk e
  have hrc : rc n p e = stC n e + p (stF n e) - p (stT n e) := rfl
  rw [red_of h2', red_of (by unfold far; omega), hrc]; omega
theorem BF.start {n : Net} (hV : n.Valid) {N : Nat} (hN : n.nodes = N) (fl : List Int) {p : Int → Int} (hp : p n.src = 0) (by_ : Int → St) : BF n fl p N (setF (fun _ => far) n.src 0) by_ [(n.src, 0)] := by
  have e : red p (setF (fun _ => far) n.src 0) = setF (fun _ => far) n.src 0 := by
    rw [red_set (by decide), hp]
    funext v
    by_cases hv : v = n.src
    · subst hv; rw [setF_same, setF_same]; rfl
    · rw [setF_ne hv, setF_ne hv]; exact red_no (by omega)
  refine ⟨by rw [e]; exact Dij.start hV hN fl hp by_, fun v hv => ?_, fun v => ?_⟩
  · rw [e]
    by_cases h : v = n.src
    · subst h; rw [setF_same]; simp
    · rw [setF_ne h] at hv; omega
  · by_cases h : v = n.src
    · subst h; rw [setF_same]; decide
    · rw [setF_ne h]; exact Int.le_refl _
theorem stF_f {n : Net} {i : Nat} {a : Arc} (ha : n.arcs[i]? = some a) : stF n (i, true) = a.f ∧ stT n (i, true) = a.t ∧ stC n (i, true) = a.k ∧ stF n (i, false) = a.t ∧ stT n (i, false) = a.f ∧ stC n (i, false) = -a.k := by
  simp [stF, stT, stC, ha]
theorem room_f {n : Net} {fl : List Int} {i : Nat} {a : Arc} {φ : Int} (ha : n.arcs[i]? = some a) (hφ : fl[i]? = some φ) : room n fl (i, true) = a.c - φ ∧ room n fl (i, false) = φ := by
  simp [room, ha, hφ]
def ir49_f : ICode := .seq (.region [
    ⟨0, some 44, none, .mov (.tmp 1), []⟩,
    ⟨1, some 45, none, .mov (.tmp 10), []⟩,
    ⟨2, some 46, none, .iaddr 1 (.tmp 44) (.tmp 45), []⟩,
    ⟨3, some 47, none, .load false 1 (.tmp 46), []⟩,
    ⟨4, some 48, none, .faddr 2 (.tmp 11), []⟩,
    ⟨5, some 49, none, .load false 1 (.tmp 48), []⟩,
    ⟨6, some 50, none, .bin .lss .other (.tmp 47) (.tmp 49), []⟩,
    ⟨7, some 51, none, .mov (.tmp 50), []⟩,
    ⟨8, some 52, some (51, true), .mov (.tmp 6), []⟩,
    ⟨9, some 53, some (51, true), .faddr 0 (.tmp 11), []⟩,
    ⟨10, some 54, some (51, true), .load false 1 (.tmp 53), []⟩,
    ⟨11, some 55, some (51, true), .iaddr 1 (.tmp 52) (.tmp 54), []⟩,
    ⟨12, some 56, some (51, true), .load false 1 (.tmp 55), []⟩,
    ⟨13, some 57, some (51, true), .bin .lss .other (.tmp 56) (.const (.int .i64 1099511627776)), []⟩,
    ⟨14, some 58, none, .pick (.tmp 51) (.tmp 57) (.const (.bool false)), []⟩,
    ⟨15, some 59, none, .mov (.tmp 58), []⟩,
    ⟨16, some 60, some (59, true), .mov (.tmp 6), []⟩,
    ⟨17, some 61, some (59, true), .faddr 0 (.tmp 11), []⟩,
    ⟨18, some 62, some (59, true), .load false 1 (.tmp 61), []⟩,
    ⟨19, some 63, some (59, true), .iaddr 1 (.tmp 60) (.tmp 62), []⟩,
    ⟨20, some 64, some (59, true), .load false 1 (.tmp 63), []⟩,
    ⟨21, some 65, some (59, true), .faddr 3 (.tmp 11), []⟩,
    ⟨22, some 66, some (59, true), .load false 1 (.tmp 65), []⟩,
    ⟨23, some 67, some (59, true), .bin .add .other (.tmp 64) (.tmp 66), []⟩,
    ⟨24, some 68, some (59, true), .mov (.tmp 6), []⟩,
    ⟨25, some 69, some (59, true), .faddr 1 (.tmp 11), []⟩,
    ⟨26, some 70, some (59, true), .load false 1 (.tmp 69), []⟩,
    ⟨27, some 71, some (59, true), .iaddr 1 (.tmp 68) (.tmp 70), []⟩,
    ⟨28, some 72, some (59, true), .load false 1 (.tmp 71), []⟩,
    ⟨29, some 73, some (59, true), .bin .lss .other (.tmp 67) (.tmp 72), []⟩,
    ⟨30, some 74, none, .pick (.tmp 59) (.tmp 73) (.const (.bool false)), []⟩]) (.cond (.tmp 74) (.region [
     ⟨0, some 75, none, .mov (.tmp 6), []⟩,
     ⟨1, some 76, none, .faddr 1 (.tmp 11), []⟩,
     ⟨2, some 77, none, .load false 1 (.tmp 76), []⟩,
     ⟨3, some 78, none, .mov (.tmp 7), []⟩,
     ⟨4, some 79, none, .faddr 1 (.tmp 11), []⟩,
     ⟨5, some 80, none, .load false 1 (.tmp 79), []⟩,
     ⟨6, some 81, none, .mov (.tmp 6), []⟩,
     ⟨7, some 82, none, .faddr 0 (.tmp 11), []⟩,
     ⟨8, some 83, none, .load false 1 (.tmp 82), []⟩,
     ⟨9, some 84, none, .iaddr 1 (.tmp 81) (.tmp 83), []⟩,
     ⟨10, some 85, none, .load false 1 (.tmp 84), []⟩,
     ⟨11, some 86, none, .faddr 3 (.tmp 11), []⟩,
     ⟨12, some 87, none, .load false 1 (.tmp 86), []⟩,
     ⟨13, some 88, none, .bin .add .other (.tmp 85) (.tmp 87), []⟩,
     ⟨14, some 89, none, .mov (.tmp 10), []⟩,
     ⟨15, some 90, none, .iaddr 1 (.tmp 75) (.tmp 77), []⟩,
     ⟨16, none, none, .store 1 (.tmp 90) (.tmp 88), [(.tmp 79, .tmp 90)]⟩,
     ⟨17, some 91, none, .iaddr 1 (.tmp 78) (.tmp 80), []⟩,
     ⟨18, none, none, .store 1 (.tmp 91) (.tmp 89), []⟩,
     ⟨19, some 9, none, .mov (.const (.bool true)), []⟩]) (.skip))
def ir49_g : ICode := .seq (.region [
    ⟨0, some 92, none, .mov (.tmp 1), []⟩,
    ⟨1, some 93, none, .mov (.tmp 10), []⟩,
    ⟨2, some 94, none, .iaddr 1 (.tmp 92) (.tmp 93), []⟩,
    ⟨3, some 95, none, .load false 1 (.tmp 94), []⟩,
    ⟨4, some 96, none, .bin .gtr .other (.tmp 95) (.const (.int .i64 0)), []⟩,
    ⟨5, some 97, none, .mov (.tmp 96), []⟩,
    ⟨6, some 98, some (97, true), .mov (.tmp 6), []⟩,
    ⟨7, some 99, some (97, true), .faddr 1 (.tmp 11), []⟩,
    ⟨8, some 100, some (97, true), .load false 1 (.tmp 99), []⟩,
    ⟨9, some 101, some (97, true), .iaddr 1 (.tmp 98) (.tmp 100), []⟩,
    ⟨10, some 102, some (97, true), .load false 1 (.tmp 101), []⟩,
    ⟨11, some 103, some (97, true), .bin .lss .other (.tmp 102) (.const (.int .i64 1099511627776)), []⟩,
    ⟨12, some 104, none, .pick (.tmp 97) (.tmp 103) (.const (.bool false)), []⟩,
    ⟨13, some 105, none, .mov (.tmp 104), []⟩,
    ⟨14, some 106, some (105, true), .mov (.tmp 6), []⟩,
    ⟨15, some 107, some (105, true), .faddr 1 (.tmp 11), []⟩,
    ⟨16, some 108, some (105, true), .load false 1 (.tmp 107), []⟩,
    ⟨17, some 109, some (105, true), .iaddr 1 (.tmp 106) (.tmp 108), []⟩,
    ⟨18, some 110, some (105, true), .load false 1 (.tmp 109), []⟩,
    ⟨19, some 111, some (105, true), .faddr 3 (.tmp 11), []⟩,
    ⟨20, some 112, some (105, true), .load false 1 (.tmp 111), []⟩,
    ⟨21, some 113, some (105, true), .bin .sub .other (.tmp 110) (.tmp 112), []⟩,
    ⟨22, some 114, some (105, true), .mov (.tmp 6), []⟩,
    ⟨23, some 115, some (105, true), .faddr 0 (.tmp 11), []⟩,
    ⟨24, some 116, some (105, true), .load false 1 (.tmp 115), []⟩,
    ⟨25, some 117, some (105, true), .iaddr 1 (.tmp 114) (.tmp 116), []⟩,
    ⟨26, some 118, some (105, true), .load false 1 (.tmp 117), []⟩,
    ⟨27, some 119, some (105, true), .bin .lss .other (.tmp 113) (.tmp 118), []⟩,
    ⟨28, some 120, none, .pick (.tmp 105) (.tmp 119) (.const (.bool false)), []⟩]) (.cond (.tmp 120) (.region [
     ⟨0, some 121, none, .mov (.tmp 6), []⟩,
     ⟨1, some 122, none, .faddr 0 (.tmp 11), []⟩,
     ⟨2, some 123, none, .load false 1 (.tmp 122), []⟩,
     ⟨3, some 124, none, .mov (.tmp 7), []⟩,
     ⟨4, some 125, none, .faddr 0 (.tmp 11), []⟩,
     ⟨5, some 126, none, .load false 1 (.tmp 125), []⟩,
     ⟨6, some 127, none, .mov (.tmp 6), []⟩,
     ⟨7, some 128, none, .faddr 1 (.tmp 11), []⟩,
     ⟨8, some 129, none, .load false 1 (.tmp 128), []⟩,
     ⟨9, some 130, none, .iaddr 1 (.tmp 127) (.tmp 129), []⟩,
     ⟨10, some 131, none, .load false 1 (.tmp 130), []⟩,
     ⟨11, some 132, none, .faddr 3 (.tmp 11), []⟩,
     ⟨12, some 133, none, .load false 1 (.tmp 132), []⟩,
     ⟨13, some 134, none, .bin .sub .other (.tmp 131) (.tmp 133), []⟩,
     ⟨14, some 135, none, .faddr 3 (.tmp 2), []⟩,
     ⟨15, some 136, none, .load false 1 (.tmp 135), []⟩,
     ⟨16, some 137, none, .lenV (.tmp 136), []⟩,
     ⟨17, some 138, none, .mov (.tmp 10), []⟩,
     ⟨18, some 139, none, .bin .add .other (.tmp 137) (.tmp 138), []⟩,
     ⟨19, some 140, none, .iaddr 1 (.tmp 121) (.tmp 123), []⟩,
     ⟨20, none, none, .store 1 (.tmp 140) (.tmp 134), [(.tmp 135, .tmp 140), (.tmp 125, .tmp 140)]⟩,
     ⟨21, some 141, none, .iaddr 1 (.tmp 124) (.tmp 126), []⟩,
     ⟨22, none, none, .store 1 (.tmp 141) (.tmp 139), []⟩,
     ⟨23, some 9, none, .mov (.const (.bool true)), []⟩]) (.skip))
theorem ir49_l1_n : ir49_l1 = (.seq (.seq (.region [
    ⟨0, some 32, none, .mov (.tmp 10), []⟩,
    ⟨1, some 33, none, .faddr 3 (.tmp 2), []⟩,
    ⟨2, some 34, none, .load false 1 (.tmp 33), []⟩,
    ⟨3, some 35, none, .lenV (.tmp 34), []⟩,
    ⟨4, some 36, none, .bin .lss .other (.tmp 32) (.tmp 35), []⟩]) (.cond (.tmp 36) (.skip) (.exit 4))) (.seq (.block 5 (.seq (.region [
    ⟨0, some 39, none, .faddr 3 (.tmp 2), []⟩,
    ⟨1, some 40, none, .load false 1 (.tmp 39), []⟩,
    ⟨2, some 41, none, .mov (.tmp 10), []⟩,
    ⟨3, some 42, none, .iaddr 4 (.tmp 40) (.tmp 41), []⟩,
    ⟨4, some 43, none, .load true 4 (.tmp 42), []⟩,
    ⟨5, some 11, none, .alloc [.int .i64 0, .int .i64 0, .int .i64 0, .int .i64 0], []⟩,
    ⟨6, none, none, .store 4 (.tmp 11) (.tmp 43), []⟩]) (.seq (ir49_f) (ir49_g)))) (.region [
    ⟨0, some 37, none, .mov (.tmp 10), []⟩,
    ⟨1, some 38, none, .bin .add .other (.tmp 37) (.const (.int .i64 1)), []⟩,
    ⟨2, some 10, none, .mov (.tmp 38), []⟩])) : ICode) := rfl

set_option maxHeartbeats 4000000 in
set_option maxRecDepth 20000 in
theorem ir49_f_wp {n : Net} {N : Nat} (hN : n.nodes = N) {v : Value} {fl : List Int} {fo : Bool} {ab db bb fb nb i kf kt : Nat} {a : Arc} {φ : Int} {dist byf : Int → Int} {m : Mem} {σ : Slots} (hlen : lenOfV v = n.arcs.length) (hsl : isSl v = true) (hal : n.arcs.length ≤ 2500) (hi : i < n.arcs.length)
    (ga : m.get ab = some ⟨arcC a, true⟩) (gn : m.get nb = some ⟨netC n v, true⟩) (gf : m.get fb = some ⟨fl.map (Value.int .i64 ·), fo⟩) (gd : m.get db = some ⟨rowI N dist, true⟩) (gb : m.get bb = some ⟨rowI N byf, true⟩) (hφ : fl[i]? = some φ) (hfl : fl.length = n.arcs.length) (hkf : a.f = kf) (hkt : a.t = kt) (lf : kf < N) (lt : kt < N) (ak : 0 ≤ a.k ∧ a.k ≤ 1000) (hd : ∀ v, 0 ≤ dist v ∧ dist v ≤ 1099511627776)
    (e1 : ab ≠ db) (e2 : nb ≠ db) (e3 : bb ≠ db) (e4 : fb ≠ db) (s1 : σ 1 = .slice (some ⟨fb, 0, none⟩) fl.length 1) (s2 : σ 2 = ptr nb) (s6 : σ 6 = .slice (some ⟨db, 0, none⟩) N 1) (s7 : σ 7 = .slice (some ⟨bb, 0, none⟩) N 1) (s10 : σ 10 = I i) (s11 : σ 11 = ptr ab) {Q : IExit → Slots → Mem → Prop}
    (hY : φ < a.c ∧ dist kf < 1099511627776 ∧ dist kf + a.k < dist kt → ∀ σ', (∀ t, t < 12 → t ≠ 9 → σ' t = σ t) → σ' 9 = .bool true → Q .normal σ' ((m.put db (some ⟨rowI N (setF dist kt (dist kf + a.k)), true⟩)).put bb (some ⟨rowI N (setF byf kt ((i : Int))), true⟩)))
    (hNo : ¬ (φ < a.c ∧ dist kf < 1099511627776 ∧ dist kf + a.k < dist kt) → ∀ σ', (∀ t, t < 12 → σ' t = σ t) → Q .normal σ' m) : WP Try.prog ir49_f σ m Q := by
  have hφ2 : ∀ h, fl[i]'h = φ := fun h => by rw [List.getElem?_eq_getElem h] at hφ; simpa using hφ
  have b1 : i < fl.length := by omega
  have b2 : i + 1 ≤ fl.length := b1
  have b3 : (i : Int) < fl.length := by omega
  have f2 : kf + 1 ≤ N := lf
  have t2 : kt + 1 ≤ N := lt
  have f3 : (kf : Int) < N := by omega
  have t3 : (kt : Int) < N := by omega
  have hri : ∀ (g : Int → Int) (x : Nat), x < N → (rowI N g)[x]? = some (I (g x)) := fun g x hx => rowI_get hx
  have hrf := fun g => hri g kf lf
  have hrt := fun g => hri g kt lt
  have ld := get_lt gd
  have lb := get_lt gb
  have df := hd kf
  have dt := hd kt
  have w1 : IntKind.i64.wrap (dist kf + a.k) = dist kf + a.k := i64_id (by omega) (by omega)
  have w2 : IntKind.i64.wrap (dist kt - a.k) = dist kt - a.k := i64_id (by omega) (by omega)
  have w3 : IntKind.i64.wrap ((n.arcs.length : Int) + i) = n.arcs.length + i := i64_id (by omega) (by omega)
  by_cases k1 : φ < a.c
  · by_cases k2 : dist kf < 1099511627776
    · by_cases k3 : dist kf + a.k < dist kt
      · simp (disch := first | omega | (simp only [next_put, next_bump]; omega)) [ir49_f, s1, s2, s6, s7, s10, s11, ga, gn, gf, gd, gb, arcC, hkf, hkt, hφ, hφ2, hlen, hsl, b1, b2, b3, lf, lt, f2, t2, f3, t3, hrf, hrt, head_td, w1, w2, w3, e1, e2, e3, e4, ckOk, bne_iff_ne, rowI_setF, k1, k2, k3, get_put_self, get_put_ne, get_bump, put_put, -lenOfV, -isSl, -rowI_set]
        exact hY ⟨k1, k2, k3⟩ _ (fun t ht hne => by simp (disch := omega) only [upd_ne]) (by simp)
      · simp (disch := first | omega | (simp only [next_put, next_bump]; omega)) [ir49_f, s1, s2, s6, s7, s10, s11, ga, gn, gf, gd, gb, arcC, hkf, hkt, hφ, hφ2, hlen, hsl, b1, b2, b3, lf, lt, f2, t2, f3, t3, hrf, hrt, head_td, w1, w2, w3, e1, e2, e3, e4, ckOk, bne_iff_ne, rowI_setF, k1, k2, k3, get_put_self, get_put_ne, get_bump, put_put, -lenOfV, -isSl, -rowI_set]
        exact hNo (fun h => k3 h.2.2) _ (fun t ht => by simp (disch := omega) only [upd_ne])
    · simp (disch := first | omega | (simp only [next_put, next_bump]; omega)) [ir49_f, s1, s2, s6, s7, s10, s11, ga, gn, gf, gd, gb, arcC, hkf, hkt, hφ, hφ2, hlen, hsl, b1, b2, b3, lf, lt, f2, t2, f3, t3, hrf, hrt, head_td, w1, w2, w3, e1, e2, e3, e4, ckOk, bne_iff_ne, rowI_setF, k1, k2, get_put_self, get_put_ne, get_bump, put_put, -lenOfV, -isSl, -rowI_set]
      exact hNo (fun h => k2 h.2.1) _ (fun t ht => by simp (disch := omega) only [upd_ne])
  · simp (disch := first | omega | (simp only [next_put, next_bump]; omega)) [ir49_f, s1, s2, s6, s7, s10, s11, ga, gn, gf, gd, gb, arcC, hkf, hkt, hφ, hφ2, hlen, hsl, b1, b2, b3, lf, lt, f2, t2, f3, t3, hrf, hrt, head_td, w1, w2, w3, e1, e2, e3, e4, ckOk, bne_iff_ne, rowI_setF, k1, get_put_self, get_put_ne, get_bump, put_put, -lenOfV, -isSl, -rowI_set]
    exact hNo (fun h => k1 h.1) _ (fun t ht => by simp (disch := omega) only [upd_ne])

set_option maxHeartbeats 4000000 in
set_option maxRecDepth 20000 in
theorem ir49_g_wp {n : Net} {N : Nat} (hN : n.nodes = N) {v : Value} {fl : List Int} {fo : Bool} {ab db bb fb nb i kf kt : Nat} {a : Arc} {φ : Int} {dist byf : Int → Int} {m : Mem} {σ : Slots} (hlen : lenOfV v = n.arcs.length) (hsl : isSl v = true) (hal : n.arcs.length ≤ 2500) (hi : i < n.arcs.length)
    (ga : m.get ab = some ⟨arcC a, true⟩) (gn : m.get nb = some ⟨netC n v, true⟩) (gf : m.get fb = some ⟨fl.map (Value.int .i64 ·), fo⟩) (gd : m.get db = some ⟨rowI N dist, true⟩) (gb : m.get bb = some ⟨rowI N byf, true⟩) (hφ : fl[i]? = some φ) (hfl : fl.length = n.arcs.length) (hkf : a.f = kf) (hkt : a.t = kt) (lf : kf < N) (lt : kt < N) (ak : 0 ≤ a.k ∧ a.k ≤ 1000) (hd : ∀ v, 0 ≤ dist v ∧ dist v ≤ 1099511627776)
    (e1 : ab ≠ db) (e2 : nb ≠ db) (e3 : bb ≠ db) (e4 : fb ≠ db) (s1 : σ 1 = .slice (some ⟨fb, 0, none⟩) fl.length 1) (s2 : σ 2 = ptr nb) (s6 : σ 6 = .slice (some ⟨db, 0, none⟩) N 1) (s7 : σ 7 = .slice (some ⟨bb, 0, none⟩) N 1) (s10 : σ 10 = I i) (s11 : σ 11 = ptr ab) {Q : IExit → Slots → Mem → Prop}
    (hY : 0 < φ ∧ dist kt < 1099511627776 ∧ dist kt - a.k < dist kf → ∀ σ', (∀ t, t < 12 → t ≠ 9 → σ' t = σ t) → σ' 9 = .bool true → Q .normal σ' ((m.put db (some ⟨rowI N (setF dist kf (dist kt - a.k)), true⟩)).put bb (some ⟨rowI N (setF byf kf ((n.arcs.length : Int) + i)), true⟩)))
    (hNo : ¬ (0 < φ ∧ dist kt < 1099511627776 ∧ dist kt - a.k < dist kf) → ∀ σ', (∀ t, t < 12 → σ' t = σ t) → Q .normal σ' m) : WP Try.prog ir49_g σ m Q := by
  have hφ2 : ∀ h, fl[i]'h = φ := fun h => by rw [List.getElem?_eq_getElem h] at hφ; simpa using hφ
  have b1 : i < fl.length := by omega
  have b2 : i + 1 ≤ fl.length := b1
  have b3 : (i : Int) < fl.length := by omega
  have f2 : kf + 1 ≤ N := lf
  have t2 : kt + 1 ≤ N := lt
  have f3 : (kf : Int) < N := by omega
  have t3 : (kt : Int) < N := by omega
  have hri : ∀ (g : Int → Int) (x : Nat), x < N → (rowI N g)[x]? = some (I (g x)) := fun g x hx => rowI_get hx
  have hrf := fun g => hri g kf lf
  have hrt := fun g => hri g kt lt
  have ld := get_lt gd
  have lb := get_lt gb
  have df := hd kf
  have dt := hd kt
  have w1 : IntKind.i64.wrap (dist kf + a.k) = dist kf + a.k := i64_id (by omega) (by omega)
  have w2 : IntKind.i64.wrap (dist kt - a.k) = dist kt - a.k := i64_id (by omega) (by omega)
  have w3 : IntKind.i64.wrap ((n.arcs.length : Int) + i) = n.arcs.length + i := i64_id (by omega) (by omega)
  by_cases k1 : 0 < φ
  · by_cases k2 : dist kt < 1099511627776
    · by_cases k3 : dist kt - a.k < dist kf
      · simp (disch := first | omega | (simp only [next_put, next_bump]; omega)) [ir49_g, s1, s2, s6, s7, s10, s11, ga, gn, gf, gd, gb, arcC, hkf, hkt, hφ, hφ2, hlen, hsl, b1, b2, b3, lf, lt, f2, t2, f3, t3, hrf, hrt, head_td, w1, w2, w3, e1, e2, e3, e4, ckOk, bne_iff_ne, rowI_setF, k1, k2, k3, get_put_self, get_put_ne, get_bump, put_put, -lenOfV, -isSl, -rowI_set]
        exact hY ⟨k1, k2, k3⟩ _ (fun t ht hne => by simp (disch := omega) only [upd_ne]) (by simp)
      · simp (disch := first | omega | (simp only [next_put, next_bump]; omega)) [ir49_g, s1, s2, s6, s7, s10, s11, ga, gn, gf, gd, gb, arcC, hkf, hkt, hφ, hφ2, hlen, hsl, b1, b2, b3, lf, lt, f2, t2, f3, t3, hrf, hrt, head_td, w1, w2, w3, e1, e2, e3, e4, ckOk, bne_iff_ne, rowI_setF, k1, k2, k3, get_put_self, get_put_ne, get_bump, put_put, -lenOfV, -isSl, -rowI_set]
        exact hNo (fun h => k3 h.2.2) _ (fun t ht => by simp (disch := omega) only [upd_ne])
    · simp (disch := first | omega | (simp only [next_put, next_bump]; omega)) [ir49_g, s1, s2, s6, s7, s10, s11, ga, gn, gf, gd, gb, arcC, hkf, hkt, hφ, hφ2, hlen, hsl, b1, b2, b3, lf, lt, f2, t2, f3, t3, hrf, hrt, head_td, w1, w2, w3, e1, e2, e3, e4, ckOk, bne_iff_ne, rowI_setF, k1, k2, get_put_self, get_put_ne, get_bump, put_put, -lenOfV, -isSl, -rowI_set]
      exact hNo (fun h => k2 h.2.1) _ (fun t ht => by simp (disch := omega) only [upd_ne])
  · simp (disch := first | omega | (simp only [next_put, next_bump]; omega)) [ir49_g, s1, s2, s6, s7, s10, s11, ga, gn, gf, gd, gb, arcC, hkf, hkt, hφ, hφ2, hlen, hsl, b1, b2, b3, lf, lt, f2, t2, f3, t3, hrf, hrt, head_td, w1, w2, w3, e1, e2, e3, e4, ckOk, bne_iff_ne, rowI_setF, k1, get_put_self, get_put_ne, get_bump, put_put, -lenOfV, -isSl, -rowI_set]
    exact hNo (fun h => k1 h.1) _ (fun t ht => by simp (disch := omega) only [upd_ne])
end Go.Proofs.Ytapnkfkpkcajjaa
