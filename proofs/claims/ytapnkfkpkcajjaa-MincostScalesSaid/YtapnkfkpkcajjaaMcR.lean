/-
  'MincostBetter'.
-/
import Derived.Test.YtapnkfkpkcajjaaMcQ
namespace Go.Proofs.Ytapnkfkpkcajjaa
open Go Go.DI Go.Nets
set_option linter.unusedSimpArgs false
set_option linter.unusedVariables false

theorem arcsC_set2 : ∀ (l : List Arc) (i : Nat) (a : Arc) (c : Int), l[i]? = some a → (arcsC l).set (i * 4 + 2) (I c) = arcsC (l.set i ⟨a.f, a.t, c, a.k⟩)
  | [], _, _, _, h => by simp at h
  | b :: l, 0, a, c, h => by simp at h; subst h; simp [arcsC, arcC]
  | b :: l, i + 1, a, c, h => by
    have := arcsC_set2 l i a c (by simpa using h)
    rw [show (i + 1) * 4 + 2 = (i * 4 + 2) + 4 by omega]
    simp only [arcsC, List.set_cons_succ, List.map_cons, List.flatten_cons] at this ⊢
    rw [← this]; simp [arcC]
theorem netAt_like {x : Int} : ∀ (ar bs : List Arc) (gs : List Int), bs.length = ar.length → (∀ (j : Nat) a, ar[j]? = some a → ∃ b, bs[j]? = some b ∧ b.f = a.f ∧ b.t = a.t) → netAt bs gs x = netAt ar gs x
  | [], [], _, _, _ => rfl
  | [], _ :: _, _, h, _ => by simp at h
  | _ :: _, [], _, h, _ => by simp at h
  | a :: ar, b :: bs, [], _, _ => by simp [netAt]
  | a :: ar, b :: bs, g :: gs, hl, h => by
    have := netAt_like (x := x) ar bs gs (by simpa using hl) (fun j a ha => by obtain ⟨b, h1, h2⟩ := h (j + 1) a (by simpa using ha); exact ⟨b, by simpa using h1, h2⟩)
    obtain ⟨b', h1, h2, h3⟩ := h 0 a rfl
    simp at h1; subst h1
    simp only [netAt, this, h2, h3]
/-- the caps of the first i arcs are those of a list -/
structure Caps (arcs : List Arc) (fl : List Int) (i : Nat) (al : List Arc) : Prop where
  len : al.length = arcs.length
  get : ∀ (j : Nat) a, arcs[j]? = some a → al[j]? = some (if j < i then ⟨a.f, a.t, fl.getD j 0, a.k⟩ else a)
theorem Caps.start (arcs : List Arc) (fl : List Int) : Caps arcs fl 0 arcs := ⟨rfl, fun j a h => by simp [h]⟩
theorem Caps.step {arcs : List Arc} {fl : List Int} {i : Nat} {al : List Arc} (h : Caps arcs fl i al) {a : Arc} (ha : arcs[i]? = some a) {φ : Int} (hφ : fl[i]? = some φ) : al[i]? = some a ∧ Caps arcs fl (i + 1) (al.set i ⟨a.f, a.t, φ, a.k⟩) := by
  have hi := (List.getElem?_eq_some_iff.1 ha).1
  have hl := h.len
  refine ⟨by rw [h.get i a ha, if_neg (by omega)], by simp [h.len], fun j b hb => ?_⟩
  rw [List.getElem?_set]
  by_cases hij : i = j
  · subst hij
    rw [ha] at hb; cases hb
    rw [if_pos rfl, if_pos (by omega), if_pos (by omega), List.getD_eq_getElem?_getD, hφ]; rfl
  · rw [if_neg hij, h.get j b hb]
    by_cases hj : j < i
    · rw [if_pos hj, if_pos (by omega)]
    · rw [if_neg hj, if_neg (by omega)]
theorem Caps.net {n : Net} (hV : n.Valid) {fl : List Int} {al : List Arc} (h : Caps n.arcs fl n.arcs.length al) (hb : ∀ (j : Nat) a φ, n.arcs[j]? = some a → fl[j]? = some φ → 0 ≤ φ ∧ φ ≤ a.c) (hl : fl.length = n.arcs.length) :
    (⟨n.nodes, n.src, n.snk, al⟩ : Net).Valid ∧ ∀ g, IsFlow ⟨n.nodes, n.src, n.snk, al⟩ g → IsFlow n g ∧ value ⟨n.nodes, n.src, n.snk, al⟩ g = value n g := by
  have get : ∀ (j : Nat) a, n.arcs[j]? = some a → ∃ φ, al[j]? = some ⟨a.f, a.t, φ, a.k⟩ ∧ 0 ≤ φ ∧ φ ≤ a.c := fun j a ha => by
    have hj := (List.getElem?_eq_some_iff.1 ha).1
    have h1 := h.get j a ha
    rw [if_pos hj] at h1
    obtain ⟨φ, hφ⟩ : ∃ φ, fl[j]? = some φ := ⟨fl[j]'(by omega), by simp⟩
    have e : fl.getD j 0 = φ := by rw [List.getD_eq_getElem?_getD, hφ]; rfl
    rw [e] at h1
    exact ⟨φ, h1, hb j a φ ha hφ⟩
  have like : ∀ g x, netAt al g x = netAt n.arcs g x := fun g x => netAt_like n.arcs al g h.len fun j a ha => by
    obtain ⟨φ, h1, _⟩ := get j a ha
    exact ⟨_, h1, rfl, rfl⟩
  refine ⟨⟨hV.n2, hV.n7, by show al.length ≤ 2500; rw [h.len]; exact hV.al, hV.src, hV.snk, hV.ne, fun x hx => ?_⟩, fun g hg => ⟨⟨⟨by rw [hg.bnd.1]; exact h.len, fun j a φ ha hφ => ?_⟩, fun x h1 h2 h3 => ?_⟩, like g _⟩⟩
  · obtain ⟨j, hj, rfl⟩ := List.getElem_of_mem hx
    obtain ⟨a, ha⟩ : ∃ a, n.arcs[j]? = some a := ⟨n.arcs[j]'(by have := h.len; simp only at hj; omega), by simp⟩
    obtain ⟨φ, h1, h2, h3⟩ := get j a ha
    simp only at hj
    rw [List.getElem?_eq_getElem hj] at h1
    have h1' : al[j] = ⟨a.f, a.t, φ, a.k⟩ := by simpa using h1
    obtain ⟨o1, o2, o3, o4⟩ := hV.arc a (List.mem_of_getElem? ha)
    simp only [h1']
    exact ⟨o1, o2, h2, by show φ ≤ 2147483647; omega⟩
  · obtain ⟨ψ, h1, h2, h3⟩ := get j a ha
    have := hg.bnd.2 j _ φ h1 hφ
    simp only at this; omega
  · rw [← like]; exact hg.con x h1 h2 h3
theorem Caps.netC {n : Net} {v : Value} {al : List Arc} : netC n v = netC ⟨n.nodes, n.src, n.snk, al⟩ v := rfl

set_option maxHeartbeats 4000000 in
set_option maxRecDepth 20000 in
theorem bet_loop0 {n : Net} (hS : Small n) {v : Value} {nb fb tb : Nat} {tv : Value} {l : List Int} {m0 : Mem} (hn : m0.get nb = some ⟨netC n v, true⟩) (hv : Arcs m0 v n.arcs) (h1 : nb ≠ tb) (h2 : nb ≠ fb) (h3 : tb ≠ fb) (hfb : fb < m0.next) (hvb : ∀ b l c, v = .slice (some ⟨b, 0, none⟩) l c → b ≠ fb ∧ b ≠ tb) (htb : ∀ b l c, tv = .slice (some ⟨b, 0, none⟩) l c → b ≠ fb) {Q : IExit → Slots → Mem → Prop} :
    ∀ (r i : Nat) (m : Mem) (σ : Slots) (fl : List Int) (pos : Nat), i + r = n.arcs.length → m0.next ≤ m.next → (∀ b, b < m0.next → b ≠ tb → b ≠ fb → m.get b = m0.get b) → Tp tb tv l pos m → m.get fb = some ⟨fl.map (Value.int .i64 ·), true⟩ → fl.length = n.arcs.length → (∀ (j : Nat) a φ, j < i → n.arcs[j]? = some a → fl[j]? = some φ → 0 ≤ φ ∧ φ ≤ a.c) →
    σ 5 = ptr nb → σ 6 = ptr tb → σ 7 = .slice (some ⟨fb, 0, none⟩) n.arcs.length 1 → σ 8 = I i →
    (∀ σ' m' (fl' : List Int), m0.next ≤ m'.next → (∀ b, b < m0.next → b ≠ tb → b ≠ fb → m'.get b = m0.get b) → m'.get fb = some ⟨fl'.map (Value.int .i64 ·), true⟩ → fl'.length = n.arcs.length → (∀ (j : Nat) a φ, n.arcs[j]? = some a → fl'[j]? = some φ → 0 ≤ φ ∧ φ ≤ a.c) → (∀ t, t < 8 → σ' t = σ t) → Q (.exit 0) σ' m') → WP Try.prog (.loop ir13_l0) σ m Q
  | 0, i, m, σ, fl, pos, hi, hlo, hold, hT, hf, hfl, hb, s5, s6, s7, s8, hQ => by
    refine wp_round fun J hJ => ?_
    have h1 : ¬ (i : Int) < n.arcs.length := by omega
    have h1' : ¬ i < n.arcs.length := by omega
    simp (disch := first | omega | (simp only [next_put, next_bump]; omega)) [ir13_l0, s7, s8, h1, h1', get_put_self, get_put_ne, get_bump, put_put]
    exact hQ _ _ fl hlo hold hf hfl (fun j a φ ha hφ => hb j a φ (by have := (List.getElem?_eq_some_iff.1 ha).1; omega) ha hφ) (fun t ht => by simp (disch := omega) only [upd_ne])
  | r + 1, i, m, σ, fl, pos, hi, hlo, hold, hT, hf, hfl, hb, s5, s6, s7, s8, hQ => by
    refine wp_round fun J hJ => ?_
    have k1 : i < n.arcs.length := by omega
    have k1' : (i : Int) < n.arcs.length := by omega
    obtain ⟨a, ha⟩ : ∃ a, n.arcs[i]? = some a := ⟨n.arcs[i]'k1, by simp⟩
    obtain ⟨a1, a2, a3, a4⟩ := hS.arc a (List.mem_of_getElem? ha)
    have l15 := hS.l15
    obtain ⟨c, o, rfl, hc⟩ := hv.blk k1
    obtain ⟨c1, c2⟩ := hvb _ _ _ rfl
    have hgn : m.get nb = some ⟨netC n (.slice (some ⟨c, 0, none⟩) n.arcs.length 4), true⟩ := by rw [hold nb (get_lt hn) h1 h2]; exact hn
    have hgc : m.get c = some ⟨arcsC n.arcs, o⟩ := by rw [hold c (get_lt hc) c2 c1]; exact hc
    have q2 := arcs_get ha (j := 2) (by omega)
    simp [arcC] at q2
    have b3 : i * 4 + 3 ≤ n.arcs.length * 4 := by omega
    have b4 : i * 4 + 4 ≤ n.arcs.length * 4 := by omega
    have w0 : IntKind.i64.wrap ((i : Int) + 1) = (i : Int) + 1 := i64_id (by omega) (by omega)
    have w1 : IntKind.i64.wrap (a.c + 1) = a.c + 1 := i64_id (by omega) (by omega)
    simp (disch := first | omega | (simp only [next_put, next_bump]; omega)) [ir13_l0, s5, s6, s7, s8, k1, k1', hgn, hgc, q2, b3, b4, head_td, w1, get_put_self, get_put_ne, get_bump, put_put]
    refine (next_wp hT (by omega)).mono fun r' m1 hp => ?_
    obtain ⟨x, pos', rfl, x1, x2, o1, n1, T1⟩ := hp
    have x3 := x2 (by omega)
    have hf1 : m1.get fb = some ⟨fl.map (Value.int .i64 ·), true⟩ := o1.some hf (Ne.symm h3)
    have lf1 := get_lt hf1
    have b5 : i < fl.length := by omega
    have b6 : i + 1 ≤ fl.length := b5
    have b7 : (i : Int) < fl.length := by omega
    have b8 : i + 1 ≤ n.arcs.length := k1
    simp (disch := first | omega | (simp only [next_put, next_bump]; omega)) [s5, s6, s7, s8, k1, k1', hf1, b5, b6, b7, b8, w0, hfl, get_put_self, get_put_ne, get_bump, put_put]
    refine hJ _ _ (bet_loop0 (l := l) hS hn hv h1 h2 h3 hfb hvb htb r (i + 1) _ _ (fl.set i x) pos' (by omega) (by simp only [next_put]; omega) (fun b b1 b2 b3 => ?_) ?_ ?_ (by simp [hfl]) (fun j b φ hj hb' hφ => ?_) (by simp [s5]) (by simp [s6]) (by simp [s7]) (by simp) (fun σ' m' fl' g1 g2 g3 g4 g5 g6 => hQ σ' m' fl' g1 g2 g3 g4 g5 (fun t ht => by rw [g6 t ht]; simp (disch := omega) only [upd_ne])))
    · rw [get_put_ne b3, o1.get b (by omega) b2, hold b b1 b2 b3]
    · exact T1.keep (get_put_ne h3) (fun b n' c' hb => get_put_ne (htb b n' c' hb))
    · rw [← ints_set]; exact get_put_self lf1
    · rw [List.getElem?_set] at hφ
      by_cases hij : i = j
      · subst hij
        rw [ha] at hb'; cases hb'
        rw [if_pos rfl, if_pos b5] at hφ
        cases hφ; omega
      · rw [if_neg hij] at hφ
        exact hb j b φ (by omega) hb' hφ

set_option maxHeartbeats 4000000 in
set_option maxRecDepth 20000 in
theorem bet_loop1 {n : Net} (hal : n.arcs.length ≤ 2500) {v : Value} {mb fb cb : Nat} {fl : List Int} (hfl : fl.length = n.arcs.length) {m0 : Mem} (hn : m0.get mb = some ⟨netC n (.slice (some ⟨cb, 0, none⟩) n.arcs.length 4), true⟩) (hf : m0.get fb = some ⟨fl.map (Value.int .i64 ·), true⟩) (h1 : mb ≠ cb) (h2 : fb ≠ cb) (hcb : cb < m0.next) {Q : IExit → Slots → Mem → Prop} :
    ∀ (r i : Nat) (m : Mem) (σ : Slots) (al : List Arc), i + r = n.arcs.length → m0.next ≤ m.next → (∀ b, b < m0.next → b ≠ cb → m.get b = m0.get b) → m.get cb = some ⟨arcsC al, true⟩ → Caps n.arcs fl i al →
    σ 11 = ptr mb → σ 7 = .slice (some ⟨fb, 0, none⟩) n.arcs.length 1 → σ 12 = I i →
    (∀ σ' m' al', m0.next ≤ m'.next → (∀ b, b < m0.next → b ≠ cb → m'.get b = m0.get b) → m'.get cb = some ⟨arcsC al', true⟩ → Caps n.arcs fl n.arcs.length al' → (∀ t, t < 12 → σ' t = σ t) → Q (.exit 2) σ' m') → WP Try.prog (.loop ir13_l1) σ m Q
  | 0, i, m, σ, al, hi, hlo, hold, hc, hC, s11, s7, s12, hQ => by
    refine wp_round fun J hJ => ?_
    have h1 : ¬ (i : Int) < n.arcs.length := by omega
    have h1' : ¬ i < n.arcs.length := by omega
    obtain rfl : i = n.arcs.length := by omega
    simp (disch := first | omega | (simp only [next_put, next_bump]; omega)) [ir13_l1, s7, s12, h1, h1', get_put_self, get_put_ne, get_bump, put_put]
    exact hQ _ _ al hlo hold hc hC (fun t ht => by simp (disch := omega) only [upd_ne])
  | r + 1, i, m, σ, al, hi, hlo, hold, hc, hC, s11, s7, s12, hQ => by
    refine wp_round fun J hJ => ?_
    have k1 : i < n.arcs.length := by omega
    have k1' : (i : Int) < n.arcs.length := by omega
    obtain ⟨a, ha⟩ : ∃ a, n.arcs[i]? = some a := ⟨n.arcs[i]'k1, by simp⟩
    obtain ⟨φ, hφ⟩ : ∃ φ, fl[i]? = some φ := ⟨fl[i]'(by omega), by simp⟩
    have hφ2 : ∀ h, fl[i]'h = φ := fun h => by rw [List.getElem?_eq_getElem h] at hφ; simpa using hφ
    have hgn : m.get mb = some ⟨netC n (.slice (some ⟨cb, 0, none⟩) n.arcs.length 4), true⟩ := by rw [hold mb (get_lt hn) h1]; exact hn
    have hgf : m.get fb = some ⟨fl.map (Value.int .i64 ·), true⟩ := by rw [hold fb (get_lt hf) h2]; exact hf
    obtain ⟨hai, hC2⟩ := hC.step ha hφ
    have hset := arcsC_set2 al i a φ hai
    have lc := get_lt hc
    have hl := hC.len
    have b3 : i * 4 + 3 ≤ n.arcs.length * 4 := by omega
    have b4 : i * 4 + 4 ≤ n.arcs.length * 4 := by omega
    have b5 : i < fl.length := by omega
    have b6 : i + 1 ≤ fl.length := b5
    have b8 : i + 1 ≤ n.arcs.length := k1
    have w0 : IntKind.i64.wrap ((i : Int) + 1) = (i : Int) + 1 := i64_id (by omega) (by omega)
    simp (disch := first | omega | (simp only [next_put, next_bump]; omega)) [ir13_l1, s11, s7, s12, k1, k1', hgn, hgf, hc, hl, hset, hφ, hφ2, b3, b4, b5, b6, b8, head_td, w0, hfl, get_put_self, get_put_ne, get_bump, put_put]
    refine hJ _ _ (bet_loop1 hal (v := v) hfl hn hf h1 h2 hcb r (i + 1) _ _ (al.set i ⟨a.f, a.t, φ, a.k⟩) (by omega) (by simp only [next_put]; omega) (fun b b1 b2 => by rw [get_put_ne b2, hold b b1 b2]) (get_put_self lc) hC2 (by simp [s11]) (by simp [s7]) (by simp) (fun σ' m' al' g1 g2 g3 g4 g5 => hQ σ' m' al' g1 g2 g3 g4 (fun t ht => by rw [g5 t ht]; simp (disch := omega) only [upd_ne])))
def ir13_tail : ICode := .seq (.region [
    ⟨0, some 85, none, .load true 4 (.tmp 5), []⟩,
    ⟨1, some 86, none, .mov (.tmp 7), []⟩,
    ⟨2, some 87, none, .call 38 [.tmp 85, .tmp 86], []⟩,
    ⟨3, some 84, none, .mov (.tmp 87), []⟩,
    ⟨4, some 88, none, .ext 0 (.tmp 84), []⟩,
    ⟨5, some 89, none, .ext 1 (.tmp 84), []⟩,
    ⟨6, some 13, none, .mov (.tmp 88), []⟩,
    ⟨7, some 14, none, .mov (.tmp 89), []⟩]) (.seq (.region [
    ⟨0, some 91, none, .load true 4 (.tmp 5), []⟩,
    ⟨1, some 92, none, .mov (.tmp 9), []⟩,
    ⟨2, some 93, none, .call 35 [.tmp 91, .tmp 92], []⟩,
    ⟨3, some 90, none, .mov (.tmp 93), []⟩,
    ⟨4, some 94, none, .ext 0 (.tmp 90), []⟩,
    ⟨5, some 95, none, .ext 1 (.tmp 90), []⟩,
    ⟨6, some 15, none, .mov (.tmp 94), []⟩,
    ⟨7, some 16, none, .mov (.tmp 95), []⟩]) (.seq (.region [
    ⟨0, some 96, none, .mov (.tmp 14), []⟩,
    ⟨1, some 97, none, .mov (.tmp 96), []⟩,
    ⟨2, some 98, some (97, true), .mov (.tmp 16), []⟩,
    ⟨3, some 99, none, .pick (.tmp 97) (.tmp 98) (.const (.bool false)), []⟩,
    ⟨4, some 100, none, .mov (.tmp 99), []⟩,
    ⟨5, some 101, some (100, true), .mov (.tmp 15), []⟩,
    ⟨6, some 102, some (100, true), .mov (.tmp 13), []⟩,
    ⟨7, some 103, some (100, true), .bin .leq .other (.tmp 101) (.tmp 102), []⟩,
    ⟨8, some 104, none, .pick (.tmp 100) (.tmp 103) (.const (.bool false)), []⟩,
    ⟨9, some 105, none, .mov (.tmp 104), []⟩,
    ⟨10, some 106, some (105, true), .call 31 [], []⟩,
    ⟨11, some 107, none, .pick (.tmp 105) (.tmp 106) (.const (.bool false)), []⟩,
    ⟨12, some 4, none, .mov (.tmp 107), []⟩]) (.ret)))
def ir13_else : ICode := .seq (.region [
     ⟨0, some 56, none, .load true 4 (.tmp 5), []⟩,
     ⟨1, some 11, none, .alloc [.int .i64 0, .int .i64 0, .int .i64 0, .slice none 0 0], []⟩,
     ⟨2, none, none, .store 4 (.tmp 11) (.tmp 56), []⟩]) (.seq (.region [
     ⟨0, some 57, none, .bslice 4 0 [] [], []⟩,
     ⟨1, some 58, none, .faddr 3 (.tmp 5), []⟩,
     ⟨2, some 59, none, .load false 1 (.tmp 58), []⟩,
     ⟨3, some 60, none, .app 4 32 (.tmp 57) (.tmp 59), []⟩,
     ⟨4, some 61, none, .faddr 3 (.tmp 11), []⟩,
     ⟨5, none, none, .store 1 (.tmp 61) (.tmp 60), []⟩]) (.seq (.seq (.region [
     ⟨0, some 12, none, .mov (.const (.int .i64 0)), []⟩]) (.block 2 (.loop ir13_l1))) (.region [
     ⟨0, some 78, none, .load true 4 (.tmp 11), []⟩,
     ⟨1, some 79, none, .call 29 [.tmp 78], []⟩,
     ⟨2, some 77, none, .mov (.tmp 79), []⟩,
     ⟨3, some 80, none, .ext 0 (.tmp 77), []⟩,
     ⟨4, some 81, none, .ext 1 (.tmp 77), []⟩,
     ⟨5, some 82, none, .ext 2 (.tmp 77), []⟩,
     ⟨6, some 83, none, .ext 3 (.tmp 77), []⟩,
     ⟨7, some 7, none, .mov (.tmp 80), []⟩,
     ⟨8, some 9, none, .mov (.tmp 81), []⟩])))
theorem ir13_b_n : ir13_b = (.seq (.region [
    ⟨0, some 4, none, .mov (.const (.bool false)), []⟩]) (.seq (.region [
    ⟨0, some 17, none, .mov (.tmp 0), []⟩,
    ⟨1, some 18, none, .call 27 [.tmp 17], []⟩,
    ⟨2, some 19, none, .call 28 [.tmp 18], []⟩,
    ⟨3, some 5, none, .alloc [.int .i64 0, .int .i64 0, .int .i64 0, .slice none 0 0], []⟩,
    ⟨4, none, none, .store 4 (.tmp 5) (.tmp 19), []⟩]) (.seq (.region [
    ⟨0, some 20, none, .mov (.tmp 1), []⟩,
    ⟨1, some 21, none, .call 27 [.tmp 20], []⟩,
    ⟨2, some 6, none, .mov (.tmp 21), []⟩]) (.seq (.region [
    ⟨0, some 22, none, .faddr 3 (.tmp 5), []⟩,
    ⟨1, some 23, none, .load false 1 (.tmp 22), []⟩,
    ⟨2, some 24, none, .lenV (.tmp 23), []⟩,
    ⟨3, some 25, none, .mkslice 1 8 [.int .i64 0] (.tmp 24) (.tmp 24), []⟩,
    ⟨4, some 7, none, .mov (.tmp 25), []⟩]) (.seq (.seq (.region [
    ⟨0, some 8, none, .mov (.const (.int .i64 0)), []⟩]) (.block 0 (.loop ir13_l0))) (.seq (.region [
    ⟨0, some 45, none, .load true 4 (.tmp 5), []⟩,
    ⟨1, some 46, none, .mov (.tmp 7), []⟩,
    ⟨2, some 47, none, .call 18 [.tmp 45, .tmp 46], []⟩,
    ⟨3, some 44, none, .mov (.tmp 47), []⟩,
    ⟨4, some 48, none, .ext 0 (.tmp 44), []⟩,
    ⟨5, some 49, none, .ext 1 (.tmp 44), []⟩,
    ⟨6, some 9, none, .mov (.tmp 48), []⟩,
    ⟨7, some 10, none, .mov (.tmp 49), []⟩]) (.seq (.seq (.region [
    ⟨0, some 50, none, .mov (.tmp 10), []⟩,
    ⟨1, some 51, none, .un .not (.tmp 50), []⟩,
    ⟨2, some 52, none, .mov (.tmp 51), []⟩,
    ⟨3, some 53, some (52, false), .mov (.tmp 9), []⟩,
    ⟨4, some 54, some (52, false), .bin .lss .other (.tmp 53) (.const (.int .i64 0)), []⟩,
    ⟨5, some 55, none, .pick (.tmp 52) (.const (.bool true)) (.tmp 54), []⟩]) (.cond (.tmp 55) (ir13_else) (.skip))) (ir13_tail))))))) : ICode) := rfl

set_option maxHeartbeats 8000000 in
set_option maxRecDepth 20000 in
theorem ir13_tail_wp {n : Net} (hmb : mvB n = true) {v w : Value} {nb : Nat} {m : Mem} (hn : m.get nb = some ⟨netC n v, true⟩) (hv : Arcs m v n.arcs) {fl : List Int} (hw : Ints m w fl) (hf : IsFlow n fl) (h0 : 0 ≤ value n fl) {σ : Slots} (s5 : σ 5 = ptr nb) (s7 : σ 7 = w) (s9 : σ 9 = I (value n fl)) {Q : IExit → Slots → Mem → Prop} (hQ : ∀ σ' m', σ' 4 = .bool true → Q .ret σ' m') : WP Try.prog ir13_tail σ m Q := by
  obtain ⟨hV, _⟩ := mvB_iff.1 hmb
  simp (disch := first | omega | (simp only [next_put, next_bump]; omega)) [ir13_tail, s5, s7, hn, get_put_self, get_put_ne, get_bump, put_put]
  refine (cost_wp (n := n) (fl := fl) hv hw (by have := hV.al; omega)).mono fun r m1 hp => ?_
  obtain ⟨rfl, o1⟩ := hp
  have hcr : costR n fl = (costL n.arcs fl, true) := by simp [costR, valueR_of hV hf, hmb]
  have g1 := o1.some hn
  simp (disch := first | omega | (simp only [next_put, next_bump]; omega)) [s5, s7, s9, g1, hcr, get_put_self, get_put_ne, get_bump, put_put]
  refine (msolved_wp hmb (hv.mono o1) hf (amount := value n fl) h0 (Int.le_refl _)).mono fun r m2 hp => ?_
  obtain ⟨o2, fl2, p, rfl, hf2, hval, hopt⟩ := hp
  have hle := hopt.least hV hf2 hf
  have e : value n fl - value n fl2 = 0 := by omega
  rw [e, Int.mul_zero, Int.add_zero] at hle
  simp (disch := first | omega | (simp only [next_put, next_bump]; omega)) [hle, get_put_self, get_put_ne, get_bump, put_put]
  refine maw_wp _ _ fun m' => ?_
  simp
  exact hQ _ _ (by simp)

set_option maxHeartbeats 8000000 in
set_option maxRecDepth 20000 in
theorem ir13_else_wp {n : Net} (hS : Small n) {v : Value} {nb fb : Nat} {m : Mem} (hn : m.get nb = some ⟨netC n v, true⟩) (hv : Arcs m v n.arcs) {fl : List Int} (hf : m.get fb = some ⟨fl.map (Value.int .i64 ·), true⟩) (hfl : fl.length = n.arcs.length) (hb : ∀ (j : Nat) a φ, n.arcs[j]? = some a → fl[j]? = some φ → 0 ≤ φ ∧ φ ≤ a.c) {σ : Slots} (s5 : σ 5 = ptr nb) (s7 : σ 7 = .slice (some ⟨fb, 0, none⟩) n.arcs.length 1) {Q : IExit → Slots → Mem → Prop}
    (hQ : ∀ σ' m' w fl', Old m m' → Ints m' w fl' → IsFlow n fl' → 0 ≤ value n fl' → σ' 5 = ptr nb → σ' 7 = w → σ' 9 = I (value n fl') → Q .normal σ' m') : WP Try.prog ir13_else σ m Q := by
  have hV := hS.valid
  have l2 := hS.l2
  have l15 := hS.l15
  obtain ⟨c, co, rfl, hc⟩ := hv.blk (i := 0) (by omega)
  have lc := get_lt hc
  have ln := get_lt hn
  have lf := get_lt hf
  have k0' : ¬ n.arcs.length = 0 := by omega
  have k0'' : ¬ n.arcs = [] := fun h => by rw [h] at l2; simp at l2
  have z1 : n.arcs.length * 32 ≤ 140737488355328 := by omega
  have z2 : n.arcs.length ≤ 9223372036854775807 := by omega
  have z3 : List.take (n.arcs.length * 4) (arcsC n.arcs) = arcsC n.arcs := List.take_of_length_le (by simp)
  simp (disch := first | omega | (simp only [next_put, next_bump]; omega)) [ir13_else, s5, s7, hn, hc, z1, z2, z3, k0', k0'', get_put_self, get_put_ne, get_bump, put_put]
  generalize hM : ((((((m.bump 3).put (m.next + 1) (some ⟨[I n.nodes, I n.src, I n.snk, .slice (some ⟨c, 0, none⟩) n.arcs.length 4], true⟩)).bump 6).put (m.next + 3) none).put (m.next + 3 + 3) (some ⟨arcsC n.arcs, true⟩)).put (m.next + 1) (some ⟨[I n.nodes, I n.src, I n.snk, .slice (some ⟨m.next + 3 + 3, 0, none⟩) n.arcs.length 4], true⟩)) = M
  have hMn : M.next = m.next + 9 := by rw [← hM]; simp
  have hMo : Old m M := ⟨by omega, fun b hb => by rw [← hM]; simp (disch := first | omega | (simp only [next_put, next_bump]; omega)) only [get_put_ne, get_bump]⟩
  have gm : M.get (m.next + 1) = some ⟨netC n (.slice (some ⟨m.next + 3 + 3, 0, none⟩) n.arcs.length 4), true⟩ := by
    rw [← hM]; simp (disch := first | omega | (simp only [next_put, next_bump]; omega)) only [get_put_self]
  have gc : M.get (m.next + 3 + 3) = some ⟨arcsC n.arcs, true⟩ := by
    rw [← hM]; simp (disch := first | omega | (simp only [next_put, next_bump]; omega)) only [get_put_self, get_put_ne]
  refine bet_loop1 (n := n) (by omega) (v := .slice none 0 0) (mb := m.next + 1) (fb := fb) (cb := m.next + 3 + 3) hfl gm (hMo.some hf) (by omega) (by omega) (by omega) n.arcs.length 0 M _ n.arcs (by omega) (Nat.le_refl _) (fun _ _ _ => rfl) gc (.start _ _) (by simp) (by simp [s7]) (by simp) (fun σ1 m1 al f1 f2 f3 f4 f5 => ?_)
  obtain ⟨hV', hlike⟩ := f4.net hV hb hfl
  have ho1 : Old m m1 := ⟨by omega, fun b hb => by rw [f2 b (by omega) (by omega), hMo.get b hb]⟩
  have gm1 : m1.get (m.next + 1) = some ⟨netC n (.slice (some ⟨m.next + 3 + 3, 0, none⟩) n.arcs.length 4), true⟩ := by rw [f2 _ (by omega) (by omega)]; exact gm
  have q5 : σ1 5 = ptr nb := by rw [f5 5 (by omega)]; simp [s5]
  have q11 : σ1 11 = ptr (m.next + 1) := by rw [f5 11 (by omega)]; simp
  simp (disch := first | omega | (simp only [next_put, next_bump]; omega)) [q11, gm1, get_put_self, get_put_ne, get_bump, put_put]
  refine (rsolve2_wp (n := ⟨n.nodes, n.src, n.snk, al⟩) hV' (.inr ⟨m.next + 3 + 3, true, by simp [f4.len], f3⟩)).mono fun r m2 hp => ?_
  obtain ⟨o2, w, fl', u, rfl, hw, hf', hcut⟩ := hp
  obtain ⟨hff, hvv⟩ := hlike fl' hf'
  have h0 := (hcut.nonneg hV').1
  simp (disch := first | omega | (simp only [next_put, next_bump]; omega)) [put_put, get_put_self, get_put_ne, get_bump, put_put]
  exact hQ _ _ w fl' (ho1.trans o2) hw hff (by omega) (by simp [q5]) (by simp) (by simp [hvv])

set_option maxHeartbeats 8000000 in
set_option maxRecDepth 20000 in
theorem mcBetter_wp {v v2 : Value} {l lb : List Int} {m : Mem} (hv : ByteS m v l) (hb : ∀ x ∈ l, 0 ≤ x ∧ x < 256) (hv2 : ByteS m v2 lb) (hb2 : ∀ x ∈ lb, 0 ≤ x ∧ x < 256) : WPCall Try.prog 13 [v, v2] m fun r _ => r = .bool true := by
  rw [call13 (by simp)]
  simp (disch := first | omega | (simp only [next_put, next_bump]; omega)) [ir13_b_n, get_put_self, get_put_ne, get_bump, put_put]
  refine (new_wp (hv.bmp 5) hb).mono fun r m1 hp => ?_
  obtain ⟨tb, tv, l', rfl, htb, o1, hT⟩ := hp
  simp only [next_bump] at htb
  simp
  refine (network_wp hT).mono fun r m2 hp => ?_
  obtain ⟨n, nv, rfl, hA, hS, o2⟩ := hp
  have hV := hS.valid
  have hmb := hS.mv
  have n1 := o1.next
  have n2 := o2.next
  simp only [next_bump] at n1
  have free : m2.get (m.next + 3) = none := by rw [o2.get _ (by omega) (by omega), o1.get _ (by simp only [next_bump]; omega), none_bump (by omega)]
  simp (disch := first | omega | (simp only [next_put, next_bump]; omega)) [free, get_put_self, get_put_ne, get_bump, put_put]
  obtain ⟨m3, hm3⟩ : ∃ m3, m3 = m2.put (m.next + 3) (some ⟨[I n.nodes, I n.src, I n.snk, nv], true⟩) := ⟨_, rfl⟩
  rw [← hm3]
  have hA3 : Arcs m3 nv n.arcs := by rw [hm3]; exact hA.putF free _
  have g3 : m3.get (m.next + 3) = some ⟨netC n nv, true⟩ := by rw [hm3]; exact get_put_self (by omega)
  have hv3 : ByteS m3 v2 lb := by
    rcases hv2 with h | ⟨b, o, h, h'⟩
    · exact .inl h
    · have lb := get_lt h'
      exact .inr ⟨b, o, h, by rw [hm3, get_put_ne (by omega), o2.get b (by omega) (by omega), o1.get b (by simp only [next_bump]; omega), get_bump lb]; exact h'⟩
  refine (new_wp hv3 hb2).mono fun r m4 hp => ?_
  obtain ⟨tb2, tv2, l2, rfl, htb2, o4, hT2⟩ := hp
  have g4 := o4.some g3
  have l4 := get_lt g4
  have l3 := get_lt g3
  have hA4 := hA3.mono o4
  obtain ⟨hlen, hsl⟩ := hA4.len
  have al15 := hS.l15
  have al2 := hS.l2
  have z1 : (n.arcs.length : Int) * 8 ≤ 140737488355328 := by omega
  have z2 : (n.arcs.length : Int) ≤ 9223372036854775807 := by omega
  have z3 : n.arcs.length * 8 ≤ 140737488355328 := by omega
  have z4 : n.arcs.length ≤ 9223372036854775807 := by omega
  simp (disch := first | omega | (simp only [next_put, next_bump]; omega)) [g4, hlen, hsl, z1, z2, z3, z4, get_put_self, get_put_ne, get_bump, put_put, -lenOfV, -isSl]
  have hnvb : ∀ b l c, nv = .slice (some ⟨b, 0, none⟩) l c → b < m3.next := by
    intro b l c he
    rcases hA3 with ⟨h, _⟩ | ⟨b', o, h, hb⟩
    · rw [h] at he; cases he
    · rw [h] at he; cases he; exact get_lt hb
  have hlt2 := hT2.lt
  have o5 : Old m4 ((m4.bump 5).put (m4.next + 3) (some ⟨List.replicate n.arcs.length (Value.int .i64 0), true⟩)) := ((Old.refl m4).bump 5).put (by omega)
  refine bet_loop0 hS (l := l2) (tv := tv2) (tb := tb2) (nb := m.next + 3) (fb := m4.next + 3) (v := nv) (o5.some g4) (hA4.mono o5) (by omega) (by omega) (by omega) (by simp only [next_put, next_bump]; omega) (fun b l c h => by have := hnvb b l c h; omega) (fun b l c h => by have := (hT2.dlt b l c h).1; omega) n.arcs.length 0 _ _ (List.replicate n.arcs.length 0) 0 (by omega) (Nat.le_refl _) (fun _ _ _ _ => rfl) (hT2.mono fun b x hb => o5.some hb) (by rw [get_put_self (by simp only [next_bump]; omega), List.map_replicate]) (by simp) (fun j a φ hj => by omega) (by simp) (by simp) (by simp) (by simp) (fun σ1 m6 fl f1 f2 f3 f4 f5 f6 => ?_)
  have q5 : σ1 5 = ptr (m.next + 3) := by rw [f6 5 (by omega)]; simp
  have q7 : σ1 7 = .slice (some ⟨m4.next + 3, 0, none⟩) n.arcs.length 1 := by rw [f6 7 (by omega)]; simp
  have g6 : m6.get (m.next + 3) = some ⟨netC n nv, true⟩ := by rw [f2 _ (by simp only [next_put, next_bump]; omega) (by omega) (by omega)]; exact o5.some g4
  have hA6 : Arcs m6 nv n.arcs := by
    rcases hA4.mono o5 with h | ⟨b, o, h, hb⟩
    · exact .inl h
    · have := hnvb _ _ _ h
      exact .inr ⟨b, o, h, by rw [f2 b (get_lt hb) (by omega) (by omega)]; exact hb⟩
  have hw6 : Ints m6 (.slice (some ⟨m4.next + 3, 0, none⟩) n.arcs.length 1) fl := .inr ⟨_, _, by rw [f4], f3⟩
  simp (disch := first | omega | (simp only [next_put, next_bump]; omega)) [q5, q7, g6, get_put_self, get_put_ne, get_bump, put_put]
  refine (rvalue_wp (n := n) hA6 hw6).mono fun r m7 hp => ?_
  obtain ⟨rfl, o7⟩ := hp
  have g7 := o7.some g6
  have hA7 := hA6.mono o7
  have fin : ∀ (σ2 : Slots) (m8 : Mem) (w : Value) (fl' : List Int), Old m7 m8 → Ints m8 w fl' → IsFlow n fl' → 0 ≤ value n fl' → σ2 5 = ptr (m.next + 3) → σ2 7 = w → σ2 9 = I (value n fl') → ∀ {Q : IExit → Slots → Mem → Prop}, (∀ σ' m', σ' 4 = .bool true → Q .ret σ' m') → WP Try.prog ir13_tail σ2 m8 Q := fun σ2 m8 w fl' o8 hw hf h0 e5 e7 e9 Q hQ =>
    ir13_tail_wp hmb (o8.some g7) (hA7.mono o8) hw hf h0 e5 e7 e9 hQ
  cases hvb : (valueR n fl).2
  · simp (disch := first | omega | (simp only [next_put, next_bump]; omega)) [hvb, q5, q7, get_put_self, get_put_ne, get_bump, put_put]
    refine ir13_else_wp hS (nb := m.next + 3) (fb := m4.next + 3) g7 hA7 (o7.some f3) f4 f5 (by simp [q5]) (by simp [q7]) (fun σ2 m8 w fl' e1 e2 e3 e4 e5 e6 e7 => ?_)
    simp (disch := first | omega | (simp only [next_put, next_bump]; omega)) [put_put, get_put_self, get_put_ne, get_bump, put_put]
    refine fin _ _ w fl' e1 e2 e3 e4 e5 e6 e7 fun σ3 m9 h => ?_
    simp [h]
  obtain ⟨_, hf, hvl⟩ := valueR_true hvb
  by_cases h0 : value n fl < 0
  · simp (disch := first | omega | (simp only [next_put, next_bump]; omega)) [hvb, hvl, h0, q5, q7, get_put_self, get_put_ne, get_bump, put_put]
    refine ir13_else_wp hS (nb := m.next + 3) (fb := m4.next + 3) g7 hA7 (o7.some f3) f4 f5 (by simp [q5]) (by simp [q7]) (fun σ2 m8 w fl' e1 e2 e3 e4 e5 e6 e7 => ?_)
    simp (disch := first | omega | (simp only [next_put, next_bump]; omega)) [put_put, get_put_self, get_put_ne, get_bump, put_put]
    refine fin _ _ w fl' e1 e2 e3 e4 e5 e6 e7 fun σ3 m9 h => ?_
    simp [h]
  · simp (disch := first | omega | (simp only [next_put, next_bump]; omega)) [hvb, hvl, h0, q5, q7, get_put_self, get_put_ne, get_bump, put_put]
    refine fin _ _ (.slice (some ⟨m4.next + 3, 0, none⟩) n.arcs.length 1) fl (Old.refl _) (hw6.mono o7) hf (by omega) (by simp [q5]) (by simp [q7]) (by simp) fun σ3 m9 h => ?_
    simp [h]
theorem mincostBetter_law (m : Mem) (us : List Value) (h : AbsArgs m [.slice (.int .u8), .slice (.int .u8)] us) : WPCall Try.prog 13 us m fun r _ => r = .bool true := by
  rcases h with _ | ⟨h1, h⟩
  rcases h with _ | ⟨h4, h⟩
  cases h
  obtain ⟨h2, _, h3⟩ := h1.ints
  obtain ⟨h5, _, h6⟩ := h4.ints
  refine mcBetter_wp ?_ (fun x hx => u8_wf (h3 x hx)) ?_ (fun x hx => u8_wf (h6 x hx))
  · rcases h2 with h | ⟨b, h, h'⟩
    · exact .inl h
    · exact .inr ⟨b, false, h, h'⟩
  · rcases h5 with h | ⟨b, h, h'⟩
    · exact .inl h
    · exact .inr ⟨b, false, h, h'⟩
end Go.Proofs.Ytapnkfkpkcajjaa
