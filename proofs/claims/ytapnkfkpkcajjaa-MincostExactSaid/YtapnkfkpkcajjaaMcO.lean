/-
  'MincostRaw'.
-/
import Derived.Test.YtapnkfkpkcajjaaMcN
import Derived.Test.YtapnkfkpkcajjaaMfN
namespace Go.Proofs.Ytapnkfkpkcajjaa
open Go Go.DI Go.Nets
set_option linter.unusedSimpArgs false
set_option linter.unusedVariables false

set_option maxHeartbeats 4000000 in
set_option maxRecDepth 20000 in
theorem mraw_loop {n : Net} {v : Value} {nb : Nat} {m0 : Mem} (hn : m0.get nb = some ⟨netC n v, true⟩) (hv : Arcs m0 v n.arcs) (hl : n.arcs.length ≤ 2500) {amount : Int} {Q : IExit → Slots → Mem → Prop} : ∀ (r i : Nat) (σ : Slots), i + r = n.arcs.length → σ 1 = I amount → σ 2 = ptr nb → σ 9 = I i →
    (∀ σ', σ' 1 = I amount → σ' 2 = ptr nb → Q (.exit 0) σ' m0) → (∀ σ' m', σ' 4 = .bool true → Q .ret σ' m') → WP Try.prog (.loop ir9_l0) σ m0 Q
  | 0, i, σ, hi, s1, s2, s9, hQ, hR => by
    refine wp_round fun J hJ => ?_
    obtain ⟨hlen, hsl⟩ := hv.len
    have h1 : ¬ (i : Int) < n.arcs.length := by omega
    have h1' : ¬ i < n.arcs.length := by omega
    simp (disch := first | omega | (simp only [next_put, next_bump]; omega)) [ir9_l0, s2, s9, hn, h1, h1', hlen, hsl, get_put_self, get_put_ne, get_bump, put_put, -lenOfV, -isSl]
    exact hQ _ (by simp [s1]) (by simp [s2])
  | r + 1, i, σ, hi, s1, s2, s9, hQ, hR => by
    refine wp_round fun J hJ => ?_
    obtain ⟨hlen, hsl⟩ := hv.len
    have h1 : i < n.arcs.length := by omega
    have h1' : (i : Int) < n.arcs.length := by omega
    obtain ⟨a, ha⟩ : ∃ a, n.arcs[i]? = some a := ⟨n.arcs[i]'h1, by simp⟩
    obtain ⟨c, o, rfl, hc⟩ := hv.blk h1
    have q2 := arcs_get ha (j := 2) (by omega)
    simp [arcC] at q2
    have b3 : i * 4 + 3 ≤ n.arcs.length * 4 := by omega
    have b4 : i * 4 + 4 ≤ n.arcs.length * 4 := by omega
    have w0 : IntKind.i64.wrap ((i : Int) + 1) = (i : Int) + 1 := i64_id (by omega) (by omega)
    have next : ∀ σ', σ' 1 = I amount → σ' 2 = ptr nb → σ' 9 = I ((i : Int) + 1) → J σ' m0 := fun σ' q1 q2 q9 =>
      hJ _ _ (mraw_loop hn hv hl r (i + 1) σ' (by omega) q1 q2 (by rw [q9]; simp) hQ hR)
    by_cases k1 : 60 < amount
    · by_cases k2 : 50 < a.c
      · simp (disch := first | omega | (simp only [next_put, next_bump]; omega)) [ir9_l0, s1, s2, s9, hn, h1, h1', hc, q2, b3, b4, head_td, k1, k2, get_put_self, get_put_ne, get_bump, put_put]
        refine maw_wp _ _ fun m' => ?_
        simp
        exact hR _ _ (by simp)
      · simp (disch := first | omega | (simp only [next_put, next_bump]; omega)) [ir9_l0, s1, s2, s9, hn, h1, h1', hc, q2, b3, b4, head_td, k1, k2, w0, get_put_self, get_put_ne, get_bump, put_put]
        exact next _ (by simp [s1]) (by simp [s2]) (by simp)
    · simp (disch := first | omega | (simp only [next_put, next_bump]; omega)) [ir9_l0, s1, s2, s9, hn, h1, h1', hc, q2, b3, b4, head_td, k1, w0, get_put_self, get_put_ne, get_bump, put_put]
      exact next _ (by simp [s1]) (by simp [s2]) (by simp)

def ir9_rest : ICode := .seq (.seq (.region [
    ⟨0, some 27, none, .load true 4 (.tmp 2), []⟩,
    ⟨1, some 28, none, .call 32 [.tmp 27], []⟩,
    ⟨2, some 29, none, .un .not (.tmp 28), []⟩,
    ⟨3, some 30, none, .mov (.tmp 29), []⟩,
    ⟨4, some 31, some (30, false), .mov (.tmp 1), []⟩,
    ⟨5, some 32, some (30, false), .bin .lss .other (.tmp 31) (.const (.int .i64 0)), []⟩,
    ⟨6, some 33, none, .pick (.tmp 30) (.const (.bool true)) (.tmp 32), []⟩]) (.cond (.tmp 33) (.seq (.region [
     ⟨0, some 35, none, .load true 4 (.tmp 2), []⟩,
     ⟨1, some 36, none, .mov (.tmp 1), []⟩,
     ⟨2, some 37, none, .call 33 [.tmp 35, .tmp 36], []⟩,
     ⟨3, some 34, none, .mov (.tmp 37), []⟩,
     ⟨4, some 38, none, .ext 0 (.tmp 34), []⟩,
     ⟨5, some 39, none, .ext 1 (.tmp 34), []⟩,
     ⟨6, some 40, none, .ext 2 (.tmp 34), []⟩,
     ⟨7, some 41, none, .ext 3 (.tmp 34), []⟩,
     ⟨8, some 5, none, .mov (.tmp 38), []⟩,
     ⟨9, some 6, none, .mov (.tmp 39), []⟩,
     ⟨10, some 7, none, .mov (.tmp 40), []⟩,
     ⟨11, some 8, none, .mov (.tmp 41), []⟩]) (.seq (.region [
     ⟨0, some 42, none, .mov (.tmp 8), []⟩,
     ⟨1, some 43, none, .bin .eql .other (.tmp 42) (.const (.int .i64 1)), []⟩,
     ⟨2, some 44, none, .mov (.tmp 43), []⟩,
     ⟨3, some 45, some (44, true), .call 31 [], []⟩,
     ⟨4, some 46, none, .pick (.tmp 44) (.tmp 45) (.const (.bool false)), []⟩,
     ⟨5, some 4, none, .mov (.tmp 46), []⟩]) (.ret))) (.skip))) (.seq (.seq (.region [
    ⟨0, some 9, none, .mov (.const (.int .i64 0)), []⟩]) (.block 0 (.loop ir9_l0))) (.seq (.seq (.region [
    ⟨0, some 66, none, .mov (.tmp 1), []⟩,
    ⟨1, some 67, none, .load true 4 (.tmp 2), []⟩,
    ⟨2, some 68, none, .call 34 [.tmp 67], []⟩,
    ⟨3, some 69, none, .bin .gtr .other (.tmp 66) (.tmp 68), []⟩]) (.cond (.tmp 69) (.seq (.region [
     ⟨0, some 71, none, .load true 4 (.tmp 2), []⟩,
     ⟨1, some 72, none, .mov (.tmp 1), []⟩,
     ⟨2, some 73, none, .call 33 [.tmp 71, .tmp 72], []⟩,
     ⟨3, some 70, none, .mov (.tmp 73), []⟩,
     ⟨4, some 74, none, .ext 0 (.tmp 70), []⟩,
     ⟨5, some 75, none, .ext 1 (.tmp 70), []⟩,
     ⟨6, some 76, none, .ext 2 (.tmp 70), []⟩,
     ⟨7, some 77, none, .ext 3 (.tmp 70), []⟩,
     ⟨8, some 10, none, .mov (.tmp 74), []⟩,
     ⟨9, some 11, none, .mov (.tmp 75), []⟩,
     ⟨10, some 12, none, .mov (.tmp 76), []⟩,
     ⟨11, some 13, none, .mov (.tmp 77), []⟩]) (.seq (.region [
     ⟨0, some 78, none, .mov (.tmp 13), []⟩,
     ⟨1, some 79, none, .bin .eql .other (.tmp 78) (.const (.int .i64 12)), []⟩,
     ⟨2, some 80, none, .mov (.tmp 79), []⟩,
     ⟨3, some 81, some (80, true), .call 31 [], []⟩,
     ⟨4, some 82, none, .pick (.tmp 80) (.tmp 81) (.const (.bool false)), []⟩,
     ⟨5, some 4, none, .mov (.tmp 82), []⟩]) (.ret))) (.skip))) (.seq (.region [
    ⟨0, some 84, none, .load true 4 (.tmp 2), []⟩,
    ⟨1, some 85, none, .mov (.tmp 1), []⟩,
    ⟨2, some 86, none, .call 35 [.tmp 84, .tmp 85], []⟩,
    ⟨3, some 83, none, .mov (.tmp 86), []⟩,
    ⟨4, some 87, none, .ext 0 (.tmp 83), []⟩,
    ⟨5, some 88, none, .ext 1 (.tmp 83), []⟩,
    ⟨6, some 14, none, .mov (.tmp 87), []⟩,
    ⟨7, some 15, none, .mov (.tmp 88), []⟩]) (.seq (.region [
    ⟨0, some 89, none, .mov (.tmp 15), []⟩,
    ⟨1, some 90, none, .mov (.tmp 89), []⟩,
    ⟨2, some 91, some (90, true), .call 31 [], []⟩,
    ⟨3, some 92, none, .pick (.tmp 90) (.tmp 91) (.const (.bool false)), []⟩,
    ⟨4, some 4, none, .mov (.tmp 92), []⟩]) (.ret)))))
theorem ir9_b_n : ir9_b = (.seq (.region [
    ⟨0, some 2, none, .box (.tmp 0), []⟩,
    ⟨1, some 4, none, .mov (.const (.bool false)), []⟩]) (.seq (.seq (.region [
    ⟨0, some 16, none, .load true 4 (.tmp 2), []⟩,
    ⟨1, some 17, none, .call 30 [.tmp 16], []⟩,
    ⟨2, some 18, none, .mov (.tmp 17), []⟩,
    ⟨3, some 19, some (18, false), .mov (.tmp 1), []⟩,
    ⟨4, some 20, some (18, false), .bin .gtr .other (.tmp 19) (.const (.int .i64 60)), []⟩,
    ⟨5, some 21, some (18, false), .mov (.tmp 20), []⟩,
    ⟨6, some 22, some (21, true), .mov (.tmp 1), []⟩,
    ⟨7, some 23, some (21, true), .bin .leq .other (.tmp 22) (.const (.int .i64 100000000)), []⟩,
    ⟨8, some 24, some (18, false), .pick (.tmp 21) (.tmp 23) (.const (.bool false)), []⟩,
    ⟨9, some 25, none, .pick (.tmp 18) (.const (.bool true)) (.tmp 24), []⟩]) (.cond (.tmp 25) (.seq (.region [
     ⟨0, some 26, none, .call 31 [], []⟩,
     ⟨1, some 4, none, .mov (.tmp 26), []⟩]) (.ret)) (.skip))) (ir9_rest)) : ICode) := rfl

set_option maxHeartbeats 8000000 in
set_option maxRecDepth 20000 in
theorem ir9_rest_wp {n : Net} {v : Value} {nb : Nat} {m : Mem} (hn : m.get nb = some ⟨netC n v, true⟩) (hv : Arcs m v n.arcs) (hl : n.arcs.length < 1000000000) {amount : Int} {σ : Slots} (s1 : σ 1 = I amount) (s2 : σ 2 = ptr nb) {Q : IExit → Slots → Mem → Prop} (hR : ∀ σ' m', σ' 4 = .bool true → Q .ret σ' m') : WP Try.prog ir9_rest σ m Q := by
  simp (disch := first | omega | (simp only [next_put, next_bump]; omega)) [ir9_rest, s1, s2, hn, get_put_self, get_put_ne, get_bump, put_put]
  refine (rmvalid_wp (n := n) hv).mono fun r m1 hp => ?_
  obtain ⟨rfl, o1⟩ := hp
  have g1 := o1.some hn
  have hv1 := hv.mono o1
  have bad : (mvB n = false ∨ amount < 0) → ∀ r m', MSolved n amount r m' → r = .tuple #[.slice none 0 0, I 0, .slice none 0 0, I 1] := fun hb r m' hp => by
    rcases hp with ⟨_, h⟩ | ⟨h1, h2, _⟩
    · exact h
    · rcases hb with h | h
      · rw [h1] at h; cases h
      · omega
  cases k1 : mvB n
  · simp (disch := first | omega | (simp only [next_put, next_bump]; omega)) [k1, s1, s2, g1, get_put_self, get_put_ne, get_bump, put_put]
    refine (msolve_wp (n := n) hv1 hl amount).mono fun r m2 hp => ?_
    obtain ⟨o2, hp⟩ := hp
    obtain rfl := bad (.inl k1) _ _ hp
    simp (disch := first | omega | (simp only [next_put, next_bump]; omega)) [put_put, get_put_self, get_put_ne, get_bump, put_put]
    refine maw_wp _ _ fun m' => ?_
    simp
    exact hR _ _ (by simp)
  obtain ⟨hV, _⟩ := mvB_iff.1 k1
  by_cases k2 : amount < 0
  · simp (disch := first | omega | (simp only [next_put, next_bump]; omega)) [k1, k2, s1, s2, g1, get_put_self, get_put_ne, get_bump, put_put]
    refine (msolve_wp (n := n) hv1 hl amount).mono fun r m2 hp => ?_
    obtain ⟨o2, hp⟩ := hp
    obtain rfl := bad (.inr k2) _ _ hp
    simp (disch := first | omega | (simp only [next_put, next_bump]; omega)) [put_put, get_put_self, get_put_ne, get_bump, put_put]
    refine maw_wp _ _ fun m' => ?_
    simp
    exact hR _ _ (by simp)
  simp (disch := first | omega | (simp only [next_put, next_bump]; omega)) [k1, k2, s1, s2, g1, get_put_self, get_put_ne, get_bump, put_put]
  refine mraw_loop (amount := amount) g1 hv1 hV.al n.arcs.length 0 _ (by omega) (by simp [s1]) (by simp [s2]) (by simp) (fun σ1 q1 q2 => ?_) (fun σ1 m' q4 => ?_)
  · simp (disch := first | omega | (simp only [next_put, next_bump]; omega)) [q1, q2, g1, get_put_self, get_put_ne, get_bump, put_put]
    refine (most_wp hV hv1).mono fun r m2 hp => ?_
    obtain ⟨o2, V, rfl, hc⟩ := hp
    have g2 := o2.some g1
    have hv2 := hv1.mono o2
    by_cases k3 : V < amount
    · simp (disch := first | omega | (simp only [next_put, next_bump]; omega)) [k3, q1, q2, g2, get_put_self, get_put_ne, get_bump, put_put]
      refine (msolve_wp (n := n) hv2 hl amount).mono fun r m3 hp => ?_
      obtain ⟨o3, hp⟩ := hp
      have hr : r = .tuple #[.slice none 0 0, I 0, .slice none 0 0, I 12] := by
        rcases hp with ⟨h, _⟩ | ⟨_, _, g, cut, hgf, hcl, hcr, h⟩
        · rcases h with h | h
          · rw [k1] at h; cases h
          · omega
        · have := (hasCut_of hgf hcr).unique hV hc
          rcases h with ⟨_, h⟩ | ⟨h, _⟩
          · exact h
          · omega
      subst hr
      simp (disch := first | omega | (simp only [next_put, next_bump]; omega)) [put_put, get_put_self, get_put_ne, get_bump, put_put]
      refine maw_wp _ _ fun m' => ?_
      simp
      exact hR _ _ (by simp)
    · simp (disch := first | omega | (simp only [next_put, next_bump]; omega)) [k3, q1, q2, g2, get_put_self, get_put_ne, get_bump, put_put]
      obtain ⟨⟨g0, hg0, hgv⟩, _⟩ := hc
      refine (msolved_wp k1 hv2 hg0 (amount := amount) (by omega) (by omega)).mono fun r m3 hp => ?_
      obtain ⟨o3, fl, p, rfl, hf, hval, hopt⟩ := hp
      simp (disch := first | omega | (simp only [next_put, next_bump]; omega)) [put_put, get_put_self, get_put_ne, get_bump, put_put]
      refine maw_wp _ _ fun m' => ?_
      simp
      exact hR _ _ (by simp)
  · simp
    exact hR _ _ (by simp [q4])

set_option maxHeartbeats 8000000 in
set_option maxRecDepth 20000 in
theorem mcRaw_wp {n : Net} {v : Value} {m : Mem} (hv : Arcs m v n.arcs) (amount : Int) : WPCall Try.prog 9 [netV n v, I amount] m fun r _ => r = .bool true := by
  rw [call9 (by simp)]
  have hM : Old m ((m.bump 2).put m.next (some ⟨netC n v, true⟩)) := ((Old.refl m).bump 2).put (Nat.le_refl _)
  have hg : ((m.bump 2).put m.next (some ⟨netC n v, true⟩)).get m.next = some ⟨netC n v, true⟩ := get_put_self (by simp)
  simp (disch := first | omega | (simp only [next_put, next_bump]; omega)) [ir9_b_n, get_put_self, get_put_ne, get_bump, put_put]
  refine (mheavy_wp (n := n) (hv.mono hM)).mono fun r m1 hp => ?_
  obtain ⟨rfl, o1⟩ := hp
  have g1 := o1.some hg
  have hv1 := (hv.mono hM).mono o1
  by_cases k1 : heavyM n = true
  · simp (disch := first | omega | (simp only [next_put, next_bump]; omega)) [k1, g1, get_put_self, get_put_ne, get_bump, put_put]
    refine maw_wp _ _ fun m' => ?_
    simp
  have k1' : heavyM n = false := by simpa using k1
  have hl : n.arcs.length < 1000000000 := by
    unfold heavyM at k1'
    simp at k1'
    omega
  by_cases k2 : 60 < amount
  · by_cases k3 : amount ≤ 100000000
    · simp (disch := first | omega | (simp only [next_put, next_bump]; omega)) [k1', k2, k3, g1, get_put_self, get_put_ne, get_bump, put_put]
      refine maw_wp _ _ fun m' => ?_
      simp
    · simp (disch := first | omega | (simp only [next_put, next_bump]; omega)) [k1', k2, k3, g1, get_put_self, get_put_ne, get_bump, put_put]
      refine ir9_rest_wp g1 hv1 hl (amount := amount) (by simp) (by simp) (fun σ' m' q4 => ?_)
      simp [q4]
  · simp (disch := first | omega | (simp only [next_put, next_bump]; omega)) [k1', k2, g1, get_put_self, get_put_ne, get_bump, put_put]
    refine ir9_rest_wp g1 hv1 hl (amount := amount) (by simp) (by simp) (fun σ' m' q4 => ?_)
    simp [q4]
theorem mincostRaw_law (m : Mem) (us : List Value) (h : AbsArgs m [netSh, .int .i64] us) : WPCall Try.prog 9 us m fun r _ => r = .bool true := by
  rcases h with _ | ⟨h1, h⟩
  rcases h with _ | ⟨h2, h⟩
  cases h
  obtain ⟨n, v, rfl, hv⟩ := net_of h1
  obtain ⟨rfl, _⟩ := h2.int
  exact mcRaw_wp hv _
end Go.Proofs.Ytapnkfkpkcajjaa
