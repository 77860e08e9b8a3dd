/-
  'MaxflowGrows'.
-/
import Derived.Test.YtapnkfkpkcajjaaMfR
namespace Go.Proofs.Ytapnkfkpkcajjaa
open Go Go.DI Go.Nets
set_option linter.unusedSimpArgs false
set_option linter.unusedVariables false

theorem arcsC_take : ∀ (l : List Arc) (i : Nat), (arcsC l).take (i * 4) = arcsC (l.take i)
  | [], i => by simp [arcsC]
  | a :: l, 0 => by simp [arcsC]
  | a :: l, i + 1 => by
    have := arcsC_take l i
    rw [show (i + 1) * 4 = i * 4 + 4 by omega]
    simpa [arcsC, arcC] using this
theorem arcsC_drop : ∀ (l : List Arc) (i : Nat), (arcsC l).drop (i * 4) = arcsC (l.drop i)
  | [], i => by simp [arcsC]
  | a :: l, 0 => by simp [arcsC]
  | a :: l, i + 1 => by
    have := arcsC_drop l i
    rw [show (i + 1) * 4 = i * 4 + 4 by omega]
    simpa [arcsC, arcC] using this
theorem arcsC_setc : ∀ (l : List Arc) (i : Nat) (a : Arc) (c : Int), l[i]? = some a → (arcsC l).set (i * 4 + 2) (I c) = arcsC (l.set i ⟨a.f, a.t, c, a.k⟩)
  | [], _, _, _, h => by simp at h
  | b :: l, 0, a, c, h => by simp at h; subst h; rfl
  | b :: l, i + 1, a, c, h => by
    have := arcsC_setc l i a c (by simpa using h)
    rw [show (i + 1) * 4 + 2 = i * 4 + 2 + 4 by omega]
    simpa [arcsC, arcC] using this
theorem mem_set_arc {l : List Arc} {i : Nat} {b x : Arc} (h : x ∈ l.set i b) : x = b ∨ x ∈ l := by
  rcases List.mem_or_eq_of_mem_set h with h | h
  · exact .inr h
  · exact .inl h

set_option maxHeartbeats 16000000 in
set_option maxRecDepth 20000 in
theorem mfGrows_wp {v : Value} {l : List Int} {m : Mem} (hv : ByteS m v l) (hb : ∀ x ∈ l, 0 ≤ x ∧ x < 256) {ka : Nat} (hka : ka < 256) : WPCall Try.prog 7 [v, .int .u8 ka] m fun r _ => r = .bool true := by
  rw [call7 (by simp)]
  simp (disch := first | omega | (simp only [next_put, next_bump]; omega)) [ir7_b, get_put_self, get_put_ne, get_bump, put_put]
  refine (new_wp (hv.bump 5) hb).mono fun r m1 hp => ?_
  obtain ⟨tb, tv, l', rfl, htb, o1, hT⟩ := hp
  simp only [next_bump] at htb
  simp
  refine (network_wp hT).mono fun r m2 hp => ?_
  obtain ⟨n, nv, rfl, hA, hS, o2⟩ := hp
  have hV := hS.valid
  have n1 := o1.next
  have n2 := o2.next
  simp only [next_bump] at n1
  have free : m2.get (m.next + 3) = none := by rw [o2.get _ (by omega) (by omega), o1.get _ (by simp only [next_bump]; omega), get_bump_none (by omega)]
  have l1 : n.arcs.length ≤ 15 := hS.l15
  have l2 : 2 ≤ n.arcs.length := hS.l2
  obtain ⟨c, co, rfl, hc⟩ := hA.blk (i := 0) (by omega)
  have lc := get_lt hc
  have hcne : c ≠ m.next + 3 := fun e => by rw [e, free] at hc; cases hc
  have w1 : IntKind.i64.wrap (ka : Int) = ka := i64_id (by omega) (by omega)
  obtain ⟨i, hi⟩ : ∃ i, i = ka % n.arcs.length := ⟨_, rfl⟩
  have hil : i < n.arcs.length := by rw [hi]; exact Nat.mod_lt _ (by omega)
  have e1 : (ka : Int).tmod (n.arcs.length : Int) = (i : Int) := by rw [hi, Int.tmod_eq_emod_of_nonneg (by omega)]; rfl
  have k0 : ¬ (n.arcs.length : Int) = 0 := by omega
  have k0' : ¬ n.arcs.length = 0 := by omega
  have k0'' : ¬ n.arcs = [] := fun h => by rw [h] at l2; simp at l2
  simp (disch := first | omega | (simp only [next_put, next_bump]; omega)) [hc, w1, e1, k0, k0', k0'', get_put_self, get_put_ne, get_bump, put_put]
  obtain ⟨m3, hm3⟩ : ∃ m3, m3 = m2.put (m.next + 3) (some ⟨[I n.nodes, I n.src, I n.snk, .slice (some ⟨c, 0, none⟩) n.arcs.length 4], true⟩) := ⟨_, rfl⟩
  rw [← hm3]
  have hA3 : Arcs m3 (.slice (some ⟨c, 0, none⟩) n.arcs.length 4) n.arcs := by rw [hm3]; exact hA.put_free free _
  have gc3 : m3.get c = some ⟨arcsC n.arcs, co⟩ := by rw [hm3, get_put_ne hcne]; exact hc
  have g3 : m3.get (m.next + 3) = some ⟨netC n (.slice (some ⟨c, 0, none⟩) n.arcs.length 4), true⟩ := by rw [hm3]; exact get_put_self (by omega)
  refine (solved_wp (n := n) hV hA3).mono fun r m5 hp => ?_
  obtain ⟨o5, fl, cut, hf, rfl, _, hcr⟩ := hp
  have hcV := hasCut_of hf hcr
  have bV := hcV.nonneg hV
  generalize hVv : value n fl = V at *
  have g5 := o5.some g3
  have gc5 := o5.some gc3
  have l5 := get_lt g5
  have lc5 := get_lt gc5
  obtain ⟨a, ha⟩ : ∃ a, n.arcs[i]? = some a := ⟨n.arcs[i]'hil, by simp⟩
  have ham := List.mem_of_getElem? ha
  obtain ⟨p1, p2, p3, p4⟩ := hS.arc a ham
  have q2 := arcs_get ha (j := 2) (by omega)
  simp [arcC] at q2
  have b2 : i * 4 + 2 ≤ n.arcs.length * 4 := by omega
  have b3 : i * 4 + 3 ≤ n.arcs.length * 4 := by omega
  have b4 : (i : Int) < n.arcs.length := by omega
  have z1 : n.arcs.length * 32 ≤ 140737488355328 := by omega
  have z2 : n.arcs.length ≤ 9223372036854775807 := by omega
  have z3 : List.take (n.arcs.length * 4) (arcsC n.arcs) = arcsC n.arcs := List.take_of_length_le (by simp)
  have w2 : IntKind.i64.wrap (a.c + 1) = a.c + 1 := i64_id (by omega) (by omega)
  have hset := arcsC_setc n.arcs i a (a.c + 1) ha
  obtain ⟨a', ha'⟩ : ∃ a' : Arc, a' = ⟨a.f, a.t, a.c + 1, a.k⟩ := ⟨_, rfl⟩
  rw [← ha'] at hset
  have hokA := hV.arc a ham
  have hV1 : (⟨n.nodes, n.src, n.snk, n.arcs.set i a'⟩ : Net).Valid := ⟨hV.n2, hV.n7, by simpa using hV.al, hV.src, hV.snk, hV.ne, fun x hx => by
    rcases mem_set_arc hx with rfl | hx
    · rw [ha']; exact ⟨hokA.1, hokA.2.1, by show 0 ≤ a.c + 1; omega, by show a.c + 1 ≤ 2147483647; omega⟩
    · exact hV.arc x hx⟩
  simp (disch := first | omega | (simp only [next_put, next_bump]; omega)) [g5, gc5, q2, head_td, b2, b3, b4, hil, z1, z2, z3, w2, hset, k0', k0'', hcne, get_put_self, get_put_ne, get_bump, put_put]
  refine (solved_wp (n := ⟨n.nodes, n.src, n.snk, n.arcs.set i a'⟩) hV1 (v := .slice (some ⟨m5.next + 3 + 3, 0, none⟩) n.arcs.length 4) (.inr ⟨m5.next + 3 + 3, true, by simp, by simp (disch := first | omega | (simp only [next_put, next_bump]; omega)) only [get_put_self, get_put_ne, get_bump]⟩)).mono fun r m6 hp => ?_
  obtain ⟨o6, fl1, cut1, hf1, rfl, _, hcr1⟩ := hp
  have hcW := hasCut_of hf1 hcr1
  have bW := hcW.nonneg hV1
  generalize hWv : value ⟨n.nodes, n.src, n.snk, n.arcs.set i a'⟩ fl1 = W at *
  have g6 : m6.get (m.next + 3) = some ⟨netC n (.slice (some ⟨c, 0, none⟩) n.arcs.length 4), true⟩ := o6.some (by simp (disch := first | omega | (simp only [next_put, next_bump]; omega)) only [get_put_self, get_put_ne, get_bump]; exact g5)
  have gc6 : m6.get c = some ⟨arcsC n.arcs, co⟩ := o6.some (by simp (disch := first | omega | (simp only [next_put, next_bump]; omega)) only [get_put_self, get_put_ne, get_bump]; exact gc5)
  have gm6 : m6.get (m5.next + 1) = some ⟨[I n.nodes, I n.src, I n.snk, .slice (some ⟨m5.next + 3 + 3, 0, none⟩) n.arcs.length 4], true⟩ := o6.some (by simp (disch := first | omega | (simp only [next_put, next_bump]; omega)) only [get_put_self, get_put_ne, get_bump])
  have l6 := get_lt g6
  have lc6 := get_lt gc6
  have lm6 := get_lt gm6
  have ca : c ≠ m5.next + 1 := by omega
  have hlen2 : (n.arcs.take i ++ n.arcs.drop (i + 1)).length = n.arcs.length - 1 := by simp; omega
  have hV2 : (⟨n.nodes, n.src, n.snk, n.arcs.take i ++ n.arcs.drop (i + 1)⟩ : Net).Valid := ⟨hV.n2, hV.n7, by show (n.arcs.take i ++ n.arcs.drop (i + 1)).length ≤ 2500; omega, hV.src, hV.snk, hV.ne, fun x hx => by
    rcases List.mem_append.1 hx with hx | hx
    · exact hV.arc x (List.mem_of_mem_take hx)
    · exact hV.arc x (List.mem_of_mem_drop hx)⟩
  have c1 : arcsC (n.arcs.take i ++ n.arcs.drop (i + 1)) = (arcsC n.arcs).take (i * 4) ++ (arcsC n.arcs).drop ((i + 1) * 4) := by rw [arcsC_app, arcsC_take, arcsC_drop]
  have w3 : IntKind.i64.wrap ((i : Int) + 1) = (i : Int) + 1 := i64_id (by omega) (by omega)
  have t1 : ((i : Int) + 1).toNat = i + 1 := by omega
  have t2 : (i : Int) + 1 ≤ n.arcs.length := by omega
  have t3 : (0 : Int) ≤ (i : Int) + 1 := by omega
  have t4 : i ≤ n.arcs.length := by omega
  have t5 : (i : Int) ≤ n.arcs.length := by omega
  have t6 : i + 1 ≤ n.arcs.length := hil
  have law : ∀ U, HasCut ⟨n.nodes, n.src, n.snk, n.arcs.take i ++ n.arcs.drop (i + 1)⟩ U → (W = V ∨ W = V + 1) ∧ U ≤ V ∧ V ≤ U + a.c := fun U hU =>
    grows_law hV ha (b := a') (by rw [ha']; exact ⟨rfl, rfl, rfl⟩) (n1 := ⟨n.nodes, n.src, n.snk, n.arcs.set i a'⟩) (by rw [arcs_set ha]) rfl hV1 hV2 hcV hcW hU
  have w4 : IntKind.i64.wrap (V + 1) = V + 1 := i64_id (by omega) (by omega)
  have s1 : i * 4 ≤ n.arcs.length * 4 := by omega
  have s2 : i * 4 + 4 ≤ n.arcs.length * 4 := by omega
  have s3 : (i + 1) * 4 ≤ n.arcs.length * 4 := by omega
  have w10 : IntKind.i64.wrap 1 = 1 := i64_id (by omega) (by omega)
  have y1 : ¬ m.next + 3 = m6.next := by omega
  rcases Nat.eq_zero_or_pos i with h0 | h0
  · subst h0
    have x1 : (n.arcs.length - 1) * 32 ≤ 140737488355328 := by omega
    have x2 : n.arcs.length - 1 ≤ 9223372036854775807 := by omega
    have x3 : ¬ n.arcs.length - 1 = 0 := by omega
    have x4 : List.take ((n.arcs.length - 1) * 4) (List.drop 4 (arcsC n.arcs)) = List.drop 4 (arcsC n.arcs) := List.take_of_length_le (by simp; omega)
    have x5 : 4 + (n.arcs.length - 1) * 4 ≤ n.arcs.length * 4 := by omega
    have x6 : (1 : Int) ≤ n.arcs.length := by omega
    have x7 : 1 ≤ n.arcs.length := by omega
    have x8 : n.arcs.length ≤ 9223372036854775808 := by omega
    simp (disch := first | omega | (simp only [next_put, next_bump]; omega)) [s3, w10, y1, g6, gc6, gm6, w3, t1, t2, t3, t4, t5, t6, s1, s2, ckOk, bne_iff_ne, ca, hcne, hil, x1, x2, x3, x4, x5, x6, x7, x8, get_put_self, get_put_ne, get_bump, put_put]
    refine (solved_wp (n := ⟨n.nodes, n.src, n.snk, n.arcs.take 0 ++ n.arcs.drop (0 + 1)⟩) hV2 (v := .slice (some ⟨m6.next + 11, 0, none⟩) (n.arcs.length - 1) 4) (.inr ⟨m6.next + 11, true, by rw [hlen2], by simp (disch := first | omega | (simp only [next_put, next_bump]; omega)) only [get_put_self, get_put_ne, get_bump]; rw [c1]; simp⟩)).mono fun r m7 hp => ?_
    obtain ⟨o7, fl2, cut2, hf2, rfl, _, hcr2⟩ := hp
    have hcU := hasCut_of hf2 hcr2
    have bU := hcU.nonneg hV2
    generalize hUv : value ⟨n.nodes, n.src, n.snk, n.arcs.take 0 ++ n.arcs.drop (0 + 1)⟩ fl2 = U at *
    obtain ⟨r1, r2, r3⟩ := law U hcU
    have g7 : m7.get (m.next + 3) = some ⟨netC n (.slice (some ⟨c, 0, none⟩) n.arcs.length 4), true⟩ := o7.some (by simp (disch := first | omega | (simp only [next_put, next_bump]; omega)) only [get_put_self, get_put_ne, get_bump]; exact g6)
    have gc7 : m7.get c = some ⟨arcsC n.arcs, co⟩ := o7.some (by simp (disch := first | omega | (simp only [next_put, next_bump]; omega)) only [get_put_self, get_put_ne, get_bump]; exact gc6)
    have w5 : IntKind.i64.wrap (U + a.c) = U + a.c := i64_id (by omega) (by omega)
    by_cases hwv : W = V
    · simp (disch := first | omega | (simp only [next_put, next_bump]; omega)) [g7, gc7, hwv, r2, r3, w4, w5, q2, b2, b3, b4, head_td, hil, get_put_self, get_put_ne, get_bump, put_put]
      refine aw_wp _ _ fun m' => ?_
      simp
    · have hwv' : W = V + 1 := by omega
      have hne : ¬ V + 1 = V := by omega
      simp (disch := first | omega | (simp only [next_put, next_bump]; omega)) [g7, gc7, hwv', hne, r2, r3, w4, w5, q2, b2, b3, b4, head_td, hil, get_put_self, get_put_ne, get_bump, put_put]
      refine aw_wp _ _ fun m' => ?_
      simp
  by_cases h9 : i + 1 = n.arcs.length
  · have x1 : i * 32 ≤ 140737488355328 := by omega
    have x2 : i ≤ 9223372036854775807 := by omega
    have x3 : ¬ i = 0 := by omega
    have x5 : n.arcs.length - (i + 1) = 0 := by omega
    simp (disch := first | omega | (simp only [next_put, next_bump]; omega)) [s3, w10, y1, g6, gc6, gm6, w3, t1, t2, t3, t4, t5, t6, s1, s2, ckOk, bne_iff_ne, ca, hcne, hil, x1, x2, x3, x5, get_put_self, get_put_ne, get_bump, put_put]
    refine (solved_wp (n := ⟨n.nodes, n.src, n.snk, n.arcs.take i ++ n.arcs.drop (i + 1)⟩) hV2 (v := .slice (some ⟨m6.next + 5, 0, none⟩) i 4) (.inr ⟨m6.next + 5, true, by rw [hlen2, show i = n.arcs.length - 1 by omega], by simp (disch := first | omega | (simp only [next_put, next_bump]; omega)) only [get_put_self, get_put_ne, get_bump]; rw [c1]; rw [List.drop_of_length_le (by simp; omega)]; simp⟩)).mono fun r m7 hp => ?_
    obtain ⟨o7, fl2, cut2, hf2, rfl, _, hcr2⟩ := hp
    have hcU := hasCut_of hf2 hcr2
    have bU := hcU.nonneg hV2
    generalize hUv : value ⟨n.nodes, n.src, n.snk, n.arcs.take i ++ n.arcs.drop (i + 1)⟩ fl2 = U at *
    obtain ⟨r1, r2, r3⟩ := law U hcU
    have g7 : m7.get (m.next + 3) = some ⟨netC n (.slice (some ⟨c, 0, none⟩) n.arcs.length 4), true⟩ := o7.some (by simp (disch := first | omega | (simp only [next_put, next_bump]; omega)) only [get_put_self, get_put_ne, get_bump]; exact g6)
    have gc7 : m7.get c = some ⟨arcsC n.arcs, co⟩ := o7.some (by simp (disch := first | omega | (simp only [next_put, next_bump]; omega)) only [get_put_self, get_put_ne, get_bump]; exact gc6)
    have w5 : IntKind.i64.wrap (U + a.c) = U + a.c := i64_id (by omega) (by omega)
    by_cases hwv : W = V
    · simp (disch := first | omega | (simp only [next_put, next_bump]; omega)) [g7, gc7, hwv, r2, r3, w4, w5, q2, b2, b3, b4, head_td, hil, get_put_self, get_put_ne, get_bump, put_put]
      refine aw_wp _ _ fun m' => ?_
      simp
    · have hwv' : W = V + 1 := by omega
      have hne : ¬ V + 1 = V := by omega
      simp (disch := first | omega | (simp only [next_put, next_bump]; omega)) [g7, gc7, hwv', hne, r2, r3, w4, w5, q2, b2, b3, b4, head_td, hil, get_put_self, get_put_ne, get_bump, put_put]
      refine aw_wp _ _ fun m' => ?_
      simp
  · have x1 : i * 32 ≤ 140737488355328 := by omega
    have x2 : i ≤ 9223372036854775807 := by omega
    have x3 : ¬ i = 0 := by omega
    have x4 : ¬ n.arcs.length - (i + 1) = 0 := by omega
    have x5 : (i + (n.arcs.length - (i + 1))) * 32 ≤ 140737488355328 := by omega
    have x6 : i + (n.arcs.length - (i + 1)) ≤ 9223372036854775807 := by omega
    have x7 : List.take ((n.arcs.length - (i + 1)) * 4) (List.drop ((i + 1) * 4) (arcsC n.arcs)) = List.drop ((i + 1) * 4) (arcsC n.arcs) := List.take_of_length_le (by simp; omega)
    have x8 : (i + 1) * 4 + (n.arcs.length - (i + 1)) * 4 ≤ n.arcs.length * 4 := by omega
    have x9 : List.take (i * 4) (List.take (i * 4) (arcsC n.arcs)) = List.take (i * 4) (arcsC n.arcs) := List.take_of_length_le (by simp; omega)
    simp (disch := first | omega | (simp only [next_put, next_bump]; omega)) [s3, w10, y1, g6, gc6, gm6, w3, t1, t2, t3, t4, t5, t6, s1, s2, ckOk, bne_iff_ne, ca, hcne, hil, x1, x2, x3, x4, x5, x6, x7, x8, x9, get_put_self, get_put_ne, get_bump, put_put]
    refine (solved_wp (n := ⟨n.nodes, n.src, n.snk, n.arcs.take i ++ n.arcs.drop (i + 1)⟩) hV2 (v := .slice (some ⟨m6.next + 11, 0, none⟩) (i + (n.arcs.length - (i + 1))) 4) (.inr ⟨m6.next + 11, true, by rw [hlen2, show i + (n.arcs.length - (i + 1)) = n.arcs.length - 1 by omega], by simp (disch := first | omega | (simp only [next_put, next_bump]; omega)) only [get_put_self, get_put_ne, get_bump]; rw [c1]⟩)).mono fun r m7 hp => ?_
    obtain ⟨o7, fl2, cut2, hf2, rfl, _, hcr2⟩ := hp
    have hcU := hasCut_of hf2 hcr2
    have bU := hcU.nonneg hV2
    generalize hUv : value ⟨n.nodes, n.src, n.snk, n.arcs.take i ++ n.arcs.drop (i + 1)⟩ fl2 = U at *
    obtain ⟨r1, r2, r3⟩ := law U hcU
    have g7 : m7.get (m.next + 3) = some ⟨netC n (.slice (some ⟨c, 0, none⟩) n.arcs.length 4), true⟩ := o7.some (by simp (disch := first | omega | (simp only [next_put, next_bump]; omega)) only [get_put_self, get_put_ne, get_bump]; exact g6)
    have gc7 : m7.get c = some ⟨arcsC n.arcs, co⟩ := o7.some (by simp (disch := first | omega | (simp only [next_put, next_bump]; omega)) only [get_put_self, get_put_ne, get_bump]; exact gc6)
    have w5 : IntKind.i64.wrap (U + a.c) = U + a.c := i64_id (by omega) (by omega)
    by_cases hwv : W = V
    · simp (disch := first | omega | (simp only [next_put, next_bump]; omega)) [g7, gc7, hwv, r2, r3, w4, w5, q2, b2, b3, b4, head_td, hil, get_put_self, get_put_ne, get_bump, put_put]
      refine aw_wp _ _ fun m' => ?_
      simp
    · have hwv' : W = V + 1 := by omega
      have hne : ¬ V + 1 = V := by omega
      simp (disch := first | omega | (simp only [next_put, next_bump]; omega)) [g7, gc7, hwv', hne, r2, r3, w4, w5, q2, b2, b3, b4, head_td, hil, get_put_self, get_put_ne, get_bump, put_put]
      refine aw_wp _ _ fun m' => ?_
      simp

theorem u8_of {m : Mem} {v : Value} {d : Int} (h : AbsV m (.int .u8) v d) : ∃ ka : Nat, ka < 256 ∧ v = .int .u8 (ka : Int) := by
  obtain ⟨rfl, hw⟩ := h.int
  obtain ⟨q1, q2⟩ := u8_wf hw
  exact ⟨d.toNat, by omega, by congr 1; omega⟩
theorem maxflowGrows_law (m : Mem) (us : List Value) (h : AbsArgs m [.slice (.int .u8), .int .u8] us) : WPCall Try.prog 7 us m fun r _ => r = .bool true := by
  rcases h with _ | ⟨h1, h⟩
  rcases h with _ | ⟨hk, h⟩
  cases h
  obtain ⟨h2, _, h3⟩ := h1.ints
  obtain ⟨ka, hka, rfl⟩ := u8_of hk
  refine mfGrows_wp ?_ (fun x hx => u8_wf (h3 x hx)) hka
  rcases h2 with h | ⟨b, h, h'⟩
  · exact .inl h
  · exact .inr ⟨b, false, h, h'⟩
end Go.Proofs.Ytapnkfkpkcajjaa
