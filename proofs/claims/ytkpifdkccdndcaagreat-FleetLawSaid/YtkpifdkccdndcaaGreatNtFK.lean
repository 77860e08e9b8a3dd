/-
  'short', 'up' of the program.
  'subtract', 'restore' of the program.
  Long division of the program: the scaling, the guess.
  Long division of the program: one limb of the quotient after the other.
  Long division of the program: shifting back; the whole; 'Div', 'Gcd', 'Bits'.
  'Div', 'Gcd', 'Bits' of the program.
-/
import Derived.Test.YtkpifdkccdndcaaGreatNtAE
import Derived.Test.YtkpifdkccdndcaaGreatBigA
namespace Go.Proofs.YtkpifdkccdndcaaGreat
open Go Go.DI Go.Big
set_option linter.unusedSimpArgs false
set_option linter.unusedVariables false

theorem u64pow : (2 : Int) ^ IntKind.u64.bits = 18446744073709551616 := by decide
theorem or_shl {x y S : Int} {s : Nat} (hS : S = (2 : Int) ^ s) (hx : 0 ≤ x) (hy : 0 ≤ y) (hyS : y < S) (h : x * S + y < 18446744073709551616) : IntKind.u64.wrap ↑((x * S % 2 ^ IntKind.u64.bits).toNat ||| (y % 2 ^ IntKind.u64.bits).toNat) = x * S + y := by
  obtain ⟨X, rfl⟩ := Int.eq_ofNat_of_zero_le hx
  obtain ⟨Y, rfl⟩ := Int.eq_ofNat_of_zero_le hy
  have e1 : ((X : Int) * S) = ((2 ^ s * X : Nat) : Int) := by rw [hS]; simp [Int.mul_comm]
  have e2 : (Y : Int) < ((2 ^ s : Nat) : Int) := by simpa [hS] using hyS
  have e3 : Y < 2 ^ s := by omega
  have e4 : 2 ^ s * X + Y < 18446744073709551616 := by rw [e1] at h; omega
  rw [e1, u64pow]
  have e5 : (((2 ^ s * X : Nat) : Int) % 18446744073709551616).toNat = 2 ^ s * X := by omega
  have e6 : ((Y : Int) % 18446744073709551616).toNat = Y := by omega
  rw [e5, e6, ← Nat.two_pow_add_eq_or_of_lt e3, u64_id (by omega) (by omega)]
  omega
theorem or_shl' {x y S : Int} {s : Nat} (hS : S = (2 : Int) ^ s) (hx : 0 ≤ x) (hy : 0 ≤ y) (hyS : y < S) (h : x * S + y < 18446744073709551616) : IntKind.u64.wrap ↑((y % 2 ^ IntKind.u64.bits).toNat ||| (x * S % 2 ^ IntKind.u64.bits).toNat) = y + x * S := by
  rw [Nat.or_comm, or_shl hS hx hy hyS h]; omega
theorem and_mask {x : Int} (hx : 0 ≤ x) (h : x < 18446744073709551616) : IntKind.u64.wrap ↑((x % 2 ^ IntKind.u64.bits).toNat &&& (4294967295 % 2 ^ IntKind.u64.bits)) = x % 4294967296 := by
  rw [u64pow]
  have e5 : (x % 18446744073709551616).toNat = x.toNat := by omega
  rw [e5, show 4294967295 % 2 ^ IntKind.u64.bits = 2 ^ 32 - 1 from rfl, Nat.and_two_pow_sub_one_eq_mod, u64_id (by omega) (by omega)]
  omega

set_option maxHeartbeats 2000000 in
theorem short_loop {m0 : Mem} {v : Value} {a : List Int} {d : Int} (hv : Sl m0 v a) (hd : 0 < d ∧ d < 4294967296) (ha : Big a) {ob : Nat} (hob : m0.next ≤ ob) {Q : IExit → Slots → Mem → Prop} : ∀ (n : Nat) (c : Int) (o : List Int) (m : Mem) (σ : Slots),
    n ≤ a.length → Old m0 m → m.get ob = some ⟨o.map U, true⟩ → OkL o → o.length = a.length → 0 ≤ c → c < d → val (a.drop n) = val (o.drop n) * d + c →
    σ 0 = v → σ 1 = U d → σ 6 = .slice (some ⟨ob, 0, none⟩) a.length 1 → σ 7 = L c → σ 8 = I ((n : Int) - 1) →
    (∀ σ' m' o c, Old m0 m' → m'.get ob = some ⟨o.map U, true⟩ → OkL o → o.length = a.length → 0 ≤ c → c < d → val a = val o * d + c →
      σ' 6 = .slice (some ⟨ob, 0, none⟩) a.length 1 → σ' 7 = L c → Q (.exit 0) σ' m') → WP Tryz.prog (.loop ir168_l0) σ m Q
  | 0, c, o, m, σ, hn, ho, hg, hok, hlo, c0, c1, he, s0, s1, s6, s7, s8, hQ => by
    refine wp_round fun J hJ => ?_
    simp (disch := first | omega | (simp only [zqp, zqq]; omega)) [ir168_l0, ir168_k1, ir168_k2, ir168_k3, ir168_k4, ir168_k5, ir168_k6, s0, s1, s6, s7, s8, zqa, zqb, zqc, zqd, zqe, zqf, zqg, zqh, zqi, zqj, zqk, u64b, u32b, zql, zqm, zqn, zqo, -zqu, -isSl, -zqs, -zqt, -zqv, -zqr]
    exact hQ _ _ o c ho hg hok hlo c0 c1 (by simpa using he) (by simp [s6]) (by simp [s7])
  | n + 1, c, o, m, σ, hn, ho, hg, hok, hlo, c0, c1, he, s0, s1, s6, s7, s8, hQ => by
    refine wp_round fun J hJ => ?_
    have xv := hv.mono ho
    obtain ⟨h1, h2, h3, h4⟩ := xv.len
    have q0 : (n : Int) < a.length := by omega
    have q1 : n < a.length := by omega
    have q2 : n + 1 ≤ a.length := by omega
    have a1 := xv.addr (i := n) (by omega)
    have a2 := xv.load (i := n) (by omega)
    have bx := gd_bd hv.1 n
    obtain ⟨t, ht⟩ : ∃ t, t = c * 4294967296 + gd a n := ⟨_, rfl⟩
    have t0 : 0 ≤ t := by omega
    have t1 : t < d * 4294967296 := by omega
    have w0 : IntKind.i64.wrap ((n : Int) - 1) = (n : Int) - 1 := i64_id (by omega) (by omega)
    have w1 : IntKind.u64.wrap (gd a n) = gd a n := u64_id (by omega) (by omega)
    have w2 : IntKind.u64.wrap (c * 4294967296) = c * 4294967296 := u64_id (by omega) (by omega)
    have w3 : IntKind.u64.wrap ↑((c * 4294967296 % 2 ^ IntKind.u64.bits).toNat ||| (gd a n % 2 ^ IntKind.u64.bits).toNat) = t := by rw [or_shl (s := 32) (by decide) c0 bx.1 bx.2 (by omega)]; omega
    have w4 : IntKind.u64.wrap d = d := u64_id (by omega) (by omega)
    have d0 : 0 ≤ t / d := Int.ediv_nonneg t0 (by omega)
    have d1 : t / d < 4294967296 := Int.ediv_lt_of_lt_mul hd.1 (by rw [Int.mul_comm]; exact t1)
    have r0 := Int.emod_nonneg t (show d ≠ 0 by omega)
    have r1 := Int.emod_lt_of_pos t hd.1
    have w5 : IntKind.u64.wrap (t.tdiv d) = t / d := by rw [Int.tdiv_eq_ediv_of_nonneg t0]; exact u64_id d0 (by omega)
    have w6 : t.tmod d = t % d := Int.tmod_eq_emod_of_nonneg t0
    have w7 : IntKind.u32.wrap (t / d) = t / d := by rw [u32_wrap]; omega
    have dn : ¬ d = 0 := by omega
    have hlt := get_lt hg
    simp (disch := first | omega | (simp only [zqp, zqq]; omega)) [ir168_l0, ir168_k1, ir168_k2, ir168_k3, ir168_k4, ir168_k5, ir168_k6, s0, s1, s6, s7, s8, h1, h2, h3, q0, q1, q2, a1, a2, w0, w1, w2, w3, w4, w5, w6, w7, dn, hg, hlo, zqa, zqb, zqc, zqd, zqe, zqf, zqg, zqh, zqi, zqj, zqk, u64b, u32b, zql, zqm, zqn, zqo, -zqu, -isSl, -zqs, -zqt, -zqv, -zqr]
    refine hJ _ _ (short_loop hv hd ha hob n (t % d) (o.set n (t / d)) _ _ (by omega) (ho.put hob) (by rw [zql hlt, set_map]) (hok.set n (by omega)) (by simp [hlo]) r0 r1 (short_round hd.1 he ht (by omega)) (by simp [s0]) (by simp [s1]) (by simp [s6]) (by simp) (by simp) hQ)

set_option maxHeartbeats 2000000 in
theorem short_wp {m : Mem} {v : Value} {a : List Int} {d : Int} (hv : Sl m v a) (hd : 0 < d ∧ d < 4294967296) (ha : Big a) :
    WPCall Tryz.prog 168 [v, U d] m fun r m' => Old m m' ∧ ∃ q, r = .tuple #[q, U (val a % d)] ∧ Sl m' q (digs (val a / d)) := by
  rw [call168 (by simp)]
  obtain ⟨h1, h2, h3, h4⟩ := hv.len
  have w0 : IntKind.i64.wrap ((a.length : Int) - 1) = (a.length : Int) - 1 := i64_id (by omega) (by omega)
  simp (disch := first | omega | (simp only [zqp, zqq]; omega)) [ir168_b, ir168_k1, ir168_k2, ir168_k3, ir168_k4, ir168_k5, ir168_k6, h1, h2, h3, w0, zqa, zqb, zqc, zqd, zqe, zqf, zqg, zqh, zqi, zqj, zqk, u64b, u32b, zql, zqm, zqn, zqo, -zqu, -isSl, -zqs, -zqt, -zqv, -zqr]
  have hM : Old m ((m.bump 4).put (m.next + 2) (some ⟨List.replicate a.length (.int .u32 0), true⟩)) := ((Old.refl m).bump 4).put (by omega)
  refine ⟨by omega, short_loop hv hd ha (ob := m.next + 2) (by omega) a.length 0 (List.replicate a.length 0) _ _ (by omega) hM (by rw [zql (by simp)]; simp) (OkL.zeros _) (by simp) (by omega) (by omega) (by rw [List.drop_of_length_le (by omega), List.drop_of_length_le (by simp)]; simp [val]) (by simp) (by simp) (by simp) (by simp) (by simp) fun σ' m' o c f1 f2 f3 f4 f5 f6 f7 q6 q7 => ?_⟩
  have hs : Sl m' (.slice (some ⟨m.next + 2, 0, none⟩) a.length 1) o := Sl.mk' f3 f2 f4.symm
  have hln := fun Φ => length_wp hs (by omega) Φ
  have hn := nlen_le o
  have hn2 : (nlen o : Int) ≤ a.length := by omega
  obtain ⟨e1, e2⟩ := div_of f7 f5 f6
  have w1 : IntKind.u32.wrap c = c := by rw [u32_wrap]; omega
  simp (disch := first | omega | (simp only [zqp, zqq]; omega)) [q6, q7, hln, hn2, w1, zqa, zqb, zqc, zqd, zqe, zqf, zqg, zqh, zqi, zqj, zqk, u64b, u32b, zql, zqm, zqn, zqo, -zqu, -isSl, -zqs, -zqt, -zqv, -zqr]
  have hd := hs.digs
  rw [← e1, zqe] at hd
  exact ⟨f1, _, ⟨rfl, e2.symm⟩, by simpa using hd⟩
set_option maxHeartbeats 2000000 in
theorem up_loop {m0 : Mem} {v : Value} {a : List Int} {s : Nat} {S : Int} (hS : S = (2 : Int) ^ s) (hs : s < 32) (hS1 : 1 ≤ S ∧ S ≤ 2147483648) (hv : Sl m0 v a) (ha : Big a) {ob : Nat} (hob : m0.next ≤ ob) {Q : IExit → Slots → Mem → Prop} : ∀ (r i : Nat) (c : Int) (o : List Int) (m : Mem) (σ : Slots),
    i + r = a.length → Old m0 m → m.get ob = some ⟨o.map U, true⟩ → OkL o → o.length = a.length + 1 → 0 ≤ c → c < S → val (o.take i) + c * pw i = val (a.take i) * S →
    σ 0 = v → σ 1 = L s → σ 5 = .slice (some ⟨ob, 0, none⟩) (a.length + 1) 1 → σ 6 = L c → σ 13 = v → σ 14 = I a.length → σ 15 = I i →
    (∀ σ' m' o c, Old m0 m' → m'.get ob = some ⟨o.map U, true⟩ → OkL o → o.length = a.length + 1 → 0 ≤ c → c < S → val (o.take a.length) + c * pw a.length = val a * S →
      σ' 0 = v → σ' 5 = .slice (some ⟨ob, 0, none⟩) (a.length + 1) 1 → σ' 6 = L c → Q (.exit 0) σ' m') → WP Tryz.prog (.loop ir169_l0) σ m Q
  | 0, i, c, o, m, σ, hi, ho, hg, hok, hlo, c0, c1, he, s0, s1, s5, s6, s13, s14, s15, hQ => by
    refine wp_round fun J hJ => ?_
    have e : i = a.length := by omega
    subst e
    simp (disch := first | omega | (simp only [zqp, zqq]; omega)) [ir169_l0, ir169_k1, ir169_k2, ir169_k3, ir169_k4, ir169_k5, ir169_k6, ir169_k7, ir169_k8, ir169_k9, s0, s1, s5, s6, s13, s14, s15, zqa, zqb, zqc, zqd, zqe, zqf, zqg, zqh, zqi, zqj, zqk, u64b, u32b, zql, zqm, zqn, zqo, -zqu, -isSl, -zqs, -zqt, -zqv, -zqr]
    rw [List.take_of_length_le (l := a) (by omega)] at he
    exact hQ _ _ o c ho hg hok hlo c0 c1 he (by simp [s0]) (by simp [s5]) (by simp [s6])
  | r + 1, i, c, o, m, σ, hi, ho, hg, hok, hlo, c0, c1, he, s0, s1, s5, s6, s13, s14, s15, hQ => by
    refine wp_round fun J hJ => ?_
    have xv := hv.mono ho
    obtain ⟨h1, h2, h3, h4⟩ := xv.len
    have q0 : (i : Int) < a.length := by omega
    have q1 : (i : Int) < (a.length : Int) + 1 := by omega
    have q2 : i ≤ a.length := by omega
    have q3 : (i : Int) ≤ a.length := by omega
    have a1 := xv.addr (i := i) (by omega)
    have a2 := xv.load (i := i) (by omega)
    have bx := gd_bd hv.1 i
    have hp : gd a i * S + S ≤ 4294967296 * S := by
      have := Int.mul_le_mul_of_nonneg_right (show gd a i + 1 ≤ 4294967296 by omega) (show 0 ≤ S by omega)
      rw [Int.add_mul, Int.one_mul] at this; exact this
    have hp0 : 0 ≤ gd a i * S := Int.mul_nonneg bx.1 (by omega)
    obtain ⟨t, ht⟩ : ∃ t, t = c + gd a i * S := ⟨_, rfl⟩
    have w0 : IntKind.i64.wrap ((i : Int) + 1) = (i : Int) + 1 := i64_id (by omega) (by omega)
    have w1 : IntKind.u64.wrap (gd a i) = gd a i := u64_id (by omega) (by omega)
    have w2 : IntKind.u64.wrap (gd a i * S) = gd a i * S := u64_id (by omega) (by omega)
    have w3 : IntKind.u64.wrap ↑((c % 2 ^ IntKind.u64.bits).toNat ||| (gd a i * S % 2 ^ IntKind.u64.bits).toNat) = t := by rw [or_shl' hS bx.1 c0 c1 (by omega), ht]
    have mn : min s 64 = s := by omega
    have hlt := get_lt hg
    simp (disch := first | omega | (simp only [zqp, zqq]; omega)) [ir169_l0, ir169_k1, ir169_k2, ir169_k3, ir169_k4, ir169_k5, ir169_k6, ir169_k7, ir169_k8, ir169_k9, s0, s1, s5, s6, s13, s14, s15, h1, h2, h3, q0, q1, q2, q3, a1, a2, w0, w1, w2, w3, mn, ← hS, hg, hlo, u32_wrap, fdiv32, zqa, zqb, zqc, zqd, zqe, zqf, zqg, zqh, zqi, zqj, zqk, u64b, u32b, zql, zqm, zqn, zqo, -zqu, -isSl, -zqs, -zqt, -zqv, -zqr]
    refine hJ _ _ (up_loop hS hs hS1 hv ha hob r (i + 1) (t / 4294967296) (o.set i (t % 4294967296)) _ _ (by omega) (ho.put hob) (by rw [zql hlt, set_map]) (hok.set i (by omega)) (by simp [hlo]) (by omega) (by omega) (up_round he ht (by omega)) (by simp [s0]) (by simp [s1]) (by simp [s5]) (by simp) (by simp [s13]) (by simp [s14]) (by simp) hQ)
/-- a new block of limbs -/
def New (m : Mem) (n : Nat) (x : Int) (r : Value) (m' : Mem) : Prop := Old m m' ∧ ∃ ob o, r = .slice (some ⟨ob, 0, none⟩) n 1 ∧ m.next ≤ ob ∧ m'.get ob = some ⟨o.map U, true⟩ ∧ OkL o ∧ o.length = n ∧ val o = x
set_option maxHeartbeats 2000000 in
theorem up_wp {m : Mem} {v : Value} {a : List Int} {s : Nat} {S : Int} (hS : S = (2 : Int) ^ s) (hs : s < 32) (hS1 : 1 ≤ S ∧ S ≤ 2147483648) (hv : Sl m v a) (ha : Big a) :
    WPCall Tryz.prog 169 [v, L s] m (New m (a.length + 1) (val a * S)) := by
  rw [call169 (by simp)]
  obtain ⟨h1, h2, h3, h4⟩ := hv.len
  have w0 : IntKind.i64.wrap ((a.length : Int) + 1) = (a.length : Int) + 1 := i64_id (by omega) (by omega)
  simp (disch := first | omega | (simp only [zqp, zqq]; omega)) [ir169_b, ir169_k1, ir169_k2, ir169_k3, ir169_k4, ir169_k5, ir169_k6, ir169_k7, ir169_k8, ir169_k9, h1, h2, h3, w0, zqa, zqb, zqc, zqd, zqe, zqf, zqg, zqh, zqi, zqj, zqk, u64b, u32b, zql, zqm, zqn, zqo, -zqu, -isSl, -zqs, -zqt, -zqv, -zqr]
  have hM : Old m ((m.bump 5).put (m.next + 3) (some ⟨List.replicate (a.length + 1) (.int .u32 0), true⟩)) := ((Old.refl m).bump 5).put (by omega)
  refine ⟨by omega, up_loop hS hs hS1 hv ha (ob := m.next + 3) (by omega) a.length 0 0 (List.replicate (a.length + 1) 0) _ _ (by omega) hM (by rw [zql (by simp)]; simp) (OkL.zeros _) (by simp) (by omega) (by omega) (by simp [val]) (by simp) (by simp) (by simp) (by simp) (by simp) (by simp) (by simp) fun σ' m' o c f1 f2 f3 f4 f5 f6 f7 q0 q5 q6 => ?_⟩
  have hlt := get_lt f2
  simp (disch := first | omega | (simp only [zqp, zqq]; omega)) [q0, q5, q6, h1, h2, h3, f2, f4, u32_wrap, zqa, zqb, zqc, zqd, zqe, zqf, zqg, zqh, zqi, zqj, zqk, u64b, u32b, zql, zqm, zqn, zqo, -zqu, -isSl, -zqs, -zqt, -zqv, -zqr]
  refine ⟨by omega, f1.put (by omega), m.next + 3, o.set a.length (c % 4294967296), rfl, by omega, by rw [zql hlt, set_map], f3.set _ (by omega), by simp [f4], ?_⟩
  have := set_take_val (o := o) (i := a.length) (c % 4294967296) (by omega)
  rw [List.take_of_length_le (by simp; omega)] at this
  rw [this, show c % 4294967296 = c by omega, Int.mul_comm]
  exact f7
end Go.Proofs.YtkpifdkccdndcaaGreat
namespace Go.Proofs.YtkpifdkccdndcaaGreat
open Go Go.DI Go.Big
set_option linter.unusedSimpArgs false
set_option linter.unusedVariables false

/-- nothing old is turned but one block -/
structure OldX (ub : Nat) (m m' : Mem) : Prop where
  next : m.next ≤ m'.next
  get : ∀ b, b < m.next → b ≠ ub → m'.get b = m.get b
theorem OldX.refl (ub : Nat) (m : Mem) : OldX ub m m := ⟨Nat.le_refl _, fun _ _ _ => rfl⟩
theorem OldX.trans {ub : Nat} {a b c : Mem} (h : OldX ub a b) (h' : OldX ub b c) : OldX ub a c := ⟨Nat.le_trans h.next h'.next, fun x hx hb => by rw [h'.get x (Nat.lt_of_lt_of_le hx h.next) hb, h.get x hx hb]⟩
theorem OldX.put {ub : Nat} {m m' : Mem} (h : OldX ub m m') {x : Option Blk} : OldX ub m (m'.put ub x) := ⟨h.next, fun b hb hn => by rw [zqm hn, h.get b hb hn]⟩
theorem OldX.of {ub : Nat} {m m' : Mem} (h : Old m m') : OldX ub m m' := ⟨h.next, fun b hb _ => h.get b hb⟩
theorem Sl.monoX {m m' : Mem} {v : Value} {l : List Int} {ub : Nat} (h : Sl m v l) (hb : blkOf v ≠ some ub) (ho : OldX ub m m') : Sl m' v l := by
  obtain ⟨hk, h | ⟨b, o, cs, w, h1, h2, h3, h4⟩⟩ := h
  · exact ⟨hk, .inl h⟩
  · subst h1
    exact ⟨hk, .inr ⟨b, o, cs, w, rfl, by rw [ho.get b (get_lt h2) (by simpa [blkOf] using hb), h2], h3, h4⟩⟩

theorem mid_set {A w C : List Int} {i : Nat} (h : i < w.length) {x : Int} : (A ++ w ++ C).set (A.length + i) x = A ++ w.set i x ++ C := by
  rw [List.append_assoc, List.append_assoc, List.set_append_right _ _ (by omega), Nat.add_sub_cancel_left, List.set_append_left _ _ h]
theorem mid_get {A w C : List Int} {i : Nat} (h : i < w.length) : (A ++ w ++ C)[A.length + i]? = some (gd w i) := by
  rw [List.append_assoc, List.getElem?_append_right (by omega), Nat.add_sub_cancel_left, List.getElem?_append_left h, gd_some (List.getElem?_eq_getElem h), List.getElem?_eq_getElem h]
theorem gd_drop_eq {w u : List Int} {i : Nat} (h : w.drop i = u.drop i) : gd w i = gd u i := by
  have h1 := gd_drop (l := w) (i := 0) (n := i)
  have h2 := gd_drop (l := u) (i := 0) (n := i)
  rw [h] at h1
  simpa using h1.symm.trans h2

/-- u lies in its block -/
def Mid (m : Mem) (ub : Nat) (A w C : List Int) : Prop := ∃ F, m.get ub = some ⟨F.map U, true⟩ ∧ F = A ++ w ++ C
set_option maxHeartbeats 2000000 in
theorem subt_loop {m0 : Mem} {v : Value} {vl A C u : List Int} {f : Int} {j n ub : Nat} (hv : Sl m0 v vl) (hb : blkOf v ≠ some ub) (hn : vl.length = n) (hN : n < 1000000) (hf : 0 ≤ f ∧ f < 4294967296) (hj : A.length = j) (hu : OkL u) (hul : u.length = n + 1) {Q : IExit → Slots → Mem → Prop} : ∀ (r i : Nat) (c b : Int) (w F : List Int) (m : Mem) (σ : Slots),
    i + r = n → OldX ub m0 m → m.get ub = some ⟨F.map U, true⟩ → F = A ++ w ++ C → OkL w → w.length = n + 1 → w.drop i = u.drop i → 0 ≤ c → c < 4294967296 → 0 ≤ b → b < 2 → val (w.take i) = val (u.take i) - f * val (vl.take i) + (c + b) * pw i →
    σ 0 = .slice (some ⟨ub, j, none⟩) (n + 1) 1 → σ 1 = v → σ 2 = L f → σ 7 = L c → σ 8 = L b → σ 13 = v → σ 14 = I n → σ 15 = I i →
    (∀ σ' m' c b w F, OldX ub m0 m' → m'.get ub = some ⟨F.map U, true⟩ → F = A ++ w ++ C → OkL w → w.length = n + 1 → w.drop n = u.drop n → 0 ≤ c → c < 4294967296 → 0 ≤ b → b < 2 → val (w.take n) = val (u.take n) - f * val vl + (c + b) * pw n →
      σ' 0 = .slice (some ⟨ub, j, none⟩) (n + 1) 1 → σ' 1 = v → σ' 7 = L c → σ' 8 = L b → Q (.exit 0) σ' m') → WP Tryz.prog (.loop ir170_l0) σ m Q
  | 0, i, c, b, w, F, m, σ, hi, ho, hg, hF, hok, hlo, hdr, c0, c1, b0, b1, he, s0, s1, s2, s7, s8, s13, s14, s15, hQ => by
    refine wp_round fun J hJ => ?_
    have e : i = n := by omega
    subst e
    simp (disch := first | omega | (simp only [zqp, zqq]; omega)) [ir170_l0, ir170_k1, ir170_k2, ir170_k3, ir170_k4, ir170_k5, ir170_k6, ir170_k7, ir170_k8, ir170_k9, ir170_k10, ir170_k11, s0, s1, s2, s7, s8, s13, s14, s15, zqa, zqb, zqc, zqd, zqe, zqf, zqg, zqh, zqi, zqj, zqk, u64b, u32b, zql, zqm, zqn, zqo, -zqu, -isSl, -zqs, -zqt, -zqv, -zqr]
    rw [List.take_of_length_le (l := vl) (by omega)] at he
    exact hQ _ _ c b w F ho hg hF hok hlo hdr c0 c1 b0 b1 he (by simp [s0]) (by simp [s1]) (by simp [s7]) (by simp [s8])
  | r + 1, i, c, b, w, F, m, σ, hi, ho, hg, hF, hok, hlo, hdr, c0, c1, b0, b1, he, s0, s1, s2, s7, s8, s13, s14, s15, hQ => by
    refine wp_round fun J hJ => ?_
    have xv := hv.monoX hb ho
    obtain ⟨h1, h2, h3, h4⟩ := xv.len
    rw [hn] at h1
    have q0 : (i : Int) < n := by omega
    have q1 : (i : Int) < (n : Int) + 1 := by omega
    have q2 : (i : Int) ≤ n := by omega
    have a1 := xv.addr (i := i) (by omega)
    have a2 := xv.load (i := i) (by omega)
    have bx := gd_bd hv.1 i
    have bu := gd_bd hu i
    have hp := prod_bd hf bx
    have hgu : gd w i = gd u i := gd_drop_eq hdr
    have hz : F[j + i]? = some (gd u i) := by rw [hF, ← hj, mid_get (by omega), hgu]
    obtain ⟨hzl, hz2⟩ := List.getElem?_eq_some_iff.1 hz
    have hzl' : j + i + 1 ≤ F.length := by omega
    obtain ⟨t, ht⟩ : ∃ t, t = c + f * gd vl i := ⟨_, rfl⟩
    have w0 : IntKind.i64.wrap ((i : Int) + 1) = (i : Int) + 1 := i64_id (by omega) (by omega)
    have w1 : IntKind.u64.wrap (gd vl i) = gd vl i := u64_id (by omega) (by omega)
    have w2 : IntKind.u64.wrap (f * gd vl i) = f * gd vl i := u64_id (by omega) (by omega)
    have w3 : IntKind.u64.wrap (c + f * gd vl i) = t := by rw [u64_id (by omega) (by omega), ht]
    have w4 := and_mask (x := t) (by omega) (by omega)
    have w5 : IntKind.u64.wrap (gd u i) = gd u i := u64_id (by omega) (by omega)
    obtain ⟨z, w6, e1, e2⟩ : ∃ z, IntKind.u64.wrap (IntKind.u64.wrap (gd u i - t % 4294967296) - b) = z ∧ z % 4294967296 = (gd u i - t % 4294967296 - b) % 4294967296 ∧ z / 9223372036854775808 = -((gd u i - t % 4294967296 - b) / 4294967296) := ⟨_, rfl, by rw [u64_wrap, u64_wrap]; omega, by rw [u64_wrap, u64_wrap]; omega⟩
    obtain ⟨d, hd⟩ : ∃ d, d = gd u i - t % 4294967296 - b := ⟨_, rfl⟩
    rw [← hd] at e1 e2
    have hlt := get_lt hg
    simp (disch := first | omega | (simp only [zqp, zqq]; omega)) [ir170_l0, ir170_k1, ir170_k2, ir170_k3, ir170_k4, ir170_k5, ir170_k6, ir170_k7, ir170_k8, ir170_k9, ir170_k10, ir170_k11, s0, s1, s2, s7, s8, s13, s14, s15, h1, h2, h3, q0, q1, q2, a1, a2, w0, w1, w2, w3, w4, w5, w6, e1, e2, hg, hz, hz2, hzl, hzl', head_td, u32_wrap, fdiv32, fdiv63, zqa, zqb, zqc, zqd, zqe, zqf, zqg, zqh, zqi, zqj, zqk, u64b, u32b, zql, zqm, zqn, zqo, -zqu, -isSl, -zqs, -zqt, -zqv, -zqr]
    refine hJ _ _ (subt_loop hv hb hn hN hf hj hu hul r (i + 1) (t / 4294967296) (-(d / 4294967296)) (w.set i (d % 4294967296)) (F.set (j + i) (d % 4294967296)) _ _ (by omega) ho.put (by rw [zql hlt, set_map]) (by rw [hF, ← hj, mid_set (by omega)]) (hok.set i (by omega)) (by simp [hlo]) ?_ (by omega) (by omega) (by omega) (by omega) ?_ (by simp [s0]) (by simp [s1]) (by simp [s2]) (by simp) (by simp) (by simp [s13]) (by simp [s14]) (by simp) hQ)
    · rw [List.drop_set_of_lt (by omega), ← List.drop_drop (i := 1) (j := i), ← List.drop_drop (i := 1) (j := i), hdr]
    · exact subt_round (u := u) (b := b) (c := c) he ht hd (by omega) (by omega)
/-- what 'subtract' and 'restore' leave -/
def SubR (m : Mem) (ub n : Nat) (A C : List Int) (y : Int) (kk : Int) (m' : Mem) : Prop := OldX ub m m' ∧ ∃ w F, m'.get ub = some ⟨F.map U, true⟩ ∧ F = A ++ w ++ C ∧ OkL w ∧ w.length = n + 1 ∧ val w = y + kk * pw (n + 1)
def SubP (m : Mem) (ub n : Nat) (A C : List Int) (y : Int) (r : Value) (m' : Mem) : Prop := ∃ k : Int, (k = 0 ∨ k = 1) ∧ r = .bool (decide (k = 1)) ∧ SubR m ub n A C y k m'
set_option maxHeartbeats 2000000 in
theorem subt_wp {m : Mem} {v : Value} {vl A C u F : List Int} {f : Int} {j n ub : Nat} (hv : Sl m v vl) (hb : blkOf v ≠ some ub) (hn : vl.length = n) (hN : n < 1000000) (hf : 0 ≤ f ∧ f < 4294967296) (hj : A.length = j) (hu : OkL u) (hul : u.length = n + 1)
    (hg : m.get ub = some ⟨F.map U, true⟩) (hF : F = A ++ u ++ C) :
    WPCall Tryz.prog 170 [.slice (some ⟨ub, j, none⟩) (n + 1) 1, v, L f] m (SubP m ub n A C (val u - f * val vl)) := by
  rw [call170 (by simp)]
  obtain ⟨h1, h2, h3, h4⟩ := hv.len
  rw [hn] at h1
  simp (disch := first | omega | (simp only [zqp, zqq]; omega)) [ir170_b, ir170_k1, ir170_k2, ir170_k3, ir170_k4, ir170_k5, ir170_k6, ir170_k7, ir170_k8, ir170_k9, ir170_k10, ir170_k11, h1, h2, h3, zqa, zqb, zqc, zqd, zqe, zqf, zqg, zqh, zqi, zqj, zqk, u64b, u32b, zql, zqm, zqn, zqo, -zqu, -isSl, -zqs, -zqt, -zqv, -zqr]
  refine subt_loop hv hb hn hN hf hj hu hul n 0 0 0 u F m _ (by omega) (OldX.refl _ _) hg hF hu hul rfl (by omega) (by omega) (by omega) (by omega) (by simp [val]) (by simp) (by simp) (by simp) (by simp) (by simp) (by simp) (by simp) (by simp) fun σ' m' c b w F' f1 f2 f3 f4 f5 f6 f7 f8 f9 f10 f11 p0 p1 p7 p8 => ?_
  have xv := hv.monoX hb f1
  obtain ⟨h1, h2, h3, h4⟩ := xv.len
  rw [hn] at h1
  have hgu : gd w n = gd u n := gd_drop_eq f6
  have bu := gd_bd hu n
  have hz : F'[j + n]? = some (gd u n) := by rw [f3, ← hj, mid_get (by omega), hgu]
  obtain ⟨hzl, hz2⟩ := List.getElem?_eq_some_iff.1 hz
  have hzl' : j + n + 1 ≤ F'.length := by omega
  have q1 : (n : Int) < (n : Int) + 1 := by omega
  have w5 : IntKind.u64.wrap (gd u n) = gd u n := u64_id (by omega) (by omega)
  obtain ⟨d, hd⟩ : ∃ d, d = gd u n - c - b := ⟨_, rfl⟩
  obtain ⟨z, w6, e1, e2⟩ : ∃ z, IntKind.u64.wrap (IntKind.u64.wrap (gd u n - c) - b) = z ∧ z % 4294967296 = d % 4294967296 ∧ z / 9223372036854775808 = -(d / 4294967296) := ⟨_, rfl, by rw [u64_wrap, u64_wrap]; omega, by rw [u64_wrap, u64_wrap]; omega⟩
  have hlt := get_lt f2
  simp (disch := first | omega | (simp only [zqp, zqq]; omega)) [p0, p1, p7, p8, h1, h2, h3, q1, w5, w6, e1, e2, f2, hz, hz2, hzl, hzl', head_td, u32_wrap, fdiv63, zqa, zqb, zqc, zqd, zqe, zqf, zqg, zqh, zqi, zqj, zqk, u64b, u32b, zql, zqm, zqn, zqo, -zqu, -isSl, -zqs, -zqt, -zqv, -zqr]
  refine ⟨-(d / 4294967296), by omega, by rfl, f1.put, w.set n (d % 4294967296), F'.set (j + n) (d % 4294967296), by rw [zql hlt, set_map], by rw [f3, ← hj, mid_set (by omega)], f4.set n (by omega), by simp [f5], ?_⟩
  have g1 := set_take_val (o := w) (i := n) (d % 4294967296) (by omega)
  rw [List.take_of_length_le (by simp; omega)] at g1
  have g2 := take_val u n
  rw [List.take_of_length_le (l := u) (by omega)] at g2
  have g3 := split_div (t := d) (B := 4294967296) (by omega)
  rw [g1, g2, f11]
  simp only [pw]
  grind
set_option maxHeartbeats 2000000 in
theorem rest_loop {m0 : Mem} {v : Value} {vl A C u : List Int} {j n ub : Nat} (hv : Sl m0 v vl) (hb : blkOf v ≠ some ub) (hn : vl.length = n) (hN : n < 1000000) (hj : A.length = j) (hu : OkL u) (hul : u.length = n + 1) {Q : IExit → Slots → Mem → Prop} : ∀ (r i : Nat) (c : Int) (w F : List Int) (m : Mem) (σ : Slots),
    i + r = n → OldX ub m0 m → m.get ub = some ⟨F.map U, true⟩ → F = A ++ w ++ C → OkL w → w.length = n + 1 → w.drop i = u.drop i → 0 ≤ c → c < 2 → val (w.take i) + c * pw i = val (u.take i) + val (vl.take i) →
    σ 0 = .slice (some ⟨ub, j, none⟩) (n + 1) 1 → σ 1 = v → σ 4 = L c → σ 7 = v → σ 8 = I n → σ 9 = I i →
    (∀ σ' m' c w F, OldX ub m0 m' → m'.get ub = some ⟨F.map U, true⟩ → F = A ++ w ++ C → OkL w → w.length = n + 1 → w.drop n = u.drop n → 0 ≤ c → c < 2 → val (w.take n) + c * pw n = val (u.take n) + val vl →
      σ' 0 = .slice (some ⟨ub, j, none⟩) (n + 1) 1 → σ' 1 = v → σ' 4 = L c → Q (.exit 0) σ' m') → WP Tryz.prog (.loop ir171_l0) σ m Q
  | 0, i, c, w, F, m, σ, hi, ho, hg, hF, hok, hlo, hdr, c0, c1, he, s0, s1, s4, s7, s8, s9, hQ => by
    refine wp_round fun J hJ => ?_
    have e : i = n := by omega
    subst e
    simp (disch := first | omega | (simp only [zqp, zqq]; omega)) [ir171_l0, ir171_k1, ir171_k2, ir171_k3, ir171_k4, ir171_k5, s0, s1, s4, s7, s8, s9, zqa, zqb, zqc, zqd, zqe, zqf, zqg, zqh, zqi, zqj, zqk, u64b, u32b, zql, zqm, zqn, zqo, -zqu, -isSl, -zqs, -zqt, -zqv, -zqr]
    rw [List.take_of_length_le (l := vl) (by omega)] at he
    exact hQ _ _ c w F ho hg hF hok hlo hdr c0 c1 he (by simp [s0]) (by simp [s1]) (by simp [s4])
  | r + 1, i, c, w, F, m, σ, hi, ho, hg, hF, hok, hlo, hdr, c0, c1, he, s0, s1, s4, s7, s8, s9, hQ => by
    refine wp_round fun J hJ => ?_
    have xv := hv.monoX hb ho
    obtain ⟨h1, h2, h3, h4⟩ := xv.len
    rw [hn] at h1
    have q0 : (i : Int) < n := by omega
    have q1 : (i : Int) < (n : Int) + 1 := by omega
    have q2 : (i : Int) ≤ n := by omega
    have a1 := xv.addr (i := i) (by omega)
    have a2 := xv.load (i := i) (by omega)
    have bx := gd_bd hv.1 i
    have bu := gd_bd hu i
    have hgu : gd w i = gd u i := gd_drop_eq hdr
    have hz : F[j + i]? = some (gd u i) := by rw [hF, ← hj, mid_get (by omega), hgu]
    obtain ⟨hzl, hz2⟩ := List.getElem?_eq_some_iff.1 hz
    have hzl' : j + i + 1 ≤ F.length := by omega
    obtain ⟨t, ht⟩ : ∃ t, t = c + gd u i + gd vl i := ⟨_, rfl⟩
    have w0 : IntKind.i64.wrap ((i : Int) + 1) = (i : Int) + 1 := i64_id (by omega) (by omega)
    have w1 : IntKind.u64.wrap (gd vl i) = gd vl i := u64_id (by omega) (by omega)
    have w2 : IntKind.u64.wrap (gd u i) = gd u i := u64_id (by omega) (by omega)
    have w3 : IntKind.u64.wrap (gd u i + gd vl i) = gd u i + gd vl i := u64_id (by omega) (by omega)
    have w4 : IntKind.u64.wrap (c + (gd u i + gd vl i)) = t := by rw [u64_id (by omega) (by omega)]; omega
    have hlt := get_lt hg
    simp (disch := first | omega | (simp only [zqp, zqq]; omega)) [ir171_l0, ir171_k1, ir171_k2, ir171_k3, ir171_k4, ir171_k5, s0, s1, s4, s7, s8, s9, h1, h2, h3, q0, q1, q2, a1, a2, w0, w1, w2, w3, w4, hg, hz, hz2, hzl, hzl', head_td, u32_wrap, fdiv32, zqa, zqb, zqc, zqd, zqe, zqf, zqg, zqh, zqi, zqj, zqk, u64b, u32b, zql, zqm, zqn, zqo, -zqu, -isSl, -zqs, -zqt, -zqv, -zqr]
    refine hJ _ _ (rest_loop hv hb hn hN hj hu hul r (i + 1) (t / 4294967296) (w.set i (t % 4294967296)) (F.set (j + i) (t % 4294967296)) _ _ (by omega) ho.put (by rw [zql hlt, set_map]) (by rw [hF, ← hj, mid_set (by omega)]) (hok.set i (by omega)) (by simp [hlo]) ?_ (by omega) (by omega) (add_round he ht (by omega)) (by simp [s0]) (by simp [s1]) (by simp) (by simp [s7]) (by simp [s8]) (by simp) hQ)
    rw [List.drop_set_of_lt (by omega), ← List.drop_drop (i := 1) (j := i), ← List.drop_drop (i := 1) (j := i), hdr]
def RestP (m : Mem) (ub n : Nat) (A C : List Int) (y : Int) (r : Value) (m' : Mem) : Prop := ∃ k : Int, (k = 0 ∨ k = 1) ∧ SubR m ub n A C y (-k) m'
set_option maxHeartbeats 2000000 in
theorem rest_wp {m : Mem} {v : Value} {vl A C u F : List Int} {j n ub : Nat} (hv : Sl m v vl) (hb : blkOf v ≠ some ub) (hn : vl.length = n) (hN : n < 1000000) (hj : A.length = j) (hu : OkL u) (hul : u.length = n + 1)
    (hg : m.get ub = some ⟨F.map U, true⟩) (hF : F = A ++ u ++ C) :
    WPCall Tryz.prog 171 [.slice (some ⟨ub, j, none⟩) (n + 1) 1, v] m (RestP m ub n A C (val u + val vl)) := by
  rw [call171 (by simp)]
  obtain ⟨h1, h2, h3, h4⟩ := hv.len
  rw [hn] at h1
  simp (disch := first | omega | (simp only [zqp, zqq]; omega)) [ir171_b, ir171_k1, ir171_k2, ir171_k3, ir171_k4, ir171_k5, h1, h2, h3, zqa, zqb, zqc, zqd, zqe, zqf, zqg, zqh, zqi, zqj, zqk, u64b, u32b, zql, zqm, zqn, zqo, -zqu, -isSl, -zqs, -zqt, -zqv, -zqr]
  refine rest_loop hv hb hn hN hj hu hul n 0 0 u F m _ (by omega) (OldX.refl _ _) hg hF hu hul rfl (by omega) (by omega) (by simp [val]) (by simp) (by simp) (by simp) (by simp) (by simp) (by simp) fun σ' m' c w F' f1 f2 f3 f4 f5 f6 f7 f8 f11 p0 p1 p4 => ?_
  have xv := hv.monoX hb f1
  obtain ⟨h1, h2, h3, h4⟩ := xv.len
  rw [hn] at h1
  have hgu : gd w n = gd u n := gd_drop_eq f6
  have bu := gd_bd hu n
  have hz : F'[j + n]? = some (gd u n) := by rw [f3, ← hj, mid_get (by omega), hgu]
  obtain ⟨hzl, hz2⟩ := List.getElem?_eq_some_iff.1 hz
  have hzl' : j + n + 1 ≤ F'.length := by omega
  have q1 : (n : Int) < (n : Int) + 1 := by omega
  obtain ⟨d, hd⟩ : ∃ d, d = gd u n + c := ⟨_, rfl⟩
  have w1 : IntKind.u32.wrap c = c := by rw [u32_wrap]; omega
  have w2 : IntKind.u32.wrap (gd u n + c) = d % 4294967296 := by rw [u32_wrap, hd]
  have hlt := get_lt f2
  simp (disch := first | omega | (simp only [zqp, zqq]; omega)) [p0, p1, p4, h1, h2, h3, q1, w1, w2, f2, hz, hz2, hzl, hzl', head_td, zqa, zqb, zqc, zqd, zqe, zqf, zqg, zqh, zqi, zqj, zqk, u64b, u32b, zql, zqm, zqn, zqo, -zqu, -isSl, -zqs, -zqt, -zqv, -zqr]
  refine ⟨d / 4294967296, by omega, f1.put, w.set n (d % 4294967296), F'.set (j + n) (d % 4294967296), by rw [zql hlt, set_map], by rw [f3, ← hj, mid_set (by omega)], f4.set n (by omega), by simp [f5], ?_⟩
  have g1 := set_take_val (o := w) (i := n) (d % 4294967296) (by omega)
  rw [List.take_of_length_le (by simp; omega)] at g1
  have g2 := take_val u n
  rw [List.take_of_length_le (l := u) (by omega)] at g2
  have g3 := split_div (t := d) (B := 4294967296) (by omega)
  rw [g1, g2]
  simp only [pw]
  grind
end Go.Proofs.YtkpifdkccdndcaaGreat
namespace Go.Proofs.YtkpifdkccdndcaaGreat
open Go Go.DI Go.Big
set_option linter.unusedSimpArgs false
set_option linter.unusedVariables false

theorem upd_lt {σ σ0 : Slots} {k n : Nat} {v : Value} (hk : k ≤ n) (h : ∀ t, t < k → σ t = σ0 t) : ∀ t, t < k → upd σ n v t = σ0 t := fun t ht => by
  rw [upd_apply, if_neg (by omega)]; exact h t ht
set_option maxHeartbeats 2000000 in
theorem scale_loop {m : Mem} {w : Value} {b : List Int} {n : Nat} (hw : Sl m w b) (hl : b.length = n + 1) (hb : Big b) (hx : 1 ≤ gd b n) {σ0 : Slots} {Q : IExit → Slots → Mem → Prop} : ∀ (r s : Nat) (S : Int) (σ : Slots),
    s + r = 31 → S = (2 : Int) ^ s → 1 ≤ S → S * 2 ^ r = 2147483648 → gd b n * S < 4294967296 → σ 1 = w → σ 8 = L s → (∀ t, t < 8 → σ t = σ0 t) →
    (∀ σ' (s : Nat) (S K : Int), s < 32 → S = (2 : Int) ^ s → 1 ≤ S ∧ S ≤ 2147483648 → S * K = 4294967296 → 2147483648 ≤ gd b n * S → gd b n * S < 4294967296 → σ' 8 = L s → (∀ t, t < 8 → σ' t = σ0 t) → Q (.exit 0) σ' m) → WP Tryz.prog (.loop ir159_l0) σ m Q := by
  intro r
  induction r with
  | zero =>
    intro s S σ hs hS h1 h2 h3 s1 s8 hσ hQ
    refine wp_round fun J hJ => ?_
    obtain ⟨g1, g2, g3, g4⟩ := hw.len
    have w0 : IntKind.i64.wrap ((n : Int) + 1 - 1) = (n : Int) := by rw [i64_id (by omega) (by omega)]; omega
    have w0' : IntKind.i64.wrap (n : Int) = (n : Int) := i64_id (by omega) (by omega)
    have a1 := hw.addr (i := n) (by omega)
    have a2 := hw.load (i := n) (by omega)
    rw [hl] at g1
    have hSS : S = 2147483648 := by omega
    have mn : min s 32 = s := by omega
    have w2 : IntKind.u32.wrap (gd b n * S) = gd b n * S := by rw [u32_wrap]; have : 0 ≤ gd b n * S := Int.mul_nonneg (by omega) (by omega); omega
    have k1 : ¬ gd b n * S < 2147483648 := by
      have := Int.mul_le_mul_of_nonneg_right hx (show 0 ≤ S by omega)
      omega
    have q1 : (n : Int) < (n : Int) + 1 := by omega
    have e : (2 : Int) ^ s = S := hS.symm
    simp (disch := first | omega | (simp only [zqp, zqq]; omega)) [ir159_l0, ir159_k1, ir159_k2, ir159_k3, ir159_k4, ir159_k5, ir159_k6, ir159_k7, ir159_k8, ir159_k9, ir159_k10, ir159_k11, ir159_k12, ir159_k13, ir159_k14, ir159_k15, ir159_k16, ir159_k17, ir159_k18, ir159_k19, ir159_k20, ir159_k21, s1, s8, g1, g2, g3, w0, w0', a1, a2, e, mn, w2, k1, q1, zqa, zqb, zqc, zqd, zqe, zqf, zqg, zqh, zqi, zqj, zqk, u64b, u32b, zql, zqm, zqn, zqo, -zqu, -isSl, -zqs, -zqt, -zqv, -zqr]
    exact hQ _ s S 2 (by omega) hS ⟨h1, by omega⟩ (by omega) (by omega) h3 (by simp [s8]) (by (repeat refine upd_lt (by decide) ?_); exact hσ)
  | succ r ih =>
    intro s S σ hs hS h1 h2 h3 s1 s8 hσ hQ
    refine wp_round fun J hJ => ?_
    obtain ⟨g1, g2, g3, g4⟩ := hw.len
    have w0 : IntKind.i64.wrap ((n : Int) + 1 - 1) = (n : Int) := by rw [i64_id (by omega) (by omega)]; omega
    have w0' : IntKind.i64.wrap (n : Int) = (n : Int) := i64_id (by omega) (by omega)
    have a1 := hw.addr (i := n) (by omega)
    have a2 := hw.load (i := n) (by omega)
    rw [hl] at g1
    have mn : min s 32 = s := by omega
    have h0 : 0 ≤ gd b n * S := Int.mul_nonneg (by omega) (by omega)
    have w2 : IntKind.u32.wrap (gd b n * S) = gd b n * S := by rw [u32_wrap]; omega
    have q1 : (n : Int) < (n : Int) + 1 := by omega
    have e : (2 : Int) ^ s = S := hS.symm
    have e2 : S * (2 * 2 ^ r) = 2147483648 := by rw [← h2, Int.pow_succ, Int.mul_comm 2]
    have h8 := Nat.two_pow_pos r
    have h9 : ((2 ^ r : Nat) : Int) = (2 : Int) ^ r := by simp
    have p2 : (1 : Int) ≤ 2 ^ r := by omega
    have w3 : IntKind.u64.wrap ((s : Int) + 1) = (s : Int) + 1 := u64_id (by omega) (by omega)
    by_cases k1 : gd b n * S < 2147483648
    · simp (disch := first | omega | (simp only [zqp, zqq]; omega)) [ir159_l0, ir159_k1, ir159_k2, ir159_k3, ir159_k4, ir159_k5, ir159_k6, ir159_k7, ir159_k8, ir159_k9, ir159_k10, ir159_k11, ir159_k12, ir159_k13, ir159_k14, ir159_k15, ir159_k16, ir159_k17, ir159_k18, ir159_k19, ir159_k20, ir159_k21, s1, s8, g1, g2, g3, w0, w0', a1, a2, e, mn, w2, k1, q1, w3, zqa, zqb, zqc, zqd, zqe, zqf, zqg, zqh, zqi, zqj, zqk, u64b, u32b, zql, zqm, zqn, zqo, -zqu, -isSl, -zqs, -zqt, -zqv, -zqr]
      refine hJ _ _ (ih (s + 1) (S * 2) _ (by omega) (by rw [hS, Int.pow_succ]) (by omega) (by rw [Int.mul_assoc]; exact e2) (by rw [← Int.mul_assoc]; omega) (by simp [s1]) (by simp) (by (repeat refine upd_lt (by decide) ?_); exact hσ) hQ)
    · simp (disch := first | omega | (simp only [zqp, zqq]; omega)) [ir159_l0, ir159_k1, ir159_k2, ir159_k3, ir159_k4, ir159_k5, ir159_k6, ir159_k7, ir159_k8, ir159_k9, ir159_k10, ir159_k11, ir159_k12, ir159_k13, ir159_k14, ir159_k15, ir159_k16, ir159_k17, ir159_k18, ir159_k19, ir159_k20, ir159_k21, s1, s8, g1, g2, g3, w0, w0', a1, a2, e, mn, w2, k1, q1, zqa, zqb, zqc, zqd, zqe, zqf, zqg, zqh, zqi, zqj, zqk, u64b, u32b, zql, zqm, zqn, zqo, -zqu, -isSl, -zqs, -zqt, -zqv, -zqr]
      have hle : S ≤ 2147483648 := by
        have : S * 1 ≤ S * (2 * 2 ^ r) := Int.mul_le_mul_of_nonneg_left (by omega) (by omega)
        omega
      exact hQ _ s S (2 * (2 * 2 ^ r)) (by omega) hS ⟨h1, hle⟩ (by rw [Int.mul_left_comm, e2]; rfl) (by omega) h3 (by simp [s8]) (by (repeat refine upd_lt (by decide) ?_); exact hσ)

set_option maxHeartbeats 2000000 in
theorem guess_loop {m : Mem} {ub n j k0 N : Nat} {F : List Int} {top next P vl u2 u1 u0 ul V U' : Int} (hg : m.get ub = some ⟨F.map U, true⟩) (hlF : F.length = N) (hN : N < 3000000) (hk : k0 + 2 = j + n) (hz : F[k0]? = some u0)
    (hP : 0 < P) (hvl : 0 ≤ vl) (hvl2 : vl < P) (hV : V = (top * 4294967296 + next) * P + vl) (hU : U' = ((u2 * 4294967296 + u1) * 4294967296 + u0) * P + ul) (hul : 0 ≤ ul) (hul2 : ul < P)
    (ht : 2147483648 ≤ top ∧ top < 4294967296) (hn : 0 ≤ next ∧ next < 4294967296) (hu0 : 0 ≤ u0 ∧ u0 < 4294967296) (hu1 : 0 ≤ u1 ∧ u1 < 4294967296) (hu2 : 0 ≤ u2) (hUV : U' < V * 4294967296) {σ0 : Slots} {Q : IExit → Slots → Mem → Prop} : ∀ (r : Nat) (g rest : Int) (σ : Slots),
    g ≤ r → r < 100000000000 → 0 ≤ g → rest = u2 * 4294967296 + u1 - g * top → 0 ≤ rest → rest < 4294967296 → U' < (g + 1) * V →
    σ 9 = .slice (some ⟨ub, 0, none⟩) N 1 → σ 11 = I n → σ 13 = L top → σ 14 = L next → σ 15 = I j → σ 17 = L g → σ 18 = L rest → (∀ t, t < 17 → σ t = σ0 t) →
    (∀ σ' g, 0 ≤ g → g < 4294967296 → (g - 1) * V ≤ U' → U' < (g + 1) * V → σ' 17 = L g → (∀ t, t < 17 → σ' t = σ0 t) → Q (.exit 4) σ' m) → WP Tryz.prog (.loop ir159_l1) σ m Q := by
  have hut := top_le hP hvl2 hV hU hul hn.2 hu0.1 hu1.1 hUV
  have hVp : 0 < V := by
    have : 0 ≤ (top * 4294967296 + next - 1) * P := Int.mul_nonneg (by omega) (by omega)
    have : (top * 4294967296 + next) * P = (top * 4294967296 + next - 1) * P + P := by grind
    omega
  have hU0 : 0 ≤ U' := by
    have : 0 ≤ ((u2 * 4294967296 + u1) * 4294967296 + u0) * P := Int.mul_nonneg (by omega) (by omega)
    omega
  -- after a step down
  have down : ∀ g : Int, 1 ≤ g → 0 ≤ u2 * 4294967296 + u1 - (g - 1) * top → 4294967296 ≤ u2 * 4294967296 + u1 - (g - 1) * top → g - 1 < 4294967296 ∧ (g - 1 - 1) * V ≤ U' := by
    intro g g1 _ hr
    have c1 : g - 1 < 4294967296 := by
      by_cases h : g - 1 < 4294967296
      · exact h
      · have : 4294967296 * top ≤ (g - 1) * top := Int.mul_le_mul_of_nonneg_right (by omega) (by omega)
        omega
    refine ⟨c1, guess_low hP hvl hvl2 hV hU hul (by omega) c1 (by omega) hn.1 ?_⟩
    have : (g - 1) * next ≤ 4294967295 * 4294967295 := Int.mul_le_mul (by omega) (by omega) hn.1 (by omega)
    omega
  intro r
  induction r with
  | zero =>
    intro g rest σ hr _ g0 hrest r0 r1 hlt s9 s11 s13 s14 s15 s17 s18 hσ hQ
    refine wp_round fun J hJ => ?_
    have e : g = 0 := by omega
    subst e
    obtain ⟨hzl, hz2⟩ := List.getElem?_eq_some_iff.1 hz
    have w1 : IntKind.i64.wrap ((j : Int) + (n : Int)) = (k0 : Int) + 2 := by rw [i64_id (by omega) (by omega)]; omega
    have w2 : IntKind.i64.wrap (k0 : Int) = (k0 : Int) := i64_id (by omega) (by omega)
    have w3 : IntKind.u64.wrap u0 = u0 := u64_id (by omega) (by omega)
    have w4 : IntKind.u64.wrap (rest * 4294967296) = rest * 4294967296 := u64_id (by omega) (by omega)
    obtain ⟨t, htt⟩ : ∃ t, t = rest * 4294967296 + u0 := ⟨_, rfl⟩
    have w5 : IntKind.u64.wrap ↑((rest * 4294967296 % 2 ^ IntKind.u64.bits).toNat ||| (u0 % 2 ^ IntKind.u64.bits).toNat) = t := by rw [or_shl (s := 32) (by decide) r0 hu0.1 hu0.2 (by omega)]; omega
    have w6 : IntKind.u64.wrap (0 : Int) = 0 := rfl
    have q1 : (k0 : Int) < N := by omega
    have q2 : k0 + 1 ≤ N := by omega
    have q3 : k0 < N := by omega
    have k1 : ¬ (4294967296 : Int) ≤ 0 := by omega
    have k2 : ¬ t < 0 := by omega
    simp (disch := first | omega | (simp only [zqp, zqq]; omega)) [ir159_l1, ir159_k1, ir159_k2, ir159_k3, ir159_k4, ir159_k5, ir159_k6, ir159_k7, ir159_k8, ir159_k9, ir159_k10, ir159_k11, ir159_k12, ir159_k13, ir159_k14, ir159_k15, ir159_k16, ir159_k17, ir159_k18, ir159_k19, ir159_k20, ir159_k21, s9, s11, s13, s14, s15, s17, s18, hg, hlF, hz, hz2, hzl, w1, w2, w3, w4, w5, w6, q1, q2, q3, k1, k2, head_td, zqa, zqb, zqc, zqd, zqe, zqf, zqg, zqh, zqi, zqj, zqk, u64b, u32b, zql, zqm, zqn, zqo, -zqu, -isSl, -zqs, -zqt, -zqv, -zqr]
    exact hQ _ 0 (by omega) (by omega) (by rw [show ((0 : Int) - 1) * V = -V by omega]; omega) hlt (by simp [s17]) (by (repeat refine upd_lt (by decide) ?_); exact hσ)
  | succ r ih =>
    intro g rest σ hr hr2 g0 hrest r0 r1 hlt s9 s11 s13 s14 s15 s17 s18 hσ hQ
    refine wp_round fun J hJ => ?_
    obtain ⟨hzl, hz2⟩ := List.getElem?_eq_some_iff.1 hz
    have w1 : IntKind.i64.wrap ((j : Int) + (n : Int)) = (k0 : Int) + 2 := by rw [i64_id (by omega) (by omega)]; omega
    have w2 : IntKind.i64.wrap (k0 : Int) = (k0 : Int) := i64_id (by omega) (by omega)
    have w3 : IntKind.u64.wrap u0 = u0 := u64_id (by omega) (by omega)
    have w4 : IntKind.u64.wrap (rest * 4294967296) = rest * 4294967296 := u64_id (by omega) (by omega)
    obtain ⟨t, htt⟩ : ∃ t, t = rest * 4294967296 + u0 := ⟨_, rfl⟩
    have w5 : IntKind.u64.wrap ↑((rest * 4294967296 % 2 ^ IntKind.u64.bits).toNat ||| (u0 % 2 ^ IntKind.u64.bits).toNat) = t := by rw [or_shl (s := 32) (by decide) r0 hu0.1 hu0.2 (by omega)]; omega
    have q1 : (k0 : Int) < N := by omega
    have q2 : k0 + 1 ≤ N := by omega
    have q3 : k0 < N := by omega
    -- the step down, whatever its reason
    have next' : 1 ≤ g → U' < g * V → ∀ σ' : Slots, σ' 9 = .slice (some ⟨ub, 0, none⟩) N 1 → σ' 11 = I n → σ' 13 = L top → σ' 14 = L next → σ' 15 = I j → σ' 17 = L (g - 1) → σ' 18 = L (rest + top) → (∀ t, t < 17 → σ' t = σ0 t) →
        (4294967296 ≤ rest + top → Q (.exit 4) σ' m) ∧ (¬ 4294967296 ≤ rest + top → WP Tryz.prog (.loop ir159_l1) σ' m Q) := by
      intro g1 hg2 σ' p9 p11 p13 p14 p15 p17 p18 pσ
      have e1 : rest + top = u2 * 4294967296 + u1 - (g - 1) * top := by rw [hrest]; grind
      have e2 : g - 1 + 1 = g := by omega
      refine ⟨fun h => ?_, fun h => ?_⟩
      · obtain ⟨c1, c2⟩ := down g g1 (by omega) (by omega)
        exact hQ σ' (g - 1) (by omega) c1 c2 (by rw [e2]; exact hg2) p17 pσ
      · exact ih (g - 1) (rest + top) σ' (by omega) (by omega) (by omega) e1 (by omega) (by omega) (by rw [e2]; exact hg2) p9 p11 p13 p14 p15 p17 p18 pσ hQ
    have w7 : IntKind.u64.wrap (rest + top) = rest + top := u64_id (by omega) (by omega)
    by_cases k1 : 4294967296 ≤ g
    · have w8 : IntKind.u64.wrap (g - 1) = g - 1 := u64_id (by omega) (by omega)
      have hg2 : U' < g * V := by
        have : 4294967296 * V ≤ g * V := Int.mul_le_mul_of_nonneg_right k1 (by omega)
        omega
      by_cases k3 : 4294967296 ≤ rest + top
      · simp (disch := first | omega | (simp only [zqp, zqq]; omega)) [ir159_l1, ir159_k1, ir159_k2, ir159_k3, ir159_k4, ir159_k5, ir159_k6, ir159_k7, ir159_k8, ir159_k9, ir159_k10, ir159_k11, ir159_k12, ir159_k13, ir159_k14, ir159_k15, ir159_k16, ir159_k17, ir159_k18, ir159_k19, ir159_k20, ir159_k21, s9, s11, s13, s14, s15, s17, s18, w7, w8, k1, k3, zqa, zqb, zqc, zqd, zqe, zqf, zqg, zqh, zqi, zqj, zqk, u64b, u32b, zql, zqm, zqn, zqo, -zqu, -isSl, -zqs, -zqt, -zqv, -zqr]
        exact (next' (by omega) hg2 _ (by simp [s9]) (by simp [s11]) (by simp [s13]) (by simp [s14]) (by simp [s15]) (by simp) (by simp) (by (repeat refine upd_lt (by decide) ?_); exact hσ)).1 k3
      · simp (disch := first | omega | (simp only [zqp, zqq]; omega)) [ir159_l1, ir159_k1, ir159_k2, ir159_k3, ir159_k4, ir159_k5, ir159_k6, ir159_k7, ir159_k8, ir159_k9, ir159_k10, ir159_k11, ir159_k12, ir159_k13, ir159_k14, ir159_k15, ir159_k16, ir159_k17, ir159_k18, ir159_k19, ir159_k20, ir159_k21, s9, s11, s13, s14, s15, s17, s18, w7, w8, k1, k3, zqa, zqb, zqc, zqd, zqe, zqf, zqg, zqh, zqi, zqj, zqk, u64b, u32b, zql, zqm, zqn, zqo, -zqu, -isSl, -zqs, -zqt, -zqv, -zqr]
        exact hJ _ _ ((next' (by omega) hg2 _ (by simp [s9]) (by simp [s11]) (by simp [s13]) (by simp [s14]) (by simp [s15]) (by simp) (by simp) (by (repeat refine upd_lt (by decide) ?_); exact hσ)).2 k3)
    · have hp := prod_bd (x := g) (y := next) (by omega) hn
      have w6 : IntKind.u64.wrap (g * next) = g * next := u64_id (by omega) (by omega)
      by_cases k2 : t < g * next
      · have g1 : 1 ≤ g := by
          by_cases h : 1 ≤ g
          · exact h
          · have : g = 0 := by omega
            subst this; simp at k2; omega
        have w8 : IntKind.u64.wrap (g - 1) = g - 1 := u64_id (by omega) (by omega)
        have hg2 : U' < g * V := guess_high hP hvl hV hU hul2 g0 (by rw [← hrest, ← htt]; exact k2)
        by_cases k3 : 4294967296 ≤ rest + top
        · simp (disch := first | omega | (simp only [zqp, zqq]; omega)) [ir159_l1, ir159_k1, ir159_k2, ir159_k3, ir159_k4, ir159_k5, ir159_k6, ir159_k7, ir159_k8, ir159_k9, ir159_k10, ir159_k11, ir159_k12, ir159_k13, ir159_k14, ir159_k15, ir159_k16, ir159_k17, ir159_k18, ir159_k19, ir159_k20, ir159_k21, s9, s11, s13, s14, s15, s17, s18, hg, hlF, hz, hz2, hzl, w1, w2, w3, w4, w5, w6, w7, w8, q1, q2, q3, k1, k2, k3, head_td, zqa, zqb, zqc, zqd, zqe, zqf, zqg, zqh, zqi, zqj, zqk, u64b, u32b, zql, zqm, zqn, zqo, -zqu, -isSl, -zqs, -zqt, -zqv, -zqr]
          exact (next' (by omega) hg2 _ (by simp [s9]) (by simp [s11]) (by simp [s13]) (by simp [s14]) (by simp [s15]) (by simp) (by simp) (by (repeat refine upd_lt (by decide) ?_); exact hσ)).1 k3
        · simp (disch := first | omega | (simp only [zqp, zqq]; omega)) [ir159_l1, ir159_k1, ir159_k2, ir159_k3, ir159_k4, ir159_k5, ir159_k6, ir159_k7, ir159_k8, ir159_k9, ir159_k10, ir159_k11, ir159_k12, ir159_k13, ir159_k14, ir159_k15, ir159_k16, ir159_k17, ir159_k18, ir159_k19, ir159_k20, ir159_k21, s9, s11, s13, s14, s15, s17, s18, hg, hlF, hz, hz2, hzl, w1, w2, w3, w4, w5, w6, w7, w8, q1, q2, q3, k1, k2, k3, head_td, zqa, zqb, zqc, zqd, zqe, zqf, zqg, zqh, zqi, zqj, zqk, u64b, u32b, zql, zqm, zqn, zqo, -zqu, -isSl, -zqs, -zqt, -zqv, -zqr]
          exact hJ _ _ ((next' (by omega) hg2 _ (by simp [s9]) (by simp [s11]) (by simp [s13]) (by simp [s14]) (by simp [s15]) (by simp) (by simp) (by (repeat refine upd_lt (by decide) ?_); exact hσ)).2 k3)
      · simp (disch := first | omega | (simp only [zqp, zqq]; omega)) [ir159_l1, ir159_k1, ir159_k2, ir159_k3, ir159_k4, ir159_k5, ir159_k6, ir159_k7, ir159_k8, ir159_k9, ir159_k10, ir159_k11, ir159_k12, ir159_k13, ir159_k14, ir159_k15, ir159_k16, ir159_k17, ir159_k18, ir159_k19, ir159_k20, ir159_k21, s9, s11, s13, s14, s15, s17, s18, hg, hlF, hz, hz2, hzl, w1, w2, w3, w4, w5, w6, q1, q2, q3, k1, k2, head_td, zqa, zqb, zqc, zqd, zqe, zqf, zqg, zqh, zqi, zqj, zqk, u64b, u32b, zql, zqm, zqn, zqo, -zqu, -isSl, -zqs, -zqt, -zqv, -zqr]
        exact hQ _ g (by omega) (by omega) (guess_low hP hvl hvl2 hV hU hul g0 (by omega) (by omega) hn.1 (by rw [← hrest, ← htt]; omega)) hlt (by simp [s17]) (by (repeat refine upd_lt (by decide) ?_); exact hσ)
end Go.Proofs.YtkpifdkccdndcaaGreat
namespace Go.Proofs.YtkpifdkccdndcaaGreat
open Go Go.DI Go.Big
set_option linter.unusedSimpArgs false
set_option linter.unusedVariables false

theorem Old.ofX {ub : Nat} {m00 m m' : Mem} (h : Old m00 m) (hx : OldX ub m m') (hu : m00.next ≤ ub) : Old m00 m' := ⟨Nat.le_trans h.next hx.next, fun b hb => by rw [hx.get b (Nat.lt_of_lt_of_le hb h.next) (by omega), h.get b hb]⟩
theorem under_split {A V : Int} {n : Nat} {F ql : List Int} {j : Nat} (h : LD A V n F ql (j + 1)) (hj : j + 1 ≤ ql.length) : F = F.take j ++ (F.drop j).take (n + 1) ++ F.drop (j + n + 1) ∧ (F.take j).length = j ∧ ((F.drop j).take (n + 1)).length = n + 1 := by
  have hl := h.len
  refine ⟨?_, by simp; omega, by simp; omega⟩
  rw [List.append_assoc, show j + n + 1 = j + (n + 1) by omega, ← List.drop_drop, List.take_append_drop, List.take_append_drop]

set_option maxHeartbeats 4000000 in
theorem div_loop {m00 : Mem} {v : Value} {vl : List Int} {ub qb s n n2 N K : Nat} {top next A V : Int} (hn : n = n2 + 2) (hvl : vl.length = n) (hnB : n < 1000000) (hKB : K < 1000000) (hNK : N = K + n) (hV : V = val vl) (htop : top = gd vl (n2 + 1)) (hnext : next = gd vl n2) (ht : 2147483648 ≤ top)
    (hbu : blkOf v ≠ some ub) (hbq : blkOf v ≠ some qb) (huq : ub ≠ qb) (hu0 : m00.next ≤ ub) (hq0 : m00.next ≤ qb) {σ0 : Slots}
    (z8 : σ0 8 = L s) (z9 : σ0 9 = .slice (some ⟨ub, 0, none⟩) N 1) (z10 : σ0 10 = v) (z11 : σ0 11 = I n) (z12 : σ0 12 = .slice (some ⟨qb, 0, none⟩) K 1) (z13 : σ0 13 = L top) (z14 : σ0 14 = L next) {Q : IExit → Slots → Mem → Prop} : ∀ (jn : Nat) (F ql : List Int) (m : Mem) (σ : Slots),
    jn ≤ K → Old m00 m → m.get ub = some ⟨F.map U, true⟩ → m.get qb = some ⟨ql.map U, true⟩ → Sl m v vl → LD A V n F ql jn → ql.length = K → σ 15 = I ((jn : Int) - 1) → (∀ t, t < 15 → σ t = σ0 t) →
    (∀ σ' m' F ql, Old m00 m' → m'.get ub = some ⟨F.map U, true⟩ → m'.get qb = some ⟨ql.map U, true⟩ → LD A V n F ql 0 → ql.length = K → (∀ t, t < 15 → σ' t = σ0 t) → Q (.exit 2) σ' m') → WP Tryz.prog (.loop ir159_l2) σ m Q := by
  intro jn
  induction jn with
  | zero =>
    intro F ql m σ hj ho hgu hgq hv hld hql s15 hσ hQ
    refine wp_round fun J hJ => ?_
    simp (disch := first | omega | (simp only [zqp, zqq]; omega)) [ir159_l2, ir159_k1, ir159_k2, ir159_k3, ir159_k4, ir159_k5, ir159_k6, ir159_k7, ir159_k8, ir159_k9, ir159_k10, ir159_k11, ir159_k12, ir159_k13, ir159_k14, ir159_k15, ir159_k16, ir159_k17, ir159_k18, ir159_k19, ir159_k20, ir159_k21, s15, zqa, zqb, zqc, zqd, zqe, zqf, zqg, zqh, zqi, zqj, zqk, u64b, u32b, zql, zqm, zqn, zqo, -zqu, -isSl, -zqs, -zqt, -zqv, -zqr]
    exact hQ _ _ F ql ho hgu hgq hld hql (by (repeat refine upd_lt (by decide) ?_); exact hσ)
  | succ j ih =>
    intro F ql m σ hj ho hgu hgq hv hld hql s15 hσ hQ
    refine wp_round fun J hJ => ?_
    have s8 := (hσ 8 (by omega)).trans z8
    have s9 := (hσ 9 (by omega)).trans z9
    have s10 := (hσ 10 (by omega)).trans z10
    have s11 := (hσ 11 (by omega)).trans z11
    have s12 := (hσ 12 (by omega)).trans z12
    have s13 := (hσ 13 (by omega)).trans z13
    have s14 := (hσ 14 (by omega)).trans z14
    obtain ⟨k0, hk0⟩ : ∃ k0, k0 = j + n2 := ⟨_, rfl⟩
    have hlF : F.length = N := by have := hld.len; omega
    have b0 := gd_bd hld.okU k0
    have b1 := gd_bd hld.okU (k0 + 1)
    have b2 := gd_bd hld.okU (k0 + 2)
    have zz : ∀ i, i < N → F[i]? = some (gd F i) := fun i hi => by rw [gd_some (List.getElem?_eq_getElem (by omega)), List.getElem?_eq_getElem (by omega)]
    have hz0 := zz k0 (by omega)
    have hz1 := zz (k0 + 1) (by omega)
    have hz2 := zz (k0 + 2) (by omega)
    obtain ⟨hl1, hy1⟩ := List.getElem?_eq_some_iff.1 hz1
    obtain ⟨hl2, hy2⟩ := List.getElem?_eq_some_iff.1 hz2
    have w1 : IntKind.i64.wrap ((j : Int) + (n : Int)) = (k0 : Int) + 2 := by rw [i64_id (by omega) (by omega)]; omega
    have w2 : IntKind.i64.wrap ((k0 : Int) + 2 - 1) = (k0 : Int) + 1 := by rw [i64_id (by omega) (by omega)]; omega
    have w3 : IntKind.u64.wrap (gd F (k0 + 2)) = gd F (k0 + 2) := u64_id (by omega) (by omega)
    have w4 : IntKind.u64.wrap (gd F (k0 + 1)) = gd F (k0 + 1) := u64_id (by omega) (by omega)
    have w5 : IntKind.u64.wrap (gd F (k0 + 2) * 4294967296) = gd F (k0 + 2) * 4294967296 := u64_id (by omega) (by omega)
    obtain ⟨H, hH⟩ : ∃ H, H = gd F (k0 + 2) * 4294967296 + gd F (k0 + 1) := ⟨_, rfl⟩
    have w6 : IntKind.u64.wrap ↑((gd F (k0 + 2) * 4294967296 % 2 ^ IntKind.u64.bits).toNat ||| (gd F (k0 + 1) % 2 ^ IntKind.u64.bits).toNat) = H := by rw [or_shl (s := 32) (by decide) b2.1 b1.1 b1.2 (by omega)]; omega
    have tt := gd_bd hv.1 (n2 + 1)
    have tn := gd_bd hv.1 n2
    rw [← htop] at tt
    rw [← hnext] at tn
    have g0 : 0 ≤ H / top := Int.ediv_nonneg (by omega) (by omega)
    have g1 : H / top < 18446744073709551616 := Int.lt_of_le_of_lt (Int.ediv_le_self _ (by omega)) (by omega)
    have g2 : H / top < 8589934592 := Int.ediv_lt_of_lt_mul (by omega) (by omega)
    have r0 := Int.emod_nonneg H (show top ≠ 0 by omega)
    have r1 := Int.emod_lt_of_pos H (show 0 < top by omega)
    have rr := Int.emod_add_mul_ediv H top
    have w7 : IntKind.u64.wrap (H.tdiv top) = H / top := by rw [Int.tdiv_eq_ediv_of_nonneg (by omega)]; exact u64_id g0 g1
    have w8 : H.tmod top = H % top := Int.tmod_eq_emod_of_nonneg (by omega)
    have q1 : (k0 : Int) + 2 < N := by omega
    have q2 : k0 + 2 < N := by omega
    have q3 : k0 + 2 + 1 ≤ N := by omega
    have q4 : (k0 : Int) + 1 < N := by omega
    have q5 : k0 + 1 < N := by omega
    have q6 : k0 + 1 + 1 ≤ N := by omega
    have q7 : (0 : Int) ≤ (k0 : Int) + 2 := by omega
    have q8 : (0 : Int) ≤ (k0 : Int) + 1 := by omega
    have q9 : ((k0 : Int) + 2).toNat = k0 + 2 := by omega
    have q10 : ((k0 : Int) + 1).toNat = k0 + 1 := by omega
    have tz : ¬ top = 0 := by omega
    simp (disch := first | omega | (simp only [zqp, zqq]; omega)) [ir159_l2, ir159_k1, ir159_k2, ir159_k3, ir159_k4, ir159_k5, ir159_k6, ir159_k7, ir159_k8, ir159_k9, ir159_k10, ir159_k11, ir159_k12, ir159_k13, ir159_k14, ir159_k15, ir159_k16, ir159_k17, ir159_k18, ir159_k19, ir159_k20, ir159_k21, s8, s9, s10, s11, s12, s13, s14, s15, hgu, hlF, hz1, hz2, hy1, hy2, hl1, hl2, w1, w2, w3, w4, w5, w6, w7, w8, q1, q2, q3, q4, q5, q6, q7, q8, q9, q10, tz, head_td, zqa, zqb, zqc, zqd, zqe, zqf, zqg, zqh, zqi, zqj, zqk, u64b, u32b, zql, zqm, zqn, zqo, -zqu, -isSl, -zqs, -zqt, -zqv, -zqr]
    obtain ⟨W, hW⟩ : ∃ W, W = (F.drop j).take (n + 1) := ⟨_, rfl⟩
    obtain ⟨hsp, hA, hWl⟩ := under_split hld (by omega)
    rw [← hW] at hsp hWl
    have gW : ∀ i, i ≤ n → gd W i = gd F (j + i) := fun i hi => by rw [hW, gd_take (by omega), gd_drop]
    have okW : OkL W := by rw [hW]; exact (hld.okU.drop j).take _
    have hU3 := top3 (u := W) (n := n2) (by omega)
    rw [gW _ (by omega), gW _ (by omega), gW _ (by omega), show j + (n2 + 2) = k0 + 2 by omega, show j + (n2 + 1) = k0 + 1 by omega, ← hk0] at hU3
    have hV2 := top2 (v := vl) (n := n2) (by omega)
    rw [← htop, ← hnext, ← hV] at hV2
    have bl := val_bd (hv.1.take n2)
    rw [List.length_take, Nat.min_eq_left (by omega)] at bl
    have bul := val_bd (okW.take n2)
    rw [List.length_take, Nat.min_eq_left (by omega)] at bul
    obtain ⟨un0, un1⟩ := hld.under
    rw [← hW] at un0 un1
    have hcm : H / top * top = top * (H / top) := Int.mul_comm _ _
    refine guess_loop (n := n) (j := j) (N := N) hgu hlF (by omega) (show k0 + 2 = j + n by omega) hz0 (pw_pos n2) bl.1 bl.2 hV2 hU3 bul.1 bul.2 ⟨ht, tt.2⟩ tn b0 b1 b2.1 un1 (H / top).toNat (H / top) (H % top) _ (by omega) (by omega) g0 (by omega) r0 (by omega) (by rw [hH]; exact guess_start (pw_pos n2) bl.1 hV2 hU3 bul.2 (by omega) tn.1 b0.2 (by omega)) (by simp [s9]) (by simp [s11]) (by simp [s13]) (by simp [s14]) (by simp [s15]) (by simp) (by simp) (fun _ _ => rfl) fun σ1 g a1 a2 a3 a4 p17 pσ => ?_
    have p8 := (pσ 8 (by omega)).trans (show _ = L s by simp [s8])
    have p9 := (pσ 9 (by omega)).trans (show _ = .slice (some ⟨ub, 0, none⟩) N 1 by simp [s9])
    have p10 := (pσ 10 (by omega)).trans (show _ = v by simp [s10])
    have p11 := (pσ 11 (by omega)).trans (show _ = I n by simp [s11])
    have p12 := (pσ 12 (by omega)).trans (show _ = .slice (some ⟨qb, 0, none⟩) K 1 by simp [s12])
    have p15 := (pσ 15 (by omega)).trans (show _ = I j by simp [s15])
    have hσ1 : ∀ t, t < 15 → σ1 t = σ0 t := fun t ht => (pσ t (by omega)).trans ((by (repeat refine upd_lt (by decide) ?_); exact hσ : ∀ t, t < 15 → _ = σ0 t) t ht)
    obtain ⟨e, he⟩ : ∃ e, e = j + n + 1 := ⟨_, rfl⟩
    have x1 : IntKind.i64.wrap ((k0 : Int) + 2 + 1) = (e : Int) := by rw [i64_id (by omega) (by omega)]; omega
    have x2 : (j : Int) ≤ e := by omega
    have x3 : (e : Int) ≤ N := by omega
    have x4 : e - j = n + 1 := by omega
    have hV0 : 0 < V := by have := hld.low; have := (val_bd ((hld.okU.drop (j + 1)).take n)).1; omega
    have hVp : V < pw n := by have := (val_bd hv.1).2; rw [hvl] at this; omega
    simp (disch := first | omega | (simp only [zqp, zqq]; omega)) [p8, p9, p10, p11, p12, p15, p17, w1, x1, x2, x3, x4, zqa, zqb, zqc, zqd, zqe, zqf, zqg, zqh, zqi, zqj, zqk, u64b, u32b, zql, zqm, zqn, zqo, -zqu, -isSl, -zqs, -zqt, -zqv, -zqr]
    refine (subt_wp hv hbu hvl hnB ⟨a1, a2⟩ hA okW hWl hgu hsp).mono fun r m' hp => ?_
    obtain ⟨k, hk, rfl, hox, w, F', f2, f3, f4, f5, f6⟩ := hp
    have hlt := get_lt hgq
    have hgq' : m'.get qb = some ⟨ql.map U, true⟩ := by rw [hox.get qb hlt (Ne.symm huq), hgq]
    have bw := val_bd f4
    rw [f5] at bw
    have y0 : IntKind.i64.wrap ((j : Int) + 1 - 1) = (j : Int) := by rw [i64_id (by omega) (by omega)]; omega
    have y00 : IntKind.i64.wrap ((j : Int) - 1) = (j : Int) - 1 := i64_id (by omega) (by omega)
    have y1 : (j : Int) < K := by omega
    have y2 : j < K := by omega
    have y3 : j + 1 ≤ K := by omega
    -- the end of a round
    have fin : ∀ (g : Int) (w F' : List Int) (m' : Mem) (σ' : Slots), 0 ≤ g → g < 4294967296 → Old m00 m' → m'.get ub = some ⟨F'.map U, true⟩ → F' = F.take j ++ w ++ F.drop (j + n + 1) → m'.get qb = some ⟨(ql.set j g).map U, true⟩ → Sl m' v vl → OkL w → w.length = n + 1 → val w = val W - g * V → val w < V → σ' 15 = I ((j : Int) - 1) → (∀ t, t < 15 → σ' t = σ0 t) → WP Tryz.prog (.loop ir159_l2) σ' m' Q := by
      intro g w F' m' σ' c0 c1 co cu cF cq cv cw cl cval clt c15 cσ
      refine ih F' (ql.set j g) m' σ' (by omega) co cu cq cv ?_ (by simp [hql]) c15 cσ hQ
      rw [cF]
      exact hld.step (by omega) cl cw ⟨c0, c1⟩ (by rw [← hW]; exact cval) clt (by omega)
    rcases hk with rfl | rfl
    · -- the guess is right
      simp only [Int.zero_mul, Int.add_zero] at f6
      have z1 : IntKind.u32.wrap g = g := by rw [u32_wrap]; omega
      simp (disch := first | omega | (simp only [zqp, zqq]; omega)) [p8, p9, p10, p11, p12, p15, p17, y0, y00, y1, y2, y3, z1, hgq', hql, zqa, zqb, zqc, zqd, zqe, zqf, zqg, zqh, zqi, zqj, zqk, u64b, u32b, zql, zqm, zqn, zqo, -zqu, -isSl, -zqs, -zqt, -zqv, -zqr]
      have e1 : (g + 1) * V = g * V + V := by grind
      have hlt' := get_lt hgq'
      refine hJ _ _ (fin g w F' _ _ a1 a2 ((ho.ofX hox hu0).put hq0) (by rw [zqm huq, f2]) f3 (by rw [zql hlt', set_map]) ((hv.monoX hbu hox).monoX hbq (OldX.refl qb _).put) f4 f5 (by rw [f6, hV]) (by rw [f6, ← hV]; omega) (by simp) (by (repeat refine upd_lt (by decide) ?_); exact hσ1))
    · -- the guess is one too great
      simp only [Int.one_mul] at f6
      have hgp : 1 ≤ g := by
        by_cases h : 1 ≤ g
        · exact h
        · have : g = 0 := by omega
          subst this; simp at f6; omega
      have z0 : IntKind.u64.wrap (g - 1) = g - 1 := u64_id (by omega) (by omega)
      have z1 : IntKind.u32.wrap (g - 1) = g - 1 := by rw [u32_wrap]; omega
      simp (disch := first | omega | (simp only [zqp, zqq]; omega)) [p8, p9, p10, p11, p12, p15, p17, w1, x1, x2, x3, x4, z0, zqa, zqb, zqc, zqd, zqe, zqf, zqg, zqh, zqi, zqj, zqk, u64b, u32b, zql, zqm, zqn, zqo, -zqu, -isSl, -zqs, -zqt, -zqv, -zqr]
      refine (rest_wp (hv.monoX hbu hox) hbu hvl hnB hA f4 f5 f2 f3).mono fun r2 m2 hp2 => ?_
      obtain ⟨k2, hk2, hox2, w2', F2, t2, t3, t4, t5, t6⟩ := hp2
      have hgq2 : m2.get qb = some ⟨ql.map U, true⟩ := by rw [hox2.get qb (get_lt hgq') (Ne.symm huq), hgq']
      have hlt2 := get_lt hgq2
      simp (disch := first | omega | (simp only [zqp, zqq]; omega)) [p8, p9, p10, p11, p12, p15, p17, y0, y00, y1, y2, y3, z0, z1, hgq2, hql, zqa, zqb, zqc, zqd, zqe, zqf, zqg, zqh, zqi, zqj, zqk, u64b, u32b, zql, zqm, zqn, zqo, -zqu, -isSl, -zqs, -zqt, -zqv, -zqr]
      have bw2 := val_bd t4
      rw [t5] at bw2
      have hlow : val W < g * V := by rw [← hV] at f6; omega
      have hds : val w2' = val W - (g - 1) * V := by
        have hVP : V ≤ pw (n + 1) := by
          have := pw_le (show n ≤ n + 1 by omega)
          omega
        refine divstep (P := pw (n + 1)) (k := k2) hV0 hVP un0 a3 hlow hk2 ?_ bw2.1 bw2.2
        rw [t6, f6, ← hV]
        rcases hk2 with rfl | rfl <;> omega
      have e1 : (g - 1) * V = g * V - V := by grind
      refine hJ _ _ (fin (g - 1) w2' F2 _ _ (by omega) (by omega) (((ho.ofX hox hu0).ofX hox2 hu0).put hq0) (by rw [zqm huq, t2]) t3 (by rw [zql hlt2, set_map]) (((hv.monoX hbu hox).monoX hbu hox2).monoX hbq (OldX.refl qb _).put) t4 t5 hds (by omega) (by simp) (by (repeat refine upd_lt (by decide) ?_); exact hσ1))
end Go.Proofs.YtkpifdkccdndcaaGreat
namespace Go.Proofs.YtkpifdkccdndcaaGreat
open Go Go.DI Go.Big
set_option linter.unusedSimpArgs false
set_option linter.unusedVariables false

set_option maxHeartbeats 4000000 in
theorem down_loop {m00 : Mem} {ub rb s n N : Nat} {F : List Int} {S K : Int} (hS : S = (2 : Int) ^ s) (hs : s < 32) (hS1 : 1 ≤ S ∧ S ≤ 2147483648) (hSK : S * K = 4294967296) (hF : OkL F) (hlF : F.length = N) (hnN : n + 1 ≤ N) (hN : N < 3000000) (hur : ub ≠ rb) (hr0 : m00.next ≤ rb) (hu0 : m00.next ≤ ub) {σ0 : Slots}
    (z8 : σ0 8 = L s) (z9 : σ0 9 = .slice (some ⟨ub, 0, none⟩) N 1) (z19 : σ0 19 = .slice (some ⟨rb, 0, none⟩) n 1) {mq : Mem} {Q : IExit → Slots → Mem → Prop} : ∀ (r i : Nat) (o : List Int) (m : Mem) (σ : Slots),
    i + r = n → OldX rb mq m → Old m00 m → m.get ub = some ⟨F.map U, true⟩ → m.get rb = some ⟨o.map U, true⟩ → OkL o → o.length = n → S * val (o.take i) = val (F.take i) - gd F 0 % S + (gd F i % S) * pw i →
    σ 166 = I n → σ 167 = I i → (∀ t, t < 20 → σ t = σ0 t) →
    (∀ σ' m' o, OldX rb mq m' → Old m00 m' → m'.get rb = some ⟨o.map U, true⟩ → OkL o → o.length = n → S * val o = val (F.take n) - gd F 0 % S + (gd F n % S) * pw n → (∀ t, t < 20 → σ' t = σ0 t) → Q (.exit 6) σ' m') → WP Tryz.prog (.loop ir159_l3) σ m Q
  | 0, i, o, m, σ, hi, hx, ho, hgu, hgr, hok, hlo, he, s166, s167, hσ, hQ => by
    refine wp_round fun J hJ => ?_
    have e : i = n := by omega
    subst e
    simp (disch := first | omega | (simp only [zqp, zqq]; omega)) [ir159_l3, ir159_k1, ir159_k2, ir159_k3, ir159_k4, ir159_k5, ir159_k6, ir159_k7, ir159_k8, ir159_k9, ir159_k10, ir159_k11, ir159_k12, ir159_k13, ir159_k14, ir159_k15, ir159_k16, ir159_k17, ir159_k18, ir159_k19, ir159_k20, ir159_k21, s166, s167, zqa, zqb, zqc, zqd, zqe, zqf, zqg, zqh, zqi, zqj, zqk, u64b, u32b, zql, zqm, zqn, zqo, -zqu, -isSl, -zqs, -zqt, -zqv, -zqr]
    rw [List.take_of_length_le (l := o) (by omega)] at he
    exact hQ _ _ o hx ho hgr hok hlo he (by (repeat refine upd_lt (by decide) ?_); exact hσ)
  | r + 1, i, o, m, σ, hi, hx, ho, hgu, hgr, hok, hlo, he, s166, s167, hσ, hQ => by
    refine wp_round fun J hJ => ?_
    have s8 := (hσ 8 (by omega)).trans z8
    have s9 := (hσ 9 (by omega)).trans z9
    have s19 := (hσ 19 (by omega)).trans z19
    have b0 := gd_bd hF i
    have b1 := gd_bd hF (i + 1)
    have zz : ∀ i, i < N → F[i]? = some (gd F i) := fun i hi => by rw [gd_some (List.getElem?_eq_getElem (by omega)), List.getElem?_eq_getElem (by omega)]
    have hz0 := zz i (by omega)
    have hz1 := zz (i + 1) (by omega)
    obtain ⟨hl0, hy0⟩ := List.getElem?_eq_some_iff.1 hz0
    obtain ⟨hl1, hy1⟩ := List.getElem?_eq_some_iff.1 hz1
    have w0 : IntKind.i64.wrap ((i : Int) + 1) = (i : Int) + 1 := i64_id (by omega) (by omega)
    have w1 : IntKind.u64.wrap (gd F i) = gd F i := u64_id (by omega) (by omega)
    have w2 : IntKind.u64.wrap (gd F (i + 1)) = gd F (i + 1) := u64_id (by omega) (by omega)
    have w3 : IntKind.u64.wrap (gd F (i + 1) * 4294967296) = gd F (i + 1) * 4294967296 := u64_id (by omega) (by omega)
    obtain ⟨t, ht⟩ : ∃ t, t = gd F (i + 1) * 4294967296 + gd F i := ⟨_, rfl⟩
    have w4 : IntKind.u64.wrap ↑((gd F (i + 1) * 4294967296 % 2 ^ IntKind.u64.bits).toNat ||| (gd F i % 2 ^ IntKind.u64.bits).toNat) = t := by rw [or_shl (s := 32) (by decide) b1.1 b0.1 b0.2 (by omega)]; omega
    have mn : min s 64 = s := by omega
    have e : (2 : Int) ^ s = S := hS.symm
    have w5 : t.fdiv S = t / S := Int.fdiv_eq_ediv_of_nonneg t (by omega)
    have q1 : (i : Int) < N := by omega
    have q2 : i < N := by omega
    have q3 : i + 1 ≤ N := by omega
    have q4 : (i : Int) + 1 < N := by omega
    have q5 : i + 1 < N := by omega
    have q6 : i + 1 + 1 ≤ N := by omega
    have q7 : (0 : Int) ≤ (i : Int) + 1 := by omega
    have q8 : ((i : Int) + 1).toNat = i + 1 := by omega
    have q9 : (i : Int) < n := by omega
    have q10 : i < n := by omega
    have q11 : i + 1 ≤ n := by omega
    have hlt := get_lt hgr
    simp (disch := first | omega | (simp only [zqp, zqq]; omega)) [ir159_l3, ir159_k1, ir159_k2, ir159_k3, ir159_k4, ir159_k5, ir159_k6, ir159_k7, ir159_k8, ir159_k9, ir159_k10, ir159_k11, ir159_k12, ir159_k13, ir159_k14, ir159_k15, ir159_k16, ir159_k17, ir159_k18, ir159_k19, ir159_k20, ir159_k21, s8, s9, s19, s166, s167, hgu, hgr, hlF, hlo, hz0, hz1, hy0, hy1, hl0, hl1, w0, w1, w2, w3, w4, w5, mn, e, q1, q2, q3, q4, q5, q6, q7, q8, q9, q10, q11, head_td, u32_wrap, zqa, zqb, zqc, zqd, zqe, zqf, zqg, zqh, zqi, zqj, zqk, u64b, u32b, zql, zqm, zqn, zqo, -zqu, -isSl, -zqs, -zqt, -zqv, -zqr]
    refine hJ _ _ (down_loop hS hs hS1 hSK hF hlF hnN hN hur hr0 hu0 z8 z9 z19 r (i + 1) (o.set i ((t / S) % 4294967296)) _ _ (by omega) hx.put (ho.put hr0) (by rw [zqm hur, hgu]) (by rw [zql hlt, set_map]) (hok.set i (by omega)) (by simp [hlo]) ?_ (by simp [s166]) (by simp) (by (repeat refine upd_lt (by decide) ?_); exact hσ) hQ)
    rw [ht]
    exact down_round (by omega) hSK he (by omega) hF
def DivR (m : Mem) (x y : Int) (r : Value) (m' : Mem) : Prop := Old m m' ∧ ∃ q s, r = .tuple #[q, s] ∧ Sl m' q (digs (x / y)) ∧ Sl m' s (digs (x % y))
set_option maxHeartbeats 4000000 in
theorem divide_wp {m : Mem} {v w : Value} {a b : List Int} (hv : Sl m v a) (hw : Sl m w b) (ha : Go.Big.Can a) (hb : Go.Big.Can b) (hla : Big a) (hlb : Big b) (hne : b ≠ []) :
    WPCall Tryz.prog 159 [v, w] m (DivR m (val a) (val b)) := by
  rw [call159 (by simp)]
  obtain ⟨h1, h2, h3, h4⟩ := hv.len
  obtain ⟨h1', h2', h3', h4'⟩ := hw.len
  have va0 := (val_bd ha.1).1
  have vb0 := hb.pos hne
  have hb1 : 1 ≤ b.length := by have := List.length_pos_iff.2 hne; omega
  by_cases k1 : val a < val b
  · have c1 : cmpI (val a) (val b) < 0 := by rw [cmpI_lt k1]; omega
    simp (disch := first | omega | (simp only [zqp, zqq]; omega)) [ir159_b, ir159_k1, ir159_k2, ir159_k3, ir159_k4, ir159_k5, ir159_k6, ir159_k7, ir159_k8, ir159_k9, ir159_k10, ir159_k11, ir159_k12, ir159_k13, ir159_k14, ir159_k15, ir159_k16, ir159_k17, ir159_k18, ir159_k19, ir159_k20, ir159_k21, cmp_wp hv hw hla hlb, c1, zqa, zqb, zqc, zqd, zqe, zqf, zqg, zqh, zqi, zqj, zqk, u64b, u32b, zql, zqm, zqn, zqo, -zqu, -isSl, -zqs, -zqt, -zqv, -zqr]
    refine (trim_wp hv hla).mono fun r m' hp => ?_
    simp (disch := first | omega | (simp only [zqp, zqq]; omega)) [zqa, zqb, zqc, zqd, zqe, zqf, zqg, zqh, zqi, zqj, zqk, u64b, u32b, zql, zqm, zqn, zqo, -zqu, -isSl, -zqs, -zqt, -zqv, -zqr]
    refine ⟨hp.1, _, _, rfl, ?_, ?_⟩
    · rw [Int.ediv_eq_zero_of_lt va0 k1, digs_zero (by omega)]; exact Sl.nil
    · rw [Int.emod_eq_of_lt va0 k1]; exact hp.2
  have c1 : ¬ cmpI (val a) (val b) < 0 := by unfold cmpI; rw [if_neg k1]; split <;> omega
  by_cases k2 : b.length = 1
  · obtain ⟨d, rfl⟩ : ∃ d, b = [d] := List.length_eq_one_iff.1 k2
    have hd := hb.1 d (by simp)
    have vd : val [d] = d := by simp [val]
    rw [vd] at vb0 k1
    have a1 := hw.addr (i := 0) (by simp)
    have a2 := hw.load (i := 0) (by simp)
    rw [show gd [d] 0 = d from rfl] at a2
    simp only [Int.ofNat_eq_natCast, Int.natCast_zero, Int.cast_ofNat_Int] at a1 a2
    simp only [List.length_cons, List.length_nil] at h1'
    simp (disch := first | omega | (simp only [zqp, zqq]; omega)) [ir159_b, ir159_k1, ir159_k2, ir159_k3, ir159_k4, ir159_k5, ir159_k6, ir159_k7, ir159_k8, ir159_k9, ir159_k10, ir159_k11, ir159_k12, ir159_k13, ir159_k14, ir159_k15, ir159_k16, ir159_k17, ir159_k18, ir159_k19, ir159_k20, ir159_k21, cmp_wp hv hw hla hlb, c1, h1', h2', h3', a1, a2, zqa, zqb, zqc, zqd, zqe, zqf, zqg, zqh, zqi, zqj, zqk, u64b, u32b, zql, zqm, zqn, zqo, -zqu, -isSl, -zqs, -zqt, -zqv, -zqr]
    refine (short_wp hv (d := d) ⟨vb0, hd.2⟩ hla).mono fun r m' hp => ?_
    obtain ⟨ho, q, rfl, hq⟩ := hp
    have r0 := Int.emod_nonneg (val a) (show d ≠ 0 by omega)
    have r1 := Int.emod_lt_of_pos (val a) vb0
    have w1 : IntKind.u64.wrap (val a % d) = val a % d := u64_id r0 (by omega)
    simp (disch := first | omega | (simp only [zqp, zqq]; omega)) [w1, zqa, zqb, zqc, zqd, zqe, zqf, zqg, zqh, zqi, zqj, zqk, u64b, u32b, zql, zqm, zqn, zqo, -zqu, -isSl, -zqs, -zqt, -zqv, -zqr]
    refine (make_wp r0 (by omega)).mono fun r2 m2 hp2 => ?_
    simp (disch := first | omega | (simp only [zqp, zqq]; omega)) [zqa, zqb, zqc, zqd, zqe, zqf, zqg, zqh, zqi, zqj, zqk, u64b, u32b, zql, zqm, zqn, zqo, -zqu, -isSl, -zqs, -zqt, -zqv, -zqr]
    refine ⟨ho.trans hp2.1, _, _, rfl, ?_, ?_⟩
    · rw [vd]; exact hq.mono hp2.1
    · rw [vd]; exact hp2.2
  · obtain ⟨n2, hn2⟩ : ∃ n2, b.length = n2 + 2 := ⟨b.length - 2, by omega⟩
    obtain ⟨n, hn⟩ : ∃ n, n = n2 + 2 := ⟨_, rfl⟩
    have k2' : ¬ (n : Int) = 1 := by omega
    have hgx : gd b (n2 + 1) ≠ 0 := by
      have := hb.top hn2 (List.getElem?_eq_getElem (by omega))
      rw [gd_some (List.getElem?_eq_getElem (by omega))]; exact this
    have gx := gd_bd hb.1 (n2 + 1)
    have hlen : b.length ≤ a.length := by
      by_cases h : b.length ≤ a.length
      · exact h
      · have := Can.len_lt ha.1 hb (by omega); omega
    rw [hn2, ← hn] at h1'
    simp (disch := first | omega | (simp only [zqp, zqq]; omega)) [ir159_b, ir159_k1, ir159_k2, ir159_k3, ir159_k4, ir159_k5, ir159_k6, ir159_k7, ir159_k8, ir159_k9, ir159_k10, ir159_k11, ir159_k12, ir159_k13, ir159_k14, ir159_k15, ir159_k16, ir159_k17, ir159_k18, ir159_k19, ir159_k20, ir159_k21, cmp_wp hv hw hla hlb, c1, h1', h2', h3', k2', zqa, zqb, zqc, zqd, zqe, zqf, zqg, zqh, zqi, zqj, zqk, u64b, u32b, zql, zqm, zqn, zqo, -zqu, -isSl, -zqs, -zqt, -zqv, -zqr]
    refine scale_loop hw (n := n2 + 1) hn2 hlb (by omega) 31 0 1 _ (by omega) (by simp) (by omega) (by decide) (by omega) (by simp) (by simp) (fun _ _ => rfl) fun σ1 s S K b1 b2 b3 b4 b5 b6 p8 pσ => ?_
    have p0 := (pσ 0 (by omega)).trans (show _ = v by simp)
    have p1 := (pσ 1 (by omega)).trans (show _ = w by simp)
    simp (disch := first | omega | (simp only [zqp, zqq]; omega)) [p0, p1, p8, h1', h2', h3', zqa, zqb, zqc, zqd, zqe, zqf, zqg, zqh, zqi, zqj, zqk, u64b, u32b, zql, zqm, zqn, zqo, -zqu, -isSl, -zqs, -zqt, -zqv, -zqr]
    refine (up_wp b2 b1 b3 hv hla).mono fun r1 m1 hp1 => ?_
    obtain ⟨ho1, ub, F, rfl, hub, hgu1, hF, hFl, hFv⟩ := hp1
    simp (disch := first | omega | (simp only [zqp, zqq]; omega)) [p0, p1, p8, zqa, zqb, zqc, zqd, zqe, zqf, zqg, zqh, zqi, zqj, zqk, u64b, u32b, zql, zqm, zqn, zqo, -zqu, -isSl, -zqs, -zqt, -zqv, -zqr]
    refine (up_wp b2 b1 b3 (hw.mono ho1) hlb).mono fun r2 m2 hp2 => ?_
    obtain ⟨ho2, vb, G, rfl, hvb, hgv2, hG, hGl, hGv⟩ := hp2
    obtain ⟨K1, hK1⟩ : ∃ K1, K1 + n = a.length + 1 := ⟨a.length + 1 - n, by omega⟩
    have x0 : IntKind.i64.wrap ((a.length : Int) + 1 - (n : Int)) = (K1 : Int) := by rw [i64_id (by omega) (by omega)]; omega
    have hbn : b.length = n := by omega
    rw [hbn] at hGl
    have x1 : IntKind.i64.wrap ((n : Int) - 1) = (n2 : Int) + 1 := by rw [i64_id (by omega) (by omega)]; omega
    have x2 : IntKind.i64.wrap ((n : Int) - 2) = (n2 : Int) := by rw [i64_id (by omega) (by omega)]; omega
    have x3 : IntKind.i64.wrap ((K1 : Int) - 1) = (K1 : Int) - 1 := i64_id (by omega) (by omega)
    have hltu := get_lt hgu1
    have hltv := get_lt hgv2
    have hgu2 := ho2.some hgu1
    have hltu2 := get_lt hgu2
    have g1 := gd_bd hG (n2 + 1)
    have g0 := gd_bd hG n2
    have hz1 : G[n2 + 1]? = some (gd G (n2 + 1)) := by rw [gd_some (List.getElem?_eq_getElem (by omega)), List.getElem?_eq_getElem (by omega)]
    have hz0 : G[n2]? = some (gd G n2) := by rw [gd_some (List.getElem?_eq_getElem (by omega)), List.getElem?_eq_getElem (by omega)]
    obtain ⟨hl1, hy1⟩ := List.getElem?_eq_some_iff.1 hz1
    obtain ⟨hl0, hy0⟩ := List.getElem?_eq_some_iff.1 hz0
    have w1 : IntKind.u64.wrap (gd G (n2 + 1)) = gd G (n2 + 1) := u64_id (by omega) (by omega)
    have w0 : IntKind.u64.wrap (gd G n2) = gd G n2 := u64_id (by omega) (by omega)
    have q1 : (n2 : Int) + 1 < n := by omega
    have q2 : (n2 : Int) < n := by omega
    have q3 : (0 : Int) ≤ (n2 : Int) + 1 := by omega
    have q4 : ((n2 : Int) + 1).toNat = n2 + 1 := by omega
    have q5 : n2 + 1 + 1 ≤ n + 1 := by omega
    have q6 : n2 + 1 ≤ n + 1 := by omega
    have q7 : n2 + 1 < n + 1 := by omega
    have q8 : n2 < n + 1 := by omega
    have q9 : n2 + 1 ≤ n := by omega
    have q10 : n2 ≤ n := by omega
    have q11 : (n : Int) ≤ (n : Int) + 1 := by omega
    have q12 : n2 < n := by omega
    simp (disch := first | omega | (simp only [zqp, zqq]; omega)) [p0, p1, p8, h1', h2', h3', hbn, x0, x1, x2, x3, hgv2, hGl, hz1, hz0, hy1, hy0, w1, w0, q1, q2, q3, q4, q5, q6, q7, q8, q9, q10, q11, q12, head_td, zqa, zqb, zqc, zqd, zqe, zqf, zqg, zqh, zqi, zqj, zqk, u64b, u32b, zql, zqm, zqn, zqo, -zqu, -isSl, -zqs, -zqt, -zqv, -zqr]
    obtain ⟨sc1, sc2, sc3⟩ := scaled hb.1 hn2 (by omega) b4 b5 b6 hG (by omega) hGv
    rw [show n2 + 1 + 1 = n by omega] at sc1 sc2
    have hne2 : ub ≠ vb := by omega
    have hM3 : Old m2 ((m2.bump 6).put (m2.next + 4) (some ⟨List.replicate K1 (.int .u32 0), true⟩)) := ((Old.refl m2).bump 6).put (by omega)
    have hgv3 := hM3.some hgv2
    have hgu3 := hM3.some hgu2
    have hgq3 : ((m2.bump 6).put (m2.next + 4) (some ⟨List.replicate K1 (.int .u32 0), true⟩)).get (m2.next + 4) = some ⟨(List.replicate K1 (0 : Int)).map U, true⟩ := by rw [zql (by simp)]; simp
    have hsv : Sl ((m2.bump 6).put (m2.next + 4) (some ⟨List.replicate K1 (.int .u32 0), true⟩)) (.slice (some ⟨vb, 0, none⟩) n 1) (G.take n) := by
      have := (Sl.mk hG hgv3).take (n := n) (by omega)
      rw [zqe] at this
      simpa using this
    have hld : LD (val a * S) (val (G.take n)) n F (List.replicate K1 0) K1 := by
      have := LD.start (A := val a * S) (V := val (G.take n)) (n := n2 + 1) (na := a.length) (k := K1) (S := S) hF (by omega) (by omega) hFv rfl (val_bd ha.1).2 (by omega) (by rw [sc1]; exact sc3)
      rw [show n2 + 1 + 1 = n by omega] at this; exact this
    have hut1 := ho1.next
    have hut2 := ho2.next
    refine ⟨by omega, div_loop (m00 := m) (n := n) (n2 := n2) (N := a.length + 1) (K := K1) (ub := ub) (qb := m2.next + 4) (s := s) hn (by simp; omega) (by omega) (by omega) (by omega) rfl (top := gd G (n2 + 1)) (by rw [gd_take (by omega)]) (next := gd G n2) (by rw [gd_take (by omega)]) (by rw [gd_take (by omega)] at sc2; exact sc2)
      (by simp [blkOf]; omega) (by simp [blkOf]; omega) (by omega) hub (by omega) (by simp [p8]) (by simp) (by simp) (by simp) (by simp) (by simp) (by simp) K1 F (List.replicate K1 0) _ _ (Nat.le_refl _) ((ho1.trans ho2).trans hM3) hgu3 hgq3 hsv hld (by simp) (by simp) (fun _ _ => rfl) fun σ2 m4 F2 ql f1 f2 f3 f4 f5 pσ2 => ?_⟩
    obtain ⟨d1, d2, d3⟩ := f4.done (by rw [sc1]; exact Int.mul_pos vb0 (by omega))
    have r8 := (pσ2 8 (by omega)).trans (show _ = L s by simp [p8])
    have r9 := (pσ2 9 (by omega)).trans (show _ = .slice (some ⟨ub, 0, none⟩) (a.length + 1) 1 by simp)
    have r11 := (pσ2 11 (by omega)).trans (show _ = I n by simp)
    have r12 := (pσ2 12 (by omega)).trans (show _ = .slice (some ⟨m2.next + 4, 0, none⟩) K1 1 by simp)
    have hltq := get_lt f3
    have hltu4 := get_lt f2
    simp (disch := first | omega | (simp only [zqp, zqq]; omega)) [r8, r9, r11, r12, zqa, zqb, zqc, zqd, zqe, zqf, zqg, zqh, zqi, zqj, zqk, u64b, u32b, zql, zqm, zqn, zqo, -zqu, -isSl, -zqs, -zqt, -zqv, -zqr]
    have hM5 : Old m4 ((m4.bump 3).put (m4.next + 1) (some ⟨List.replicate n (.int .u32 0), true⟩)) := ((Old.refl m4).bump 3).put (by omega)
    have hgu5 := hM5.some f2
    have hgr5 : ((m4.bump 3).put (m4.next + 1) (some ⟨List.replicate n (.int .u32 0), true⟩)).get (m4.next + 1) = some ⟨(List.replicate n (0 : Int)).map U, true⟩ := by rw [zql (by simp)]; simp
    have hF2l : F2.length = a.length + 1 := by have := f4.len; omega
    have hnx := f1.next
    refine ⟨by omega, down_loop (m00 := m) (n := n) (N := a.length + 1) (ub := ub) (rb := m4.next + 1) b2 b1 b3 b4 f4.okU hF2l (by omega) (by omega) (by omega) (by omega) hub (by simp [r8]) (by simp [r9]) (by simp) (mq := (m4.bump 3).put (m4.next + 1) (some ⟨List.replicate n (.int .u32 0), true⟩)) n 0 (List.replicate n 0) _ _ (by omega) (OldX.refl _ _) (f1.trans hM5) hgu5 hgr5 (OkL.zeros _) (by simp) (by simp [val, pw]; omega) (by simp) (by simp) (fun _ _ => rfl) fun σ3 m6 o e1 e2 e3 e4 e5 e6 pσ3 => ?_⟩
    have t12 := (pσ3 12 (by omega)).trans (show _ = .slice (some ⟨m2.next + 4, 0, none⟩) K1 1 by simp [r12])
    have t19 := (pσ3 19 (by omega)).trans (show _ = .slice (some ⟨m4.next + 1, 0, none⟩) n 1 by simp)
    have hgq6 : m6.get (m2.next + 4) = some ⟨ql.map U, true⟩ := by rw [e1.get _ (by simp; omega) (by omega), hM5.some f3]
    have hq6 : Sl m6 (.slice (some ⟨m2.next + 4, 0, none⟩) K1 1) ql := Sl.mk' f4.okQ hgq6 f5.symm
    have hr6 : Sl m6 (.slice (some ⟨m4.next + 1, 0, none⟩) n 1) o := Sl.mk' e4 e3 e5.symm
    have lq := nlen_le ql
    have lo := nlen_le o
    have lq' : (nlen ql : Int) ≤ K1 := by omega
    have lo' : (nlen o : Int) ≤ n := by omega
    -- the numbers
    have hb0 : 0 < val b * S := Int.mul_pos vb0 (by omega)
    have rm0 := Int.emod_nonneg (val a) (show val b ≠ 0 by omega)
    have rm1 := Int.emod_lt_of_pos (val a) vb0
    have rms := Int.emod_add_mul_ediv (val a) (val b)
    have key := div_of (U := val a * S) (V := val b * S) (q := val a / val b) (r := (val a % val b) * S) (by
      have : (val a % val b + val b * (val a / val b)) * S = val a * S := by rw [rms]
      grind) (Int.mul_nonneg rm0 (by omega)) (Int.mul_lt_mul_of_pos_right rm1 (by omega))
    rw [sc1] at d1 d2
    rw [key.1] at d1
    rw [key.2] at d2
    have hFn : gd F2 n = 0 := by
      by_cases h : n < F2.length
      · rw [gd_some (List.getElem?_eq_getElem h)]; exact f4.hi n _ (by omega) (List.getElem?_eq_getElem h)
      · exact gd_none (by omega)
    have hF0 : gd F2 0 % S = 0 := by
      have h7 := drop_gd F2 0
      rw [List.drop_zero] at h7
      have h8 : gd F2 0 = S * (val a % val b - K * val (F2.drop 1)) := by
        have h9 : val F2 = val a % val b * S := by omega
        have h10 : 4294967296 * val (F2.drop (0 + 1)) = S * K * val (F2.drop 1) := by rw [b4]
        grind
      rw [h8, Int.mul_emod_right]
    have hvo : val o = val a % val b := by
      rw [hFn, hF0, ← d2, Int.mul_comm (val a % val b)] at e6
      simp only [Int.zero_emod, Int.zero_mul, Int.sub_zero, Int.add_zero] at e6
      exact Int.eq_of_mul_eq_mul_left (by omega) e6
    simp (disch := first | omega | (simp only [zqp, zqq]; omega)) [t12, t19, length_wp hq6 (by omega), length_wp hr6 (by omega), lq', lo', zqa, zqb, zqc, zqd, zqe, zqf, zqg, zqh, zqi, zqj, zqk, u64b, u32b, zql, zqm, zqn, zqo, -zqu, -isSl, -zqs, -zqt, -zqv, -zqr]
    refine ⟨e2, _, _, rfl, ?_, ?_⟩
    · have := hq6.digs
      rw [zqe, ← d1] at this
      simpa using this
    · have := hr6.digs
      rw [zqe, hvo] at this
      simpa using this
end Go.Proofs.YtkpifdkccdndcaaGreat
namespace Go.Big
def gcdI (a b : Int) : Int := (Nat.gcd a.toNat b.toNat : Nat)
theorem gcdI_zero {a : Int} (h : 0 ≤ a) : gcdI a 0 = a := by simp [gcdI]; omega
theorem gcdI_step {a b : Int} (ha : 0 ≤ a) (hb : 0 < b) : gcdI a b = gcdI b (a % b) := by
  unfold gcdI
  rw [Nat.gcd_comm, Nat.gcd_rec, Nat.gcd_comm, Int.toNat_emod ha (by omega)]
theorem gcdI_nonneg (a b : Int) : 0 ≤ gcdI a b := by unfold gcdI; omega
def nbits (n : Int) : Int := if h : n ≤ 0 then 0 else nbits (n / 2) + 1
termination_by n.toNat
decreasing_by omega
theorem nbits_zero {n : Int} (h : n ≤ 0) : nbits n = 0 := by rw [nbits]; simp [h]
theorem nbits_pos {n : Int} (h : 0 < n) : nbits n = nbits (n / 2) + 1 := by rw [nbits]; simp; omega
theorem nbits_nonneg : ∀ (k : Nat) (n : Int), n.toNat ≤ k → 0 ≤ nbits n
  | 0, n, h => by rw [nbits_zero (by omega)]; omega
  | k + 1, n, h => by
    by_cases hn : n ≤ 0
    · rw [nbits_zero hn]; omega
    · rw [nbits_pos (by omega)]; have := nbits_nonneg k (n / 2) (by omega); omega
theorem nbits_ge (n : Int) : 0 ≤ nbits n := nbits_nonneg _ n (Nat.le_refl _)
theorem nbits_le : ∀ (k : Nat) (n : Int), nbits n ≤ k ↔ n < 2 ^ k
  | 0, n => by
    by_cases hn : n ≤ 0
    · rw [nbits_zero hn]; simp; omega
    · rw [nbits_pos (by omega)]; have := nbits_ge (n / 2); simp; omega
  | k + 1, n => by
    have hp : (0 : Int) < 2 ^ k := by have h8 := Nat.two_pow_pos k; have h9 : ((2 ^ k : Nat) : Int) = (2 : Int) ^ k := by simp
                                      omega
    rw [Int.pow_succ]
    by_cases hn : n ≤ 0
    · rw [nbits_zero hn]
      constructor
      · intro _; omega
      · intro _; omega
    · rw [nbits_pos (by omega)]
      have := nbits_le k (n / 2)
      constructor
      · intro h; have := this.1 (by omega); omega
      · intro h; have := this.2 (by omega); omega
theorem pw_two : ∀ k, pw k = 2 ^ (32 * k)
  | 0 => rfl
  | k + 1 => by
    rw [show 32 * (k + 1) = 32 * k + 32 by omega, Int.pow_add, ← pw_two k]
    simp only [pw]
    rw [Int.mul_comm]; rfl
theorem nbits_top {a : List Int} {n : Nat} (h : OkL a) (hn : nlen a = n + 1) : nbits (val a) = n * 32 + nbits (gd a n) := by
  have hl := nlen_le a
  have t := top1 (l := a.take (n + 1)) (n := n) (by simp; omega)
  rw [← hn, val_take_nlen] at t
  rw [hn, gd_take (by omega), List.take_take, Nat.min_eq_left (by omega)] at t
  have bd := val_bd (h.take n)
  rw [List.length_take, Nat.min_eq_left (by omega)] at bd
  have g := gd_bd h n
  have gnz : gd a n ≠ 0 := by
    rw [gd_some (List.getElem?_eq_getElem (by omega))]
    exact nlen_top hn (List.getElem?_eq_getElem (by omega))
  obtain ⟨k, hk⟩ : ∃ k : Nat, nbits (gd a n) = (k : Int) + 1 := by
    have h1 := nbits_pos (n := gd a n) (by omega)
    have h2 := nbits_ge (gd a n / 2)
    exact ⟨(nbits (gd a n / 2)).toNat, by omega⟩
  have l1 := (nbits_le (k + 1) (gd a n)).1 (by omega)
  have l2 : ¬ gd a n < 2 ^ k := fun h => by have := (nbits_le k (gd a n)).2 h; omega
  have hp := pw_pos n
  have u1 : nbits (val a) ≤ ((32 * n + (k + 1) : Nat) : Int) := (nbits_le _ _).2 (by
    rw [Int.pow_add, ← pw_two]
    have : (gd a n + 1) * pw n ≤ 2 ^ (k + 1) * pw n := Int.mul_le_mul_of_nonneg_right (by omega) (by omega)
    rw [Int.mul_comm (pw n)]
    have e : (gd a n + 1) * pw n = gd a n * pw n + pw n := by grind
    omega)
  have u2 : ¬ nbits (val a) ≤ ((32 * n + k : Nat) : Int) := fun hh => by
    have := (nbits_le _ _).1 hh
    rw [Int.pow_add, ← pw_two] at this
    have h3 : 2 ^ k * pw n ≤ gd a n * pw n := Int.mul_le_mul_of_nonneg_right (by omega) (by omega)
    rw [Int.mul_comm (pw n)] at this
    omega
  omega
end Go.Big
namespace Go.Proofs.YtkpifdkccdndcaaGreat
open Go Go.DI Go.Big
set_option linter.unusedSimpArgs false
set_option linter.unusedVariables false

/-- a number in memory -/
def Nm (m : Mem) (v : Value) (n : Int) : Prop := ∃ l, Sl m v l ∧ Big l ∧ val l = n
theorem Nm.mono {m m' : Mem} {v : Value} {n : Int} (h : Nm m v n) (ho : Old m m') : Nm m' v n := by
  obtain ⟨l, h1, h2, h3⟩ := h
  exact ⟨l, h1.mono ho, h2, h3⟩
theorem Nm.nonneg {m : Mem} {v : Value} {n : Int} (h : Nm m v n) : 0 ≤ n := by
  obtain ⟨l, h1, _, rfl⟩ := h; exact (val_bd h1.1).1
theorem Sl.nm {m : Mem} {v : Value} {n : Int} {k : Nat} (h : Sl m v (Big.digs n)) (h0 : 0 ≤ n) (hn : n < pw k) (hk : k < 1000000) : Nm m v n :=
  ⟨_, h, by have := digs_le h0 hn; omega, val_digs h0⟩

def DivT (m : Mem) (x y : Int) (r : Value) (m' : Mem) : Prop := Old m m' ∧ ∃ q s, r = .tuple #[q, s, I 0] ∧ Sl m' q (digs (x / y)) ∧ Sl m' s (digs (x % y))
set_option maxHeartbeats 2000000 in
theorem div_wp {m : Mem} {v w : Value} {a b : List Int} (hv : Sl m v a) (hw : Sl m w b) (ha : Big a) (hb : Big b) (na : nlen a ≤ 512) (nb : nlen b ≤ 512) (hne : val b ≠ 0) :
    WPCall Tryz.prog 130 [v, w] m (DivT m (val a) (val b)) := by
  rw [call130 (by simp)]
  obtain ⟨h1, h2, h3, h4⟩ := hv.len
  obtain ⟨h1', h2', h3', h4'⟩ := hw.len
  have la := nlen_le a
  have lb := nlen_le b
  have ka : ¬ 512 < nlen a := by omega
  have kb : ¬ 512 < nlen b := by omega
  have xv := hv.digs
  have xw := hw.digs
  have ea := nlen_digs hv.1
  have eb := nlen_digs hw.1
  have va := val_digs (val_bd hv.1).1
  have vb := val_digs (val_bd hw.1).1
  have hb0 : nlen b ≠ 0 := fun h => by
    have := val_take_nlen b
    rw [h] at this
    simp [val] at this; omega
  simp (disch := first | omega | (simp only [zqp, zqq]; omega)) [ir130_b, ir130_k1, ir130_k2, ir130_k3, large_wp hv ha, large_wp hw hb, length_wp hv ha, length_wp hw hb, h1, h2, h3, h1', h2', h3', ka, kb, la, lb, hb0, zqa, zqb, zqc, zqd, zqe, zqf, zqg, zqh, zqi, zqj, zqk, u64b, u32b, zql, zqm, zqn, zqo, -zqu, -isSl, -zqs, -zqt, -zqv, -zqr]
  refine (divide_wp xv xw (can_digs _) (can_digs _) (by omega) (by omega) (fun h => by rw [h] at eb; simp at eb; omega)).mono fun r m' hp => ?_
  rw [va, vb] at hp
  obtain ⟨ho, q, s, rfl, hq, hs⟩ := hp
  simp (disch := first | omega | (simp only [zqp, zqq]; omega)) [zqa, zqb, zqc, zqd, zqe, zqf, zqg, zqh, zqi, zqj, zqk, u64b, u32b, zql, zqm, zqn, zqo, -zqu, -isSl, -zqs, -zqt, -zqv, -zqr]
  exact ⟨ho, q, s, rfl, hq, hs⟩

set_option maxHeartbeats 2000000 in
theorem gcd_loop {m0 : Mem} {Q : IExit → Slots → Mem → Prop} : ∀ (r : Nat) (X Y : Int) (v w : Value) (m : Mem) (σ : Slots), Y ≤ r → 0 ≤ X → 0 ≤ Y → X < pw 512 → Y < pw 512 → Old m0 m → Sl m v (digs X) → Sl m w (digs Y) → σ 0 = v → σ 1 = w →
    (∀ σ' m' v', Old m0 m' → Sl m' v' (digs (gcdI X Y)) → σ' 0 = v' → Q (.exit 0) σ' m') → WP Tryz.prog (.loop ir129_l0) σ m Q := by
  intro r
  induction r with
  | zero =>
    intro X Y v w m σ hr hX hY lX lY ho hv hw s0 s1 hQ
    refine wp_round fun J hJ => ?_
    obtain rfl : Y = 0 := by omega
    obtain ⟨h1, h2, h3, h4⟩ := hw.len
    rw [digs_zero (by omega)] at h1
    simp only [List.length_nil] at h1
    simp (disch := first | omega | (simp only [zqp, zqq]; omega)) [ir129_l0, ir129_k1, ir129_k2, ir129_k3, ir129_k4, s0, s1, h1, h2, zqa, zqb, zqc, zqd, zqe, zqf, zqg, zqh, zqi, zqj, zqk, u64b, u32b, zql, zqm, zqn, zqo, -zqu, -isSl, -zqs, -zqt, -zqv, -zqr]
    exact hQ _ _ v ho (by rw [gcdI_zero hX]; exact hv) (by simp [s0])
  | succ r ih =>
    intro X Y v w m σ hr hX hY lX lY ho hv hw s0 s1 hQ
    by_cases h0 : Y = 0
    · exact ih X Y v w m σ (by omega) hX hY lX lY ho hv hw s0 s1 hQ
    · refine wp_round fun J hJ => ?_
      obtain ⟨h1, h2, h3, h4⟩ := hw.len
      have lx := digs_le hX lX
      have ly := digs_le hY lY
      have hne : digs Y ≠ [] := fun h => by have := val_digs hY; rw [h] at this; simp [val] at this; omega
      have hp := List.length_pos_iff.2 hne
      have hp' : (0 : Int) < ((digs Y).length : Int) := by omega
      simp (disch := first | omega | (simp only [zqp, zqq]; omega)) [ir129_l0, ir129_k1, ir129_k2, ir129_k3, ir129_k4, s0, s1, h1, h2, hp, hp', zqa, zqb, zqc, zqd, zqe, zqf, zqg, zqh, zqi, zqj, zqk, u64b, u32b, zql, zqm, zqn, zqo, -zqu, -isSl, -zqs, -zqt, -zqv, -zqr]
      refine (divide_wp hv hw (can_digs _) (can_digs _) (by omega) (by omega) hne).mono fun r2 m2 hp2 => ?_
      rw [val_digs hX, val_digs hY] at hp2
      obtain ⟨ho2, q, s, rfl, hq, hs⟩ := hp2
      simp (disch := first | omega | (simp only [zqp, zqq]; omega)) [s0, s1, zqa, zqb, zqc, zqd, zqe, zqf, zqg, zqh, zqi, zqj, zqk, u64b, u32b, zql, zqm, zqn, zqo, -zqu, -isSl, -zqs, -zqt, -zqv, -zqr]
      have e0 := Int.emod_nonneg X (show Y ≠ 0 by omega)
      have e1 := Int.emod_lt_of_pos X (show 0 < Y by omega)
      refine hJ _ _ (ih Y (X % Y) w s m2 _ (by omega) hY e0 lY (by omega) (ho.trans ho2) (hw.mono ho2) hs (by simp) (by simp) fun σ' m' v' f1 f2 f3 => ?_)
      exact hQ σ' m' v' f1 (by rw [gcdI_step hX (by omega)]; exact f2) f3
set_option maxHeartbeats 2000000 in
theorem gcd_wp {m : Mem} {v w : Value} {a b : List Int} (hv : Sl m v a) (hw : Sl m w b) (ha : Big a) (hb : Big b) (na : nlen a ≤ 512) (nb : nlen b ≤ 512) :
    WPCall Tryz.prog 129 [v, w] m (Res m (gcdI (val a) (val b))) := by
  rw [call129 (by simp)]
  have ka : ¬ 512 < nlen a := by omega
  have kb : ¬ 512 < nlen b := by omega
  simp (disch := first | omega | (simp only [zqp, zqq]; omega)) [ir129_b, ir129_k1, ir129_k2, ir129_k3, ir129_k4, large_wp hv ha, large_wp hw hb, ka, kb, zqa, zqb, zqc, zqd, zqe, zqf, zqg, zqh, zqi, zqj, zqk, u64b, u32b, zql, zqm, zqn, zqo, -zqu, -isSl, -zqs, -zqt, -zqv, -zqr]
  refine (trim_wp hv ha).mono fun r1 m1 hp1 => ?_
  simp (disch := first | omega | (simp only [zqp, zqq]; omega)) [zqa, zqb, zqc, zqd, zqe, zqf, zqg, zqh, zqi, zqj, zqk, u64b, u32b, zql, zqm, zqn, zqo, -zqu, -isSl, -zqs, -zqt, -zqv, -zqr]
  refine (trim_wp (hw.mono hp1.1) hb).mono fun r2 m2 hp2 => ?_
  simp (disch := first | omega | (simp only [zqp, zqq]; omega)) [zqa, zqb, zqc, zqd, zqe, zqf, zqg, zqh, zqi, zqj, zqk, u64b, u32b, zql, zqm, zqn, zqo, -zqu, -isSl, -zqs, -zqt, -zqv, -zqr]
  refine gcd_loop (m0 := m) (val b).toNat (val a) (val b) r1 r2 m2 _ (by omega) (val_bd hv.1).1 (val_bd hw.1).1 ((nlen_le_iff hv.1 _).1 na) ((nlen_le_iff hw.1 _).1 nb) (hp1.1.trans hp2.1) (hp1.2.mono hp2.1) hp2.2 (by simp) (by simp) fun σ' m' v' f1 f2 f3 => ?_
  simp (disch := first | omega | (simp only [zqp, zqq]; omega)) [f3, zqa, zqb, zqc, zqd, zqe, zqf, zqg, zqh, zqi, zqj, zqk, u64b, u32b, zql, zqm, zqn, zqo, -zqu, -isSl, -zqs, -zqt, -zqv, -zqr]
  exact ⟨f1, v', rfl, f2⟩

set_option maxHeartbeats 2000000 in
theorem bits_loop {m : Mem} {Q : IExit → Slots → Mem → Prop} : ∀ (r : Nat) (k t : Int) (σ : Slots), t ≤ r → 0 ≤ t → t < 4294967296 → 0 ≤ k → k + r < 10000000000 → σ 4 = I k → σ 5 = U t →
    (∀ σ', σ' 4 = I (k + nbits t) → Q (.exit 0) σ' m) → WP Tryz.prog (.loop ir87_l0) σ m Q := by
  intro r
  induction r with
  | zero =>
    intro k t σ hr h0 h1 k0 k1 s4 s5 hQ
    refine wp_round fun J hJ => ?_
    obtain rfl : t = 0 := by omega
    simp (disch := first | omega | (simp only [zqp, zqq]; omega)) [ir87_l0, ir87_k1, ir87_k2, ir87_k3, ir87_k4, ir87_k5, ir87_k6, s4, s5, zqa, zqb, zqc, zqd, zqe, zqf, zqg, zqh, zqi, zqj, zqk, u64b, u32b, zql, zqm, zqn, zqo, -zqu, -isSl, -zqs, -zqt, -zqv, -zqr]
    exact hQ _ (by simp [s4, nbits_zero])
  | succ r ih =>
    intro k t σ hr h0 h1 k0 k1 s4 s5 hQ
    by_cases ht : t = 0
    · exact ih k t σ (by omega) h0 h1 k0 (by omega) s4 s5 hQ
    · refine wp_round fun J hJ => ?_
      have c1 : 0 < t := by omega
      have w0 : IntKind.i64.wrap (k + 1) = k + 1 := i64_id (by omega) (by omega)
      have w1 : t.fdiv 2 = t / 2 := Int.fdiv_eq_ediv_of_nonneg t (by omega)
      simp (disch := first | omega | (simp only [zqp, zqq]; omega)) [ir87_l0, ir87_k1, ir87_k2, ir87_k3, ir87_k4, ir87_k5, ir87_k6, s4, s5, c1, w0, w1, zqa, zqb, zqc, zqd, zqe, zqf, zqg, zqh, zqi, zqj, zqk, u64b, u32b, zql, zqm, zqn, zqo, -zqu, -isSl, -zqs, -zqt, -zqv, -zqr]
      exact hJ _ _ (ih (k + 1) (t / 2) _ (by omega) (by omega) (by omega) (by omega) (by omega) (by simp) (by simp) fun σ' h => hQ σ' (by rw [h, nbits_pos c1]; congr 1; omega))
set_option maxHeartbeats 2000000 in
theorem bits_wp {m : Mem} {v : Value} {l : List Int} (hv : Sl m v l) (hl : Big l) (Φ : Value → Mem → Prop) : WPCall Tryz.prog 87 [v] m Φ = Φ (I (nbits (val l))) m := by
  refine (Ret.of_wp ?_).wp
  rw [call87 (by simp)]
  obtain ⟨h1, h2, h3, h4⟩ := hv.len
  have hn := nlen_le l
  by_cases k1 : nlen l = 0
  · have hv0 : val l = 0 := by have := val_take_nlen l; rw [k1] at this; simpa [val] using this.symm
    simp (disch := first | omega | (simp only [zqp, zqq]; omega)) [ir87_b, ir87_k1, ir87_k2, ir87_k3, ir87_k4, ir87_k5, ir87_k6, length_wp hv hl, k1, zqa, zqb, zqc, zqd, zqe, zqf, zqg, zqh, zqi, zqj, zqk, u64b, u32b, zql, zqm, zqn, zqo, -zqu, -isSl, -zqs, -zqt, -zqv, -zqr]
    rw [hv0, nbits_zero (by omega)]
  · obtain ⟨n, hk⟩ : ∃ n, nlen l = n + 1 := ⟨nlen l - 1, by omega⟩
    have a1 := hv.addr (i := n) (by omega)
    have a2 := hv.load (i := n) (by omega)
    have g := gd_bd hv.1 n
    have c0 : ¬ (n : Int) + 1 = 0 := by omega
    have c1 : (n : Int) < l.length := by omega
    have w0 : IntKind.i64.wrap (n : Int) = n := i64_id (by omega) (by omega)
    have w1 : IntKind.i64.wrap ((n : Int) * 32) = (n : Int) * 32 := i64_id (by omega) (by omega)
    simp (disch := first | omega | (simp only [zqp, zqq]; omega)) [ir87_b, ir87_k1, ir87_k2, ir87_k3, ir87_k4, ir87_k5, ir87_k6, length_wp hv hl, hk, c0, c1, h1, h2, h3, a1, a2, w0, w1, zqa, zqb, zqc, zqd, zqe, zqf, zqg, zqh, zqi, zqj, zqk, u64b, u32b, zql, zqm, zqn, zqo, -zqu, -isSl, -zqs, -zqt, -zqv, -zqr]
    refine bits_loop (gd l n).toNat ((n : Int) * 32) (gd l n) _ (by omega) g.1 g.2 (by omega) (by omega) (by simp) (by simp) fun σ' h => ?_
    simp (disch := first | omega | (simp only [zqp, zqq]; omega)) [h, nbits_top hv.1 hk, zqa, zqb, zqc, zqd, zqe, zqf, zqg, zqh, zqi, zqj, zqk, u64b, u32b, zql, zqm, zqn, zqo, -zqu, -isSl, -zqs, -zqt, -zqv, -zqr]
end Go.Proofs.YtkpifdkccdndcaaGreat
