/-
  The program's compiler of fleets: 'check' and 'declare'.
-/
import Derived.Test.YtkpifdkccdndcaaGreatOwnB
import Derived.Test.YtkpifdkccdndcaaGreatNam
namespace Go.Proofs.YtkpifdkccdndcaaGreat
open Go Go.DI Go.Big
set_option linter.unusedSimpArgs false
set_option linter.unusedVariables false
/-- all but one block, and all maps but one, stay -/
structure KeepM (cb mb : Nat) (m m' : Mem) : Prop where
  next : m.next ≤ m'.next
  get : ∀ b, b < m.next → b ≠ cb → m'.get b = m.get b
  getM : ∀ b, b < m.next → b ≠ mb → b ≠ cb → m'.getM b = m.getM b
theorem KeepM.refl (cb mb : Nat) (m : Mem) : KeepM cb mb m m := ⟨Nat.le_refl _, fun _ _ _ => rfl, fun _ _ _ _ => rfl⟩
theorem KeepM.trans {cb mb : Nat} {a b c : Mem} (h : KeepM cb mb a b) (h' : KeepM cb mb b c) : KeepM cb mb a c :=
  ⟨Nat.le_trans h.next h'.next, fun x hx hn => by rw [h'.get x (Nat.lt_of_lt_of_le hx h.next) hn, h.get x hx hn], fun x hx hn hn' => by rw [h'.getM x (Nat.lt_of_lt_of_le hx h.next) hn hn', h.getM x hx hn hn']⟩
theorem KeepM.bump {cb mb : Nat} {m m' : Mem} (h : KeepM cb mb m m') (k : Nat) : KeepM cb mb m (m'.bump k) :=
  ⟨by have := h.next; simp only [zqq]; omega, fun b hb hn => by have := h.next; rw [zqn (by omega), h.get b hb hn], fun b hb hn hn' => by have := h.next; rw [getM_bump (by omega), h.getM b hb hn hn']⟩
theorem KeepM.put {cb mb : Nat} {m m' : Mem} (h : KeepM cb mb m m') {i : Nat} {x : Option Blk} (hi : m.next ≤ i ∨ i = cb) : KeepM cb mb m (m'.put i x) :=
  ⟨h.next, fun b hb hn => by rw [zqm (by omega), h.get b hb hn], fun b hb hn hn' => by rw [getM_put_ne (by omega), h.getM b hb hn hn']⟩
theorem KeepM.putM {cb mb : Nat} {m m' : Mem} (h : KeepM cb mb m m') {es : List (Value × Value)} (hg : m.get mb = some ⟨[], true⟩) : KeepM cb mb m (m'.putM mb es) :=
  ⟨h.next, fun b hb hn => by
    by_cases e : b = mb
    · subst e; have := h.next; rw [get_putM_self (by omega), hg]
    · rw [get_putM_ne e, h.get b hb hn], fun b hb hn hn' => by rw [getM_putM_ne hn, h.getM b hb hn hn']⟩
theorem KeepM.some {cb mb : Nat} {m m' : Mem} (h : KeepM cb mb m m') {b : Nat} {x : Blk} (hb : m.get b = some x) (hn : b ≠ cb) : m'.get b = .some x := by rw [h.get b (get_lt hb) hn, hb]

def Cells (a0 a1 a2 a3 a4 a5 a6 a7 a8 a9 a10 a11 a12 a13 a14 a15 a16 : Value) (e l c : Int) : List Value := [a0, a1, a2, a3, a4, a5, a6, a7, a8, a9, a10, a11, a12, a13, a14, a15, a16, I e, I l, I c]
/-- the first error of the two -/
def ck3 (ok : Bool) (e l c e0 l0 c0 : Int) : Int × Int × Int := if e0 = 0 ∧ ok = false then (e, l, c) else (e0, l0, c0)
theorem check_wp {m : Mem} {cb mb : Nat} {a0 a1 a2 a3 a4 a5 a6 a7 a8 a9 a10 a11 a12 a13 a14 a15 a16 : Value} {e0 l0 c0 e l c : Int} {ok : Bool}
    (hg : m.get cb = some ⟨[a0, a1, a2, a3, a4, a5, a6, a7, a8, a9, a10, a11, a12, a13, a14, a15, a16, I e0, I l0, I c0], true⟩) {Φ : Value → Mem → Prop}
    (hQ : ∀ m' e1 l1 c1, ck3 ok e l c e0 l0 c0 = (e1, l1, c1) → KeepM cb mb m m' → m'.get cb = some ⟨[a0, a1, a2, a3, a4, a5, a6, a7, a8, a9, a10, a11, a12, a13, a14, a15, a16, I e1, I l1, I c1], true⟩ → Φ (.bool (decide (e1 = 0))) m') :
    WPCall Tryz.prog 35 [ptr cb, .bool ok, I e, .agg #[I l, I c]] m Φ := by
  rw [call35 (by simp)]
  have hlt := get_lt hg
  have ne : cb ≠ m.next := by omega
  have ne2 : m.next ≠ cb := by omega
  by_cases he : e0 = 0
  · cases ok with
    | true =>
      simp (disch := first | omega | (simp only [zqp, zqq]; omega)) [ir35_b, ir35_k1, ir35_k2, hg, he, ne, zqa, zqb, zqc, zqd, zqe, zqf, zqg, zqh, zqi, zqj, zqk, u64b, u32b, zql, zqm, zqn, zqo, -zqu, -isSl, -zqs, -zqt, -zqv, -zqr]
      exact hQ _ 0 l0 c0 (by simp [ck3, he]) (((KeepM.refl _ _ _).bump _).put (.inl (Nat.le_refl _))) (by rw [zqm ne, zqn hlt, hg, he])
    | false =>
      simp (disch := first | omega | (simp only [zqp, zqq]; omega)) [ir35_b, ir35_k1, ir35_k2, hg, he, ne, ne2, ckOk, zqa, zqb, zqc, zqd, zqe, zqf, zqg, zqh, zqi, zqj, zqk, u64b, u32b, zql, zqm, zqn, zqo, -zqu, -isSl, -zqs, -zqt, -zqv, -zqr]
      refine hQ _ e l c (by simp [ck3, he]) ?_ ?_
      · exact ((((KeepM.refl _ _ _).bump _).put (.inl (Nat.le_refl _)))).put (.inr rfl)
      · rw [zql (by simp; omega)]
  · simp (disch := first | omega | (simp only [zqp, zqq]; omega)) [ir35_b, ir35_k1, ir35_k2, hg, he, ne, zqa, zqb, zqc, zqd, zqe, zqf, zqg, zqh, zqi, zqj, zqk, u64b, u32b, zql, zqm, zqn, zqo, -zqu, -isSl, -zqs, -zqt, -zqv, -zqr]
    have hq := hQ ((m.bump 2).put m.next (some ⟨[I l, I c], true⟩)) e0 l0 c0 (by simp [ck3, he]) (((KeepM.refl _ _ _).bump _).put (.inl (Nat.le_refl _))) (by rw [zqm ne, zqn hlt, hg])
    rw [decide_eq_false he] at hq
    exact hq
set_option maxHeartbeats 4000000 in
theorem declare_wp {m : Mem} {cb mb : Nat} {a0 a1 a2 a3 a4 a5 a6 a7 a8 a9 a10 a11 a12 a13 a14 a15 a16 : Value} {l0 c0 n l c : Int} {T : ByteArray} {es : List (Value × Value)}
    (hg : m.get cb = some ⟨[a0, a1, a2, a3, a4, a5, a6, a7, a8, a9, a10, a11, a12, a13, a14, a15, a16, I 0, I l0, I c0], true⟩) (hm : m.getM mb = some es) (hne : mb ≠ cb) (hk : keyLike .str (.string T) es = true) {Φ : Value → Mem → Prop}
    (h1 : nmB T = false → ∀ m', KeepM cb mb m m' → m'.get cb = some ⟨[a0, a1, a2, a3, a4, a5, a6, a7, a8, a9, a10, a11, a12, a13, a14, a15, a16, I 1, I l, I c], true⟩ → m'.getM mb = some es → Φ (.bool false) m')
    (h2 : nmB T = true → (mget (.string T) es).isSome = true → ∀ m', KeepM cb mb m m' → m'.get cb = some ⟨[a0, a1, a2, a3, a4, a5, a6, a7, a8, a9, a10, a11, a12, a13, a14, a15, a16, I 8, I l, I c], true⟩ → m'.getM mb = some es → Φ (.bool false) m')
    (h3 : nmB T = true → (mget (.string T) es).isSome = false → ∀ m', KeepM cb mb m m' → m'.get cb = some ⟨[a0, a1, a2, a3, a4, a5, a6, a7, a8, a9, a10, a11, a12, a13, a14, a15, a16, I 0, I l0, I c0], true⟩ → m'.getM mb = some (mset (.string T) (I n) es) → Φ (.bool true) m') :
    WPCall Tryz.prog 101 [ptr cb, .map (some mb), .string T, I n, .agg #[I l, I c]] m Φ := by
  rw [call101 (by simp)]
  have hlt := get_lt hg
  have hmlt := get_lt (Mem.getM_get hm).1
  have ne : cb ≠ m.next := by omega
  have ne2 : mb ≠ m.next := by omega
  have hm1 : ((m.bump 2).put m.next (some ⟨[I l, I c], true⟩)).getM mb = some es := by rw [getM_put_ne ne2, getM_bump hmlt, hm]
  have kp0 : ∀ mb', KeepM cb mb' m ((m.bump 2).put m.next (some ⟨[I l, I c], true⟩)) := fun mb' => ((KeepM.refl _ _ _).bump _).put (.inl (Nat.le_refl _))
  simp (disch := first | omega | (simp only [zqp, zqq]; omega)) [ir101_b, ir101_k1, ir101_k2, ir101_k4, name_wp, callK, keepOk, getM_put_ne, getM_bump, hm, hk, -keyLike, zqa, zqb, zqc, zqd, zqe, zqf, zqg, zqh, zqi, zqj, zqk, u64b, u32b, zql, zqm, zqn, zqo, -zqu, -isSl, -zqs, -zqt, -zqv, -zqr]
  refine check_wp (mb := m.next) (a0 := a0) (e0 := 0) (l0 := l0) (c0 := c0) (by rw [zqm ne, zqn hlt, hg]) fun m1 e1 l1 c1 hc kp1 hg1 => ?_
  have hm2 : m1.getM mb = some es := by rw [kp1.getM mb (by simp; omega) ne2 hne, hm1]
  have gp : m1.get m.next = some ⟨[I l, I c], true⟩ := kp1.some (zql (by simp)) (by omega)
  have k1 : KeepM cb mb m m1 := ⟨Nat.le_trans (kp0 mb).next kp1.next, fun b hb hn => by rw [kp1.get b (by simp; omega) hn, (kp0 mb).get b hb hn], fun b hb hn hn' => by rw [kp1.getM b (by simp; omega) (by omega) hn', (kp0 mb).getM b hb hn hn']⟩
  cases hT : nmB T with
  | false =>
    simp [ck3, hT] at hc
    obtain ⟨rfl, rfl, rfl⟩ := hc
    simp (disch := first | omega | (simp only [zqp, zqq]; omega)) [ir101_b, ir101_k1, ir101_k2, ir101_k4, callK, keepOk, zqa, zqb, zqc, zqd, zqe, zqf, zqg, zqh, zqi, zqj, zqk, u64b, u32b, zql, zqm, zqn, zqo, -zqu, -isSl, -zqs, -zqt, -zqv, -zqr]
    exact h1 hT _ k1 hg1 hm2
  | true =>
    simp [ck3, hT] at hc
    obtain ⟨rfl, rfl, rfl⟩ := hc
    simp (disch := first | omega | (simp only [zqp, zqq]; omega)) [ir101_b, ir101_k1, ir101_k2, ir101_k4, callK, keepOk, gp, zqa, zqb, zqc, zqd, zqe, zqf, zqg, zqh, zqi, zqj, zqk, u64b, u32b, zql, zqm, zqn, zqo, -zqu, -isSl, -zqs, -zqt, -zqv, -zqr]
    refine check_wp (mb := m.next) hg1 fun m2 e2 l2 c2 hc2 kp2 hg2 => ?_
    have hl1 := kp1.next
    have hm3 : m2.getM mb = some es := by rw [kp2.getM mb (by simp at hl1; omega) ne2 hne, hm2]
    have k2 : KeepM cb mb m m2 := ⟨Nat.le_trans k1.next kp2.next, fun b hb hn => by rw [kp2.get b (Nat.lt_of_lt_of_le hb k1.next) hn, k1.get b hb hn], fun b hb hn hn' => by rw [kp2.getM b (Nat.lt_of_lt_of_le hb k1.next) (by omega) hn', k1.getM b hb hn hn']⟩
    cases hS : (mget (.string T) es).isSome with
    | true =>
      simp [ck3, hS] at hc2
      obtain ⟨rfl, rfl, rfl⟩ := hc2
      simp (disch := first | omega | (simp only [zqp, zqq]; omega)) [ir101_b, ir101_k1, ir101_k2, ir101_k4, callK, keepOk, zqa, zqb, zqc, zqd, zqe, zqf, zqg, zqh, zqi, zqj, zqk, u64b, u32b, zql, zqm, zqn, zqo, -zqu, -isSl, -zqs, -zqt, -zqv, -zqr]
      exact h2 hT hS _ k2 hg2 hm3
    | false =>
      simp [ck3, hS] at hc2
      obtain ⟨rfl, rfl, rfl⟩ := hc2
      simp (disch := first | omega | (simp only [zqp, zqq]; omega)) [ir101_b, ir101_k1, ir101_k2, ir101_k3, ir101_k4, callK, keepOk, hm3, hk, -keyLike, zqa, zqb, zqc, zqd, zqe, zqf, zqg, zqh, zqi, zqj, zqk, u64b, u32b, zql, zqm, zqn, zqo, -zqu, -isSl, -zqs, -zqt, -zqv, -zqr]
      refine h3 hT hS _ (k2.putM ?_) ?_ ?_
      · exact (Mem.getM_get hm).1
      · rw [get_putM_ne (by omega), hg2]
      · rw [getM_putM_self]
        have := get_lt (Mem.getM_get hm3).1
        omega
end Go.Proofs.YtkpifdkccdndcaaGreat
