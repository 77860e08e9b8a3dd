/-
  Natural numbers in memory: slices of limbs; 'length', 'large', 'sized'.
  'Trim', 'sized', 'Make', 'Cmp', of the program and of the reference.
  'Add', 'Sub' of the program.
  'Sub' of the program.
  'Mul' of the program.
-/
import Derived.Test.YtkpifdkccdndcaaGreatIrN
import Derived.Test.YtkpifdkccdndcaaGreatBigA
namespace Go.Proofs.YtkpifdkccdndcaaGreat
open Go Go.DI Go.Big
set_option linter.unusedSimpArgs false
set_option linter.unusedVariables false

abbrev ptr (b : Nat) : Value := .pointer (some ⟨b, 0, none⟩)
abbrev I (n : Int) : Value := .int .i64 n
abbrev U (n : Int) : Value := .int .u32 n
abbrev L (n : Int) : Value := .int .u64 n
/-- nothing old is turned -/
structure Old (m m' : Mem) : Prop where
  next : m.next ≤ m'.next
  get : ∀ b, b < m.next → m'.get b = m.get b
theorem Old.refl (m : Mem) : Old m m := ⟨Nat.le_refl _, fun _ _ => rfl⟩
theorem Old.trans {a b c : Mem} (h : Old a b) (h' : Old b c) : Old a c := ⟨Nat.le_trans h.next h'.next, fun x hx => by rw [h'.get x (Nat.lt_of_lt_of_le hx h.next), h.get x hx]⟩
theorem Old.some {m m' : Mem} (h : Old m m') {b : Nat} {x : Blk} (hb : m.get b = some x) : m'.get b = .some x := by rw [h.get b (get_lt hb), hb]
theorem Old.bump {m m' : Mem} (h : Old m m') (k : Nat) : Old m (m'.bump k) := ⟨by have := h.next; simp only [zqq]; omega, fun b hb => by have := h.next; rw [zqn (by omega), h.get b hb]⟩
theorem Old.put {m m' : Mem} (h : Old m m') {i : Nat} {x : Option Blk} (hi : m.next ≤ i) : Old m (m'.put i x) := ⟨h.next, fun b hb => by rw [zqm (by omega), h.get b hb]⟩

section
variable {p : Option Addr} {a : Addr} {l c z i j : Nat}
theorem zqa : zqu (.slice p l c) = l := rfl
theorem zqb : isSl (.slice p l c) = true := rfl
theorem zqf : zqr (.slice p l c) = l := rfl
theorem zqc {b o : Nat} : zqs z (.slice (some ⟨b, o, none⟩) l c) = (c == z) := rfl
theorem zqd {b o : Nat} {n : Int} : zqt (.slice (some ⟨b, o, none⟩) l c) z n = .pointer (some ⟨b, o + n.toNat * z, none⟩) := rfl
theorem zqe {b o : Nat} : zqv (.slice (some ⟨b, o, none⟩) l c) z i j = .slice (some ⟨b, o + i * z, none⟩) (j - i) c := rfl
theorem zqg : zqu (.slice none 0 0) = 0 := rfl
theorem zqh : isSl (.slice none 0 0) = true := rfl
theorem zqk : zqr (.slice none 0 0) = 0 := rfl
theorem zqi : zqs z (.slice none 0 0) = true := rfl
theorem zqj : zqv (.slice none 0 0) z i j = .slice none 0 0 := rfl
end
theorem u64b {n : Nat} : min n IntKind.u64.bits = min n 64 := rfl
theorem u32b {n : Nat} : min n IntKind.u32.bits = min n 32 := rfl
theorem head_td {l : List Value} {k : Nat} : (List.take 1 (List.drop k l)).head? = l[k]? := by
  cases h : l.drop k with
  | nil => rw [List.drop_eq_nil_iff] at h; rw [List.getElem?_eq_none h]; rfl
  | cons x xs => simp; rw [← List.head?_drop, h]; rfl
/-- a slice of limbs -/
def Sl (m : Mem) (v : Value) (l : List Int) : Prop := OkL l ∧ ((v = .slice none 0 0 ∧ l = []) ∨ ∃ b o cs w, v = .slice (some ⟨b, o, none⟩) l.length 1 ∧ m.get b = some ⟨cs, w⟩ ∧ (cs.drop o).take l.length = l.map U ∧ o + l.length ≤ cs.length)
section
variable {m m' : Mem} {v : Value} {l : List Int}
theorem Sl.mono (h : Sl m v l) (ho : Old m m') : Sl m' v l := by
  obtain ⟨hk, h | ⟨b, o, cs, w, h1, h2, h3, h4⟩⟩ := h
  · exact ⟨hk, .inl h⟩
  · exact ⟨hk, .inr ⟨b, o, cs, w, h1, ho.some h2, h3, h4⟩⟩
theorem Sl.nil : Sl m (.slice none 0 0) [] := ⟨by simp [OkL], .inl ⟨rfl, rfl⟩⟩
theorem Sl.mk {b : Nat} {w : Bool} (hk : OkL l) (h : m.get b = some ⟨l.map U, w⟩) : Sl m (.slice (some ⟨b, 0, none⟩) l.length 1) l := ⟨hk, .inr ⟨b, 0, _, w, rfl, h, by rw [List.drop_zero, List.take_of_length_le (by simp)], by simp⟩⟩
theorem Sl.mk' {b n : Nat} {w : Bool} (hk : OkL l) (h : m.get b = some ⟨l.map U, w⟩) (hn : n = l.length) : Sl m (.slice (some ⟨b, 0, none⟩) n 1) l := by subst hn; exact Sl.mk hk h
theorem Sl.len (h : Sl m v l) : zqu v = l.length ∧ isSl v = true ∧ zqs 1 v = true ∧ zqr v = l.length := by
  obtain ⟨hk, ⟨rfl, rfl⟩ | ⟨b, o, cs, w, rfl, _⟩⟩ := h <;> exact ⟨rfl, rfl, rfl, rfl⟩
theorem Sl.at_ (h : Sl m v l) {i : Nat} (hi : i < l.length) : addrOk m (zqt v 1 (i : Int)) 1 = true ∧ loadV m false 1 (zqt v 1 (i : Int)) = U (gd l i) := by
  obtain ⟨hk, ⟨rfl, rfl⟩ | ⟨b, o, cs, w, rfl, h2, h3, h4⟩⟩ := h
  · simp at hi
  · have h5 : cs[o + i]? = some (U (gd l i)) := by
      have : ((cs.drop o).take l.length)[i]? = (l.map U)[i]? := by rw [h3]
      rw [List.getElem?_take, if_pos hi, List.getElem?_drop, List.getElem?_map, List.getElem?_eq_getElem hi] at this
      rw [this, gd_some (List.getElem?_eq_getElem hi)]; rfl
    have h6 : o + i < cs.length := by omega
    refine ⟨by simp [zqt, h2]; omega, ?_⟩
    simp [zqt, h2, head_td, h5]
theorem Sl.addr (h : Sl m v l) {i : Nat} (hi : i < l.length) : addrOk m (zqt v 1 (i : Int)) 1 = true := (h.at_ hi).1
theorem Sl.load (h : Sl m v l) {i : Nat} (hi : i < l.length) : loadV m false 1 (zqt v 1 (i : Int)) = U (gd l i) := (h.at_ hi).2
theorem Sl.sub (h : Sl m v l) {k n : Nat} (hk : k ≤ n) (hn : n ≤ l.length) : Sl m (zqv v 1 k n) ((l.take n).drop k) := by
  obtain ⟨ho, ⟨rfl, rfl⟩ | ⟨b, o, cs, w, rfl, h2, h3, h4⟩⟩ := h
  · exact ⟨(ho.take n).drop k, .inl ⟨rfl, by simp⟩⟩
  · refine ⟨(ho.take n).drop k, .inr ⟨b, o + k * 1, cs, w, ?_, h2, ?_, ?_⟩⟩
    · simp only [zqv, List.length_drop, List.length_take]; rw [Nat.min_eq_left hn]
    · rw [List.map_drop, List.map_take, ← h3]
      rw [List.length_drop, List.length_take, Nat.min_eq_left hn, List.take_take, Nat.min_eq_left hn, List.drop_take, List.drop_drop, Nat.mul_one]
    · simp; omega
theorem Sl.take (h : Sl m v l) {n : Nat} (hn : n ≤ l.length) : Sl m (zqv v 1 0 n) (l.take n) := by
  have := h.sub (Nat.zero_le n) hn; simpa using this
theorem Sl.cells (h : Sl m v l) : sliceOk m 1 v = true ∧ sliceCells m 1 v = l.map U := by
  obtain ⟨hk, ⟨rfl, rfl⟩ | ⟨b, o, cs, w, rfl, h2, h3, h4⟩⟩ := h
  · exact ⟨rfl, rfl⟩
  · refine ⟨by simp [h2]; omega, ?_⟩
    simp [h2]; exact h3
end
/-- numbers of limbs that a machine holds -/
abbrev Big (l : List Int) : Prop := l.length < 1000000

theorem nlen_down {l : List Int} {k : Nat} (h : nlen l ≤ k + 1) (h0 : gd l k = 0) : nlen l ≤ k := by
  by_cases h1 : nlen l ≤ k
  · exact h1
  · have h2 : nlen l = k + 1 := by omega
    have h3 := nlen_le l
    have h4 : k < l.length := by omega
    exact absurd (by rw [gd_some (List.getElem?_eq_getElem h4)] at h0; exact h0) (nlen_top h2 (List.getElem?_eq_getElem h4))
theorem nlen_stop {l : List Int} {k : Nat} (h : nlen l ≤ k + 1) (h0 : gd l k ≠ 0) : nlen l = k + 1 := by
  by_cases h1 : nlen l ≤ k
  · refine absurd ?_ h0
    by_cases h4 : k < l.length
    · rw [gd_some (List.getElem?_eq_getElem h4)]; exact nlen_hi h1 (List.getElem?_eq_getElem h4)
    · exact gd_none (by omega)
  · omega

set_option maxHeartbeats 1000000 in
theorem length_loop {m : Mem} {v : Value} {l : List Int} (hv : Sl m v l) (hl : Big l) {Q : IExit → Slots → Mem → Prop} : ∀ (n : Nat) (σ : Slots), n ≤ l.length → nlen l ≤ n → σ 0 = v → σ 3 = I n →
    (∀ σ', σ' 3 = I (nlen l) → Q (.exit 0) σ' m) → WP Tryz.prog (.loop ir100_l0) σ m Q
  | 0, σ, hn, h, s0, s3, hQ => by
    refine wp_round fun J hJ => ?_
    simp (disch := first | omega | (simp only [zqp, zqq]; omega)) [ir100_l0, ir100_k1, ir100_k2, ir100_k3, s0, s3, zqa, zqb, zqc, zqd, zqe, zqf, zqg, zqh, zqi, zqj, zqk, u64b, u32b, zql, zqm, zqn, zqo, -zqu, -isSl, -zqs, -zqt, -zqv, -zqr]
    exact hQ _ (by simp [s3]; omega)
  | n + 1, σ, hn, h, s0, s3, hQ => by
    refine wp_round fun J hJ => ?_
    obtain ⟨h1, h2, h3, h4⟩ := hv.len
    have a1 := hv.addr (i := n) (by omega)
    have a2 := hv.load (i := n) (by omega)
    have w0 : IntKind.i64.wrap (n : Int) = n := i64_id (by omega) (by omega)
    have c0 : (n : Int) < l.length := by omega
    by_cases k1 : gd l n = 0
    · simp (disch := first | omega | (simp only [zqp, zqq]; omega)) [ir100_l0, ir100_k1, ir100_k2, ir100_k3, s0, s3, h1, h2, h3, a1, a2, w0, c0, k1, zqa, zqb, zqc, zqd, zqe, zqf, zqg, zqh, zqi, zqj, zqk, u64b, u32b, zql, zqm, zqn, zqo, -zqu, -isSl, -zqs, -zqt, -zqv, -zqr]
      exact hJ _ _ (length_loop hv hl n _ (by omega) (nlen_down h k1) (by simp [s0]) (by simp) hQ)
    · simp (disch := first | omega | (simp only [zqp, zqq]; omega)) [ir100_l0, ir100_k1, ir100_k2, ir100_k3, s0, s3, h1, h2, h3, a1, a2, w0, c0, k1, zqa, zqb, zqc, zqd, zqe, zqf, zqg, zqh, zqi, zqj, zqk, u64b, u32b, zql, zqm, zqn, zqo, -zqu, -isSl, -zqs, -zqt, -zqv, -zqr]
      exact hQ _ (by simp [s3, nlen_stop h k1])
theorem length_wp {m : Mem} {v : Value} {l : List Int} (hv : Sl m v l) (hl : Big l) (Φ : Value → Mem → Prop) : WPCall Tryz.prog 100 [v] m Φ = Φ (I (nlen l)) m := by
  refine (Ret.of_wp ?_).wp
  rw [call100 (by simp)]
  obtain ⟨h1, h2, h3, h4⟩ := hv.len
  simp (disch := first | omega | (simp only [zqp, zqq]; omega)) [ir100_b, ir100_k1, ir100_k2, ir100_k3, h1, h2, h3, zqa, zqb, zqc, zqd, zqe, zqf, zqg, zqh, zqi, zqj, zqk, u64b, u32b, zql, zqm, zqn, zqo, -zqu, -isSl, -zqs, -zqt, -zqv, -zqr]
  exact length_loop hv hl l.length _ (Nat.le_refl _) (nlen_le l) (by simp) (by simp [h1]) fun σ' q => by simp [q]
theorem large_wp {m : Mem} {v : Value} {l : List Int} (hv : Sl m v l) (hl : Big l) (Φ : Value → Mem → Prop) : WPCall Tryz.prog 157 [v] m Φ = Φ (.bool (decide (512 < nlen l))) m := by
  refine (Ret.of_wp ?_).wp
  rw [call157 (by simp)]
  simp (disch := first | omega | (simp only [zqp, zqq]; omega)) [ir157_b, ir157_k1, length_wp hv hl, zqa, zqb, zqc, zqd, zqe, zqf, zqg, zqh, zqi, zqj, zqk, u64b, u32b, zql, zqm, zqn, zqo, -zqu, -isSl, -zqs, -zqt, -zqv, -zqr]
  omega
end Go.Proofs.YtkpifdkccdndcaaGreat
namespace Go.Proofs.YtkpifdkccdndcaaGreat
open Go Go.DI Go.Big
set_option linter.unusedSimpArgs false
set_option linter.unusedVariables false

theorem Sl.digs {m : Mem} {v : Value} {l : List Int} (h : Sl m v l) : Sl m (zqv v 1 0 (nlen l)) (Big.digs (val l)) := by
  rw [← take_nlen_digs h.1]; exact h.take (nlen_le l)
/-- an appended copy of limbs: the value and the memory -/
theorem Sl.copy {m : Mem} {v : Value} {l : List Int} (h : Sl m v l) {id : Nat} (hid : id < m.next) {vv : Value} {mm : Mem}
    (hv : vv = if l.length = 0 then .slice none 0 0 else .slice (some ⟨id, 0, none⟩) l.length 1) (hm : mm = if l.length = 0 then m else m.put id (some ⟨l.map U, true⟩)) :
    Sl mm vv l := by
  subst hv hm
  by_cases h0 : l.length = 0
  · rw [if_pos h0, if_pos h0]
    obtain rfl : l = [] := List.length_eq_zero_iff.1 h0
    exact Sl.nil
  · rw [if_neg h0, if_neg h0]
    exact Sl.mk h.1 (zql hid)

theorem Old.copy {m : Mem} {c : Prop} [Decidable c] {k j : Nat} {x : Option Blk} : Old m (if c then m.bump k else (m.bump k).put (m.next + j) x) := by
  split
  · exact (Old.refl m).bump k
  · exact ((Old.refl m).bump k).put (by omega)

set_option maxHeartbeats 1000000 in
theorem sized_wp {m : Mem} {v : Value} {l : List Int} (hv : Sl m v l) (hl : Big l) (Φ : Value → Mem → Prop) :
    WPCall Tryz.prog 158 [v] m Φ = Φ (if 512 < nlen l then .tuple #[.slice none 0 0, I 2] else .tuple #[zqv v 1 0 (nlen l), I 0]) m := by
  refine (Ret.of_wp ?_).wp
  rw [call158 (by simp)]
  obtain ⟨h1, h2, h3, h4⟩ := hv.len
  have := nlen_le l
  by_cases k1 : (512 : Int) < nlen l
  · simp (disch := first | omega | (simp only [zqp, zqq]; omega)) [ir158_b, ir158_k1, ir158_k2, ir158_k3, h1, h2, h3, length_wp hv hl, k1, zqa, zqb, zqc, zqd, zqe, zqf, zqg, zqh, zqi, zqj, zqk, u64b, u32b, zql, zqm, zqn, zqo, -zqu, -isSl, -zqs, -zqt, -zqv, -zqr]
    omega
  · simp (disch := first | omega | (simp only [zqp, zqq]; omega)) [ir158_b, ir158_k1, ir158_k2, ir158_k3, h1, h2, h3, length_wp hv hl, k1, zqa, zqb, zqc, zqd, zqe, zqf, zqg, zqh, zqi, zqj, zqk, u64b, u32b, zql, zqm, zqn, zqo, -zqu, -isSl, -zqs, -zqt, -zqv, -zqr]
    omega
set_option maxHeartbeats 1000000 in
theorem trim_wp {m : Mem} {v : Value} {l : List Int} (hv : Sl m v l) (hl : Big l) : WPCall Tryz.prog 131 [v] m fun r m' => Old m m' ∧ Sl m' r (digs (val l)) := by
  rw [call131 (by simp)]
  have hb := fun k => hv.mono ((Old.refl m).bump k)
  obtain ⟨h1, h2, h3, h4⟩ := hv.len
  have hn := nlen_le l
  have hs := fun k => (hb k).digs
  have hc := fun k => (hs k).cells
  have hsl := fun k => (hs k).len
  have e := nlen_digs hv.1
  simp (disch := first | omega | (simp only [zqp, zqq]; omega)) [ir131_b, ir131_k1, h1, h2, h3, fun k => length_wp (hb k) hl, hn, (hsl 6).2.2.2, (hc 6).1, (hc 6).2, e, zqa, zqb, zqc, zqd, zqe, zqf, zqg, zqh, zqi, zqj, zqk, u64b, u32b, zql, zqm, zqn, zqo, -zqu, -isSl, -zqs, -zqt, -zqv, -zqr]
  exact ⟨by omega, Old.copy, (hs 6).copy (id := m.next + 4) (by simp) (by rw [e]) (by rw [e])⟩

set_option maxHeartbeats 1000000 in
theorem rtrim_loop {m : Mem} {v : Value} {l : List Int} (hv : Sl m v l) (hl : Big l) {Q : IExit → Slots → Mem → Prop} : ∀ (n : Nat) (σ : Slots), n ≤ l.length → nlen l ≤ n → σ 0 = v → σ 3 = I n →
    (∀ σ', σ' 0 = v → σ' 3 = I (nlen l) → Q (.exit 0) σ' m) → WP Tryz.prog (.loop ir106_l0) σ m Q
  | 0, σ, hn, h, s0, s3, hQ => by
    refine wp_round fun J hJ => ?_
    simp (disch := first | omega | (simp only [zqp, zqq]; omega)) [ir106_l0, ir106_k1, ir106_k2, ir106_k3, s0, s3, zqa, zqb, zqc, zqd, zqe, zqf, zqg, zqh, zqi, zqj, zqk, u64b, u32b, zql, zqm, zqn, zqo, -zqu, -isSl, -zqs, -zqt, -zqv, -zqr]
    exact hQ _ (by simp [s0]) (by simp [s3]; omega)
  | n + 1, σ, hn, h, s0, s3, hQ => by
    refine wp_round fun J hJ => ?_
    obtain ⟨h1, h2, h3, h4⟩ := hv.len
    have a1 := hv.addr (i := n) (by omega)
    have a2 := hv.load (i := n) (by omega)
    have w0 : IntKind.i64.wrap (n : Int) = n := i64_id (by omega) (by omega)
    have c0 : (n : Int) < l.length := by omega
    by_cases k1 : gd l n = 0
    · simp (disch := first | omega | (simp only [zqp, zqq]; omega)) [ir106_l0, ir106_k1, ir106_k2, ir106_k3, s0, s3, h1, h2, h3, a1, a2, w0, c0, k1, zqa, zqb, zqc, zqd, zqe, zqf, zqg, zqh, zqi, zqj, zqk, u64b, u32b, zql, zqm, zqn, zqo, -zqu, -isSl, -zqs, -zqt, -zqv, -zqr]
      exact hJ _ _ (rtrim_loop hv hl n _ (by omega) (nlen_down h k1) (by simp [s0]) (by simp) hQ)
    · simp (disch := first | omega | (simp only [zqp, zqq]; omega)) [ir106_l0, ir106_k1, ir106_k2, ir106_k3, s0, s3, h1, h2, h3, a1, a2, w0, c0, k1, zqa, zqb, zqc, zqd, zqe, zqf, zqg, zqh, zqi, zqj, zqk, u64b, u32b, zql, zqm, zqn, zqo, -zqu, -isSl, -zqs, -zqt, -zqv, -zqr]
      exact hQ _ (by simp [s0]) (by simp [s3, nlen_stop h k1])
set_option maxHeartbeats 1000000 in
theorem rtrim_wp {m : Mem} {v : Value} {l : List Int} (hv : Sl m v l) (hl : Big l) : WPCall Tryz.prog 106 [v] m fun r m' => Old m m' ∧ Sl m' r (digs (val l)) := by
  rw [call106 (by simp)]
  have hb := fun k => hv.mono ((Old.refl m).bump k)
  obtain ⟨h1, h2, h3, h4⟩ := hv.len
  have hn := nlen_le l
  have hs := fun k => (hb k).digs
  have hc := fun k => (hs k).cells
  have hsl := fun k => (hs k).len
  have e := nlen_digs hv.1
  simp (disch := first | omega | (simp only [zqp, zqq]; omega)) [ir106_b, ir106_k1, ir106_k2, ir106_k3, h1, h2, h3, zqa, zqb, zqc, zqd, zqe, zqf, zqg, zqh, zqi, zqj, zqk, u64b, u32b, zql, zqm, zqn, zqo, -zqu, -isSl, -zqs, -zqt, -zqv, -zqr]
  refine rtrim_loop hv hl l.length _ (Nat.le_refl _) (nlen_le l) (by simp) (by simp [h1]) fun σ' q0 q3 => ?_
  simp (disch := first | omega | (simp only [zqp, zqq]; omega)) [q0, q3, h1, h2, h3, hn, (hsl 5).2.2.2, (hc 5).1, (hc 5).2, e, zqa, zqb, zqc, zqd, zqe, zqf, zqg, zqh, zqi, zqj, zqk, u64b, u32b, zql, zqm, zqn, zqo, -zqu, -isSl, -zqs, -zqt, -zqv, -zqr]
  exact ⟨by omega, Old.copy, (hs 5).copy (id := m.next + 3) (by simp) (by rw [e]) (by rw [e])⟩
theorem rlarge_wp {m : Mem} {v : Value} {l : List Int} (hv : Sl m v l) (hl : Big l) : WPCall Tryz.prog 161 [v] m fun r m' => Old m m' ∧ r = .bool (decide (512 < nlen l)) := by
  rw [call161 (by simp)]
  simp (disch := first | omega | (simp only [zqp, zqq]; omega)) [ir161_b, ir161_k1, zqa, zqb, zqc, zqd, zqe, zqf, zqg, zqh, zqi, zqj, zqk, u64b, u32b, zql, zqm, zqn, zqo, -zqu, -isSl, -zqs, -zqt, -zqv, -zqr]
  refine (rtrim_wp hv hl).mono fun r m' hp => ?_
  obtain ⟨h1, h2, h3, h4⟩ := hp.2.len
  have e := nlen_digs hv.1
  simp (disch := first | omega | (simp only [zqp, zqq]; omega)) [h1, h2, e, zqa, zqb, zqc, zqd, zqe, zqf, zqg, zqh, zqi, zqj, zqk, u64b, u32b, zql, zqm, zqn, zqo, -zqu, -isSl, -zqs, -zqt, -zqv, -zqr]
  exact ⟨hp.1, by omega⟩

/-- two limbs of a machine word -/
theorem word2 {n : Int} (h0 : 0 ≤ n) (h1 : n < 18446744073709551616) : OkL [n % 4294967296, n / 4294967296 % 4294967296] ∧ val [n % 4294967296, n / 4294967296 % 4294967296] = n := by
  refine ⟨fun x hx => ?_, by simp only [val]; omega⟩
  simp only [List.mem_cons, List.not_mem_nil, or_false] at hx
  rcases hx with rfl | rfl <;> omega
theorem u32_wrap (n : Int) : IntKind.u32.wrap n = n % 4294967296 := rfl
theorem fdiv32 {n : Int} : n.fdiv 4294967296 = n / 4294967296 := Int.fdiv_eq_ediv_of_nonneg n (by omega)
set_option maxHeartbeats 1000000 in
theorem make_wp {m : Mem} {n : Int} (h0 : 0 ≤ n) (hn : n < 18446744073709551616) : WPCall Tryz.prog 34 [L n] m fun r m' => Old m m' ∧ Sl m' r (digs n) := by
  rw [call34 (by simp)]
  obtain ⟨g1, g2⟩ := word2 h0 hn
  have hs : Sl ((m.bump 7).put (m.next + 5) (some ⟨[n % 4294967296, n / 4294967296 % 4294967296].map U, true⟩)) (.slice (some ⟨m.next + 5, 0, none⟩) 2 1) [n % 4294967296, n / 4294967296 % 4294967296] := Sl.mk g1 (zql (by simp))
  have hl := fun Φ => length_wp hs (by simp) Φ
  have hd := hs.digs
  have h2 := nlen_le [n % 4294967296, n / 4294967296 % 4294967296]
  rw [g2] at hd
  simp only [List.map_cons, List.map_nil] at hl
  simp (disch := first | omega | (simp only [zqp, zqq]; omega)) [ir34_b, ir34_k1, ir34_k2, u32_wrap, fdiv32, hl, zqa, zqb, zqc, zqd, zqe, zqf, zqg, zqh, zqi, zqj, zqk, u64b, u32b, zql, zqm, zqn, zqo, -zqu, -isSl, -zqs, -zqt, -zqv, -zqr]
  rw [zqe] at hd
  simp only [List.length_cons, List.length_nil] at h2
  exact ⟨by omega, ((Old.refl m).bump 7).put (by omega), by simpa using hd⟩
set_option maxHeartbeats 1000000 in
theorem rmake_wp {m : Mem} {n : Int} (h0 : 0 ≤ n) (hn : n < 18446744073709551616) : WPCall Tryz.prog 138 [L n] m fun r m' => Old m m' ∧ Sl m' r (digs n) := by
  rw [call138 (by simp)]
  obtain ⟨g1, g2⟩ := word2 h0 hn
  have hs : Sl ((m.bump 8).put (m.next + 5) (some ⟨[n % 4294967296, n / 4294967296 % 4294967296].map U, true⟩)) (.slice (some ⟨m.next + 5, 0, none⟩) 2 1) [n % 4294967296, n / 4294967296 % 4294967296] := Sl.mk g1 (zql (by simp))
  have hl := rtrim_wp hs (by simp)
  rw [g2] at hl
  simp only [List.map_cons, List.map_nil] at hl
  simp (disch := first | omega | (simp only [zqp, zqq]; omega)) [ir138_b, ir138_k1, u32_wrap, fdiv32, zqa, zqb, zqc, zqd, zqe, zqf, zqg, zqh, zqi, zqj, zqk, u64b, u32b, zql, zqm, zqn, zqo, -zqu, -isSl, -zqs, -zqt, -zqv, -zqr]
  refine hl.mono fun r m' hp => ?_
  simp (disch := first | omega | (simp only [zqp, zqq]; omega)) [zqa, zqb, zqc, zqd, zqe, zqf, zqg, zqh, zqi, zqj, zqk, u64b, u32b, zql, zqm, zqn, zqo, -zqu, -isSl, -zqs, -zqt, -zqv, -zqr]
  exact ⟨(((Old.refl m).bump 8).put (by omega)).trans hp.1, hp.2⟩

theorem cmpI_lt {a b : Int} (h : a < b) : cmpI a b = -1 := by simp [cmpI, h]
theorem cmpI_gt {a b : Int} (h : b < a) : cmpI a b = 1 := by unfold cmpI; rw [if_neg (by omega), if_pos h]
theorem cmpI_eq {a b : Int} (h : a = b) : cmpI a b = 0 := by simp [cmpI, h]
set_option maxHeartbeats 1000000 in
theorem cmp_loop {m : Mem} {v w : Value} {a b : List Int} (hv : Sl m v a) (hw : Sl m w b) (ha : Big a) (hb : Big b) {Q : IExit → Slots → Mem → Prop} : ∀ (n : Nat) (σ : Slots), n ≤ a.length → n ≤ b.length → val (a.drop n) = val (b.drop n) → σ 0 = v → σ 1 = w → σ 7 = I ((n : Int) - 1) →
    (∀ σ', val a = val b → Q (.exit 1) σ' m) → (∀ σ', val a ≠ val b → σ' 4 = I (cmpI (val a) (val b)) → Q .ret σ' m) → WP Tryz.prog (.loop ir92_l0) σ m Q
  | 0, σ, hn, hn', h, s0, s1, s7, hQ, hR => by
    refine wp_round fun J hJ => ?_
    simp (disch := first | omega | (simp only [zqp, zqq]; omega)) [ir92_l0, ir92_k1, ir92_k2, ir92_k3, ir92_k4, ir92_k5, s0, s1, s7, zqa, zqb, zqc, zqd, zqe, zqf, zqg, zqh, zqi, zqj, zqk, u64b, u32b, zql, zqm, zqn, zqo, -zqu, -isSl, -zqs, -zqt, -zqv, -zqr]
    exact hQ _ (by simpa using h)
  | n + 1, σ, hn, hn', h, s0, s1, s7, hQ, hR => by
    refine wp_round fun J hJ => ?_
    obtain ⟨h1, h2, h3, h4⟩ := hv.len
    obtain ⟨h1', h2', h3', h4'⟩ := hw.len
    have a1 := hv.addr (i := n) (by omega)
    have a2 := hv.load (i := n) (by omega)
    have b1 := hw.addr (i := n) (by omega)
    have b2 := hw.load (i := n) (by omega)
    have w0 : IntKind.i64.wrap ((n : Int) - 1) = (n : Int) - 1 := i64_id (by omega) (by omega)
    have c0 : (n : Int) < a.length := by omega
    have c1 : (n : Int) < b.length := by omega
    by_cases k1 : gd a n < gd b n
    · have := cmp_lt hv.1 hw.1 h k1 (by omega) (by omega)
      simp (disch := first | omega | (simp only [zqp, zqq]; omega)) [ir92_l0, ir92_k1, ir92_k2, ir92_k3, ir92_k4, ir92_k5, s0, s1, s7, h1, h2, h3, h1', h2', h3', a1, a2, b1, b2, w0, c0, c1, k1, zqa, zqb, zqc, zqd, zqe, zqf, zqg, zqh, zqi, zqj, zqk, u64b, u32b, zql, zqm, zqn, zqo, -zqu, -isSl, -zqs, -zqt, -zqv, -zqr]
      exact hR _ (by omega) (by simp [cmpI_lt this])
    by_cases k2 : gd b n < gd a n
    · have := cmp_lt hw.1 hv.1 h.symm k2 (by omega) (by omega)
      simp (disch := first | omega | (simp only [zqp, zqq]; omega)) [ir92_l0, ir92_k1, ir92_k2, ir92_k3, ir92_k4, ir92_k5, s0, s1, s7, h1, h2, h3, h1', h2', h3', a1, a2, b1, b2, w0, c0, c1, k1, k2, zqa, zqb, zqc, zqd, zqe, zqf, zqg, zqh, zqi, zqj, zqk, u64b, u32b, zql, zqm, zqn, zqo, -zqu, -isSl, -zqs, -zqt, -zqv, -zqr]
      exact hR _ (by omega) (by simp [cmpI_gt this])
    · simp (disch := first | omega | (simp only [zqp, zqq]; omega)) [ir92_l0, ir92_k1, ir92_k2, ir92_k3, ir92_k4, ir92_k5, s0, s1, s7, h1, h2, h3, h1', h2', h3', a1, a2, b1, b2, w0, c0, c1, k1, k2, zqa, zqb, zqc, zqd, zqe, zqf, zqg, zqh, zqi, zqj, zqk, u64b, u32b, zql, zqm, zqn, zqo, -zqu, -isSl, -zqs, -zqt, -zqv, -zqr]
      exact hJ _ _ (cmp_loop hv hw ha hb n _ (by omega) (by omega) (by rw [drop_gd a, drop_gd b]; omega) (by simp [s0]) (by simp [s1]) (by simp) hQ hR)
set_option maxHeartbeats 1000000 in
theorem cmp_wp {m : Mem} {v w : Value} {a b : List Int} (hv : Sl m v a) (hw : Sl m w b) (ha : Big a) (hb : Big b) (Φ : Value → Mem → Prop) : WPCall Tryz.prog 92 [v, w] m Φ = Φ (I (cmpI (val a) (val b))) m := by
  refine (Ret.of_wp ?_).wp
  rw [call92 (by simp)]
  have la := nlen_le a
  have lb := nlen_le b
  by_cases k1 : (nlen a : Int) < nlen b
  · have := val_lt_of_nlen hv.1 hw.1 (by omega)
    simp (disch := first | omega | (simp only [zqp, zqq]; omega)) [ir92_b, ir92_k1, ir92_k2, ir92_k3, ir92_k4, ir92_k5, length_wp hv ha, length_wp hw hb, k1, cmpI_lt this, zqa, zqb, zqc, zqd, zqe, zqf, zqg, zqh, zqi, zqj, zqk, u64b, u32b, zql, zqm, zqn, zqo, -zqu, -isSl, -zqs, -zqt, -zqv, -zqr]
  by_cases k2 : (nlen b : Int) < nlen a
  · have := val_lt_of_nlen hw.1 hv.1 (by omega)
    simp (disch := first | omega | (simp only [zqp, zqq]; omega)) [ir92_b, ir92_k1, ir92_k2, ir92_k3, ir92_k4, ir92_k5, length_wp hv ha, length_wp hw hb, k1, k2, cmpI_gt this, zqa, zqb, zqc, zqd, zqe, zqf, zqg, zqh, zqi, zqj, zqk, u64b, u32b, zql, zqm, zqn, zqo, -zqu, -isSl, -zqs, -zqt, -zqv, -zqr]
  have w0 : IntKind.i64.wrap ((nlen a : Int) - 1) = (nlen a : Int) - 1 := i64_id (by omega) (by omega)
  simp (disch := first | omega | (simp only [zqp, zqq]; omega)) [ir92_b, ir92_k1, ir92_k2, ir92_k3, ir92_k4, ir92_k5, length_wp hv ha, length_wp hw hb, k1, k2, w0, zqa, zqb, zqc, zqd, zqe, zqf, zqg, zqh, zqi, zqj, zqk, u64b, u32b, zql, zqm, zqn, zqo, -zqu, -isSl, -zqs, -zqt, -zqv, -zqr]
  have e : nlen a = nlen b := by omega
  refine cmp_loop hv hw ha hb (nlen a) _ la (by omega) (by rw [drop_nlen a, e, drop_nlen b]) (by simp) (by simp) (by simp) (fun σ' h => ?_) (fun σ' h h4 => ?_)
  · simp [cmpI_eq h]
  · simp [h4]

set_option maxHeartbeats 1000000 in
theorem rcmp_loop {m : Mem} {v w : Value} {a b : List Int} (hv : Sl m v a) (hw : Sl m w b) (ha : Big a) (hb : Big b) {Q : IExit → Slots → Mem → Prop} : ∀ (n : Nat) (σ : Slots), n ≤ a.length → n ≤ b.length → val (a.drop n) = val (b.drop n) → σ 0 = v → σ 1 = w → σ 5 = I ((n : Int) - 1) →
    (∀ σ', val a = val b → Q (.exit 0) σ' m) → (∀ σ', val a ≠ val b → σ' 4 = I (cmpI (val a) (val b)) → Q .ret σ' m) → WP Tryz.prog (.loop ir134_l0) σ m Q
  | 0, σ, hn, hn', h, s0, s1, s7, hQ, hR => by
    refine wp_round fun J hJ => ?_
    simp (disch := first | omega | (simp only [zqp, zqq]; omega)) [ir134_l0, ir134_k1, ir134_k2, ir134_k3, ir134_k4, ir134_k5, ir134_k6, ir134_k7, s0, s1, s7, zqa, zqb, zqc, zqd, zqe, zqf, zqg, zqh, zqi, zqj, zqk, u64b, u32b, zql, zqm, zqn, zqo, -zqu, -isSl, -zqs, -zqt, -zqv, -zqr]
    exact hQ _ (by simpa using h)
  | n + 1, σ, hn, hn', h, s0, s1, s7, hQ, hR => by
    refine wp_round fun J hJ => ?_
    obtain ⟨h1, h2, h3, h4⟩ := hv.len
    obtain ⟨h1', h2', h3', h4'⟩ := hw.len
    have a1 := hv.addr (i := n) (by omega)
    have a2 := hv.load (i := n) (by omega)
    have b1 := hw.addr (i := n) (by omega)
    have b2 := hw.load (i := n) (by omega)
    have w0 : IntKind.i64.wrap ((n : Int) - 1) = (n : Int) - 1 := i64_id (by omega) (by omega)
    have c0 : (n : Int) < a.length := by omega
    have c1 : (n : Int) < b.length := by omega
    by_cases k1 : gd a n < gd b n
    · have := cmp_lt hv.1 hw.1 h k1 (by omega) (by omega)
      simp (disch := first | omega | (simp only [zqp, zqq]; omega)) [ir134_l0, ir134_k1, ir134_k2, ir134_k3, ir134_k4, ir134_k5, ir134_k6, ir134_k7, s0, s1, s7, h1, h2, h3, h1', h2', h3', a1, a2, b1, b2, w0, c0, c1, k1, zqa, zqb, zqc, zqd, zqe, zqf, zqg, zqh, zqi, zqj, zqk, u64b, u32b, zql, zqm, zqn, zqo, -zqu, -isSl, -zqs, -zqt, -zqv, -zqr]
      exact hR _ (by omega) (by simp [cmpI_lt this])
    by_cases k2 : gd b n < gd a n
    · have := cmp_lt hw.1 hv.1 h.symm k2 (by omega) (by omega)
      simp (disch := first | omega | (simp only [zqp, zqq]; omega)) [ir134_l0, ir134_k1, ir134_k2, ir134_k3, ir134_k4, ir134_k5, ir134_k6, ir134_k7, s0, s1, s7, h1, h2, h3, h1', h2', h3', a1, a2, b1, b2, w0, c0, c1, k1, k2, zqa, zqb, zqc, zqd, zqe, zqf, zqg, zqh, zqi, zqj, zqk, u64b, u32b, zql, zqm, zqn, zqo, -zqu, -isSl, -zqs, -zqt, -zqv, -zqr]
      exact hR _ (by omega) (by simp [cmpI_gt this])
    · simp (disch := first | omega | (simp only [zqp, zqq]; omega)) [ir134_l0, ir134_k1, ir134_k2, ir134_k3, ir134_k4, ir134_k5, ir134_k6, ir134_k7, s0, s1, s7, h1, h2, h3, h1', h2', h3', a1, a2, b1, b2, w0, c0, c1, k1, k2, zqa, zqb, zqc, zqd, zqe, zqf, zqg, zqh, zqi, zqj, zqk, u64b, u32b, zql, zqm, zqn, zqo, -zqu, -isSl, -zqs, -zqt, -zqv, -zqr]
      exact hJ _ _ (rcmp_loop hv hw ha hb n _ (by omega) (by omega) (by rw [drop_gd a, drop_gd b]; omega) (by simp [s0]) (by simp [s1]) (by simp) hQ hR)
set_option maxHeartbeats 1000000 in
theorem rcmp_wp {m : Mem} {v w : Value} {a b : List Int} (hv : Sl m v a) (hw : Sl m w b) (ha : Big a) (hb : Big b) : WPCall Tryz.prog 134 [v, w] m fun r m' => Old m m' ∧ r = I (cmpI (val a) (val b)) := by
  rw [call134 (by simp)]
  have la := nlen_le a
  have lb := nlen_le b
  have ea := nlen_digs hv.1
  have eb := nlen_digs hw.1
  simp (disch := first | omega | (simp only [zqp, zqq]; omega)) [ir134_b, ir134_k1, ir134_k2, ir134_k3, ir134_k4, ir134_k5, ir134_k6, ir134_k7, zqa, zqb, zqc, zqd, zqe, zqf, zqg, zqh, zqi, zqj, zqk, u64b, u32b, zql, zqm, zqn, zqo, -zqu, -isSl, -zqs, -zqt, -zqv, -zqr]
  refine (rtrim_wp hv ha).mono fun r1 m1 hp => ?_
  simp (disch := first | omega | (simp only [zqp, zqq]; omega)) [zqa, zqb, zqc, zqd, zqe, zqf, zqg, zqh, zqi, zqj, zqk, u64b, u32b, zql, zqm, zqn, zqo, -zqu, -isSl, -zqs, -zqt, -zqv, -zqr]
  refine (rtrim_wp (hw.mono hp.1) hb).mono fun r2 m2 hq => ?_
  have x1 := hp.2.mono hq.1
  have x2 := hq.2
  have ho := hp.1.trans hq.1
  obtain ⟨h1, h2, h3, h4⟩ := x1.len
  obtain ⟨h1', h2', h3', h4'⟩ := x2.len
  rw [ea] at h1
  rw [eb] at h1'
  by_cases k1 : (nlen a : Int) < nlen b
  · have := val_lt_of_nlen hv.1 hw.1 (by omega)
    have k0 : ¬ ((nlen a : Int) = nlen b) := by omega
    simp (disch := first | omega | (simp only [zqp, zqq]; omega)) [h1, h2, h1', h2', k1, k0, cmpI_lt this, zqa, zqb, zqc, zqd, zqe, zqf, zqg, zqh, zqi, zqj, zqk, u64b, u32b, zql, zqm, zqn, zqo, -zqu, -isSl, -zqs, -zqt, -zqv, -zqr]
    exact ho
  by_cases k2 : (nlen b : Int) < nlen a
  · have := val_lt_of_nlen hw.1 hv.1 (by omega)
    have k0 : ¬ ((nlen a : Int) = nlen b) := by omega
    simp (disch := first | omega | (simp only [zqp, zqq]; omega)) [h1, h2, h1', h2', k1, k0, cmpI_gt this, zqa, zqb, zqc, zqd, zqe, zqf, zqg, zqh, zqi, zqj, zqk, u64b, u32b, zql, zqm, zqn, zqo, -zqu, -isSl, -zqs, -zqt, -zqv, -zqr]
    exact ho
  have w0 : IntKind.i64.wrap ((nlen a : Int) - 1) = (nlen a : Int) - 1 := i64_id (by omega) (by omega)
  have e : nlen a = nlen b := by omega
  rw [← e] at h1' eb
  simp (disch := first | omega | (simp only [zqp, zqq]; omega)) [h1, h2, h1', h2', w0, zqa, zqb, zqc, zqd, zqe, zqf, zqg, zqh, zqi, zqj, zqk, u64b, u32b, zql, zqm, zqn, zqo, -zqu, -isSl, -zqs, -zqt, -zqv, -zqr]
  have va := val_digs (val_bd hv.1).1
  have vb := val_digs (val_bd hw.1).1
  refine rcmp_loop x1 x2 (by omega) (by omega) (nlen a) _ (by omega) (by omega) (by rw [List.drop_of_length_le (by omega), List.drop_of_length_le (by omega)]) (by simp) (by simp) (by simp) (fun σ' h => ?_) (fun σ' h h4 => ?_)
  · rw [va, vb] at h; simp [cmpI_eq h]; exact ho
  · simp [h4]; rw [va, vb]; exact ⟨ho, rfl⟩
end Go.Proofs.YtkpifdkccdndcaaGreat
namespace Go.Proofs.YtkpifdkccdndcaaGreat
open Go Go.DI Go.Big
set_option linter.unusedSimpArgs false
set_option linter.unusedVariables false

theorem u64_id {n : Int} (h0 : 0 ≤ n) (h1 : n < 18446744073709551616) : IntKind.u64.wrap n = n := by
  show n % 18446744073709551616 = n
  omega
theorem u64_wrap (n : Int) : IntKind.u64.wrap n = n % 18446744073709551616 := rfl
theorem set_map {o : List Int} {i : Nat} {x : Int} : (o.map U).set i (U x) = (o.set i x).map U := List.map_set.symm
theorem digs_le {n : Int} {k : Nat} (h0 : 0 ≤ n) (h : n < pw k) : (digs n).length ≤ k := by
  have hc := can_digs n
  rw [← hc.2]
  exact (nlen_le_iff hc.1 k).2 (by rw [val_digs h0]; exact h)

set_option maxHeartbeats 2000000 in
theorem add_loop {m0 : Mem} {v w : Value} {x y : List Int} (hv : Sl m0 v x) (hw : Sl m0 w y) (hx : Big x) (hy : y.length ≤ x.length) {ob : Nat} (hob : m0.next ≤ ob) {Q : IExit → Slots → Mem → Prop} : ∀ (r i : Nat) (c : Int) (o : List Int) (m : Mem) (σ : Slots),
    i + r = x.length → Old m0 m → m.get ob = some ⟨o.map U, true⟩ → OkL o → o.length = x.length + 1 → 0 ≤ c → c < 2 → val (o.take i) + c * pw i = val (x.take i) + val (y.take i) →
    σ 0 = v → σ 1 = w → σ 6 = .slice (some ⟨ob, 0, none⟩) (x.length + 1) 1 → σ 7 = L c → σ 35 = I x.length → σ 36 = I i →
    (∀ σ' m' o c, Old m0 m' → m'.get ob = some ⟨o.map U, true⟩ → OkL o → o.length = x.length + 1 → 0 ≤ c → c < 2 → val (o.take x.length) + c * pw x.length = val x + val y →
      σ' 0 = v → σ' 6 = .slice (some ⟨ob, 0, none⟩) (x.length + 1) 1 → σ' 7 = L c → Q (.exit 0) σ' m') → WP Tryz.prog (.loop ir127_l0) σ m Q
  | 0, i, c, o, m, σ, hi, ho, hg, hok, hlo, c0, c1, he, s0, s1, s6, s7, s35, s36, hQ => by
    refine wp_round fun J hJ => ?_
    have e : i = x.length := by omega
    subst e
    simp (disch := first | omega | (simp only [zqp, zqq]; omega)) [ir127_l0, ir127_k1, ir127_k2, ir127_k3, ir127_k4, ir127_k5, ir127_k6, ir127_k7, ir127_k8, ir127_k9, ir127_k10, ir127_k11, ir127_k12, ir127_k13, s0, s1, s6, s7, s35, s36, zqa, zqb, zqc, zqd, zqe, zqf, zqg, zqh, zqi, zqj, zqk, u64b, u32b, zql, zqm, zqn, zqo, -zqu, -isSl, -zqs, -zqt, -zqv, -zqr]
    rw [List.take_of_length_le (l := x) (by omega), List.take_of_length_le (l := y) (by omega)] at he
    exact hQ _ _ o c ho hg hok hlo c0 c1 he (by simp [s0]) (by simp [s6]) (by simp [s7])
  | r + 1, i, c, o, m, σ, hi, ho, hg, hok, hlo, c0, c1, he, s0, s1, s6, s7, s35, s36, hQ => by
    refine wp_round fun J hJ => ?_
    have xv := hv.mono ho
    have xw := hw.mono ho
    obtain ⟨h1, h2, h3, h4⟩ := xv.len
    obtain ⟨h1', h2', h3', h4'⟩ := xw.len
    have q0 : (i : Int) < x.length := by omega
    have q1 : (i : Int) < (x.length : Int) + 1 := by omega
    have q2 : i ≤ x.length := by omega
    have q3 : (i : Int) ≤ x.length := by omega
    have a1 := xv.addr (i := i) (by omega)
    have a2 := xv.load (i := i) (by omega)
    have bx := gd_bd hv.1 i
    have by' := gd_bd hw.1 i
    have w0 : IntKind.i64.wrap ((i : Int) + 1) = (i : Int) + 1 := i64_id (by omega) (by omega)
    have w1 : IntKind.u64.wrap (gd x i) = gd x i := u64_id (by omega) (by omega)
    have w2 : IntKind.u64.wrap (c + gd x i) = c + gd x i := u64_id (by omega) (by omega)
    have hlt := get_lt hg
    by_cases k1 : (i : Int) < y.length
    · have b1 := xw.addr (i := i) (by omega)
      have b2 := xw.load (i := i) (by omega)
      have w3 : IntKind.u64.wrap (gd y i) = gd y i := u64_id (by omega) (by omega)
      have w4 : IntKind.u64.wrap (c + gd x i + gd y i) = c + gd x i + gd y i := u64_id (by omega) (by omega)
      simp (disch := first | omega | (simp only [zqp, zqq]; omega)) [ir127_l0, ir127_k1, ir127_k2, ir127_k3, ir127_k4, ir127_k5, ir127_k6, ir127_k7, ir127_k8, ir127_k9, ir127_k10, ir127_k11, ir127_k12, ir127_k13, s0, s1, s6, s7, s35, s36, h1, h2, h3, h1', h2', h3', q0, q1, q2, q3, a1, a2, b1, b2, w0, w1, w2, w3, w4, k1, hg, hlo, u32_wrap, fdiv32, zqa, zqb, zqc, zqd, zqe, zqf, zqg, zqh, zqi, zqj, zqk, u64b, u32b, zql, zqm, zqn, zqo, -zqu, -isSl, -zqs, -zqt, -zqv, -zqr]
      refine hJ _ _ (add_loop hv hw hx hy hob r (i + 1) ((c + gd x i + gd y i) / 4294967296) (o.set i ((c + gd x i + gd y i) % 4294967296)) _ _ (by omega) (ho.put hob) (by rw [zql hlt, set_map]) (hok.set i (by omega)) (by simp [hlo]) (by omega) (by omega) (add_round he rfl (by omega)) (by simp [s0]) (by simp [s1]) (by simp [s6]) (by simp) (by simp [s35]) (by simp) hQ)
    · have e0 : gd y i = 0 := gd_none (by omega)
      simp (disch := first | omega | (simp only [zqp, zqq]; omega)) [ir127_l0, ir127_k1, ir127_k2, ir127_k3, ir127_k4, ir127_k5, ir127_k6, ir127_k7, ir127_k8, ir127_k9, ir127_k10, ir127_k11, ir127_k12, ir127_k13, s0, s1, s6, s7, s35, s36, h1, h2, h3, h1', h2', h3', q0, q1, q2, q3, a1, a2, w0, w1, w2, k1, hg, hlo, u32_wrap, fdiv32, zqa, zqb, zqc, zqd, zqe, zqf, zqg, zqh, zqi, zqj, zqk, u64b, u32b, zql, zqm, zqn, zqo, -zqu, -isSl, -zqs, -zqt, -zqv, -zqr]
      refine hJ _ _ (add_loop hv hw hx hy hob r (i + 1) ((c + gd x i) / 4294967296) (o.set i ((c + gd x i) % 4294967296)) _ _ (by omega) (ho.put hob) (by rw [zql hlt, set_map]) (hok.set i (by omega)) (by simp [hlo]) (by omega) (by omega) (add_round he (by omega) (by omega)) (by simp [s0]) (by simp [s1]) (by simp [s6]) (by simp) (by simp [s35]) (by simp) hQ)
/-- a result and no error -/
def Res (m : Mem) (n : Int) (r : Value) (m' : Mem) : Prop := Old m m' ∧ ∃ v, r = .tuple #[v, I 0] ∧ Sl m' v (digs n)
set_option maxHeartbeats 2000000 in
theorem add_wp {m : Mem} {v w : Value} {a b : List Int} (hv : Sl m v a) (hw : Sl m w b) (ha : Big a) (hb : Big b) (na : nlen a ≤ 512) (nb : nlen b ≤ 512) (hn : val a + val b < pw 512) :
    WPCall Tryz.prog 127 [v, w] m (Res m (val a + val b)) := by
  rw [call127 (by simp)]
  obtain ⟨h1, h2, h3, h4⟩ := hv.len
  obtain ⟨h1', h2', h3', h4'⟩ := hw.len
  have la := nlen_le a
  have lb := nlen_le b
  have ka : ¬ 512 < nlen a := by omega
  have kb : ¬ 512 < nlen b := by omega
  have xv := hv.digs
  have xw := hw.digs
  have ea := nlen_digs hv.1
  have eb := nlen_digs hw.1
  have va := val_digs (val_bd hv.1).1
  have vb := val_digs (val_bd hw.1).1
  obtain ⟨g1, g2, g3, g4⟩ := xv.len
  obtain ⟨g1', g2', g3', g4'⟩ := xw.len
  rw [ea] at g1
  rw [eb] at g1'
  by_cases k1 : (nlen a : Int) < nlen b
  · have w0 : IntKind.i64.wrap ((nlen b : Int) + 1) = (nlen b : Int) + 1 := i64_id (by omega) (by omega)
    simp (disch := first | omega | (simp only [zqp, zqq]; omega)) [ir127_b, ir127_k1, ir127_k2, ir127_k3, ir127_k4, ir127_k5, ir127_k6, ir127_k7, ir127_k8, ir127_k9, ir127_k10, ir127_k11, ir127_k12, ir127_k13, large_wp hv ha, large_wp hw hb, length_wp hv ha, length_wp hw hb, h1, h2, h3, h1', h2', h3', ka, kb, la, lb, g1, g2, g3, g1', g2', g3', k1, w0, zqa, zqb, zqc, zqd, zqe, zqf, zqg, zqh, zqi, zqj, zqk, u64b, u32b, zql, zqm, zqn, zqo, -zqu, -isSl, -zqs, -zqt, -zqv, -zqr]
    have hM : Old m ((m.bump 5).put (m.next + 3) (some ⟨List.replicate (nlen b + 1) (.int .u32 0), true⟩)) := ((Old.refl m).bump 5).put (by omega)
    refine ⟨by omega, add_loop xw xv (by omega) (by omega) (ob := m.next + 3) (by omega) (nlen b) 0 0 (List.replicate (nlen b + 1) 0) _ _ (by omega) hM (by rw [zql (by simp)]; simp) (OkL.zeros _) (by simp [eb]) (by omega) (by omega) (by simp [val]) (by simp) (by simp) (by simp [eb]) (by simp) (by simp [eb]) (by simp) fun σ' m' o c f1 f2 f3 f4 f5 f6 f7 q0 q6 q7 => ?_⟩
    rw [eb] at f4 f7 q6
    have hlt := get_lt f2
    have hs : Sl (m'.put (m.next + 3) (some ⟨(o.set (nlen b) (c % 4294967296)).map U, true⟩)) (.slice (some ⟨m.next + 3, 0, none⟩) (nlen b + 1) 1) (o.set (nlen b) (c % 4294967296)) := Sl.mk' (f3.set _ (by omega)) (zql hlt) (by simp [f4])
    have hval : val (o.set (nlen b) (c % 4294967296)) = val a + val b := by
      have := set_take_val (o := o) (i := nlen b) (c % 4294967296) (by omega)
      rw [List.take_of_length_le (by simp; omega)] at this
      rw [this, show c % 4294967296 = c by omega, Int.mul_comm]
      omega
    have hsz := fun Φ => sized_wp hs (by simp [f4]; omega) Φ
    rw [← set_map] at hsz
    have hle : ¬ 512 < nlen (o.set (nlen b) (c % 4294967296)) := by
      have := (nlen_le_iff hs.1 512).2 (by rw [hval]; exact hn)
      omega
    simp only [hle, if_false] at hsz
    simp (disch := first | omega | (simp only [zqp, zqq]; omega)) [q0, q6, q7, g1', g2', g3', f2, f4, u32_wrap, hsz, zqa, zqb, zqc, zqd, zqe, zqf, zqg, zqh, zqi, zqj, zqk, u64b, u32b, zql, zqm, zqn, zqo, -zqu, -isSl, -zqs, -zqt, -zqv, -zqr]
    have hd := hs.digs
    rw [hval, zqe, ← set_map] at hd
    exact ⟨by omega, f1.put (by omega), _, rfl, by simpa using hd⟩
  · have w0 : IntKind.i64.wrap ((nlen a : Int) + 1) = (nlen a : Int) + 1 := i64_id (by omega) (by omega)
    simp (disch := first | omega | (simp only [zqp, zqq]; omega)) [ir127_b, ir127_k1, ir127_k2, ir127_k3, ir127_k4, ir127_k5, ir127_k6, ir127_k7, ir127_k8, ir127_k9, ir127_k10, ir127_k11, ir127_k12, ir127_k13, large_wp hv ha, large_wp hw hb, length_wp hv ha, length_wp hw hb, h1, h2, h3, h1', h2', h3', ka, kb, la, lb, g1, g2, g3, g1', g2', g3', k1, w0, zqa, zqb, zqc, zqd, zqe, zqf, zqg, zqh, zqi, zqj, zqk, u64b, u32b, zql, zqm, zqn, zqo, -zqu, -isSl, -zqs, -zqt, -zqv, -zqr]
    have hM : Old m ((m.bump 5).put (m.next + 3) (some ⟨List.replicate (nlen a + 1) (.int .u32 0), true⟩)) := ((Old.refl m).bump 5).put (by omega)
    refine ⟨by omega, add_loop xv xw (by omega) (by omega) (ob := m.next + 3) (by omega) (nlen a) 0 0 (List.replicate (nlen a + 1) 0) _ _ (by omega) hM (by rw [zql (by simp)]; simp) (OkL.zeros _) (by simp [ea]) (by omega) (by omega) (by simp [val]) (by simp) (by simp) (by simp [ea]) (by simp) (by simp [ea]) (by simp) fun σ' m' o c f1 f2 f3 f4 f5 f6 f7 q0 q6 q7 => ?_⟩
    rw [ea] at f4 f7 q6
    have hlt := get_lt f2
    have hs : Sl (m'.put (m.next + 3) (some ⟨(o.set (nlen a) (c % 4294967296)).map U, true⟩)) (.slice (some ⟨m.next + 3, 0, none⟩) (nlen a + 1) 1) (o.set (nlen a) (c % 4294967296)) := Sl.mk' (f3.set _ (by omega)) (zql hlt) (by simp [f4])
    have hval : val (o.set (nlen a) (c % 4294967296)) = val a + val b := by
      have := set_take_val (o := o) (i := nlen a) (c % 4294967296) (by omega)
      rw [List.take_of_length_le (by simp; omega)] at this
      rw [this, show c % 4294967296 = c by omega, Int.mul_comm]
      omega
    have hsz := fun Φ => sized_wp hs (by simp [f4]; omega) Φ
    rw [← set_map] at hsz
    have hle : ¬ 512 < nlen (o.set (nlen a) (c % 4294967296)) := by
      have := (nlen_le_iff hs.1 512).2 (by rw [hval]; exact hn)
      omega
    simp only [hle, if_false] at hsz
    simp (disch := first | omega | (simp only [zqp, zqq]; omega)) [q0, q6, q7, g1, g2, g3, f2, f4, u32_wrap, hsz, zqa, zqb, zqc, zqd, zqe, zqf, zqg, zqh, zqi, zqj, zqk, u64b, u32b, zql, zqm, zqn, zqo, -zqu, -isSl, -zqs, -zqt, -zqv, -zqr]
    have hd := hs.digs
    rw [hval, zqe, ← set_map] at hd
    exact ⟨by omega, f1.put (by omega), _, rfl, by simpa using hd⟩
end Go.Proofs.YtkpifdkccdndcaaGreat
namespace Go.Proofs.YtkpifdkccdndcaaGreat
open Go Go.DI Go.Big
set_option linter.unusedSimpArgs false
set_option linter.unusedVariables false

theorem fdiv63 {n : Int} : n.fdiv 9223372036854775808 = n / 9223372036854775808 := Int.fdiv_eq_ediv_of_nonneg n (by omega)
set_option maxHeartbeats 2000000 in
theorem sub_loop {m0 : Mem} {v w : Value} {x y : List Int} (hv : Sl m0 v x) (hw : Sl m0 w y) (hx : Big x) (hy : y.length ≤ x.length) {ob : Nat} (hob : m0.next ≤ ob) {Q : IExit → Slots → Mem → Prop} : ∀ (r i : Nat) (c : Int) (o : List Int) (m : Mem) (σ : Slots),
    i + r = x.length → Old m0 m → m.get ob = some ⟨o.map U, true⟩ → OkL o → o.length = x.length → 0 ≤ c → c < 2 → val (o.take i) - c * pw i = val (x.take i) - val (y.take i) →
    σ 0 = v → σ 1 = w → σ 6 = .slice (some ⟨ob, 0, none⟩) x.length 1 → σ 7 = L c → σ 34 = I x.length → σ 35 = I i →
    (∀ σ' m' o c, Old m0 m' → m'.get ob = some ⟨o.map U, true⟩ → OkL o → o.length = x.length → 0 ≤ c → c < 2 → val o - c * pw x.length = val x - val y →
      σ' 6 = .slice (some ⟨ob, 0, none⟩) x.length 1 → Q (.exit 1) σ' m') → WP Tryz.prog (.loop ir128_l0) σ m Q
  | 0, i, c, o, m, σ, hi, ho, hg, hok, hlo, c0, c1, he, s0, s1, s6, s7, s35, s36, hQ => by
    refine wp_round fun J hJ => ?_
    have e : i = x.length := by omega
    subst e
    simp (disch := first | omega | (simp only [zqp, zqq]; omega)) [ir128_l0, ir128_k1, ir128_k2, ir128_k3, ir128_k4, ir128_k5, ir128_k6, ir128_k7, ir128_k8, ir128_k9, ir128_k10, ir128_k11, s0, s1, s6, s7, s35, s36, zqa, zqb, zqc, zqd, zqe, zqf, zqg, zqh, zqi, zqj, zqk, u64b, u32b, zql, zqm, zqn, zqo, -zqu, -isSl, -zqs, -zqt, -zqv, -zqr]
    rw [List.take_of_length_le (l := x) (by omega), List.take_of_length_le (l := y) (by omega), List.take_of_length_le (l := o) (by omega)] at he
    exact hQ _ _ o c ho hg hok hlo c0 c1 he (by simp [s6])
  | r + 1, i, c, o, m, σ, hi, ho, hg, hok, hlo, c0, c1, he, s0, s1, s6, s7, s35, s36, hQ => by
    refine wp_round fun J hJ => ?_
    have xv := hv.mono ho
    have xw := hw.mono ho
    obtain ⟨h1, h2, h3, h4⟩ := xv.len
    obtain ⟨h1', h2', h3', h4'⟩ := xw.len
    have q0 : (i : Int) < x.length := by omega
    have q2 : i < x.length := by omega
    have q3 : i + 1 ≤ x.length := by omega
    have a1 := xv.addr (i := i) (by omega)
    have a2 := xv.load (i := i) (by omega)
    have bx := gd_bd hv.1 i
    have by' := gd_bd hw.1 i
    have w0 : IntKind.i64.wrap ((i : Int) + 1) = (i : Int) + 1 := i64_id (by omega) (by omega)
    have w1 : IntKind.u64.wrap (gd x i) = gd x i := u64_id (by omega) (by omega)
    have hlt := get_lt hg
    by_cases k1 : (i : Int) < y.length
    · have b1 := xw.addr (i := i) (by omega)
      have b2 := xw.load (i := i) (by omega)
      have w3 : IntKind.u64.wrap (gd y i) = gd y i := u64_id (by omega) (by omega)
      obtain ⟨z, w4, e1, e2⟩ : ∃ z, IntKind.u64.wrap (IntKind.u64.wrap (gd x i - c) - gd y i) = z ∧ z % 4294967296 = (gd x i - c - gd y i) % 4294967296 ∧ z / 9223372036854775808 = -((gd x i - c - gd y i) / 4294967296) := ⟨_, rfl, by rw [u64_wrap, u64_wrap]; omega, by rw [u64_wrap, u64_wrap]; omega⟩
      simp (disch := first | omega | (simp only [zqp, zqq]; omega)) [ir128_l0, ir128_k1, ir128_k2, ir128_k3, ir128_k4, ir128_k5, ir128_k6, ir128_k7, ir128_k8, ir128_k9, ir128_k10, ir128_k11, s0, s1, s6, s7, s35, s36, h1, h2, h3, h1', h2', h3', q0, q2, q3, a1, a2, b1, b2, w0, w1, w3, w4, k1, hg, hlo, u32_wrap, fdiv63, e1, e2, zqa, zqb, zqc, zqd, zqe, zqf, zqg, zqh, zqi, zqj, zqk, u64b, u32b, zql, zqm, zqn, zqo, -zqu, -isSl, -zqs, -zqt, -zqv, -zqr]
      refine hJ _ _ (sub_loop hv hw hx hy hob r (i + 1) (-((gd x i - c - gd y i) / 4294967296)) (o.set i ((gd x i - c - gd y i) % 4294967296)) _ _ (by omega) (ho.put hob) (by rw [zql hlt, set_map]) (hok.set i (by omega)) (by simp [hlo]) (by omega) (by omega) (sub_round he rfl (by omega)) (by simp [s0]) (by simp [s1]) (by simp [s6]) (by simp) (by simp [s35]) (by simp) hQ)
    · have e0 : gd y i = 0 := gd_none (by omega)
      obtain ⟨z, w4, e1, e2⟩ : ∃ z, IntKind.u64.wrap (gd x i - c) = z ∧ z % 4294967296 = (gd x i - c) % 4294967296 ∧ z / 9223372036854775808 = -((gd x i - c) / 4294967296) := ⟨_, rfl, by rw [u64_wrap]; omega, by rw [u64_wrap]; omega⟩
      simp (disch := first | omega | (simp only [zqp, zqq]; omega)) [ir128_l0, ir128_k1, ir128_k2, ir128_k3, ir128_k4, ir128_k5, ir128_k6, ir128_k7, ir128_k8, ir128_k9, ir128_k10, ir128_k11, s0, s1, s6, s7, s35, s36, h1, h2, h3, h1', h2', h3', q0, q2, q3, a1, a2, w0, w1, w4, k1, hg, hlo, u32_wrap, fdiv63, e1, e2, zqa, zqb, zqc, zqd, zqe, zqf, zqg, zqh, zqi, zqj, zqk, u64b, u32b, zql, zqm, zqn, zqo, -zqu, -isSl, -zqs, -zqt, -zqv, -zqr]
      refine hJ _ _ (sub_loop hv hw hx hy hob r (i + 1) (-((gd x i - c) / 4294967296)) (o.set i ((gd x i - c) % 4294967296)) _ _ (by omega) (ho.put hob) (by rw [zql hlt, set_map]) (hok.set i (by omega)) (by simp [hlo]) (by omega) (by omega) (sub_round he (by omega) (by omega)) (by simp [s0]) (by simp [s1]) (by simp [s6]) (by simp) (by simp [s35]) (by simp) hQ)

set_option maxHeartbeats 2000000 in
theorem sub_wp {m : Mem} {v w : Value} {a b : List Int} (hv : Sl m v a) (hw : Sl m w b) (ha : Big a) (hb : Big b) (na : nlen a ≤ 512) (hn : val b ≤ val a) :
    WPCall Tryz.prog 128 [v, w] m (Res m (val a - val b)) := by
  rw [call128 (by simp)]
  obtain ⟨h1, h2, h3, h4⟩ := hv.len
  obtain ⟨h1', h2', h3', h4'⟩ := hw.len
  have la := nlen_le a
  have lb := nlen_le b
  have nb : nlen b ≤ nlen a := (nlen_le_iff hw.1 _).2 (by have := val_hi hv.1; omega)
  have ka : ¬ 512 < nlen a := by omega
  have kb : ¬ 512 < nlen b := by omega
  have kc : ¬ cmpI (val a) (val b) < 0 := by unfold cmpI; split <;> (try split) <;> omega
  have xv := hv.digs
  have xw := hw.digs
  have ea := nlen_digs hv.1
  have eb := nlen_digs hw.1
  have va := val_digs (val_bd hv.1).1
  have vb := val_digs (val_bd hw.1).1
  obtain ⟨g1, g2, g3, g4⟩ := xv.len
  obtain ⟨g1', g2', g3', g4'⟩ := xw.len
  rw [ea] at g1
  rw [eb] at g1'
  simp (disch := first | omega | (simp only [zqp, zqq]; omega)) [ir128_b, ir128_k1, ir128_k2, ir128_k3, ir128_k4, ir128_k5, ir128_k6, ir128_k7, ir128_k8, ir128_k9, ir128_k10, ir128_k11, large_wp hv ha, large_wp hw hb, length_wp hv ha, length_wp hw hb, cmp_wp hv hw ha hb, kc, h1, h2, h3, h1', h2', h3', ka, kb, la, lb, g1, g2, g3, g1', g2', g3', zqa, zqb, zqc, zqd, zqe, zqf, zqg, zqh, zqi, zqj, zqk, u64b, u32b, zql, zqm, zqn, zqo, -zqu, -isSl, -zqs, -zqt, -zqv, -zqr]
  have hM : Old m ((m.bump 4).put (m.next + 2) (some ⟨List.replicate (nlen a) (.int .u32 0), true⟩)) := ((Old.refl m).bump 4).put (by omega)
  refine ⟨by omega, sub_loop xv xw (by omega) (by omega) (ob := m.next + 2) (by omega) (nlen a) 0 0 (List.replicate (nlen a) 0) _ _ (by omega) hM (by rw [zql (by simp)]; simp) (OkL.zeros _) (by simp [ea]) (by omega) (by omega) (by simp [val]) (by simp) (by simp) (by simp [ea]) (by simp) (by simp [ea]) (by simp) fun σ' m' o c f1 f2 f3 f4 f5 f6 f7 q6 => ?_⟩
  rw [ea] at f4 f7 q6
  have hs : Sl m' (.slice (some ⟨m.next + 2, 0, none⟩) (nlen a) 1) o := Sl.mk' f3 f2 f4.symm
  have hval : val o = val a - val b := by
    have h8 := (val_bd f3).2
    rw [f4] at h8
    have hp := pw_pos (nlen a)
    have hc : c = 0 := by
      rcases (show c = 0 ∨ c = 1 by omega) with h | h
      · exact h
      · subst h; omega
    subst hc
    omega
  have hsz := fun Φ => sized_wp hs (by omega) Φ
  have hle : ¬ 512 < nlen o := by have := nlen_le o; omega
  simp only [hle, if_false] at hsz
  simp (disch := first | omega | (simp only [zqp, zqq]; omega)) [q6, hsz, zqa, zqb, zqc, zqd, zqe, zqf, zqg, zqh, zqi, zqj, zqk, u64b, u32b, zql, zqm, zqn, zqo, -zqu, -isSl, -zqs, -zqt, -zqv, -zqr]
  have hd := hs.digs
  rw [hval, zqe] at hd
  exact ⟨f1, _, rfl, by simpa using hd⟩
end Go.Proofs.YtkpifdkccdndcaaGreat
namespace Go.Proofs.YtkpifdkccdndcaaGreat
open Go Go.DI Go.Big
set_option linter.unusedSimpArgs false
set_option linter.unusedVariables false

theorem gd_set_ne {o : List Int} {k q : Nat} {x : Int} (h : q ≠ k) : gd (o.set k x) q = gd o q := by
  unfold gd; simp only [List.getD_eq_getElem?_getD]; rw [List.getElem?_set_ne (by omega)]
theorem prod_bd {x y : Int} (hx : 0 ≤ x ∧ x < 4294967296) (hy : 0 ≤ y ∧ y < 4294967296) : 0 ≤ x * y ∧ x * y ≤ 18446744065119617025 := by
  refine ⟨Int.mul_nonneg hx.1 hy.1, ?_⟩
  have h1 : x * y ≤ 4294967295 * y := Int.mul_le_mul_of_nonneg_right (by omega) hy.1
  omega
set_option maxHeartbeats 2000000 in
theorem mul_inner_loop {m0 : Mem} {v w : Value} {b : List Int} {N i na : Nat} {x : Int} (hw : Sl m0 w b) (hN : N < 3000000) (hx : 0 ≤ x ∧ x < 4294967296) (hiN : i + b.length ≤ N) {ob : Nat} (hob : m0.next ≤ ob) {o0 : List Int} {Q : IExit → Slots → Mem → Prop} : ∀ (r j : Nat) (c : Int) (o : List Int) (m : Mem) (σ : Slots),
    j + r = b.length → Old m0 m → m.get ob = some ⟨o.map U, true⟩ → OkL o → o.length = N → 0 ≤ c → c < 4294967296 → val o + c * pw (i + j) = val o0 + pw i * (x * val (b.take j)) → (∀ k, i + b.length ≤ k → gd o k = gd o0 k) →
    σ 1 = w → σ 6 = .slice (some ⟨ob, 0, none⟩) N 1 → σ 7 = I i → σ 8 = U x → σ 9 = L c → σ 32 = v → σ 33 = I na → σ 34 = I i → σ 39 = w → σ 40 = I b.length → σ 41 = I j →
    (∀ σ' m' o c, Old m0 m' → m'.get ob = some ⟨o.map U, true⟩ → OkL o → o.length = N → 0 ≤ c → c < 4294967296 → val o + c * pw (i + b.length) = val o0 + pw i * (x * val b) → (∀ k, i + b.length ≤ k → gd o k = gd o0 k) →
      σ' 1 = w → σ' 6 = .slice (some ⟨ob, 0, none⟩) N 1 → σ' 7 = I i → σ' 9 = L c → σ' 32 = v → σ' 33 = I na → σ' 34 = I i → Q (.exit 2) σ' m') → WP Tryz.prog (.loop ir132_l0) σ m Q
  | 0, j, c, o, m, σ, hi, ho, hg, hok, hlo, c0, c1, he, hh, s1, s6, s7, s8, s9, s32, s33, s34, s39, s40, s41, hQ => by
    refine wp_round fun J hJ => ?_
    have e : j = b.length := by omega
    subst e
    simp (disch := first | omega | (simp only [zqp, zqq]; omega)) [ir132_l0, ir132_k1, ir132_k2, ir132_k3, ir132_k4, ir132_k5, ir132_k6, ir132_k7, ir132_k8, ir132_k9, ir132_k10, ir132_k11, ir132_k12, ir132_k13, s1, s6, s7, s8, s9, s39, s40, s41, zqa, zqb, zqc, zqd, zqe, zqf, zqg, zqh, zqi, zqj, zqk, u64b, u32b, zql, zqm, zqn, zqo, -zqu, -isSl, -zqs, -zqt, -zqv, -zqr]
    rw [List.take_of_length_le (l := b) (by omega)] at he
    exact hQ _ _ o c ho hg hok hlo c0 c1 he hh (by simp [s1]) (by simp [s6]) (by simp [s7]) (by simp [s9]) (by simp [s32]) (by simp [s33]) (by simp [s34])
  | r + 1, j, c, o, m, σ, hi, ho, hg, hok, hlo, c0, c1, he, hh, s1, s6, s7, s8, s9, s32, s33, s34, s39, s40, s41, hQ => by
    refine wp_round fun J hJ => ?_
    have xw := hw.mono ho
    obtain ⟨h1', h2', h3', h4'⟩ := xw.len
    obtain ⟨k, hk⟩ : ∃ k, k = i + j := ⟨_, rfl⟩
    have q0 : (j : Int) < b.length := by omega
    have q1 : (k : Int) < N := by omega
    have q2 : k < N := by omega
    have q3 : k + 1 ≤ N := by omega
    have b1 := xw.addr (i := j) (by omega)
    have b2 := xw.load (i := j) (by omega)
    have by' := gd_bd hw.1 j
    have bz := gd_bd hok k
    have hz : o[k]? = some (gd o k) := by rw [gd_some (List.getElem?_eq_getElem (by omega)), List.getElem?_eq_getElem (by omega)]
    have hp := prod_bd hx by'
    obtain ⟨t, ht⟩ : ∃ t, t = c + x * gd b j + gd o k := ⟨_, rfl⟩
    have w0 : IntKind.i64.wrap ((j : Int) + 1) = (j : Int) + 1 := i64_id (by omega) (by omega)
    have w5 : IntKind.i64.wrap ((i : Int) + (j : Int)) = (k : Int) := by rw [i64_id (by omega) (by omega)]; omega
    have w1 : IntKind.u64.wrap x = x := u64_id (by omega) (by omega)
    have w2 : IntKind.u64.wrap (gd b j) = gd b j := u64_id (by omega) (by omega)
    have w3 : IntKind.u64.wrap (gd o k) = gd o k := u64_id (by omega) (by omega)
    have w4 : IntKind.u64.wrap (x * gd b j) = x * gd b j := u64_id (by omega) (by omega)
    have w6 : IntKind.u64.wrap (x * gd b j + gd o k) = x * gd b j + gd o k := u64_id (by omega) (by omega)
    have w7 : IntKind.u64.wrap (c + (x * gd b j + gd o k)) = t := by rw [u64_id (by omega) (by omega)]; omega
    have hlt := get_lt hg
    have hkl : k < o.length := by omega
    have hz2 : o[k] = gd o k := by rw [gd_some (List.getElem?_eq_getElem hkl)]
    simp (disch := first | omega | (simp only [zqp, zqq]; omega)) [ir132_l0, ir132_k1, ir132_k2, ir132_k3, ir132_k4, ir132_k5, ir132_k6, ir132_k7, ir132_k8, ir132_k9, ir132_k10, ir132_k11, ir132_k12, ir132_k13, s1, s6, s7, s8, s9, s39, s40, s41, h1', h2', h3', q0, q1, q2, q3, b1, b2, w0, w1, w2, w3, w4, w5, w6, w7, hg, hlo, u32_wrap, fdiv32, hz, hz2, head_td, zqa, zqb, zqc, zqd, zqe, zqf, zqg, zqh, zqi, zqj, zqk, u64b, u32b, zql, zqm, zqn, zqo, -zqu, -isSl, -zqs, -zqt, -zqv, -zqr]
    refine hJ _ _ (mul_inner_loop hw hN hx hiN hob (o0 := o0) r (j + 1) (t / 4294967296) (o.set k (t % 4294967296)) _ _ (by omega) (ho.put hob) (by rw [zql hlt, set_map]) (hok.set k (by omega)) (by simp [hlo]) (by omega) (by omega) (by subst hk; exact mul_inner he (by rw [← hz]) (by omega)) (fun q hq => by rw [gd_set_ne (by omega)]; exact hh q hq) (by simp [s1]) (by simp [s6]) (by simp [s7]) (by simp [s8]) (by simp) (by simp [s32]) (by simp [s33]) (by simp [s34]) (by simp [s39]) (by simp [s40]) (by simp) hQ)

set_option maxHeartbeats 2000000 in
theorem mul_loop {m0 : Mem} {v w : Value} {a b : List Int} {N : Nat} (hv : Sl m0 v a) (hw : Sl m0 w b) (hN : N = a.length + b.length) (ha : Big a) (hb : Big b) {ob : Nat} (hob : m0.next ≤ ob) {Q : IExit → Slots → Mem → Prop} : ∀ (r i : Nat) (o : List Int) (m : Mem) (σ : Slots),
    i + r = a.length → Old m0 m → m.get ob = some ⟨o.map U, true⟩ → OkL o → o.length = N → val o = val (a.take i) * val b → (∀ k, i + b.length ≤ k → gd o k = 0) →
    σ 1 = w → σ 6 = .slice (some ⟨ob, 0, none⟩) N 1 → σ 32 = v → σ 33 = I a.length → σ 34 = I i →
    (∀ σ' m' o, Old m0 m' → m'.get ob = some ⟨o.map U, true⟩ → OkL o → o.length = N → val o = val a * val b → σ' 6 = .slice (some ⟨ob, 0, none⟩) N 1 → Q (.exit 0) σ' m') → WP Tryz.prog (.loop ir132_l1) σ m Q
  | 0, i, o, m, σ, hi, ho, hg, hok, hlo, he, hh, s1, s6, s32, s33, s34, hQ => by
    refine wp_round fun J hJ => ?_
    have e : i = a.length := by omega
    subst e
    simp (disch := first | omega | (simp only [zqp, zqq]; omega)) [ir132_l1, ir132_k1, ir132_k2, ir132_k3, ir132_k4, ir132_k5, ir132_k6, ir132_k7, ir132_k8, ir132_k9, ir132_k10, ir132_k11, ir132_k12, ir132_k13, s1, s6, s32, s33, s34, zqa, zqb, zqc, zqd, zqe, zqf, zqg, zqh, zqi, zqj, zqk, u64b, u32b, zql, zqm, zqn, zqo, -zqu, -isSl, -zqs, -zqt, -zqv, -zqr]
    rw [List.take_of_length_le (l := a) (by omega)] at he
    exact hQ _ _ o ho hg hok hlo he (by simp [s6])
  | r + 1, i, o, m, σ, hi, ho, hg, hok, hlo, he, hh, s1, s6, s32, s33, s34, hQ => by
    refine wp_round fun J hJ => ?_
    have xv := hv.mono ho
    have xw := hw.mono ho
    obtain ⟨h1, h2, h3, h4⟩ := xv.len
    obtain ⟨h1', h2', h3', h4'⟩ := xw.len
    have q0 : (i : Int) < a.length := by omega
    have a1 := xv.addr (i := i) (by omega)
    have a2 := xv.load (i := i) (by omega)
    have bx := gd_bd hv.1 i
    simp (disch := first | omega | (simp only [zqp, zqq]; omega)) [ir132_l1, ir132_k1, ir132_k2, ir132_k3, ir132_k4, ir132_k5, ir132_k6, ir132_k7, ir132_k8, ir132_k9, ir132_k10, ir132_k11, ir132_k12, ir132_k13, s1, s6, s32, s33, s34, h1, h2, h3, h1', h2', h3', q0, a1, a2, zqa, zqb, zqc, zqd, zqe, zqf, zqg, zqh, zqi, zqj, zqk, u64b, u32b, zql, zqm, zqn, zqo, -zqu, -isSl, -zqs, -zqt, -zqv, -zqr]
    refine mul_inner_loop (v := v) (na := a.length) (i := i) (N := N) (x := gd a i) (ob := ob) hw (by omega) bx (by omega) hob (o0 := o) b.length 0 0 o _ _ (by omega) ho hg hok hlo (by omega) (by omega) (by simp [val]) (fun _ _ => rfl) (by simp [s1]) (by simp [s6]) (by simp) (by simp) (by simp) (by simp [s32]) (by simp [s33]) (by simp [s34]) (by simp) (by simp) (by simp) fun σ' m' o' c f1 f2 f3 f4 f5 f6 f7 f8 p1 p6 p7 p9 p32 p33 p34 => ?_
    obtain ⟨k, hk⟩ : ∃ k, k = i + b.length := ⟨_, rfl⟩
    have w5 : IntKind.i64.wrap ((i : Int) + (b.length : Int)) = (k : Int) := by rw [i64_id (by omega) (by omega)]; omega
    have w0 : IntKind.i64.wrap ((i : Int) + 1) = (i : Int) + 1 := i64_id (by omega) (by omega)
    have q1 : (k : Int) < N := by omega
    have q2 : k < N := by omega
    have q3 : k + 1 ≤ N := by omega
    have hlt := get_lt f2
    simp (disch := first | omega | (simp only [zqp, zqq]; omega)) [p1, p6, p7, p9, p32, p33, p34, h1', h2', h3', w0, w5, q1, q2, q3, f2, f4, u32_wrap, zqa, zqb, zqc, zqd, zqe, zqf, zqg, zqh, zqi, zqj, zqk, u64b, u32b, zql, zqm, zqn, zqo, -zqu, -isSl, -zqs, -zqt, -zqv, -zqr]
    have hz : o'[k]? = some 0 := by
      have h0 := hh k (by omega)
      rw [← f8 k (by omega)] at h0
      rw [gd_some (List.getElem?_eq_getElem (by omega))] at h0
      rw [List.getElem?_eq_getElem (by omega), h0]
    refine hJ _ _ (mul_loop hv hw hN ha hb hob r (i + 1) (o'.set k (c % 4294967296)) _ _ (by omega) (f1.put hob) (by rw [zql hlt, set_map]) (f3.set k (by omega)) (by simp [f4]) ?_ (fun q hq => by rw [gd_set_ne (by omega), f8 q (by omega)]; exact hh q (by omega)) (by simp [p1]) (by simp [p6]) (by simp [p32]) (by simp [p33]) (by simp) hQ)
    rw [val_set _ hz, take_val a, show c % 4294967296 = c by omega]
    rw [← hk, he] at f7
    grind

set_option maxHeartbeats 2000000 in
theorem mul_wp {m : Mem} {v w : Value} {a b : List Int} (hv : Sl m v a) (hw : Sl m w b) (ha : Big a) (hb : Big b) (na : nlen a ≤ 512) (nb : nlen b ≤ 512) (hn : val a * val b < pw 512) :
    WPCall Tryz.prog 132 [v, w] m (Res m (val a * val b)) := by
  rw [call132 (by simp)]
  obtain ⟨h1, h2, h3, h4⟩ := hv.len
  obtain ⟨h1', h2', h3', h4'⟩ := hw.len
  have la := nlen_le a
  have lb := nlen_le b
  have ka : ¬ 512 < nlen a := by omega
  have kb : ¬ 512 < nlen b := by omega
  have xv := hv.digs
  have xw := hw.digs
  have ea := nlen_digs hv.1
  have eb := nlen_digs hw.1
  have va := val_digs (val_bd hv.1).1
  have vb := val_digs (val_bd hw.1).1
  obtain ⟨g1, g2, g3, g4⟩ := xv.len
  obtain ⟨g1', g2', g3', g4'⟩ := xw.len
  rw [ea] at g1
  rw [eb] at g1'
  obtain ⟨N, hN⟩ : ∃ N, N = nlen a + nlen b := ⟨_, rfl⟩
  have w0 : IntKind.i64.wrap ((nlen a : Int) + (nlen b : Int)) = (N : Int) := by rw [i64_id (by omega) (by omega)]; omega
  simp (disch := first | omega | (simp only [zqp, zqq]; omega)) [ir132_b, ir132_k1, ir132_k2, ir132_k3, ir132_k4, ir132_k5, ir132_k6, ir132_k7, ir132_k8, ir132_k9, ir132_k10, ir132_k11, ir132_k12, ir132_k13, large_wp hv ha, large_wp hw hb, length_wp hv ha, length_wp hw hb, h1, h2, h3, h1', h2', h3', ka, kb, la, lb, g1, g2, g3, g1', g2', g3', w0, zqa, zqb, zqc, zqd, zqe, zqf, zqg, zqh, zqi, zqj, zqk, u64b, u32b, zql, zqm, zqn, zqo, -zqu, -isSl, -zqs, -zqt, -zqv, -zqr]
  have hM : Old m ((m.bump 7).put (m.next + 5) (some ⟨List.replicate N (.int .u32 0), true⟩)) := ((Old.refl m).bump 7).put (by omega)
  refine ⟨by omega, mul_loop (N := N) xv xw (by omega) (by omega) (by omega) (ob := m.next + 5) (by omega) (nlen a) 0 (List.replicate N 0) _ _ (by omega) hM (by rw [zql (by simp)]; simp) (OkL.zeros _) (by simp) (by simp [val, val_zeros]) (fun k hk => by unfold gd; simp [List.getElem?_replicate]; split <;> rfl) (by simp) (by simp) (by simp) (by simp [ea]) (by simp) fun σ' m' o f1 f2 f3 f4 f5 q6 => ?_⟩
  rw [va, vb] at f5
  have hs : Sl m' (.slice (some ⟨m.next + 5, 0, none⟩) N 1) o := Sl.mk' f3 f2 f4.symm
  have hsz := fun Φ => sized_wp hs (by omega) Φ
  have hle : ¬ 512 < nlen o := by
    have := (nlen_le_iff f3 512).2 (by rw [f5]; exact hn)
    omega
  simp only [hle, if_false] at hsz
  simp (disch := first | omega | (simp only [zqp, zqq]; omega)) [q6, hsz, zqa, zqb, zqc, zqd, zqe, zqf, zqg, zqh, zqi, zqj, zqk, u64b, u32b, zql, zqm, zqn, zqo, -zqu, -isSl, -zqs, -zqt, -zqv, -zqr]
  have hd := hs.digs
  rw [f5, zqe] at hd
  exact ⟨f1, _, rfl, by simpa using hd⟩
end Go.Proofs.YtkpifdkccdndcaaGreat
