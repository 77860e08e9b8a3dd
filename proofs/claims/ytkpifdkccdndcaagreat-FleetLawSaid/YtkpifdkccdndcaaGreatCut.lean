/-
  The memory without the blocks that a function keeps to itself; numbers and fractions there.
-/
import Derived.Test.YtkpifdkccdndcaaGreatNtZR
namespace Go.Proofs.YtkpifdkccdndcaaGreat
open Go Go.DI Go.Big
set_option linter.unusedSimpArgs false
set_option linter.unusedVariables false

def Mem.cut (m : Mem) (l : List Nat) : Mem := ⟨m.next, fun b => if b ∈ l then none else m.blk b, m.mp⟩
section
variable {m m' : Mem} {l : List Nat} {b : Nat} {x : Option Blk}
theorem cut_in (h : b ∈ l) : (Mem.cut m l).get b = none := by simp [Mem.cut, Mem.get, h]
theorem cut_out (h : b ∉ l) : (Mem.cut m l).get b = m.get b := by simp [Mem.cut, Mem.get, h]
theorem Part.cut (m : Mem) (l : List Nat) : Part (Mem.cut m l) m := ⟨rfl, rfl, fun c y h => by
  by_cases hc : c ∈ l
  · rw [cut_in hc] at h; cases h
  · rwa [cut_out hc] at h⟩
theorem cut_put (h : b ∈ l) : Mem.cut (m.put b x) l = Mem.cut m l := by
  simp only [Mem.cut, Mem.put, Mem.mk.injEq, true_and, and_true]
  funext i
  by_cases hi : i ∈ l
  · simp [hi]
  · simp [hi, show i ≠ b from fun e => hi (e ▸ h)]
theorem Sub.cut_old (ho : Old m m') (hl : ∀ c ∈ l, m.next ≤ c) : Sub m (Mem.cut m' l) := ⟨ho.next, fun c y h => by
  rw [cut_out (fun hc => by have := hl c hc; have := get_lt h; omega)]; exact ho.some h⟩
theorem Sub.cut_mono (ho : Old m m') : Sub (Mem.cut m l) (Mem.cut m' l) := ⟨ho.next, fun c y h => by
  by_cases hc : c ∈ l
  · rw [cut_in hc] at h; cases h
  · rw [cut_out hc] at h ⊢; exact ho.some h⟩
theorem Sub.cut (m : Mem) (l : List Nat) : Sub (Mem.cut m l) m := (Part.cut m l).sub
theorem Sub.of_old (ho : Old m m') : Sub m m' := ⟨ho.next, fun _ _ h => ho.some h⟩
/-- a call in the memory without one's own blocks -/
theorem call_cut {P : Program} {f : Nat} {args : List Value} {Ψ : Value → Mem → Prop} (hΨ : ∀ r a c, Sub a c → Ψ r a → Ψ r c) (hl : ∀ c ∈ l, c < m.next) (h : WPCall P f args (Mem.cut m l) fun r p' => Old (Mem.cut m l) p' ∧ Ψ r p') :
    WPCall P f args m fun r m' => Old m m' ∧ Ψ r (Mem.cut m' l) := by
  refine (frame_old (Part.cut m l) h).mono fun r m' hp => ?_
  obtain ⟨ho, p', pt, op, hr, hn⟩ := hp
  refine ⟨ho, hΨ r p' _ ⟨Nat.le_of_eq pt.next, fun c y hc => ?_⟩ hr⟩
  rw [cut_out (fun hcl => by rw [hn c (hl c hcl) (cut_in hcl)] at hc; cases hc)]
  exact pt.get c y hc
end
theorem Nm.sub {m m' : Mem} {v : Value} {n : Int} (h : Nm m v n) (hs : Sub m m') : Nm m' v n := by
  obtain ⟨l, h1, h2, h3⟩ := h
  exact ⟨l, h1.sub' hs, h2, h3⟩
theorem Vf.sub {m m' : Mem} {v : Value} {x : Fr} (h : Vf m v x) (hs : Sub m m') : Vf m' v x := by obtain ⟨a, b, h1, h2, h3⟩ := h; exact ⟨a, b, h1, h2.sub hs, h3.sub hs⟩
theorem Cf.sub {m m' : Mem} {v : Value} {x : Fr} (h : Cf m v x) (hs : Sub m m') : Cf m' v x := by obtain ⟨a, b, h1, h2, h3⟩ := h; exact ⟨a, b, h1, h2.sub' hs, h3.sub' hs⟩
section
variable {m : Mem} {l : List Nat} {v w : Value} {a b : Int}
theorem Sl.form {m : Mem} {v : Value} {l : List Int} (h : Sl m v l) : ∃ p n c, v = .slice p n c := by
  obtain ⟨_, ⟨rfl, _⟩ | ⟨b, o, cs, w, rfl, _⟩⟩ := h <;> exact ⟨_, _, _, rfl⟩
theorem Nm.form {m : Mem} {v : Value} {n : Int} (h : Nm m v n) : ∃ p n c, v = .slice p n c := by obtain ⟨l, h1, _⟩ := h; exact h1.form
def ResV (n : Int) (r : Value) (m : Mem) : Prop := ∃ v, r = .tuple #[v, I 0] ∧ Sl m v (digs n)
theorem ResV.sub {n : Int} : ∀ r a c, Sub a c → ResV n r a → ResV n r c := fun _ _ _ hs ⟨v, h1, h2⟩ => ⟨v, h1, h2.sub' hs⟩
theorem trim_cut (hl : ∀ c ∈ l, c < m.next) (hv : Nm (Mem.cut m l) v a) : WPCall Tryz.prog 131 [v] m fun r m' => Old m m' ∧ Sl (Mem.cut m' l) r (digs a) :=
  call_cut (fun _ _ _ hs h => h.sub' hs) hl (trim_nm hv)
theorem add_cut (hl : ∀ c ∈ l, c < m.next) (hv : Nm (Mem.cut m l) v a) (hw : Nm (Mem.cut m l) w b) (h : a + b < pw 512) : WPCall Tryz.prog 127 [v, w] m fun r m' => Old m m' ∧ ResV (a + b) r (Mem.cut m' l) :=
  call_cut ResV.sub hl (add_nm hv hw h)
theorem sub_cut (hl : ∀ c ∈ l, c < m.next) (hv : Nm (Mem.cut m l) v a) (hw : Nm (Mem.cut m l) w b) (h : a < pw 512) (hle : b ≤ a) : WPCall Tryz.prog 128 [v, w] m fun r m' => Old m m' ∧ ResV (a - b) r (Mem.cut m' l) :=
  call_cut ResV.sub hl (sub_nm hv hw h hle)
theorem mul_cut (hl : ∀ c ∈ l, c < m.next) (hv : Nm (Mem.cut m l) v a) (hw : Nm (Mem.cut m l) w b) (h1 : a < pw 512) (h2 : b < pw 512) (h : a * b < pw 512) : WPCall Tryz.prog 132 [v, w] m fun r m' => Old m m' ∧ ResV (a * b) r (Mem.cut m' l) :=
  call_cut ResV.sub hl (mul_nm hv hw h1 h2 h)
def DivV (x y : Int) (r : Value) (m : Mem) : Prop := ∃ q s, r = .tuple #[q, s, I 0] ∧ Sl m q (digs (x / y)) ∧ Sl m s (digs (x % y))
theorem DivV.sub {x y : Int} : ∀ r a c, Sub a c → DivV x y r a → DivV x y r c := fun _ _ _ hs ⟨q, s, h1, h2, h3⟩ => ⟨q, s, h1, h2.sub' hs, h3.sub' hs⟩
theorem div_cut (hl : ∀ c ∈ l, c < m.next) (hv : Nm (Mem.cut m l) v a) (hw : Nm (Mem.cut m l) w b) (h1 : a < pw 512) (h2 : b < pw 512) (h : b ≠ 0) : WPCall Tryz.prog 130 [v, w] m fun r m' => Old m m' ∧ DivV a b r (Mem.cut m' l) :=
  call_cut DivV.sub hl (div_nm hv hw h1 h2 h)
theorem gcd_cut (hl : ∀ c ∈ l, c < m.next) (hv : Nm (Mem.cut m l) v a) (hw : Nm (Mem.cut m l) w b) (h1 : a < pw 512) (h2 : b < pw 512) : WPCall Tryz.prog 129 [v, w] m fun r m' => Old m m' ∧ ResV (gcdI a b) r (Mem.cut m' l) :=
  call_cut ResV.sub hl (gcd_nm hv hw h1 h2)
theorem bits_cut (hv : Nm (Mem.cut m l) v a) (Φ : Value → Mem → Prop) : WPCall Tryz.prog 87 [v] m Φ = Φ (I (nbits a)) m := bits_nm (hv.sub (Sub.cut m l)) Φ
theorem cmp_cut (hv : Nm (Mem.cut m l) v a) (hw : Nm (Mem.cut m l) w b) (Φ : Value → Mem → Prop) : WPCall Tryz.prog 92 [v, w] m Φ = Φ (I (cmpI a b)) m := cmp_nm (hv.sub (Sub.cut m l)) (hw.sub (Sub.cut m l)) Φ
end
/-- an error and a fraction, outside one's own blocks -/
def FResV (p : Int × Fr) (r : Value) (m : Mem) : Prop := ∃ c, r = .tuple #[c, I p.1] ∧ Cf m c p.2
theorem FResV.sub {p : Int × Fr} : ∀ r a c, Sub a c → FResV p r a → FResV p r c := fun _ _ _ hs ⟨q, h1, h2⟩ => ⟨q, h1, h2.sub hs⟩
theorem one_lt {m : Mem} {b : Nat} (h : b < m.next) : ∀ c ∈ [b], c < m.next := fun c hc => by simp at hc; omega
theorem one_le {m : Mem} {b : Nat} (h : m.next ≤ b) : ∀ c ∈ [b], m.next ≤ c := fun c hc => by simp at hc; omega
end Go.Proofs.YtkpifdkccdndcaaGreat
