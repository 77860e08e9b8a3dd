/-
  The tape: 'New', 'Next'.
-/
import Derived.Test.YtapnkfkpkcajjaaMfN
namespace Go.Proofs.Ytapnkfkpkcajjaa
open Go Go.DI Go.Nets
set_option linter.unusedSimpArgs false
set_option linter.unusedVariables false

def ByteS (m : Mem) (v : Value) (l : List Int) : Prop := (v = .slice none 0 0 ∧ l = []) ∨ ∃ b o, v = .slice (some ⟨b, 0, none⟩) l.length 1 ∧ m.get b = some ⟨l.map (Value.int .u8 ·), o⟩
theorem ByteS.mono {m m' : Mem} {v : Value} {l : List Int} (h : ByteS m v l) (ho : Old m m') : ByteS m' v l := by
  rcases h with h | ⟨b, o, h1, h2⟩
  · exact .inl h
  · exact .inr ⟨b, o, h1, ho.some h2⟩
structure OldX (tb : Nat) (m m' : Mem) : Prop where
  next : m.next ≤ m'.next
  get : ∀ b, b < m.next → b ≠ tb → m'.get b = m.get b
theorem OldX.some {tb : Nat} {m m' : Mem} (h : OldX tb m m') {b : Nat} {x : Blk} (hb : m.get b = some x) (hne : b ≠ tb) : m'.get b = .some x := by rw [h.get b (get_lt hb) hne, hb]
theorem OldX.trans {tb : Nat} {a b c : Mem} (h : OldX tb a b) (h' : OldX tb b c) : OldX tb a c := ⟨Nat.le_trans h.next h'.next, fun x hx hn => by rw [h'.get x (Nat.lt_of_lt_of_le hx h.next) hn, h.get x hx hn]⟩
theorem Old.x {m m' : Mem} (h : Old m m') (tb : Nat) : OldX tb m m' := ⟨h.next, fun b hb _ => h.get b hb⟩
/-- a tape -/
structure Tp (tb : Nat) (tv : Value) (l : List Int) (pos : Nat) (m : Mem) : Prop where
  get : m.get tb = some ⟨[tv, I pos], true⟩
  dat : (tv = .slice none 0 0 ∧ l = []) ∨ ∃ b o, tv = .slice (some ⟨b, 0, none⟩) l.length 1 ∧ b ≠ tb ∧ m.get b = some ⟨l.map (Value.int .u8 ·), o⟩
  byte : ∀ x ∈ l, 0 ≤ x ∧ x < 256
  len : l.length ≤ 400
  pos : pos ≤ l.length
theorem Tp.lt {tb : Nat} {tv : Value} {l : List Int} {pos : Nat} {m : Mem} (h : Tp tb tv l pos m) : tb < m.next := get_lt h.get
theorem Tp.dlt {tb : Nat} {tv : Value} {l : List Int} {pos : Nat} {m : Mem} (h : Tp tb tv l pos m) : ∀ b n c, tv = .slice (some ⟨b, 0, none⟩) n c → b < m.next ∧ b ≠ tb := by
  intro b n c hb
  rcases h.dat with ⟨h, _⟩ | ⟨b', o, h, hne, hg⟩
  · rw [h] at hb; cases hb
  · rw [h] at hb; cases hb; exact ⟨get_lt hg, hne⟩
theorem Tp.keep {tb : Nat} {tv : Value} {l : List Int} {pos : Nat} {m m' : Mem} (h : Tp tb tv l pos m) (h1 : m'.get tb = m.get tb) (h2 : ∀ b n c, tv = .slice (some ⟨b, 0, none⟩) n c → m'.get b = m.get b) : Tp tb tv l pos m' := by
  refine ⟨by rw [h1]; exact h.get, ?_, h.byte, h.len, h.pos⟩
  rcases h.dat with hd | ⟨b, o, g1, g2, g3⟩
  · exact .inl hd
  · exact .inr ⟨b, o, g1, g2, by rw [h2 _ _ _ g1]; exact g3⟩
theorem Tp.mono {tb : Nat} {tv : Value} {l : List Int} {pos : Nat} {m m' : Mem} (h : Tp tb tv l pos m) (ho : ∀ b x, m.get b = some x → m'.get b = some x) : Tp tb tv l pos m' := by
  refine ⟨ho _ _ h.get, ?_, h.byte, h.len, h.pos⟩
  rcases h.dat with h2 | ⟨b, o, g1, g2, g3⟩
  · exact .inl h2
  · exact .inr ⟨b, o, g1, g2, ho _ _ g3⟩

def NewPost (m : Mem) (r : Value) (m' : Mem) : Prop := ∃ tb tv l', r = ptr tb ∧ m.next ≤ tb ∧ Old m m' ∧ Tp tb tv l' 0 m'
def NextPost (tb : Nat) (tv : Value) (l : List Int) (k : Int) (m : Mem) (r : Value) (m' : Mem) : Prop := ∃ x pos', r = I x ∧ 0 ≤ x ∧ (1 ≤ k → x < k) ∧ OldX tb m m' ∧ m'.next = m.next ∧ Tp tb tv l pos' m'
set_option maxHeartbeats 4000000 in
theorem new_wp {v : Value} {l : List Int} {m : Mem} (hv : ByteS m v l) (hb : ∀ x ∈ l, 0 ≤ x ∧ x < 256) : WPCall Try.prog 27 [v] m (NewPost m) := by
  rw [call27 (by simp)]
  rcases hv with ⟨rfl, rfl⟩ | ⟨b, o, rfl, hg⟩
  · simp (disch := first | omega | (simp only [next_put, next_bump]; omega)) [ir27_b, get_put_self, get_put_ne, get_bump, put_put]
    refine ⟨_, Value.slice none 0 0, [], rfl, by omega, ⟨by simp only [next_put, next_bump]; omega, fun c hc => by simp (disch := first | omega | (simp only [next_put, next_bump]; omega)) only [get_put_ne, get_bump]⟩, ⟨get_put_self (by simp), .inl ⟨rfl, rfl⟩, by simp, by simp, by simp⟩⟩
  · have hlt := get_lt hg
    by_cases h4 : 400 < (l.length : Int)
    · have h5 : 400 ≤ l.length := by omega
      have h6 : (400 : Int) ≤ l.length := by omega
      simp (disch := first | omega | (simp only [next_put, next_bump]; omega)) [ir27_b, hg, h4, h5, h6, get_put_self, get_put_ne, get_bump, put_put]
      refine ⟨_, _, l.take 400, rfl, by omega, ⟨by simp only [next_put, next_bump]; omega, fun c hc => by simp (disch := first | omega | (simp only [next_put, next_bump]; omega)) only [get_put_ne, get_bump]⟩, ⟨get_put_self (by simp only [next_put, next_bump]; omega), .inr ⟨m.next + 1, true, by simp; omega, by omega, ?_⟩, fun x hx => hb x (List.mem_of_mem_take hx), by simp; omega, by simp⟩⟩
      simp (disch := first | omega | (simp only [next_put, next_bump]; omega)) only [get_put_self, get_put_ne, List.map_take]
    · have h5 : l.length ≤ 400 := by omega
      have e1 : List.take l.length (l.map (Value.int .u8 ·)) = l.map (Value.int .u8 ·) := List.take_of_length_le (by simp)
      have h6 : l.length ≤ 140737488355328 := by omega
      have h7 : l.length ≤ 9223372036854775807 := by omega
      by_cases h0 : l.length = 0
      · have hl : l = [] := List.length_eq_zero_iff.1 h0
        subst hl
        simp (disch := first | omega | (simp only [next_put, next_bump]; omega)) [ir27_b, hg, get_put_self, get_put_ne, get_bump, put_put]
        refine ⟨_, Value.slice none 0 0, [], rfl, by omega, ⟨by simp only [next_put, next_bump]; omega, fun c hc => by simp (disch := first | omega | (simp only [next_put, next_bump]; omega)) only [get_put_ne, get_bump]⟩, ⟨get_put_self (by simp), .inl ⟨rfl, rfl⟩, by simp, by simp, by simp⟩⟩
      · have h0' : ¬ l = [] := fun h => h0 (by rw [h]; rfl)
        simp (disch := first | omega | (simp only [next_put, next_bump]; omega)) [ir27_b, hg, h4, h5, h6, h7, e1, h0, h0', get_put_self, get_put_ne, get_bump, put_put]
        refine ⟨_, _, l, rfl, by omega, ⟨by simp only [next_put, next_bump]; omega, fun c hc => by simp (disch := first | omega | (simp only [next_put, next_bump]; omega)) only [get_put_ne, get_bump]⟩, ⟨get_put_self (by simp only [next_put, next_bump]; omega), .inr ⟨m.next + 1, true, rfl, by omega, ?_⟩, hb, h5, by simp⟩⟩
        simp (disch := first | omega | (simp only [next_put, next_bump]; omega)) only [get_put_self, get_put_ne]

set_option maxHeartbeats 4000000 in
theorem next_wp {tb : Nat} {v : Value} {l : List Int} {pos : Nat} {m : Mem} (hT : Tp tb v l pos m) {k : Int} (hk : k ≤ 10000) : WPCall Try.prog 37 [ptr tb, I k] m (NextPost tb v l k m) := by
  rw [call37 (by simp)]
  have hg := hT.get
  have hv := hT.dat
  have hlt := get_lt hg
  have hp := hT.pos
  have hl4 := hT.len
  have hlen : lenOfV v = l.length := by rcases hv with ⟨rfl, rfl⟩ | ⟨b, o, rfl, _⟩ <;> rfl
  have hsl : isSl v = true := by rcases hv with ⟨rfl, rfl⟩ | ⟨b, o, rfl, _⟩ <;> rfl
  have zero : (k < 2 ∨ l.length ≤ pos) → NextPost tb v l k m (I 0) m := fun h => ⟨0, pos, rfl, Int.le_refl _, by omega, ⟨Nat.le_refl _, fun _ _ _ => rfl⟩, rfl, hT⟩
  by_cases h1 : (l.length : Int) ≤ pos
  · have h1' : l.length ≤ pos := by omega
    simp (disch := first | omega | (simp only [next_put, next_bump]; omega)) [ir37_b, hg, hlen, hsl, h1, h1', get_put_self, get_put_ne, get_bump, put_put, -lenOfV, -isSl]
    exact zero (.inr h1')
  have h1' : ¬ l.length ≤ pos := by omega
  by_cases h2 : k < 2
  · simp (disch := first | omega | (simp only [next_put, next_bump]; omega)) [ir37_b, hg, hlen, hsl, h1, h1', h2, get_put_self, get_put_ne, get_bump, put_put, -lenOfV, -isSl]
    exact zero (.inl h2)
  · obtain ⟨b, o, rfl, hne, hgb⟩ : ∃ b o, v = .slice (some ⟨b, 0, none⟩) l.length 1 ∧ b ≠ tb ∧ m.get b = some ⟨l.map (Value.int .u8 ·), o⟩ := by
      rcases hv with ⟨_, rfl⟩ | h
      · simp at h1
      · exact h
    have h3 : pos < l.length := by omega
    obtain ⟨x, hx⟩ : ∃ x, l[pos]? = some x := ⟨l[pos]'h3, by simp⟩
    have hx2 : ∀ h, l[pos]'h = x := fun h => by rw [List.getElem?_eq_getElem h] at hx; simpa using hx
    have hxb := hT.byte x (List.mem_of_getElem? hx)
    have w1 : IntKind.i64.wrap ((pos : Int) + 1) = (pos : Int) + 1 := i64_id (by omega) (by omega)
    have w2 : IntKind.i64.wrap (pos : Int) = pos := i64_id (by omega) (by omega)
    have w3 : IntKind.i64.wrap x = x := i64_id (by omega) (by omega)
    have w4 : IntKind.i64.wrap ((pos : Int) + 1 - 1) = pos := by rw [i64_id (by omega) (by omega)]; omega
    have e1 : x.tmod k = x % k := Int.tmod_eq_emod_of_nonneg hxb.1
    have k0 : ¬ k = 0 := by omega
    have h4 : pos + 1 ≤ l.length := h3
    simp (disch := first | omega | (simp only [next_put, next_bump]; omega)) [ir37_b, hg, h1, h1', h2, h3, h4, hgb, hx, hx2, hne, w1, w2, w3, w4, e1, k0, head_td, get_put_self, get_put_ne, get_bump, put_put]
    have hmod := Int.emod_nonneg x k0
    have hmod2 := Int.emod_lt_of_pos x (show 0 < k by omega)
    refine ⟨x % k, pos + 1, ?_, hmod, fun _ => hmod2, ⟨by simp, fun c hc hn => get_put_ne hn⟩, rfl, ⟨get_put_self hlt, .inr ⟨b, o, rfl, hne, by rw [get_put_ne hne]; exact hgb⟩, hT.byte, hT.len, by omega⟩⟩
    rfl
end Go.Proofs.Ytapnkfkpkcajjaa
