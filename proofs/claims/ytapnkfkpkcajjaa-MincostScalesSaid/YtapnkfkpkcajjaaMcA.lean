/-
  The queue of mincost: a heap of stops, as a list of pairs in memory; its own methods.
-/
import Derived.Test.YtapnkfkpkcajjaaIrC
import Derived.Test.YtapnkfkpkcajjaaMfA
namespace Go.Proofs.Ytapnkfkpkcajjaa
open Go Go.DI Go.Nets
set_option linter.unusedSimpArgs false
set_option linter.unusedVariables false

abbrev Stop := Int × Int
def stopC (s : Stop) : List Value := [I s.1, I s.2]
def stopsC (l : List Stop) : List Value := (l.map stopC).flatten
@[simp] theorem stopsC_len : ∀ (l : List Stop), (stopsC l).length = l.length * 2
  | [] => rfl
  | a :: l => by
    have := stopsC_len l
    simp only [stopsC, List.map_cons, List.flatten_cons, List.length_append, List.length_cons] at this ⊢
    rw [this]; simp [stopC]; omega
theorem stops_at : ∀ {l : List Stop} {i : Nat} {a : Stop}, l[i]? = some a → ((stopsC l).drop (i * 2)).take 2 = stopC a
  | [], _, _, h => by simp at h
  | b :: l, 0, a, h => by simp at h; subst h; rfl
  | b :: l, i + 1, a, h => by
    have := @stops_at l i a (by simpa using h)
    rw [← this, show (i + 1) * 2 = i * 2 + 2 by omega]
    simp [stopsC, stopC]
theorem stops_get {l : List Stop} {r : List Value} {i j : Nat} {a : Stop} (h : l[i]? = some a) (hj : j < 2) : (stopsC l ++ r)[i * 2 + j]? = (stopC a)[j]? := by
  have hi : i < l.length := (List.getElem?_eq_some_iff.1 h).1
  rw [List.getElem?_append_left (by simp; omega), ← stops_at h, List.getElem?_take, if_pos hj, List.getElem?_drop]
theorem stops_td {l : List Stop} {r : List Value} {i : Nat} {a : Stop} (h : l[i]? = some a) : ((stopsC l ++ r).drop (i * 2)).take 2 = stopC a := by
  have hi : i < l.length := (List.getElem?_eq_some_iff.1 h).1
  rw [← stops_at h, List.drop_append_of_le_length (by simp; omega), List.take_append_of_le_length (by simp; omega)]
theorem stopsC_append (l k : List Stop) : stopsC (l ++ k) = stopsC l ++ stopsC k := by simp [stopsC]
theorem stops_set : ∀ {l : List Stop} {r : List Value} {i : Nat} {a : Stop}, i < l.length → ((stopsC l ++ r).set (i * 2) (I a.1)).set (i * 2 + 1) (I a.2) = stopsC (l.set i a) ++ r
  | [], _, _, _, h => by simp at h
  | b :: l, r, 0, a, h => by simp [stopsC, stopC]
  | b :: l, r, i + 1, a, h => by
    have := @stops_set l r i a (by simpa using h)
    rw [show (i + 1) * 2 = i * 2 + 2 by omega]
    simp only [stopsC, stopC, List.map_cons, List.flatten_cons, List.cons_append, List.nil_append, List.set_cons_succ] at this ⊢
    rw [this]

/-- the queue at q: its stops lie in block b, at the front -/
structure Qu (m : Mem) (q b : Nat) (l : List Stop) : Prop where
  qq : m.get q = some ⟨[.slice (some ⟨b, 0, none⟩) l.length 2], true⟩
  bb : ∃ r, m.get b = some ⟨stopsC l ++ r, true⟩
  ne : q ≠ b

theorem qlen_wp {m : Mem} {b n : Nat} (Φ : Value → Mem → Prop) : WPCall Try.prog 53 [.slice (some ⟨b, 0, none⟩) n 2] m Φ = Φ (I n) m := by
  refine (Ret.of_wp ?_).wp
  rw [call53 (by simp)]
  simp [ir53_b]

theorem less_wp {m : Mem} {b : Nat} {l : List Stop} {r : List Value} {o : Bool} (hb : m.get b = some ⟨stopsC l ++ r, o⟩) {i j : Nat} {x y : Stop} (hi : l[i]? = some x) (hj : l[j]? = some y) (Φ : Value → Mem → Prop) :
    WPCall Try.prog 75 [.slice (some ⟨b, 0, none⟩) l.length 2, I i, I j] m Φ = Φ (.bool (decide (x.2 < y.2))) m := by
  have hil : i < l.length := (List.getElem?_eq_some_iff.1 hi).1
  have hjl : j < l.length := (List.getElem?_eq_some_iff.1 hj).1
  have e1 := stops_get (r := r) hi (j := 1) (by omega)
  have e2 := stops_get (r := r) hj (j := 1) (by omega)
  have n1 : i * 2 + 1 + 1 ≤ l.length * 2 + r.length := by omega
  have n2 : j * 2 + 1 + 1 ≤ l.length * 2 + r.length := by omega
  refine (Ret.of_wp ?_).wp
  rw [call75 (by simp)]
  simp (disch := omega) [ir75_b, hb, hil, hjl, n1, n2, addrOk, loadV, cellsAt, head_td, e1, e2, stopC]

theorem swap_wp {m : Mem} {b : Nat} {l : List Stop} {r : List Value} (hb : m.get b = some ⟨stopsC l ++ r, true⟩) {i j : Nat} {x y : Stop} (hi : l[i]? = some x) (hj : l[j]? = some y) (Φ : Value → Mem → Prop) :
    WPCall Try.prog 78 [.slice (some ⟨b, 0, none⟩) l.length 2, I i, I j] m Φ = Φ (.tuple #[]) (m.put b (some ⟨stopsC ((l.set i y).set j x) ++ r, true⟩)) := by
  have hil : i < l.length := (List.getElem?_eq_some_iff.1 hi).1
  have hjl : j < l.length := (List.getElem?_eq_some_iff.1 hj).1
  have e1 := stops_td (r := r) hi
  have e2 := stops_td (r := r) hj
  have n1 : i * 2 + 2 ≤ l.length * 2 + r.length := by omega
  have n2 : j * 2 + 2 ≤ l.length * 2 + r.length := by omega
  have hbn := get_lt hb
  have s1 := stops_set (r := r) (a := y) hil
  have s2 := stops_set (l := l.set i y) (r := r) (i := j) (a := x) (by simpa using hjl)
  refine (Ret.of_wp ?_).wp
  rw [call78 (by simp)]
  simp (disch := omega) [ir78_b, hb, hil, hjl, n1, n2, addrOk, addrOwn, loadV, storeM, cellsAt, e1, e2, stopC, get_put_self, put_put, s1, s2, hbn]

/-- all blocks but the queue's stand as they were -/
structure KeepQ (m m' : Mem) (q b b' : Nat) : Prop where
  next : m.next ≤ m'.next
  get : ∀ c, c < m.next → c ≠ q → c ≠ b → m'.get c = m.get c
  blk : b' = b ∨ m.next ≤ b'
def QPost (m : Mem) (q b : Nat) (l : List Stop) (m' : Mem) : Prop := ∃ b', Qu m' q b' l ∧ KeepQ m m' q b b'

theorem push_wp {m : Mem} {q b : Nat} {l : List Stop} (h : Qu m q b l) (hl : l.length < 1000000000) (s : Stop) (Φ : Value → Mem → Prop) (hΦ : ∀ m', QPost m q b (l ++ [s]) m' → Φ (.tuple #[]) m') :
    WPCall Try.prog 77 [ptr q, .iface 79 (.agg #[I s.1, I s.2])] m Φ := by
  obtain ⟨hq, ⟨r, hb⟩, hne⟩ := h
  have hqn := get_lt hq
  have hbn := get_lt hb
  rw [call77 (by simp)]
  have n1 : l.length * 2 ≤ l.length * 2 + r.length := by omega
  have n3 : (l.length + 1) * 16 ≤ 140737488355328 := by omega
  have n4 : l.length + 1 ≤ 9223372036854775807 := by omega
  have t1 : List.take (l.length * 2) (stopsC l ++ r) = stopsC l := by rw [List.take_append_of_le_length (by simp), List.take_of_length_le (by simp)]
  simp (disch := first | omega | (simp only [next_put, next_bump]; omega)) [ir77_b, hq, hb, addrOk, addrOwn, loadV, storeM, cellsAt, sliceOk, sliceOwn, sliceCells, kill, n1, n3, n4, get_put_self, get_put_ne, get_bump, put_put, regBump, t1]
  refine hΦ _ ⟨m.next + 7, ⟨?_, ⟨[], ?_⟩, by omega⟩, ⟨?_, fun c h1 h2 h3 => ?_, .inr (by omega)⟩⟩
  · rw [get_put_self (by simp only [next_put, next_bump]; omega)]; simp
  · rw [get_put_ne (by omega), get_put_self (by simp only [next_put, next_bump]; omega)]
    simp [stopsC_append, stopsC, stopC]
  · simp only [next_put, next_bump]; omega
  · rw [get_put_ne h2, get_put_ne (by omega), get_put_ne h3, get_put_ne (by omega), get_bump h1]

theorem pop_wp {m : Mem} {q b : Nat} {l : List Stop} {s : Stop} (h : Qu m q b (l ++ [s])) (hl : l.length < 1000000000) (Φ : Value → Mem → Prop) (hΦ : ∀ m', QPost m q b l m' → Φ (.iface 79 (.agg #[I s.1, I s.2])) m') :
    WPCall Try.prog 76 [ptr q] m Φ := by
  obtain ⟨hq, ⟨r, hb⟩, hne⟩ := h
  have hqn := get_lt hq
  have hbn := get_lt hb
  rw [call76 (by simp)]
  have e0 : ((l ++ [s]).length : Int) - 1 = (l.length : Int) := by simp
  have hw : IntKind.i64.wrap (l.length : Int) = (l.length : Int) := i64_id (by omega) (by omega)
  have e1 := stops_td (l := l ++ [s]) (r := r) (i := l.length) (a := s) (by simp)
  have n1 : l.length * 2 + 2 ≤ (l.length + 1) * 2 + r.length := by omega
  have n2 : (l.length : Int) < (l.length : Int) + 1 := by omega
  have n5 : (l.length : Int) ≤ (l.length : Int) + 1 := by omega
  simp only [List.length_append, List.length_cons, List.length_nil, Nat.zero_add] at hq
  simp (disch := first | omega | (simp only [next_put, next_bump]; omega)) [ir76_b, hq, hb, addrOk, addrOwn, loadV, storeM, cellsAt, e0, hw, e1, stopC, n1, n2, n5, get_put_self, get_put_ne, get_bump, put_put, regBump]
  refine hΦ _ ⟨b, ⟨?_, ⟨stopC s ++ r, ?_⟩, hne⟩, ⟨?_, fun c h1 h2 h3 => ?_, .inl rfl⟩⟩
  · rw [get_put_self (by simp only [next_put, next_bump]; omega)]
  · rw [get_put_ne (fun e => hne e.symm), get_put_ne (by omega), get_bump hbn, hb, stopsC_append]
    simp [stopsC]
  · simp only [next_put, next_bump]; omega
  · rw [get_put_ne h2, get_put_ne (by omega), get_bump h1]

end Go.Proofs.Ytapnkfkpkcajjaa
