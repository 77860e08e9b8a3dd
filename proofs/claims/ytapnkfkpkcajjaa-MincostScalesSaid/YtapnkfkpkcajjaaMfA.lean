/-
  Networks in memory; 'Valid', of the program and of the reference.
-/
import Derived.Test.YtapnkfkpkcajjaaIrA
import Derived.Test.YtapnkfkpkcajjaaFwZ
import Derived.Test.YtapnkfkpkcajjaaNet
namespace Go.Proofs.Ytapnkfkpkcajjaa
open Go Go.DI Go.Nets
set_option linter.unusedSimpArgs false
set_option linter.unusedVariables false

abbrev ptr (b : Nat) : Value := .pointer (some ⟨b, 0, none⟩)
abbrev I (n : Int) : Value := .int .i64 n
/-- nothing old is turned -/
structure Old (m m' : Mem) : Prop where
  next : m.next ≤ m'.next
  get : ∀ b, b < m.next → m'.get b = m.get b
theorem Old.refl (m : Mem) : Old m m := ⟨Nat.le_refl _, fun _ _ => rfl⟩
theorem Old.trans {a b c : Mem} (h : Old a b) (h' : Old b c) : Old a c := ⟨Nat.le_trans h.next h'.next, fun x hx => by rw [h'.get x (Nat.lt_of_lt_of_le hx h.next), h.get x hx]⟩
theorem Old.some {m m' : Mem} (h : Old m m') {b : Nat} {x : Blk} (hb : m.get b = some x) : m'.get b = .some x := by rw [h.get b (get_lt hb), hb]
theorem Old.bump {m m' : Mem} (h : Old m m') (k : Nat) : Old m (m'.bump k) := ⟨by have := h.next; simp only [next_bump]; omega, fun b hb => by have := h.next; rw [get_bump (by omega), h.get b hb]⟩
theorem Old.put {m m' : Mem} (h : Old m m') {i : Nat} {x : Option Blk} (hi : m.next ≤ i) : Old m (m'.put i x) := ⟨h.next, fun b hb => by rw [get_put_ne (by omega), h.get b hb]⟩

def arcC (a : Arc) : List Value := [I a.f, I a.t, I a.c, I a.k]
def arcsC (l : List Arc) : List Value := (l.map arcC).flatten
@[simp] theorem arcsC_len : ∀ (l : List Arc), (arcsC l).length = l.length * 4
  | [] => rfl
  | a :: l => by
    have := arcsC_len l
    simp only [arcsC, List.map_cons, List.flatten_cons, List.length_append, List.length_cons] at this ⊢
    rw [this]; simp [arcC]; omega
theorem arcs_at : ∀ {l : List Arc} {i : Nat} {a : Arc}, l[i]? = some a → ((arcsC l).drop (i * 4)).take 4 = arcC a
  | [], _, _, h => by simp at h
  | b :: l, 0, a, h => by simp at h; subst h; rfl
  | b :: l, i + 1, a, h => by
    have := @arcs_at l i a (by simpa using h)
    rw [← this, show (i + 1) * 4 = i * 4 + 4 by omega]
    simp [arcsC, arcC]
theorem arcs_get {l : List Arc} {i j : Nat} {a : Arc} (h : l[i]? = some a) (hj : j < 4) : (arcsC l)[i * 4 + j]? = (arcC a)[j]? := by
  rw [← arcs_at h, List.getElem?_take, if_pos hj, List.getElem?_drop]
def Arcs (m : Mem) (v : Value) (l : List Arc) : Prop := (v = .slice none 0 0 ∧ l = []) ∨ ∃ b o, v = .slice (some ⟨b, 0, none⟩) l.length 4 ∧ m.get b = some ⟨arcsC l, o⟩
def Ints (m : Mem) (v : Value) (l : List Int) : Prop := (v = .slice none 0 0 ∧ l = []) ∨ ∃ b o, v = .slice (some ⟨b, 0, none⟩) l.length 1 ∧ m.get b = some ⟨l.map (Value.int .i64 ·), o⟩
def Bools (m : Mem) (v : Value) (l : List Bool) : Prop := (v = .slice none 0 0 ∧ l = []) ∨ ∃ b o, v = .slice (some ⟨b, 0, none⟩) l.length 1 ∧ m.get b = some ⟨l.map (Value.bool ·), o⟩
section
variable {m m' : Mem} {v : Value}
theorem Arcs.mono {l : List Arc} (h : Arcs m v l) (ho : Old m m') : Arcs m' v l := by
  rcases h with h | ⟨b, o, h1, h2⟩
  · exact .inl h
  · exact .inr ⟨b, o, h1, ho.some h2⟩
theorem Ints.mono {l : List Int} (h : Ints m v l) (ho : Old m m') : Ints m' v l := by
  rcases h with h | ⟨b, o, h1, h2⟩
  · exact .inl h
  · exact .inr ⟨b, o, h1, ho.some h2⟩
theorem Bools.mono {l : List Bool} (h : Bools m v l) (ho : Old m m') : Bools m' v l := by
  rcases h with h | ⟨b, o, h1, h2⟩
  · exact .inl h
  · exact .inr ⟨b, o, h1, ho.some h2⟩
theorem Arcs.len {l : List Arc} (h : Arcs m v l) : lenOfV v = l.length ∧ isSl v = true := by
  rcases h with ⟨rfl, rfl⟩ | ⟨b, o, rfl, _⟩ <;> exact ⟨rfl, rfl⟩
theorem Ints.len {l : List Int} (h : Ints m v l) : lenOfV v = l.length ∧ isSl v = true := by
  rcases h with ⟨rfl, rfl⟩ | ⟨b, o, rfl, _⟩ <;> exact ⟨rfl, rfl⟩
theorem Bools.len {l : List Bool} (h : Bools m v l) : lenOfV v = l.length ∧ isSl v = true := by
  rcases h with ⟨rfl, rfl⟩ | ⟨b, o, rfl, _⟩ <;> exact ⟨rfl, rfl⟩
theorem Arcs.blk {l : List Arc} (h : Arcs m v l) {i : Nat} (hi : i < l.length) : ∃ b o, v = .slice (some ⟨b, 0, none⟩) l.length 4 ∧ m.get b = some ⟨arcsC l, o⟩ := by
  rcases h with ⟨_, rfl⟩ | h
  · simp at hi
  · exact h
theorem Ints.blk {l : List Int} (h : Ints m v l) {i : Nat} (hi : i < l.length) : ∃ b o, v = .slice (some ⟨b, 0, none⟩) l.length 1 ∧ m.get b = some ⟨l.map (Value.int .i64 ·), o⟩ := by
  rcases h with ⟨_, rfl⟩ | h
  · simp at hi
  · exact h
theorem Bools.blk {l : List Bool} (h : Bools m v l) {i : Nat} (hi : i < l.length) : ∃ b o, v = .slice (some ⟨b, 0, none⟩) l.length 1 ∧ m.get b = some ⟨l.map (Value.bool ·), o⟩ := by
  rcases h with ⟨_, rfl⟩ | h
  · simp at hi
  · exact h
end
theorem head_td {l : List Value} {k : Nat} : (List.take 1 (List.drop k l)).head? = l[k]? := by
  cases h : l.drop k with
  | nil => rw [List.drop_eq_nil_iff] at h; rw [List.getElem?_eq_none h]; rfl
  | cons x xs => simp; rw [← List.head?_drop, h]; rfl
/-- a network's four cells -/
abbrev netC (n : Net) (v : Value) : List Value := [I n.nodes, I n.src, I n.snk, v]
abbrev netV (n : Net) (v : Value) : Value := .agg #[I n.nodes, I n.src, I n.snk, v]

def nodeB (n : Net) (x : Int) : Bool := decide (0 ≤ x) && decide (x < n.nodes)
def arcB (n : Net) (a : Arc) : Bool := nodeB n a.f && nodeB n a.t && !decide (a.c < 0) && !decide (2147483647 < a.c)
def validB (n : Net) : Bool := !decide (n.nodes < 2) && !decide (700 < n.nodes) && !decide (2500 < n.arcs.length) && nodeB n n.src && nodeB n n.snk && !decide (n.src = n.snk) && n.arcs.all (arcB n)
theorem nodeB_iff {n : Net} {x : Int} : nodeB n x = true ↔ n.node x := by simp [nodeB, Net.node]
theorem validB_iff {n : Net} : validB n = true ↔ n.Valid := by
  simp only [validB, Bool.and_eq_true, Bool.not_eq_true', decide_eq_false_iff_not, List.all_eq_true, nodeB_iff, arcB]
  constructor
  · rintro ⟨⟨⟨⟨⟨⟨h1, h2⟩, h3⟩, h4⟩, h5⟩, h6⟩, h7⟩
    exact ⟨by omega, by omega, by omega, h4, h5, h6, fun a ha => by obtain ⟨⟨⟨a1, a2⟩, a3⟩, a4⟩ := h7 a ha; exact ⟨a1, a2, by omega, by omega⟩⟩
  · rintro ⟨h1, h2, h3, h4, h5, h6, h7⟩
    exact ⟨⟨⟨⟨⟨⟨by omega, by omega⟩, by omega⟩, h4⟩, h5⟩, h6⟩, fun a ha => by obtain ⟨a1, a2, a3, a4⟩ := h7 a ha; exact ⟨⟨⟨a1, a2⟩, by omega⟩, by omega⟩⟩

theorem node_wp {n : Net} {v : Value} {b : Nat} {m : Mem} {o : Bool} (h : m.get b = some ⟨netC n v, o⟩) (x : Int) (Φ : Value → Mem → Prop) : WPCall Try.prog 43 [I x, ptr b] m Φ = Φ (.bool (nodeB n x)) m := by
  refine (Ret.of_wp ?_).wp
  rw [call43 (by simp)]
  by_cases h1 : 0 ≤ x <;> by_cases h2 : x < n.nodes <;> simp [ir43_b, h, h1, h2, nodeB]

set_option maxHeartbeats 2000000 in
theorem valid_loop {n : Net} {v : Value} {b : Nat} {m0 : Mem} (hn : m0.get b = some ⟨netC n v, true⟩) (hv : Arcs m0 v n.arcs) (hl : n.arcs.length < 100000) {Q : IExit → Slots → Mem → Prop} : ∀ (r i : Nat) (m : Mem) (σ : Slots), i + r = n.arcs.length → Old m0 m →
    σ 43 = v → σ 44 = I n.arcs.length → σ 45 = I i → σ 3 = .func (.func 43) #[] #[ptr b] →
    (∀ σ' m', Old m0 m' → (n.arcs.drop i).all (arcB n) = true → Q (.exit 0) σ' m') → (∀ σ' m', Old m0 m' → (n.arcs.drop i).all (arcB n) = false → σ' 2 = .bool false → Q .ret σ' m') → WP Try.prog (.loop ir21_l0) σ m Q
  | 0, i, m, σ, hi, ho, s43, s44, s45, s3, hQ, hR => by
    refine wp_round fun J hJ => ?_
    have h1 : ¬ i < n.arcs.length := by omega
    simp [ir21_l0, s44, s45, h1]
    exact hQ _ _ ho (by rw [List.drop_of_length_le (by omega)]; rfl)
  | r + 1, i, m, σ, hi, ho, s43, s44, s45, s3, hQ, hR => by
    refine wp_round fun J hJ => ?_
    have h1 : i < n.arcs.length := by omega
    obtain ⟨a, ha⟩ : ∃ a, n.arcs[i]? = some a := ⟨n.arcs[i]'h1, by simp⟩
    have hdrop : n.arcs.drop i = a :: n.arcs.drop (i + 1) := by
      rw [List.drop_eq_getElem_cons h1]; rw [List.getElem?_eq_getElem h1] at ha; cases ha; rfl
    obtain ⟨c, o, rfl, hc⟩ := hv.blk h1
    have hgc := ho.some hc
    have hgb := ho.some hn
    have hlb := get_lt hgb
    have hlc := get_lt hgc
    have hn0 := ho.next
    have hb0 := get_lt hn
    have hb : i * 4 + 4 ≤ n.arcs.length * 4 := by omega
    have c4 := arcs_at ha
    have w0 : IntKind.i64.wrap ((i : Int) + 1) = (i : Int) + 1 := i64_id (by omega) (by omega)
    have hnode : ∀ (x : Int) (k : Nat) (y : Blk) (Φ : Value → Mem → Prop), WPCall Try.prog 43 [I x, ptr b] ((m.bump 4).put (m.next + 2) (some y)) Φ = Φ (.bool (nodeB n x)) ((m.bump 4).put (m.next + 2) (some y)) := fun x k y Φ =>
      node_wp (by rw [get_put_ne (by omega), get_bump hlb]; exact hgb) x Φ
    have hnode := fun x y Φ => hnode x 0 y Φ
    have next : ∀ (σ' : Slots) (m' : Mem), arcB n a = true → Old m0 m' → σ' 43 = .slice (some ⟨c, 0, none⟩) n.arcs.length 4 → σ' 44 = I n.arcs.length → σ' 45 = I ((i : Int) + 1) → σ' 3 = .func (.func 43) #[] #[ptr b] → J σ' m' := by
      intro σ' m' hok ho' q43 q44 q45 q3
      refine hJ _ _ (valid_loop hn hv hl r (i + 1) m' σ' (by omega) ho' q43 q44 (by rw [q45]; simp) q3 (fun σ'' m'' g1 g2 => hQ _ _ g1 ?_) (fun σ'' m'' g1 g2 g3 => hR _ _ g1 ?_ g3))
      · rw [hdrop, List.all_cons, hok, g2]; rfl
      · rw [hdrop, List.all_cons, hok, g2]; rfl
    have stop : ∀ (σ' : Slots) (m' : Mem), arcB n a = false → Old m0 m' → σ' 2 = .bool false → Q .ret σ' m' := fun σ' m' hno ho' q2 => hR _ _ ho' (by rw [hdrop, List.all_cons, hno]; rfl) q2
    have ho2 : ∀ y, Old m0 ((m.bump 4).put (m.next + 2) (some y)) := fun y => (ho.bump 4).put (by omega)
    cases k1 : nodeB n a.f
    · simp (disch := first | omega | (simp only [next_put, next_bump]; omega)) [ir21_l0, s43, s44, s45, s3, h1, hgc, hb, c4, arcC, get_put_self, get_put_ne, get_bump, put_put, hnode, k1]
      exact stop _ _ (by simp [arcB, k1]) (ho2 _) (by simp)
    cases k2 : nodeB n a.t
    · simp (disch := first | omega | (simp only [next_put, next_bump]; omega)) [ir21_l0, s43, s44, s45, s3, h1, hgc, hb, c4, arcC, get_put_self, get_put_ne, get_bump, put_put, hnode, k1, k2]
      exact stop _ _ (by simp [arcB, k2]) (ho2 _) (by simp)
    by_cases k3 : a.c < 0
    · simp (disch := first | omega | (simp only [next_put, next_bump]; omega)) [ir21_l0, s43, s44, s45, s3, h1, hgc, hb, c4, arcC, get_put_self, get_put_ne, get_bump, put_put, hnode, k1, k2, k3]
      exact stop _ _ (by simp [arcB, k3]) (ho2 _) (by simp)
    by_cases k4 : 2147483647 < a.c
    · simp (disch := first | omega | (simp only [next_put, next_bump]; omega)) [ir21_l0, s43, s44, s45, s3, h1, hgc, hb, c4, arcC, get_put_self, get_put_ne, get_bump, put_put, hnode, k1, k2, k3, k4]
      exact stop _ _ (by simp [arcB, k4]) (ho2 _) (by simp)
    · simp (disch := first | omega | (simp only [next_put, next_bump]; omega)) [ir21_l0, s43, s44, s45, s3, h1, hgc, hb, c4, arcC, get_put_self, get_put_ne, get_bump, put_put, hnode, k1, k2, k3, k4, w0]
      exact next _ _ (by simp [arcB, k1, k2, k3, k4]) (ho2 _) (by simp [s43]) (by simp [s44]) (by simp) (by simp [s3])
end Go.Proofs.Ytapnkfkpkcajjaa
