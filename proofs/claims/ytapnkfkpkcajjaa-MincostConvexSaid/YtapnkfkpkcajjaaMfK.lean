/-
  'Solve': all rows of arcs.
-/
import Derived.Test.YtapnkfkpkcajjaaMfJ
namespace Go.Proofs.Ytapnkfkpkcajjaa
open Go Go.DI Go.Nets
set_option linter.unusedSimpArgs false
set_option linter.unusedVariables false

def bld : List Arc → Nat → (Int → List Int) → (Int → List Int)
  | [], _, o => o
  | a :: l, i, o => bld l (i + 1) (setF (setF o a.f (o a.f ++ [(i : Int)])) a.t (setF o a.f (o a.f ++ [(i : Int)]) a.t ++ [-1 - (i : Int)]))
structure OutInv (n : Net) (i : Nat) (o : Int → List Int) : Prop where
  from_ : ∀ x, ∀ z ∈ o x, (dec z).1 < i ∧ stF n (dec z) = x ∧ -2500 ≤ z ∧ z ≤ 2500
  all : ∀ e : St, e.1 < i → ∃ z ∈ o (stF n e), dec z = e
  len : ∀ x, (o x).length ≤ 2 * i
theorem setF_mem {o : Int → List Int} {y : Int} {c z : Int} {x : Int} : z ∈ setF o y (o y ++ [c]) x ↔ z ∈ o x ∨ (x = y ∧ z = c) := by
  unfold setF
  by_cases h : x = y
  · subst h; simp
  · simp [h]
theorem setF_len {o : Int → List Int} {y : Int} {c : Int} {x : Int} : (setF o y (o y ++ [c]) x).length ≤ (o x).length + 1 := by
  unfold setF; split
  · rename_i h; subst h; simp
  · omega
theorem dec_nat (i : Nat) : dec (i : Int) = (i, true) := by simp [dec]
theorem dec_neg (i : Nat) : dec (-1 - (i : Int)) = (i, false) := by
  have := dec_enc (i, false)
  simpa [Nets.enc] using this
theorem OutInv.step {n : Net} {i : Nat} {o : Int → List Int} {a : Arc} (h : OutInv n i o) (ha : n.arcs[i]? = some a) (hi : i < 2500) :
    OutInv n (i + 1) (setF (setF o a.f (o a.f ++ [(i : Int)])) a.t (setF o a.f (o a.f ++ [(i : Int)]) a.t ++ [-1 - (i : Int)])) := by
  have f1 : stF n (i, true) = a.f := by simp [stF, ha]
  have f2 : stF n (i, false) = a.t := by simp [stF, ha]
  refine ⟨fun x z hz => ?_, fun e he => ?_, fun x => ?_⟩
  · rw [setF_mem, setF_mem] at hz
    rcases hz with (hz | ⟨rfl, rfl⟩) | ⟨rfl, rfl⟩
    · obtain ⟨g1, g2, g3⟩ := h.from_ x z hz; exact ⟨by omega, g2, g3⟩
    · rw [dec_nat]; exact ⟨by simp, f1, by omega, by omega⟩
    · rw [dec_neg]; exact ⟨by simp, f2, by omega, by omega⟩
  · by_cases hl : e.1 < i
    · obtain ⟨z, g1, g2⟩ := h.all e hl
      exact ⟨z, by rw [setF_mem, setF_mem]; exact .inl (.inl g1), g2⟩
    · obtain ⟨j, b⟩ := e
      simp only at he hl
      obtain rfl : j = i := by omega
      cases b
      · exact ⟨-1 - (j : Int), by rw [f2, setF_mem]; exact .inr ⟨rfl, rfl⟩, dec_neg j⟩
      · exact ⟨(j : Int), by rw [f1, setF_mem, setF_mem]; exact .inl (.inr ⟨rfl, rfl⟩), dec_nat j⟩
  · have h1 := @setF_len (setF o a.f (o a.f ++ [(i : Int)])) a.t (-1 - (i : Int)) x
    have h2 := @setF_len o a.f (i : Int) x
    have := h.len x
    omega
theorem Outs2.mono {o : Int → List Int} {ub N lo : Nat} {B : Int → Nat} {m m' : Mem} (h : Outs2 o ub N lo B m) (ho : ∀ b x, m.get b = some x → m'.get b = some x) : Outs2 o ub N lo B m' :=
  ⟨ho _ _ h.u, fun k hk hne => ⟨ho _ _ (h.get k hk hne).1, (h.get k hk hne).2⟩, h.inj⟩

set_option maxHeartbeats 4000000 in
set_option maxRecDepth 20000 in
theorem out_loop {n : Net} (hV : n.Valid) {N : Nat} (hN : n.nodes = N) {fl : List Int} {v : Value} {sb fb ub lo : Nat} {m0 : Mem} (hv : Arcs m0 v n.arcs) (hsb : m0.get sb = some ⟨[I n.nodes, I n.src, I n.snk, v, .slice (some ⟨fb, 0, none⟩) fl.length 1, .slice (some ⟨ub, 0, none⟩) N 1], true⟩) (hub : ub < lo) (hsl : sb < lo) (hsu : sb ≠ ub) (hva : ∀ b l c, v = .slice (some ⟨b, 0, none⟩) l c → b < lo ∧ b ≠ ub) {Q : IExit → Slots → Mem → Prop} :
    ∀ (r i : Nat) (m : Mem) (σ : Slots) (o : Int → List Int) (B : Int → Nat), i + r = n.arcs.length → lo ≤ m.next → (∀ b, b < lo → b ≠ ub → m.get b = m0.get b) → Outs2 o ub N lo B m → OutInv n i o →
    σ 26 = v → σ 27 = I n.arcs.length → σ 28 = I i → σ 6 = ptr sb →
    (∀ σ' m' o' B', (∀ t, t < 7 → σ' t = σ t) → m.next ≤ m'.next → (∀ b, b < lo → b ≠ ub → m'.get b = m0.get b) → Outs2 o' ub N lo B' m' → OutInv n n.arcs.length o' → Q (.exit 0) σ' m') → WP Try.prog (.loop ir25_l0) σ m Q
  | 0, i, m, σ, o, B, hi, hlo, hold, hO, hI, s26, s27, s28, s6, hQ => by
    refine wp_round fun J hJ => ?_
    have h1 : ¬ i < n.arcs.length := by omega
    obtain rfl : i = n.arcs.length := by omega
    simp (disch := first | omega | (simp only [next_put, next_bump]; omega)) [ir25_l0_n, s27, s28, h1, get_put_self, get_put_ne, get_bump, put_put]
    exact hQ _ _ o B (fun t ht => by simp (disch := omega) only [upd_ne]) (Nat.le_refl _) hold hO hI
  | r + 1, i, m, σ, o, B, hi, hlo, hold, hO, hI, s26, s27, s28, s6, hQ => by
    refine wp_round fun J hJ => ?_
    have h1 : i < n.arcs.length := by omega
    obtain ⟨a, ha⟩ : ∃ a, n.arcs[i]? = some a := ⟨n.arcs[i]'h1, by simp⟩
    obtain ⟨c, oo, rfl, hc⟩ := hv.blk h1
    obtain ⟨hva1, hva2⟩ := hva _ _ _ rfl
    have hgc := hold c hva1 hva2
    rw [hc] at hgc
    have hgs := hold sb hsl hsu
    rw [hsb] at hgs
    have hb : i * 4 + 4 ≤ n.arcs.length * 4 := by omega
    have c4 := arcs_at ha
    have hal := hV.al
    obtain ⟨a1, a2, a3, a4⟩ := hV.arc a (List.mem_of_getElem? ha)
    have w0 : IntKind.i64.wrap ((i : Int) + 1) = (i : Int) + 1 := i64_id (by omega) (by omega)
    have lc := get_lt hgc
    have ls := get_lt hgs
    simp (disch := first | omega | (simp only [next_put, next_bump]; omega)) [ir25_l0_n, s26, s27, s28, h1, hgc, hb, c4, arcC, get_put_self, get_put_ne, get_bump, put_put]
    have old1 : ∀ b x, m.get b = some x → ((m.bump 6).put (m.next + 3) (some ⟨[I a.f, I a.t, I a.c, I a.k], true⟩)).get b = some x := fun b x hb => by
      have := get_lt hb
      rw [get_put_ne (by omega), get_bump this, hb]
    have hBlt : ∀ k : Nat, k < N → o k ≠ [] → B k < m.next ∧ lo ≤ B k := fun k hk hne => ⟨get_lt (hO.get k hk hne).1, (hO.get k hk hne).2⟩
    have lu := get_lt hO.u
    refine ir25_r1_wp (a := a) (o := o) (B := B) (ab := m.next + 3) (i := i) hV hN (by omega) (old1 _ _ hgs) (get_put_self (by simp)) (hO.mono old1) hub hsl hsu (by simp only [next_put, next_bump]; omega) a1 (by have := hI.len a.f; omega) (fun k hk hne => by have := hBlt k hk hne; omega) (by omega) (by simp [s6]) (by simp) (by simp) fun σ1 m1 B1 g1 g2 g3 g4 g5 => ?_
    simp only [next_put, next_bump] at g2
    simp only [thenK_normal]
    have hab1 : m1.get (m.next + 3) = some ⟨arcC a, true⟩ := by
      rw [g3 _ (by simp only [next_put, next_bump]; omega) (by omega) (fun k hk hne => by have := hBlt k hk hne; omega)]
      exact get_put_self (by simp)
    have hsb1 : m1.get sb = some ⟨[I n.nodes, I n.src, I n.snk, .slice (some ⟨c, 0, none⟩) n.arcs.length 4, .slice (some ⟨fb, 0, none⟩) fl.length 1, .slice (some ⟨ub, 0, none⟩) N 1], true⟩ := by
      rw [g3 _ (by simp only [next_put, next_bump]; omega) hsu (fun k hk hne => by have := hBlt k hk hne; omega)]
      exact old1 _ _ hgs
    refine ir25_r2_wp (a := a) (B := B1) (ab := m.next + 3) (i := i) hV hN (by omega) hsb1 hab1 g4 hub hsl hsu (by omega) a2 (by have := hI.len a.t; have := @setF_len o a.f (i : Int) a.t; omega) g5 (by omega) (by rw [g1 6 (by omega)]; simp [s6]) (by rw [g1 8 (by omega)]; simp) (by rw [g1 7 (by omega)]; simp) fun σ2 m2 B2 f1 f2 f3 f4 f5 => ?_
    have q : ∀ t, t < 33 → σ2 t = σ1 t := fun t ht => f1 t (by omega)
    have q28 : σ2 28 = I i := by rw [q 28 (by omega), g1 28 (by omega)]; simp [s28]
    have q26 : σ2 26 = .slice (some ⟨c, 0, none⟩) n.arcs.length 4 := by rw [q 26 (by omega), g1 26 (by omega)]; simp [s26]
    have q27 : σ2 27 = I n.arcs.length := by rw [q 27 (by omega), g1 27 (by omega)]; simp [s27]
    have q6 : σ2 6 = ptr sb := by rw [q 6 (by omega), g1 6 (by omega)]; simp [s6]
    have ql : ∀ t, t < 7 → σ2 t = σ t := fun t ht => by
      rw [q t (by omega), g1 t (by omega)]; simp (disch := omega) only [upd_ne]
    simp (disch := first | omega | (simp only [next_put, next_bump]; omega)) [q28, w0, get_put_self, get_put_ne, get_bump, put_put]
    have hg5 : ∀ k : Nat, k < N → setF o a.f (o a.f ++ [(i : Int)]) k ≠ [] → lo ≤ B1 k := fun k hk hne => (g4.get k hk hne).2
    refine hJ _ _ (out_loop hV hN hv hsb hub hsl hsu hva r (i + 1) m2 _ _ B2 (by omega) (by omega) (fun b hb1 hb2 => ?_) f4 (hI.step ha (by omega)) (by simp [q26]) (by simp [q27]) (by simp) (by simp [q6]) (fun σ' m' o' B' e1 e2 e3 e4 e5 => hQ σ' m' o' B' (fun t ht => ?_) (by omega) e3 e4 e5))
    · rw [f3 b (by omega) hb2 (fun k hk hne => by have := hg5 k hk hne; omega), g3 b (by simp only [next_put, next_bump]; omega) hb2 (fun k hk hne => by have := hBlt k hk hne; omega)]
      rw [get_put_ne (by omega), get_bump (by omega)]
      exact hold b hb1 hb2
    · rw [e1 t ht]; simp (disch := omega) only [upd_ne]; exact ql t ht
end Go.Proofs.Ytapnkfkpkcajjaa
