/-
  'augment'.
-/
import Derived.Test.YtapnkfkpkcajjaaMfH
namespace Go.Proofs.Ytapnkfkpkcajjaa
open Go Go.DI Go.Nets
set_option linter.unusedSimpArgs false
set_option linter.unusedVariables false

theorem ints_set (k : IntKind) : ∀ (l : List Int) (i : Nat) (c : Int), (l.map (Value.int k ·)).set i (.int k c) = (l.set i c).map (Value.int k ·)
  | [], _, _ => rfl
  | x :: l, 0, c => rfl
  | x :: l, i + 1, c => congrArg (List.cons _) (ints_set k l i c)
theorem Sr.putF {n : Net} {fl fl' : List Int} {v : Value} {sb fb ub N : Nat} {m : Mem} (h : Sr n fl v sb fb ub N m) (h1 : sb ≠ fb) (h2 : ∀ b l c, v = .slice (some ⟨b, 0, none⟩) l c → b ≠ fb) (h3 : fl'.length = fl.length) :
    Sr n fl' v sb fb ub N (m.put fb (some ⟨fl'.map (Value.int .i64 ·), true⟩)) := by
  refine ⟨?_, ?_, get_put_self (get_lt h.f)⟩
  · rw [get_put_ne h1, h3]; exact h.s
  · rcases h.a with h | ⟨b, o, g1, g2⟩
    · exact .inl h
    · exact .inr ⟨b, o, g1, by rw [get_put_ne (h2 _ _ _ g1)]; exact g2⟩

def amt (d r : Int) : Int := if d < 0 ∨ r < d then r else d
def amtAll (n : Net) (fl : List Int) (d : Int) (l : List St) : Int := l.foldl (fun d e => amt d (room n fl e)) d
theorem amtAll_spec {n : Net} {fl : List Int} : ∀ (l : List St) (d : Int), (∀ e ∈ l, 0 < room n fl e) → (d = -1 ∨ 0 < d) → (amtAll n fl d l = -1 ∧ l = [] ∧ d = -1) ∨ (0 < amtAll n fl d l ∧ (0 < d → amtAll n fl d l ≤ d) ∧ ∀ e ∈ l, amtAll n fl d l ≤ room n fl e)
  | [], d, _, hd => by
    rcases hd with rfl | hd
    · exact .inl ⟨rfl, rfl, rfl⟩
    · exact .inr ⟨hd, fun _ => Int.le_refl _, by simp⟩
  | e :: l, d, hr, hd => by
    have hr0 := hr e (by simp)
    have h1 : 0 < amt d (room n fl e) := by unfold amt; split <;> omega
    have := amtAll_spec l (amt d (room n fl e)) (fun e he => hr e (by simp [he])) (.inr h1)
    have e1 : amtAll n fl d (e :: l) = amtAll n fl (amt d (room n fl e)) l := rfl
    rw [e1]
    right
    rcases this with ⟨_, _, h⟩ | ⟨g1, g2, g3⟩
    · omega
    · have := g2 h1
      refine ⟨g1, fun hd => ?_, fun e' he' => ?_⟩
      · have : amt d (room n fl e) ≤ d := by unfold amt; split <;> omega
        omega
      · rcases List.mem_cons.1 he' with rfl | he'
        · have : amt d (room n fl e') ≤ room n fl e' := by unfold amt; split <;> omega
          omega
        · exact g3 e' he'

theorem path_nil {n : Net} {by_ : Int → St} {x : Int} (h : Path n by_ x []) : x = n.src := by cases h; rfl
theorem path_head {n : Net} (hV : n.Valid) {byf : Int → Int} {fl : List Int} {x : Int} {e : St} {l : List St} (hp : Path n (fun x => dec (byf x)) x (e :: l)) (hr : 0 < room n fl e) :
    x ≠ n.src ∧ e = dec (byf x) ∧ stT n e = x ∧ Path n (fun x => dec (byf x)) (stF n e) l ∧ n.node x ∧ e.1 < n.arcs.length := by
  cases hp with
  | cons hx ht hp =>
    obtain ⟨a, φ, ha, _⟩ := room_pos hr
    have hl := (List.getElem?_eq_some_iff.1 ha).1
    exact ⟨hx, rfl, ht, hp, by have := (st_node hV hl).2; rw [ht] at this; exact this, hl⟩

set_option maxHeartbeats 4000000 in
set_option maxRecDepth 20000 in
theorem aug_loop0 {n : Net} (hV : n.Valid) {N : Nat} (hN : n.nodes = N) {fl : List Int} (hbd : Bnd n fl) {v : Value} {sb fb ub bb : Nat} {byf : Int → Int} {m : Mem} (hS : Sr n fl v sb fb ub N m) (hb : m.get bb = some ⟨rowI N byf, true⟩) {Q : IExit → Slots → Mem → Prop} :
    ∀ (l : List St) (x d : Int) (σ : Slots), Path n (fun x => dec (byf x)) x l → (∀ e ∈ l, 0 < room n fl e) → σ 0 = ptr sb → σ 1 = .slice (some ⟨bb, 0, none⟩) N 1 → σ 5 = I d → σ 6 = I x →
    (∀ σ', σ' 0 = ptr sb → σ' 1 = .slice (some ⟨bb, 0, none⟩) N 1 → σ' 5 = I (amtAll n fl d l) → Q (.exit 0) σ' m) → WP Try.prog (.loop ir45_l0) σ m Q
  | [], x, d, σ, hp, hr, s0, s1, s5, s6, hQ => by
    refine wp_round fun J hJ => ?_
    have hs := hS.s
    cases hp
    simp (disch := first | omega | (simp only [next_put, next_bump]; omega)) [ir45_l0, s0, s1, s5, s6, hs, get_put_self, get_put_ne, get_bump, put_put]
    exact hQ _ (by simp [s0]) (by simp [s1]) (by simp [s5, amtAll])
  | e :: l, x, d, σ, hp, hr, s0, s1, s5, s6, hQ => by
    refine wp_round fun J hJ => ?_
    have hs := hS.s
    obtain ⟨hx, he, ht, hp', hnx, hel⟩ := path_head hV hp (hr e (by simp))
    obtain ⟨x1, x2⟩ := hnx
    obtain ⟨k, rfl⟩ : ∃ k : Nat, x = k := ⟨x.toNat, by omega⟩
    have x3 : k < N := by omega
    have x4 : k + 1 ≤ N := x3
    have hri : (rowI N byf)[k]? = some (I (byf k)) := rowI_get x3
    have hc1 : ∀ Φ : Value → Mem → Prop, WPCall Try.prog 51 [ptr sb, I (byf k)] m Φ = Φ (.tuple #[I (stT n e), I (room n fl e)]) m := fun Φ => by rw [he]; exact (ends_ret hV hbd hS (by rw [← he]; exact hel)).wp
    have hc2 : ∀ Φ : Value → Mem → Prop, WPCall Try.prog 52 [ptr sb, I (byf k)] m Φ = Φ (I (stF n e)) m := fun Φ => by rw [he]; exact (back_ret hV hS (by rw [← he]; exact hel)).wp
    have next : ∀ (σ' : Slots), σ' 0 = ptr sb → σ' 1 = .slice (some ⟨bb, 0, none⟩) N 1 → σ' 5 = I (amt d (room n fl e)) → σ' 6 = I (stF n e) → J σ' m := fun σ' q0 q1 q5 q6 =>
      hJ _ _ (aug_loop0 hV hN hbd hS hb l _ _ σ' hp' (fun e he => hr e (by simp [he])) q0 q1 q5 q6 hQ)
    by_cases k1 : d < 0
    · simp (disch := first | omega | (simp only [next_put, next_bump]; omega)) [ir45_l0, s0, s1, s5, s6, hs, hx, hb, hri, head_td, x3, x4, hc1, hc2, k1, get_put_self, get_put_ne, get_bump, put_put]
      exact next _ (by simp [s0]) (by simp [s1]) (by simp [amt, k1]) (by simp)
    by_cases k2 : room n fl e < d
    · simp (disch := first | omega | (simp only [next_put, next_bump]; omega)) [ir45_l0, s0, s1, s5, s6, hs, hx, hb, hri, head_td, x3, x4, hc1, hc2, k1, k2, get_put_self, get_put_ne, get_bump, put_put]
      exact next _ (by simp [s0]) (by simp [s1]) (by simp [amt, k2]) (by simp)
    · simp (disch := first | omega | (simp only [next_put, next_bump]; omega)) [ir45_l0, s0, s1, s5, s6, hs, hx, hb, hri, head_td, x3, x4, hc1, hc2, k1, k2, get_put_self, get_put_ne, get_bump, put_put]
      exact next _ (by simp [s0]) (by simp [s1]) (by simp [s5, amt, k1, k2]) (by simp)

set_option maxHeartbeats 4000000 in
set_option maxRecDepth 20000 in
theorem aug_loop1 {n : Net} (hV : n.Valid) {N : Nat} (hN : n.nodes = N) {v : Value} {sb fb ub bb : Nat} {byf : Int → Int} {d : Int} (hd : 0 ≤ d) (h1 : sb ≠ fb) (h2 : ∀ b l c, v = .slice (some ⟨b, 0, none⟩) l c → b ≠ fb) (h3 : bb ≠ fb) {Q : IExit → Slots → Mem → Prop} :
    ∀ (l : List St) (x : Int) (fl : List Int) (m : Mem) (σ : Slots), Path n (fun x => dec (byf x)) x l → Bnd n fl → (∀ e ∈ l, 0 < room n fl e ∧ d ≤ room n fl e) → (l.map Prod.fst).Nodup → Sr n fl v sb fb ub N m → m.get bb = some ⟨rowI N byf, true⟩ →
    σ 0 = ptr sb → σ 1 = .slice (some ⟨bb, 0, none⟩) N 1 → σ 5 = I d → σ 9 = I x →
    (∀ σ', σ' 5 = I d → Q (.exit 2) σ' (m.put fb (some ⟨(pushAll fl l d).map (Value.int .i64 ·), true⟩))) → WP Try.prog (.loop ir45_l1) σ m Q
  | [], x, fl, m, σ, hp, hbd, hr, hn, hS, hb, s0, s1, s5, s9, hQ => by
    refine wp_round fun J hJ => ?_
    have hs := hS.s
    cases hp
    simp (disch := first | omega | (simp only [next_put, next_bump]; omega)) [ir45_l1, s0, s1, s5, s9, hs, get_put_self, get_put_ne, get_bump, put_put]
    have := hQ σ s5
    simp only [pushAll, List.foldl_nil] at this
    rw [put_same hS.f] at this
    have h := hQ
    simp only [pushAll, List.foldl_nil] at h
    rw [put_same hS.f] at h
    exact h _ (by simp [s5])
  | e :: l, x, fl, m, σ, hp, hbd, hr, hn, hS, hb, s0, s1, s5, s9, hQ => by
    refine wp_round fun J hJ => ?_
    have hs := hS.s
    have hf := hS.f
    have hlf := get_lt hf
    obtain ⟨r1, r2⟩ := hr e (by simp)
    obtain ⟨hx, he, ht, hp', hnx, hel⟩ := path_head hV hp r1
    obtain ⟨x1, x2⟩ := hnx
    obtain ⟨k, rfl⟩ : ∃ k : Nat, x = k := ⟨x.toNat, by omega⟩
    have x3 : k < N := by omega
    have x4 : k + 1 ≤ N := x3
    have hri : (rowI N byf)[k]? = some (I (byf k)) := rowI_get x3
    obtain ⟨a, φ, ha, hφ⟩ := room_pos r1
    have hφ2 : ∀ h, fl[e.1]'h = φ := fun h => by rw [List.getElem?_eq_getElem h] at hφ; simpa using hφ
    have hbp := push_bnd hbd r1 hd r2
    have hpl : (push fl e d).length = fl.length := push_len
    have hSp := hS.putF h1 h2 hpl
    have hc2 : ∀ Φ : Value → Mem → Prop, WPCall Try.prog 52 [ptr sb, I (byf k)] (m.put fb (some ⟨(push fl e d).map (Value.int .i64 ·), true⟩)) Φ = Φ (I (stF n e)) (m.put fb (some ⟨(push fl e d).map (Value.int .i64 ·), true⟩)) := fun Φ => by
      have := (back_ret hV hSp (z := byf k) (by rw [← he]; exact hel)).wp (Φ := Φ)
      rw [← he] at this; exact this
    simp only [List.map_cons, List.nodup_cons] at hn
    have hr2 : ∀ e' ∈ l, 0 < room n (push fl e d) e' ∧ d ≤ room n (push fl e d) e' := by
      intro e' he'
      rw [push_other (fun h => hn.1 (List.mem_map.2 ⟨e', he', h⟩))]
      exact hr e' (by simp [he'])
    have next : ∀ (σ' : Slots) (m' : Mem), m' = m.put fb (some ⟨(push fl e d).map (Value.int .i64 ·), true⟩) → σ' 0 = ptr sb → σ' 1 = .slice (some ⟨bb, 0, none⟩) N 1 → σ' 5 = I d → σ' 9 = I (stF n e) → J σ' m' := by
      intro σ' m' hm' q0 q1 q5 q9
      subst hm'
      refine hJ _ _ (aug_loop1 hV hN hd h1 h2 h3 l _ (push fl e d) _ σ' hp' hbp hr2 hn.2 hSp (by rw [get_put_ne h3]; exact hb) q0 q1 q5 q9 (fun σ'' g => ?_))
      rw [put_put]
      exact hQ σ'' g
    have hbd0 := hbd.2 _ a φ ha hφ
    have hac := (hV.arc a (List.mem_of_getElem? ha)).2.2
    have hal := hV.al
    have hel' := hel
    have hfl : fl.length = n.arcs.length := hbd.1
    unfold room at r1 r2
    simp only [ha, hφ] at r1 r2
    have hpush : push fl e d = fl.set e.1 (if e.2 then φ + d else φ - d) := by unfold push; rw [hφ]
    rw [hpush, ← ints_set] at hc2 next
    rcases dec_cases (byf k) with ⟨i, h0, hi, hi2, hdz⟩ | ⟨i, h0, hi, hdz⟩
    · rw [hdz] at he
      subst he
      simp only [if_true] at r1 r2 hc2 next hel hel' hφ
      have w1 : IntKind.i64.wrap (φ + d) = φ + d := i64_id (by omega) (by omega)
      have z2 : byf k < fl.length := by omega
      have z3 : i + 1 ≤ fl.length := by omega
      have z4 : i < fl.length := by omega
      simp (disch := first | omega | (simp only [next_put, next_bump]; omega)) [ir45_l1, s0, s1, s5, s9, hs, hx, hb, hri, head_td, x3, x4, hc2, hf, h0, hi2, hφ, hφ2, w1, z2, z3, z4, get_put_self, get_put_ne, get_bump, put_put]
      exact next _ _ rfl (by simp [s0]) (by simp [s1]) (by simp [s5]) (by simp)
    · rw [hdz] at he
      subst he
      simp only [Bool.false_eq_true, if_false] at r1 r2 hc2 next hel hel' hφ
      have w1 : IntKind.i64.wrap (φ - d) = φ - d := i64_id (by omega) (by omega)
      have w2 : IntKind.i64.wrap (i : Int) = i := i64_id (by omega) (by omega)
      have z2 : (i : Int) < fl.length := by omega
      have z3 : i + 1 ≤ fl.length := by omega
      have z4 : i < fl.length := by omega
      simp (disch := first | omega | (simp only [next_put, next_bump]; omega)) [ir45_l1, s0, s1, s5, s9, hs, hx, hb, hri, head_td, x3, x4, hc2, hf, h0, hi, hφ, hφ2, w1, w2, z2, z3, z4, get_put_self, get_put_ne, get_bump, put_put]
      exact next _ _ rfl (by simp [s0]) (by simp [s1]) (by simp [s5]) (by simp)

set_option maxHeartbeats 4000000 in
theorem aug_wp {n : Net} (hV : n.Valid) {N : Nat} (hN : n.nodes = N) {fl : List Int} (hbd : Bnd n fl) {v : Value} {sb fb ub bb : Nat} {byf : Int → Int} {m : Mem} (hS : Sr n fl v sb fb ub N m) (hb : m.get bb = some ⟨rowI N byf, true⟩) (h1 : sb ≠ fb) (h2 : ∀ b l c, v = .slice (some ⟨b, 0, none⟩) l c → b ≠ fb) (h3 : bb ≠ fb)
    {l : List St} (hp : Path n (fun x => dec (byf x)) n.snk l) (hr : ∀ e ∈ l, 0 < room n fl e) (hn : (l.map Prod.fst).Nodup) :
    WPCall Try.prog 45 [ptr sb, .slice (some ⟨bb, 0, none⟩) N 1] m fun r m' => ∃ d, r = I d ∧ 0 < d ∧ (∀ e ∈ l, 0 < room n fl e ∧ d ≤ room n fl e) ∧ m' = m.put fb (some ⟨(pushAll fl l d).map (Value.int .i64 ·), true⟩) := by
  rw [call45 (by simp)]
  have hs := hS.s
  have hne : l ≠ [] := fun h => by subst h; exact hV.ne (path_nil hp).symm
  have hspec := amtAll_spec (n := n) (fl := fl) l (-1) hr (.inl rfl)
  have hspec : 0 < amtAll n fl (-1) l ∧ ∀ e ∈ l, amtAll n fl (-1) l ≤ room n fl e := by
    rcases hspec with ⟨_, h, _⟩ | ⟨g1, _, g3⟩
    · exact absurd h hne
    · exact ⟨g1, g3⟩
  simp (disch := first | omega | (simp only [next_put, next_bump]; omega)) [ir45_b, hs, get_put_self, get_put_ne, get_bump, put_put]
  refine aug_loop0 hV hN hbd hS hb l n.snk (-1) _ hp hr (by simp) (by simp) (by simp) (by simp) (fun σ' g0 g1 g5 => ?_)
  simp (disch := first | omega | (simp only [next_put, next_bump]; omega)) [g0, g1, g5, hs, get_put_self, get_put_ne, get_bump, put_put]
  refine aug_loop1 hV hN (d := amtAll n fl (-1) l) (by omega) h1 h2 h3 l n.snk fl m _ hp hbd (fun e he => ⟨hr e he, hspec.2 e he⟩) hn hS hb (by simp [g0]) (by simp [g1]) (by simp [g5]) (by simp) (fun σ'' g => ?_)
  simp (disch := first | omega | (simp only [next_put, next_bump]; omega)) [g, get_put_self, get_put_ne, get_bump, put_put]
  exact ⟨hspec.1, fun a => ⟨fun he => ⟨hr _ he, hspec.2 _ he⟩, fun he => ⟨hr _ he, hspec.2 _ he⟩⟩⟩
end Go.Proofs.Ytapnkfkpkcajjaa
