/-
  'augment' of mincost.
-/
import Derived.Test.YtapnkfkpkcajjaaMcH
import Derived.Test.YtapnkfkpkcajjaaMfI
namespace Go.Proofs.Ytapnkfkpkcajjaa
open Go Go.DI Go.Nets
set_option linter.unusedSimpArgs false
set_option linter.unusedVariables false

def low (d r : Int) : Int := if r < d then r else d
def lowAll (n : Net) (fl : List Int) (d : Int) (l : List St) : Int := l.foldl (fun d e => low d (room n fl e)) d
theorem lowAll_spec {n : Net} {fl : List Int} : ∀ (l : List St) (d : Int), (∀ e ∈ l, 0 < room n fl e) → 0 < d → 0 < lowAll n fl d l ∧ lowAll n fl d l ≤ d ∧ ∀ e ∈ l, lowAll n fl d l ≤ room n fl e
  | [], d, _, hd => ⟨hd, Int.le_refl _, by simp⟩
  | e :: l, d, hr, hd => by
    have hr0 := hr e (by simp)
    have h1 : 0 < low d (room n fl e) := by unfold low; split <;> omega
    have h2 : low d (room n fl e) ≤ d ∧ low d (room n fl e) ≤ room n fl e := by unfold low; split <;> omega
    obtain ⟨g1, g2, g3⟩ := lowAll_spec l (low d (room n fl e)) (fun e he => hr e (by simp [he])) h1
    have e1 : lowAll n fl d (e :: l) = lowAll n fl (low d (room n fl e)) l := rfl
    rw [e1]
    refine ⟨g1, by omega, fun e' he' => ?_⟩
    rcases List.mem_cons.1 he' with rfl | he'
    · omega
    · exact g3 e' he'
structure KeepF (m m' : Mem) (fb : Nat) : Prop where
  next : m.next ≤ m'.next
  get : ∀ c, c < m.next → c ≠ fb → m'.get c = m.get c
theorem KeepF.refl {m : Mem} {fb : Nat} : KeepF m m fb := ⟨Nat.le_refl _, fun _ _ _ => rfl⟩
theorem KeepF.trans {a b c : Mem} {fb : Nat} (h : KeepF a b fb) (h' : KeepF b c fb) : KeepF a c fb := ⟨Nat.le_trans h.next h'.next, fun x h1 h2 => by rw [h'.get x (Nat.lt_of_lt_of_le h1 h.next) h2, h.get x h1 h2]⟩
theorem KeepF.of_old {m m' : Mem} {fb : Nat} (h : Old m m') : KeepF m m' fb := ⟨h.next, fun c h1 _ => h.get c h1⟩
theorem KeepF.put {m m' : Mem} {fb : Nat} {x : Option Blk} (h : KeepF m m' fb) : KeepF m (m'.put fb x) fb := ⟨h.next, fun c h1 h2 => by rw [get_put_ne h2]; exact h.get c h1 h2⟩

set_option maxHeartbeats 4000000 in
set_option maxRecDepth 20000 in
theorem maug_loop0 {n : Net} (hV : n.Valid) {N : Nat} (hN : n.nodes = N) {fl : List Int} (hbd : Bnd n fl) (hk : ∀ a ∈ n.arcs, 0 ≤ a.k ∧ a.k ≤ 1000) {v : Value} {sb fb ub bb : Nat} {byf : Int → Int} {m0 : Mem} (hS : Sr n fl v sb fb ub N m0) (hb : m0.get bb = some ⟨rowI N byf, true⟩) {Q : IExit → Slots → Mem → Prop} :
    ∀ (l : List St) (x d : Int) (m : Mem) (σ : Slots), Old m0 m → Path n (fun x => dec (byf x)) x l → (∀ e ∈ l, 0 < room n fl e) → σ 0 = ptr sb → σ 1 = .slice (some ⟨bb, 0, none⟩) N 1 → σ 2 = I d → σ 7 = I x →
    (∀ σ' m', Old m0 m' → σ' 0 = ptr sb → σ' 1 = .slice (some ⟨bb, 0, none⟩) N 1 → σ' 2 = I (lowAll n fl d l) → Q (.exit 0) σ' m') → WP Try.prog (.loop ir48_l0) σ m Q
  | [], x, d, m, σ, ho, hp, hr, s0, s1, s2, s7, hQ => by
    refine wp_round fun J hJ => ?_
    have hs := (hS.mono ho).s
    cases hp
    simp (disch := first | omega | (simp only [next_put, next_bump]; omega)) [ir48_l0, s0, s1, s2, s7, hs, get_put_self, get_put_ne, get_bump, put_put]
    exact hQ _ _ ho (by simp [s0]) (by simp [s1]) (by simp [s2, lowAll])
  | e :: l, x, d, m, σ, ho, hp, hr, s0, s1, s2, s7, hQ => by
    refine wp_round fun J hJ => ?_
    have hSm := hS.mono ho
    have hs := hSm.s
    have hbm := ho.some hb
    obtain ⟨hx, he, ht, hp', hnx, hel⟩ := path_head hV hp (hr e (by simp))
    obtain ⟨x1, x2⟩ := hnx
    obtain ⟨k, rfl⟩ : ∃ k : Nat, x = k := ⟨x.toNat, by omega⟩
    have x3 : k < N := by omega
    have x4 : k + 1 ≤ N := x3
    have hri : (rowI N byf)[k]? = some (I (byf k)) := rowI_get x3
    simp (disch := first | omega | (simp only [next_put, next_bump]; omega)) [ir48_l0, s0, s1, s2, s7, hs, hx, hbm, hri, head_td, x3, x4, get_put_self, get_put_ne, get_bump, put_put]
    refine step_wp hV hbd hSm (z := byf k) (by rw [← he]; exact hel) hk _ fun m1 ho1 => ?_
    rw [← he]
    simp (disch := first | omega | (simp only [next_put, next_bump]; omega)) [s0, s1, s2, s7, get_put_self, get_put_ne, get_bump, put_put]
    exact hJ _ _ (maug_loop0 hV hN hbd hk hS hb l _ (low d (room n fl e)) _ _ (ho.trans ho1) hp' (fun e he => hr e (by simp [he])) (by simp [s0]) (by simp [s1]) (by simp [low]) (by simp) hQ)

set_option maxHeartbeats 4000000 in
set_option maxRecDepth 20000 in
theorem maug_loop1 {n : Net} (hV : n.Valid) {N : Nat} (hN : n.nodes = N) (hk : ∀ a ∈ n.arcs, 0 ≤ a.k ∧ a.k ≤ 1000) {v : Value} {sb fb ub bb : Nat} {byf : Int → Int} {d : Int} (hd : 0 ≤ d) (h1 : sb ≠ fb) (h2 : ∀ b l c, v = .slice (some ⟨b, 0, none⟩) l c → b ≠ fb) (h3 : bb ≠ fb) {m0 : Mem} {Q : IExit → Slots → Mem → Prop} :
    ∀ (l : List St) (x : Int) (fl : List Int) (m : Mem) (σ : Slots), KeepF m0 m fb → Path n (fun x => dec (byf x)) x l → Bnd n fl → (∀ e ∈ l, 0 < room n fl e ∧ d ≤ room n fl e) → (l.map Prod.fst).Nodup → Sr n fl v sb fb ub N m → m.get bb = some ⟨rowI N byf, true⟩ →
    σ 0 = ptr sb → σ 1 = .slice (some ⟨bb, 0, none⟩) N 1 → σ 2 = I d → σ 12 = I x →
    (∀ σ' m', KeepF m0 m' fb → m'.get fb = some ⟨(pushAll fl l d).map (Value.int .i64 ·), true⟩ → σ' 2 = I d → Q (.exit 2) σ' m') → WP Try.prog (.loop ir48_l1) σ m Q
  | [], x, fl, m, σ, hkf, hp, hbd, hr, hn, hS, hb, s0, s1, s2, s12, hQ => by
    refine wp_round fun J hJ => ?_
    have hs := hS.s
    cases hp
    simp (disch := first | omega | (simp only [next_put, next_bump]; omega)) [ir48_l1, s0, s1, s2, s12, hs, get_put_self, get_put_ne, get_bump, put_put]
    exact hQ _ _ hkf hS.f (by simp [s2])
  | e :: l, x, fl, m, σ, hkf, hp, hbd, hr, hn, hS, hb, s0, s1, s2, s12, hQ => by
    refine wp_round fun J hJ => ?_
    have hs := hS.s
    obtain ⟨r1, r2⟩ := hr e (by simp)
    obtain ⟨hx, he, ht, hp', hnx, hel⟩ := path_head hV hp r1
    obtain ⟨x1, x2⟩ := hnx
    obtain ⟨k, rfl⟩ : ∃ k : Nat, x = k := ⟨x.toNat, by omega⟩
    have x3 : k < N := by omega
    have x4 : k + 1 ≤ N := x3
    have hri : (rowI N byf)[k]? = some (I (byf k)) := rowI_get x3
    obtain ⟨a, φ, ha, hφ⟩ := room_pos r1
    have hφ2 : ∀ h, fl[e.1]'h = φ := fun h => by rw [List.getElem?_eq_getElem h] at hφ; simpa using hφ
    have hbp := push_bnd hbd r1 hd r2
    have hpl : (push fl e d).length = fl.length := push_len
    simp only [List.map_cons, List.nodup_cons] at hn
    have hr2 : ∀ e' ∈ l, 0 < room n (push fl e d) e' ∧ d ≤ room n (push fl e d) e' := by
      intro e' he'
      rw [push_other (fun h => hn.1 (List.mem_map.2 ⟨e', he', h⟩))]
      exact hr e' (by simp [he'])
    simp (disch := first | omega | (simp only [next_put, next_bump]; omega)) [ir48_l1, s0, s1, s2, s12, hs, hx, hb, hri, head_td, x3, x4, get_put_self, get_put_ne, get_bump, put_put]
    refine step_wp hV hbd hS (z := byf k) (by rw [← he]; exact hel) hk _ fun m1 ho1 => ?_
    rw [← he]
    have hS1 := hS.mono ho1
    have hs1 := hS1.s
    have hf1 := hS1.f
    have hb1 := ho1.some hb
    have hlf := get_lt hf1
    have hSp := hS1.putF h1 h2 hpl
    have next : ∀ (σ' : Slots) (m' : Mem), m' = m1.put fb (some ⟨(push fl e d).map (Value.int .i64 ·), true⟩) → σ' 0 = ptr sb → σ' 1 = .slice (some ⟨bb, 0, none⟩) N 1 → σ' 2 = I d → σ' 12 = I (stF n e) → J σ' m' := by
      intro σ' m' hm' q0 q1 q2 q12
      subst hm'
      refine hJ _ _ (maug_loop1 hV hN hk hd h1 h2 h3 l _ (push fl e d) _ σ' ((hkf.trans (.of_old ho1)).put) hp' hbp hr2 hn.2 hSp (by rw [get_put_ne h3]; exact hb1) q0 q1 q2 q12 hQ)
    have hbd0 := hbd.2 _ a φ ha hφ
    have hac := (hV.arc a (List.mem_of_getElem? ha)).2.2
    have hal := hV.al
    have hel' := hel
    have hfl : fl.length = n.arcs.length := hbd.1
    unfold room at r1 r2
    simp only [ha, hφ] at r1 r2
    have hpush : push fl e d = fl.set e.1 (if e.2 then φ + d else φ - d) := by unfold push; rw [hφ]
    rw [hpush, ← ints_set] at next
    rcases dec_cases (byf k) with ⟨i, h0, hi, hi2, hdz⟩ | ⟨i, h0, hi, hdz⟩
    · rw [hdz] at he
      subst he
      simp only [if_true] at r1 r2 next hel hel' hφ
      have w1 : IntKind.i64.wrap (φ + d) = φ + d := i64_id (by omega) (by omega)
      have z2 : byf k < fl.length := by omega
      have z3 : i + 1 ≤ fl.length := by omega
      have z4 : i < fl.length := by omega
      simp (disch := first | omega | (simp only [next_put, next_bump]; omega)) [s0, s1, s2, s12, hs1, head_td, hf1, h0, hi2, hφ, hφ2, w1, z2, z3, z4, get_put_self, get_put_ne, get_bump, put_put]
      exact next _ _ rfl (by simp [s0]) (by simp [s1]) (by simp [s2]) (by simp)
    · rw [hdz] at he
      subst he
      simp only [Bool.false_eq_true, if_false] at r1 r2 next hel hel' hφ
      have w1 : IntKind.i64.wrap (φ - d) = φ - d := i64_id (by omega) (by omega)
      have w2 : IntKind.i64.wrap (i : Int) = i := i64_id (by omega) (by omega)
      have z2 : (i : Int) < fl.length := by omega
      have z3 : i + 1 ≤ fl.length := by omega
      have z4 : i < fl.length := by omega
      simp (disch := first | omega | (simp only [next_put, next_bump]; omega)) [s0, s1, s2, s12, hs1, head_td, hf1, h0, hi, hφ, hφ2, w1, w2, z2, z3, z4, get_put_self, get_put_ne, get_bump, put_put]
      exact next _ _ rfl (by simp [s0]) (by simp [s1]) (by simp [s2]) (by simp)

set_option maxHeartbeats 4000000 in
theorem maug_wp {n : Net} (hV : n.Valid) {N : Nat} (hN : n.nodes = N) (hk : ∀ a ∈ n.arcs, 0 ≤ a.k ∧ a.k ≤ 1000) {fl : List Int} (hbd : Bnd n fl) {v : Value} {sb fb ub bb : Nat} {byf : Int → Int} {m : Mem} (hS : Sr n fl v sb fb ub N m) (hb : m.get bb = some ⟨rowI N byf, true⟩) (h1 : sb ≠ fb) (h2 : ∀ b l c, v = .slice (some ⟨b, 0, none⟩) l c → b ≠ fb) (h3 : bb ≠ fb)
    {l : List St} (hp : Path n (fun x => dec (byf x)) n.snk l) (hr : ∀ e ∈ l, 0 < room n fl e) (hn : (l.map Prod.fst).Nodup) {most : Int} (hm : 0 < most) :
    WPCall Try.prog 48 [ptr sb, .slice (some ⟨bb, 0, none⟩) N 1, I most] m fun r m' => ∃ d, r = I d ∧ 0 < d ∧ d ≤ most ∧ (∀ e ∈ l, 0 < room n fl e ∧ d ≤ room n fl e) ∧ KeepF m m' fb ∧ m'.get fb = some ⟨(pushAll fl l d).map (Value.int .i64 ·), true⟩ := by
  rw [call48 (by simp)]
  have hs := hS.s
  obtain ⟨q1, q2, q3⟩ := lowAll_spec (n := n) (fl := fl) l most hr hm
  simp (disch := first | omega | (simp only [next_put, next_bump]; omega)) [ir48_b, hs, get_put_self, get_put_ne, get_bump, put_put]
  refine maug_loop0 hV hN hbd hk hS hb l n.snk most _ _ (Old.refl _) hp hr (by simp) (by simp) (by simp) (by simp) (fun σ' m1 ho1 g0 g1 g2 => ?_)
  have hS1 := hS.mono ho1
  have hs1 := hS1.s
  simp (disch := first | omega | (simp only [next_put, next_bump]; omega)) [g0, g1, g2, hs1, get_put_self, get_put_ne, get_bump, put_put]
  refine maug_loop1 hV hN hk (d := lowAll n fl most l) (by omega) h1 h2 h3 (m0 := m) l n.snk fl m1 _ (.of_old ho1) hp hbd (fun e he => ⟨hr e he, q3 e he⟩) hn hS1 (ho1.some hb) (by simp [g0]) (by simp [g1]) (by simp [g2]) (by simp) (fun σ'' m'' k1 k2 k3 => ?_)
  simp (disch := first | omega | (simp only [next_put, next_bump]; omega)) [k3, get_put_self, get_put_ne, get_bump, put_put]
  exact ⟨q1, q2, fun a => ⟨fun he => ⟨hr _ he, q3 _ he⟩, fun he => ⟨hr _ he, q3 _ he⟩⟩, k1, k2⟩

end Go.Proofs.Ytapnkfkpkcajjaa
