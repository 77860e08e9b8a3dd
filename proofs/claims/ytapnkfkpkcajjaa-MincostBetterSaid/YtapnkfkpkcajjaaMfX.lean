/-
  The reference's augmenting.
-/
import Derived.Test.YtapnkfkpkcajjaaMfW
namespace Go.Proofs.Ytapnkfkpkcajjaa
open Go Go.DI Go.Nets
set_option linter.unusedSimpArgs false
set_option linter.unusedVariables false

theorem path_head2 {n : Net} (hV : n.Valid) {by_ : Int → St} {fl : List Int} {x : Int} {e : St} {l : List St} (hp : Path n by_ x (e :: l)) (hr : 0 < room n fl e) :
    x ≠ n.src ∧ e = by_ x ∧ stT n e = x ∧ Path n by_ (stF n e) l ∧ n.node x ∧ e.1 < n.arcs.length := by
  cases hp with
  | cons hx ht hp =>
    obtain ⟨a, φ, ha, _⟩ := room_pos hr
    have hl := (List.getElem?_eq_some_iff.1 ha).1
    exact ⟨hx, rfl, ht, hp, by have := (st_node hV hl).2; rw [ht] at this; exact this, hl⟩
def minAll (n : Net) (fl : List Int) (d : Int) (l : List St) : Int := l.foldl (fun d e => if room n fl e < d then room n fl e else d) d
theorem minAll_spec {n : Net} {fl : List Int} : ∀ (l : List St) (d : Int), 0 < d → (∀ e ∈ l, 0 < room n fl e) → 0 < minAll n fl d l ∧ minAll n fl d l ≤ d ∧ ∀ e ∈ l, minAll n fl d l ≤ room n fl e
  | [], d, hd, _ => ⟨hd, Int.le_refl _, by simp⟩
  | e :: l, d, hd, hr => by
    have h0 := hr e (by simp)
    have e1 : minAll n fl d (e :: l) = minAll n fl (if room n fl e < d then room n fl e else d) l := rfl
    obtain ⟨g1, g2, g3⟩ := minAll_spec l (if room n fl e < d then room n fl e else d) (by split <;> omega) (fun e he => hr e (by simp [he]))
    have key : (if room n fl e < d then room n fl e else d) ≤ d ∧ (if room n fl e < d then room n fl e else d) ≤ room n fl e := by split <;> omega
    rw [e1]
    generalize (if room n fl e < d then room n fl e else d) = dd at *
    refine ⟨g1, by omega, fun e' he' => ?_⟩
    rcases List.mem_cons.1 he' with rfl | he'
    · omega
    · exact g3 e' he'

set_option maxHeartbeats 8000000 in
set_option maxRecDepth 20000 in
theorem rmin_loop {n : Net} (hV : n.Valid) {N : Nat} (hN : n.nodes = N) {fl : List Int} (hbd : Bnd n fl) {v : Value} {nb fb bb : Nat} {byf : Int → Int} {m : Mem} (hv : Arcs m v n.arcs) (hn : m.get nb = some ⟨netC n v, true⟩) (hf : m.get fb = some ⟨fl.map (Value.int .i64 ·), true⟩) (hb : m.get bb = some ⟨rowI N byf, true⟩) {Q : IExit → Slots → Mem → Prop} :
    ∀ (l : List St) (x d : Int) (σ : Slots), Path n (fun x => dec2 n.arcs.length (byf x)) x l → (∀ e ∈ l, 0 < room n fl e) → σ 1 = ptr nb → σ 6 = .slice (some ⟨fb, 0, none⟩) fl.length 1 → σ 8 = .slice (some ⟨bb, 0, none⟩) N 1 → σ 11 = I d → σ 12 = I x →
    (∀ σ', (∀ t, t < 11 → σ' t = σ t) → σ' 11 = I (minAll n fl d l) → Q (.exit 2) σ' m) → WP Try.prog (.loop ir29_l0) σ m Q
  | [], x, d, σ, hp, hr, s1, s6, s8, s11, s12, hQ => by
    refine wp_round fun J hJ => ?_
    have hx := path_nil hp
    subst hx
    simp (disch := first | omega | (simp only [next_put, next_bump]; omega)) [ir29_l0, s1, s12, hn, get_put_self, get_put_ne, get_bump, put_put]
    exact hQ _ (fun t ht => by simp (disch := omega) only [upd_ne]) (by simp [s11, minAll])
  | e :: l, x, d, σ, hp, hr, s1, s6, s8, s11, s12, hQ => by
    refine wp_round fun J hJ => ?_
    have r1 := hr e (by simp)
    obtain ⟨hx, he, ht, hp', hnx, hel⟩ := path_head2 hV hp r1
    obtain ⟨x1, x2⟩ := hnx
    obtain ⟨k, rfl⟩ : ∃ k : Nat, x = k := ⟨x.toNat, by omega⟩
    have x3 : k < N := by omega
    have x4 : k + 1 ≤ N := x3
    have hri : (rowI N byf)[k]? = some (I (byf k)) := rowI_get x3
    have next : ∀ (σ' : Slots), (∀ t, t < 11 → σ' t = σ t) → σ' 11 = I (if room n fl e < d then room n fl e else d) → σ' 12 = I (stF n e) → J σ' m := fun σ' q0 q11 q12 =>
      hJ _ _ (rmin_loop hV hN hbd hv hn hf hb l _ _ σ' hp' (fun e he => hr e (by simp [he])) (by rw [q0 1 (by omega)]; exact s1) (by rw [q0 6 (by omega)]; exact s6) (by rw [q0 8 (by omega)]; exact s8) q11 q12 (fun σ'' g1 g2 => hQ σ'' (fun t ht => by rw [g1 t ht, q0 t ht]) g2))
    obtain ⟨a, φ, ha, hφ⟩ := room_pos r1
    have hφ2 : ∀ h, fl[e.1]'h = φ := fun h => by rw [List.getElem?_eq_getElem h] at hφ; simpa using hφ
    have hac := (hV.arc a (List.mem_of_getElem? ha)).2.2
    have hbb := hbd.2 _ a φ ha hφ
    have hfl := hbd.1
    have hal := hV.al
    obtain ⟨c, o, rfl, hc⟩ := hv.blk hel
    have q0b := arcs_get ha (j := 0) (by omega)
    have q1 := arcs_get ha (j := 1) (by omega)
    have q2 := arcs_get ha (j := 2) (by omega)
    rw [Nat.add_zero] at q0b
    simp only [arcC] at q0b
    simp [arcC] at q1 q2
    have b1 : e.1 * 4 + 1 ≤ n.arcs.length * 4 := by omega
    have b2 : e.1 * 4 + 2 ≤ n.arcs.length * 4 := by omega
    have b3 : e.1 * 4 + 3 ≤ n.arcs.length * 4 := by omega
    have b4 : (e.1 : Int) < n.arcs.length := by omega
    have b5 : (e.1 : Int) < fl.length := by omega
    have b6 : e.1 + 1 ≤ fl.length := by omega
    have b7 : e.1 < fl.length := by omega
    have w2 : IntKind.i64.wrap (e.1 : Int) = e.1 := i64_id (by omega) (by omega)
    have w3 : IntKind.i64.wrap ((n.arcs.length : Int) + e.1 - n.arcs.length) = e.1 := by rw [i64_id (by omega) (by omega)]; omega
    have nlt : ¬ (n.arcs.length : Int) + e.1 < n.arcs.length := by omega
    have q0c : (arcsC n.arcs)[e.1 * 4]? = some (I a.f) := q0b
    have q0 : ∀ h : e.1 * 4 < (arcsC n.arcs).length, (arcsC n.arcs)[e.1 * 4]'h = I a.f := fun h => by
      have := q0c; rw [List.getElem?_eq_getElem h] at this; simpa using this
    rcases dec2_cases (L := n.arcs.length) (z := byf k) (by rw [← he]; exact hel) with ⟨i, hi, hz, hd2⟩ | ⟨i, hi, hz, hd2⟩
    · obtain rfl : e = (i, true) := by rw [he]; exact hd2
      have sF : stF n (i, true) = a.f := by simp [stF, ha]
      have hrm : room n fl (i, true) = a.c - φ := by simp at ha hφ; simp [room, ha, hφ]
      simp only at *
      have w1 : IntKind.i64.wrap (a.c - φ) = a.c - φ := i64_id (by omega) (by omega)
      rw [hrm, sF] at next
      simp (disch := first | omega | (simp only [next_put, next_bump]; omega)) [ir29_l0, s1, s6, s8, s11, s12, w1, hn, hf, hb, hc, hx, hri, x3, x4, hz, hi, q0, q0c, q1, q2, b1, b2, b3, b4, b5, b6, b7, hφ, hφ2, head_td, get_put_self, get_put_ne, get_bump, put_put]
      exact next _ (fun t ht => by simp (disch := omega) only [upd_ne]) (by simp) (by simp)
    · obtain rfl : e = (i, false) := by rw [he]; exact hd2
      have sF : stF n (i, false) = a.t := by simp [stF, ha]
      have hrm : room n fl (i, false) = φ := by simp at ha hφ; simp [room, ha, hφ]
      simp only at *
      rw [hrm, sF] at next
      simp (disch := first | omega | (simp only [next_put, next_bump]; omega)) [ir29_l0, s1, s6, s8, s11, s12, w2, w3, nlt, hn, hf, hb, hc, hx, hri, x3, x4, hz, hi, q0, q0c, q1, q2, b1, b2, b3, b4, b5, b6, b7, hφ, hφ2, head_td, get_put_self, get_put_ne, get_bump, put_put]
      exact next _ (fun t ht => by simp (disch := omega) only [upd_ne]) (by simp) (by simp)

set_option maxHeartbeats 8000000 in
set_option maxRecDepth 20000 in
theorem rpush_loop {n : Net} (hV : n.Valid) {N : Nat} (hN : n.nodes = N) {v : Value} {nb fb bb : Nat} {byf : Int → Int} {d : Int} (hd : 0 ≤ d) (x5 : nb ≠ fb) (x6 : bb ≠ fb) (hvf : ∀ b l c, v = .slice (some ⟨b, 0, none⟩) l c → b ≠ fb) {Q : IExit → Slots → Mem → Prop} :
    ∀ (l : List St) (x : Int) (fl : List Int) (m : Mem) (σ : Slots), Bnd n fl → Arcs m v n.arcs → m.get nb = some ⟨netC n v, true⟩ → m.get fb = some ⟨fl.map (Value.int .i64 ·), true⟩ → m.get bb = some ⟨rowI N byf, true⟩ → Path n (fun x => dec2 n.arcs.length (byf x)) x l → (∀ e ∈ l, 0 < room n fl e ∧ d ≤ room n fl e) → (l.map Prod.fst).Nodup →
    σ 1 = ptr nb → σ 6 = .slice (some ⟨fb, 0, none⟩) fl.length 1 → σ 8 = .slice (some ⟨bb, 0, none⟩) N 1 → σ 11 = I d → σ 14 = I x →
    (∀ σ', (∀ t, t < 11 → σ' t = σ t) → Q (.exit 4) σ' (m.put fb (some ⟨(pushAll fl l d).map (Value.int .i64 ·), true⟩))) → WP Try.prog (.loop ir29_l1) σ m Q
  | [], x, fl, m, σ, hbd, hv, hn, hf, hb, hp, hr, hnd, s1, s6, s8, s11, s14, hQ => by
    refine wp_round fun J hJ => ?_
    have hx := path_nil hp
    subst hx
    simp (disch := first | omega | (simp only [next_put, next_bump]; omega)) [ir29_l1, s1, s14, hn, get_put_self, get_put_ne, get_bump, put_put]
    have h := hQ
    simp only [pushAll, List.foldl_nil] at h
    rw [put_same hf] at h
    exact h _ (fun t ht => by simp (disch := omega) only [upd_ne])
  | e :: l, x, fl, m, σ, hbd, hv, hn, hf, hb, hp, hr, hnd, s1, s6, s8, s11, s14, hQ => by
    refine wp_round fun J hJ => ?_
    obtain ⟨r1, r2⟩ := hr e (by simp)
    obtain ⟨hx, he, ht, hp', hnx, hel⟩ := path_head2 hV hp r1
    obtain ⟨x1, x2⟩ := hnx
    obtain ⟨k, rfl⟩ : ∃ k : Nat, x = k := ⟨x.toNat, by omega⟩
    have x3 : k < N := by omega
    have x4 : k + 1 ≤ N := x3
    have hri : (rowI N byf)[k]? = some (I (byf k)) := rowI_get x3
    have hbp := push_bnd hbd r1 hd r2
    have hpl : (push fl e d).length = fl.length := push_len
    simp only [List.map_cons, List.nodup_cons] at hnd
    have hr2 : ∀ e' ∈ l, 0 < room n (push fl e d) e' ∧ d ≤ room n (push fl e d) e' := by
      intro e' he'
      rw [push_other (fun h => hnd.1 (List.mem_map.2 ⟨e', he', h⟩))]
      exact hr e' (by simp [he'])
    have lf := get_lt hf
    have next : ∀ (σ' : Slots) (m' : Mem), m' = m.put fb (some ⟨(push fl e d).map (Value.int .i64 ·), true⟩) → (∀ t, t < 12 → σ' t = σ t) → σ' 14 = I (stF n e) → J σ' m' := by
      intro σ' m' hm' q0 q14
      subst hm'
      refine hJ _ _ (rpush_loop hV hN hd x5 x6 hvf l _ (push fl e d) _ σ' hbp ?_ (by rw [get_put_ne x5]; exact hn) (get_put_self lf) (by rw [get_put_ne x6]; exact hb) hp' hr2 hnd.2 (by rw [q0 1 (by omega)]; exact s1) (by rw [q0 6 (by omega), hpl]; exact s6) (by rw [q0 8 (by omega)]; exact s8) (by rw [q0 11 (by omega)]; exact s11) q14 (fun σ'' g => ?_))
      · rcases hv with h | ⟨b, o, h, h'⟩
        · exact .inl h
        · exact .inr ⟨b, o, h, by rw [get_put_ne (hvf _ _ _ h)]; exact h'⟩
      · rw [put_put]
        exact hQ σ'' (fun t ht => by rw [g t ht, q0 t (by omega)])
    have hpush : ∀ φ, fl[e.1]? = some φ → push fl e d = fl.set e.1 (if e.2 then φ + d else φ - d) := fun φ hφ => by unfold push; rw [hφ]
    obtain ⟨a, φ, ha, hφ⟩ := room_pos r1
    have hφ2 : ∀ h, fl[e.1]'h = φ := fun h => by rw [List.getElem?_eq_getElem h] at hφ; simpa using hφ
    have hac := (hV.arc a (List.mem_of_getElem? ha)).2.2
    have hbb := hbd.2 _ a φ ha hφ
    have hfl := hbd.1
    have hal := hV.al
    obtain ⟨c, o, rfl, hc⟩ := hv.blk hel
    have q0b := arcs_get ha (j := 0) (by omega)
    have q1 := arcs_get ha (j := 1) (by omega)
    have q2 := arcs_get ha (j := 2) (by omega)
    rw [Nat.add_zero] at q0b
    simp only [arcC] at q0b
    simp [arcC] at q1 q2
    have b1 : e.1 * 4 + 1 ≤ n.arcs.length * 4 := by omega
    have b2 : e.1 * 4 + 2 ≤ n.arcs.length * 4 := by omega
    have b3 : e.1 * 4 + 3 ≤ n.arcs.length * 4 := by omega
    have b4 : (e.1 : Int) < n.arcs.length := by omega
    have b5 : (e.1 : Int) < fl.length := by omega
    have b6 : e.1 + 1 ≤ fl.length := by omega
    have b7 : e.1 < fl.length := by omega
    have w2 : IntKind.i64.wrap (e.1 : Int) = e.1 := i64_id (by omega) (by omega)
    have w3 : IntKind.i64.wrap ((n.arcs.length : Int) + e.1 - n.arcs.length) = e.1 := by rw [i64_id (by omega) (by omega)]; omega
    have nlt : ¬ (n.arcs.length : Int) + e.1 < n.arcs.length := by omega
    have q0c : (arcsC n.arcs)[e.1 * 4]? = some (I a.f) := q0b
    have q0 : ∀ h : e.1 * 4 < (arcsC n.arcs).length, (arcsC n.arcs)[e.1 * 4]'h = I a.f := fun h => by
      have := q0c; rw [List.getElem?_eq_getElem h] at this; simpa using this
    have hcf : c ≠ fb := hvf _ _ _ rfl
    rw [hpush φ hφ, ← ints_set] at next
    unfold room at r1 r2
    simp only [ha, hφ] at r1 r2
    rcases dec2_cases (L := n.arcs.length) (z := byf k) (by rw [← he]; exact hel) with ⟨i, hi, hz, hd2⟩ | ⟨i, hi, hz, hd2⟩
    · obtain rfl : e = (i, true) := by rw [he]; exact hd2
      have sF : stF n (i, true) = a.f := by simp [stF, ha]
      rw [sF] at next
      simp only [if_true] at *
      have w1 : IntKind.i64.wrap (φ + d) = φ + d := i64_id (by omega) (by omega)
      simp (disch := first | omega | (simp only [next_put, next_bump]; omega)) [ir29_l1, s1, s6, s8, s11, s14, w1, hcf, x5, x6, hn, hf, hb, hc, hx, hri, x3, x4, hz, hi, q0, q0c, q1, q2, b1, b2, b3, b4, b5, b6, b7, hφ, hφ2, head_td, get_put_self, get_put_ne, get_bump, put_put]
      exact next _ _ rfl (fun t ht => by simp (disch := omega) only [upd_ne]) (by simp)
    · obtain rfl : e = (i, false) := by rw [he]; exact hd2
      have sF : stF n (i, false) = a.t := by simp [stF, ha]
      rw [sF] at next
      simp only [Bool.false_eq_true, if_false] at *
      have w1 : IntKind.i64.wrap (φ - d) = φ - d := i64_id (by omega) (by omega)
      simp (disch := first | omega | (simp only [next_put, next_bump]; omega)) [ir29_l1, s1, s6, s8, s11, s14, w1, w2, w3, nlt, hcf, x5, x6, hn, hf, hb, hc, hx, hri, x3, x4, hz, hi, q0, q0c, q1, q2, b1, b2, b3, b4, b5, b6, b7, hφ, hφ2, head_td, get_put_self, get_put_ne, get_bump, put_put]
      exact next _ _ rfl (fun t ht => by simp (disch := omega) only [upd_ne]) (by simp)
end Go.Proofs.Ytapnkfkpkcajjaa
