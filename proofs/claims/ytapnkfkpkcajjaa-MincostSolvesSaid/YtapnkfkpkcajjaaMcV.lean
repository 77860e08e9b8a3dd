/-
  Distances of mincost's reference.
-/
import Derived.Test.YtapnkfkpkcajjaaMcU
namespace Go.Proofs.Ytapnkfkpkcajjaa
open Go Go.DI Go.Nets
set_option linter.unusedSimpArgs false
set_option linter.unusedVariables false

set_option maxHeartbeats 4000000 in
set_option maxRecDepth 20000 in
theorem bf_outer {n : Net} (hV : n.Valid) {N : Nat} (hN : n.nodes = N) {fl : List Int} (hbd : Bnd n fl) {p : Int → Int} (hp : Opt n fl p) (hpp : ∀ v, 0 ≤ p v ∧ p v ≤ 1000000) (hk : ∀ a ∈ n.arcs, 0 ≤ a.k ∧ a.k ≤ 1000) {v : Value} {nb fb db bb : Nat} {fo : Bool} {m0 : Mem} (hn : m0.get nb = some ⟨netC n v, true⟩) (hv : Arcs m0 v n.arcs) (hf : m0.get fb = some ⟨fl.map (Value.int .i64 ·), fo⟩) (hdb : m0.next ≤ db) (hbb : m0.next ≤ bb) (hdbb : bb ≠ db) {Q : IExit → Slots → Mem → Prop} :
    ∀ (K : Nat) (m : Mem) (σ : Slots) (dist byf : Int → Int) (g : Bool), sumN (capD (red p dist)) N + (if g = true then 1 else 0) ≤ K → Old m0 m → m.get db = some ⟨rowI N dist, true⟩ → m.get bb = some ⟨rowI N byf, true⟩ → (∃ q, BF n fl p N dist (fun x => dec2 n.arcs.length (byf x)) q) → (g = false → ∀ e, 0 < room n fl e → dist (stF n e) < far → dist (stT n e) ≤ dist (stF n e) + stC n e) →
    σ 1 = .slice (some ⟨fb, 0, none⟩) fl.length 1 → σ 2 = ptr nb → σ 6 = .slice (some ⟨db, 0, none⟩) N 1 → σ 7 = .slice (some ⟨bb, 0, none⟩) N 1 → σ 9 = .bool g →
    (∀ σ' m' dist' byf', Old m0 m' → m'.get db = some ⟨rowI N dist', true⟩ → m'.get bb = some ⟨rowI N byf', true⟩ → Dij n fl p N (red p dist') (fun x => dec2 n.arcs.length (byf' x)) [] → (∀ v, dist' v ≤ far) → (∀ t, t < 9 → σ' t = σ t) → Q (.exit 2) σ' m') → WP Try.prog (.loop ir49_l2) σ m Q := by
  intro K
  have h7 := hV.n7
  have done : ∀ (m : Mem) (σ : Slots) (dist byf : Int → Int), Old m0 m → m.get db = some ⟨rowI N dist, true⟩ → m.get bb = some ⟨rowI N byf, true⟩ → (∃ q, BF n fl p N dist (fun x => dec2 n.arcs.length (byf x)) q) → (∀ e, 0 < room n fl e → dist (stF n e) < far → dist (stT n e) ≤ dist (stF n e) + stC n e) → σ 9 = .bool false →
    (∀ σ' m' dist' byf', Old m0 m' → m'.get db = some ⟨rowI N dist', true⟩ → m'.get bb = some ⟨rowI N byf', true⟩ → Dij n fl p N (red p dist') (fun x => dec2 n.arcs.length (byf' x)) [] → (∀ v, dist' v ≤ far) → (∀ t, t < 9 → σ' t = σ t) → Q (.exit 2) σ' m') → WP Try.prog (.loop ir49_l2) σ m Q := by
    intro m σ dist byf ho gd gb hB hr s9 hQ
    refine wp_round fun J hJ => ?_
    obtain ⟨q, hB⟩ := hB
    simp (disch := first | omega | (simp only [next_put, next_bump]; omega)) [ir49_l2, s9, get_put_self, get_put_ne, get_bump, put_put]
    exact hQ _ _ dist byf ho gd gb (hB.done (by omega) hpp (stC_bd hk) hr) hB.hi (fun t ht => by simp (disch := omega) only [upd_ne])
  induction K with
  | zero =>
    intro m σ dist byf g hK ho gd gb hB hr s1 s2 s6 s7 s9 hQ
    cases g
    · exact done m σ dist byf ho gd gb hB (hr rfl) s9 hQ
    · simp at hK
  | succ K ih =>
    intro m σ dist byf g hK ho gd gb hB hr s1 s2 s6 s7 s9 hQ
    cases g
    · exact done m σ dist byf ho gd gb hB (hr rfl) s9 hQ
    refine wp_round fun J hJ => ?_
    simp only [if_true] at hK
    simp (disch := first | omega | (simp only [next_put, next_bump]; omega)) [ir49_l2, s9, get_put_self, get_put_ne, get_bump, put_put]
    refine bf_inner hV hN hbd hp hpp hk hn hv hf hdb hbb hdbb (M0 := sumN (capD (red p dist)) N) n.arcs.length 0 m _ dist byf false (by omega) ho gd gb ⟨hB, fun _ => ⟨rfl, fun e he => by omega⟩, fun h => by cases h⟩ (by simp [s1]) (by simp [s2]) (by simp [s6]) (by simp [s7]) (by simp) (by simp) (fun σ' m' dist' byf' g' e1 e2 e3 e4 e5 e6 => ?_)
    simp (disch := first | omega | (simp only [next_put, next_bump]; omega)) [e6, get_put_self, get_put_ne, get_bump, put_put]
    refine hJ _ _ (ih m' σ' dist' byf' g' ?_ e1 e2 e3 e4.bf (fun h e he hlt => ?_) (by rw [e5 1 (by omega)]; simp [s1]) (by rw [e5 2 (by omega)]; simp [s2]) (by rw [e5 6 (by omega)]; simp [s6]) (by rw [e5 7 (by omega)]; simp [s7]) e6 (fun σ'' m'' d'' b'' f1 f2 f3 f4 f5 f6 => hQ σ'' m'' d'' b'' f1 f2 f3 f4 f5 (fun t ht => by rw [f6 t ht, e5 t ht]; simp (disch := omega) only [upd_ne])))
    · cases g'
      · have := (e4.no rfl).1
        simp; omega
      · have := e4.yes rfl
        simp; omega
    · obtain ⟨a, φ, ha, _⟩ := room_pos he
      exact (e4.no h).2 e ((List.getElem?_eq_some_iff.1 ha).1) he hlt

set_option maxHeartbeats 4000000 in
theorem rfill_loop {n : Net} {v : Value} {nb N db : Nat} (hNn : n.nodes = N) (hN : N < 100000) (hne : nb ≠ db) {Q : IExit → Slots → Mem → Prop} : ∀ (r i : Nat) (m : Mem) (σ : Slots) (g : Int → Int), i + r = N → m.get nb = some ⟨netC n v, true⟩ → m.get db = some ⟨rowI N g, true⟩ → (∀ v : Nat, v < i → g (v : Int) = far) → σ 2 = ptr nb → σ 8 = I i → σ 6 = .slice (some ⟨db, 0, none⟩) N 1 →
    (∀ σ', (∀ t, t < 8 → σ' t = σ t) → Q (.exit 0) σ' (m.put db (some ⟨rowI N (fun _ => far), true⟩))) → WP Try.prog (.loop ir49_l0) σ m Q
  | 0, i, m, σ, g, hi, hn, hg, hv, s2, s8, s6, hQ => by
    refine wp_round fun J hJ => ?_
    have h1 : ¬ i < N := by omega
    have h1' : ¬ (i : Int) < N := by omega
    have e : rowI N g = rowI N (fun _ => far) := rowI_congrN fun v hv' => hv v (by omega)
    simp (disch := first | omega | (simp only [next_put, next_bump]; omega)) [ir49_l0, s2, s8, hn, hNn, h1, h1', get_put_self, get_put_ne, get_bump, put_put]
    have := hQ
    rw [← e, put_same hg] at this
    exact this _ (fun t ht => by simp (disch := omega) only [upd_ne])
  | r + 1, i, m, σ, g, hi, hn, hg, hv, s2, s8, s6, hQ => by
    refine wp_round fun J hJ => ?_
    have h1 : i < N := by omega
    have h1' : (i : Int) < N := by omega
    have h2 : i + 1 ≤ N := h1
    have hl := get_lt hg
    have w0 : IntKind.i64.wrap ((i : Int) + 1) = (i : Int) + 1 := i64_id (by omega) (by omega)
    simp (disch := first | omega | (simp only [next_put, next_bump]; omega)) [ir49_l0, s2, s8, s6, hn, hNn, h1, h1', h2, hg, w0, rowI_setF, get_put_self, get_put_ne, get_bump, put_put, -rowI_set]
    refine hJ _ _ (rfill_loop (n := n) (v := v) hNn hN hne r (i + 1) _ _ (setF g i 1099511627776) (by omega) (by rw [get_put_ne hne]; exact hn) (get_put_self hl) (fun v hv' => ?_) (by simp [s2]) (by simp) (by simp [s6]) (fun σ' q => ?_))
    · by_cases h : (v : Int) = i
      · rw [h, setF_same]; rfl
      · rw [setF_ne h]; exact hv v (by omega)
    · rw [put_put]
      exact hQ σ' (fun t ht => by rw [q t ht]; simp (disch := omega) only [upd_ne])

set_option maxHeartbeats 4000000 in
set_option maxRecDepth 20000 in
theorem rdist_wp {n : Net} (hV : n.Valid) {N : Nat} (hN : n.nodes = N) {fl : List Int} (hbd : Bnd n fl) {p : Int → Int} (hp : Opt n fl p) (hp0 : p n.src = 0) (hpp : ∀ v, 0 ≤ p v ∧ p v ≤ 1000000) (hk : ∀ a ∈ n.arcs, 0 ≤ a.k ∧ a.k ≤ 1000) {v : Value} {fb : Nat} {fo : Bool} {m : Mem} (hv : Arcs m v n.arcs) (hf : m.get fb = some ⟨fl.map (Value.int .i64 ·), fo⟩) :
    WPCall Try.prog 49 [netV n v, .slice (some ⟨fb, 0, none⟩) fl.length 1] m fun r m' => Old m m' ∧ ∃ (db bb : Nat) (dist byf : Int → Int), r = .tuple #[.slice (some ⟨db, 0, none⟩) N 1, .slice (some ⟨bb, 0, none⟩) N 1] ∧ m.next ≤ db ∧ m.next ≤ bb ∧ m'.get db = some ⟨rowI N dist, true⟩ ∧ m'.get bb = some ⟨rowI N byf, true⟩ ∧ Dij n fl p N (red p dist) (fun x => dec2 n.arcs.length (byf x)) [] ∧ ∀ v, dist v ≤ far := by
  rw [call49 (by simp)]
  obtain ⟨s1, s2⟩ := hV.src
  have h7 := hV.n7
  have lf := get_lt hf
  obtain ⟨ks, hks⟩ : ∃ k : Nat, n.src = k := ⟨n.src.toNat, by omega⟩
  have s3 : ks < N := by omega
  have s4 : ks + 1 ≤ N := s3
  have s5 : n.src < (N : Int) := by omega
  have s6 : n.src.toNat = ks := by omega
  have hN' : n.nodes.toNat = N := by omega
  have z0 : 0 ≤ n.nodes := by omega
  have z1 : n.nodes * 8 ≤ 140737488355328 := by omega
  have z2 : n.nodes ≤ 9223372036854775807 := by omega
  simp (disch := first | omega | (simp only [next_put, next_bump]; omega)) [ir49_b, hN', z0, z1, z2, rowI_zero, get_put_self, get_put_ne, get_bump, put_put, -rowI_set]
  obtain ⟨m0, hm0⟩ : ∃ m0, m0 = (m.bump 3).put m.next (some ⟨[I n.nodes, I n.src, I n.snk, v], true⟩) := ⟨_, rfl⟩
  have hM : Old m m0 := by rw [hm0]; exact ((Old.refl m).bump 3).put (Nat.le_refl _)
  have g0 : m0.get m.next = some ⟨netC n v, true⟩ := by rw [hm0]; exact get_put_self (by simp)
  have n0 : m0.next = m.next + 3 := by rw [hm0]; simp
  rw [← hm0]
  refine rfill_loop (n := n) (v := v) (nb := m.next) (N := N) (db := m.next + 3 + 2) hN (by omega) (by omega) N 0 _ _ (fun _ => 0) (by omega) (by simp (disch := first | omega | (simp only [next_put, next_bump]; omega)) only [get_put_ne, get_bump]; exact g0) (by simp (disch := first | omega | (simp only [next_put, next_bump]; omega)) only [get_put_self, get_put_ne]) (fun v hv => by omega) (by simp) (by simp) (by simp) (fun σ' q => ?_)
  have q1 : σ' 1 = .slice (some ⟨fb, 0, none⟩) fl.length 1 := by rw [q 1 (by omega)]; simp
  have q2 : σ' 2 = ptr m.next := by rw [q 2 (by omega)]; simp
  have q6 : σ' 6 = .slice (some ⟨m.next + 3 + 2, 0, none⟩) N 1 := by rw [q 6 (by omega)]; simp
  have q7 : σ' 7 = .slice (some ⟨m.next + 3 + 5, 0, none⟩) N 1 := by rw [q 7 (by omega)]; simp
  simp (disch := first | omega | (simp only [next_put, next_bump]; omega)) [q1, q2, q6, q7, g0, s1, s3, s4, s5, s6, rowI_setF, get_put_self, get_put_ne, get_bump, put_put, -rowI_set]
  generalize hMX : ((((m0.bump 8).put (m.next + 3 + 2) (some ⟨rowI N (fun _ => 0), true⟩)).put (m.next + 3 + 5) (some ⟨rowI N (fun _ => 0), true⟩)).put (m.next + 3 + 2) (some ⟨rowI N (setF (fun _ => far) (ks : Int) 0), true⟩)) = MX
  have oX : Old m0 MX := ⟨by rw [← hMX]; simp only [next_put, next_bump]; omega, fun b hb => by rw [← hMX]; simp (disch := first | omega | (simp only [next_put, next_bump]; omega)) only [get_put_ne, get_bump]⟩
  have gdX : MX.get (m.next + 3 + 2) = some ⟨rowI N (setF (fun _ => far) n.src 0), true⟩ := by rw [← hMX, hks]; simp (disch := first | omega | (simp only [next_put, next_bump]; omega)) only [get_put_self]
  have gbX : MX.get (m.next + 3 + 5) = some ⟨rowI N (fun _ => 0), true⟩ := by rw [← hMX]; simp (disch := first | omega | (simp only [next_put, next_bump]; omega)) only [get_put_self, get_put_ne]
  refine bf_outer hV hN hbd hp hpp hk (fb := fb) (fo := fo) (nb := m.next) (db := m.next + 3 + 2) (bb := m.next + 3 + 5) g0 (hv.mono hM) (hM.some hf) (by omega) (by omega) (by omega) (sumN (capD (red p (setF (fun _ => far) n.src 0))) N + 1) MX _ (setF (fun _ => far) n.src 0) (fun _ => 0) true (by simp) oX gdX gbX ⟨_, BF.start hV hN fl hp0 _⟩ (fun h => by cases h) (by simp [q1]) (by simp [q2]) (by simp [q6]) (by simp [q7]) (by simp) (fun σ'' m'' dist' byf' e1 e2 e3 e4 e5 e6 => ?_)
  have r6 : σ'' 6 = .slice (some ⟨m.next + 3 + 2, 0, none⟩) N 1 := by rw [e6 6 (by omega)]; simp [q6]
  have r7 : σ'' 7 = .slice (some ⟨m.next + 3 + 5, 0, none⟩) N 1 := by rw [e6 7 (by omega)]; simp [q7]
  simp (disch := first | omega | (simp only [next_put, next_bump]; omega)) [r6, r7, get_put_self, get_put_ne, get_bump, put_put]
  exact ⟨hM.trans e1, _, _, ⟨rfl, rfl⟩, by omega, by omega, dist', e2, byf', e3, e4, e5⟩
end Go.Proofs.Ytapnkfkpkcajjaa
