/-
  'LexerSpace': the walk.
-/
import Derived.Test.YtaoijkldbipplaaLexM
namespace Go.Proofs.Ytaoijkldbipplaa
open Go Go.DI
set_option linter.unusedSimpArgs false
set_option linter.unusedVariables false

def Btw (m : Mem) (v : Value) (bt : List Int) : Prop := (v = .slice none 0 0 ∧ bt = []) ∨ ∃ b, v = .slice (some ⟨b, 0, none⟩) bt.length 1 ∧ m.get b = some ⟨bt.map (.int .u8 ·), false⟩
def gapB (k : Nat) : ByteArray := ⟨((gaps.getD k [32])).toArray⟩
theorem gapB_mem (k : Nat) : bs (gapB k) ∈ gaps := by
  unfold gapB
  match k with
  | 0 | 1 | 2 | 3 | 4 => decide
  | k + 5 => simp [gaps]

set_option maxHeartbeats 2000000 in
theorem sp_loop0 {ts : List Tk} (hts : ts.length < 100000) (htx : ∀ t ∈ ts, t.text.size ≤ 40) {a : Nat} {m0 : Mem} (hg : m0.get a = some ⟨cells4 ts, true⟩) {v : Value} {bt : List Int} (hv : Btw m0 v bt) (hbt : ∀ n ∈ bt, 0 ≤ n ∧ n < 256) {Q : IExit → Slots → Mem → Prop} :
    ∀ (r i : Nat) (m : Mem) (σ : Slots) (s : ByteArray), i + r = ts.length → m0.next ≤ m.next → (∀ a, a < m0.next → m.get a = m0.get a) → σ 1 = v → σ 5 = .slice (some ⟨a, 0, none⟩) ts.length 4 → σ 8 = .string s → σ 9 = .int .i64 i → s.size ≤ i * 48 →
    (∀ σ' m' s' gs, m0.next ≤ m'.next → (∀ a, a < m0.next → m'.get a = m0.get a) → gs.length = r → (∀ g ∈ gs, g ∈ gaps) → bs s' = bs s ++ joinL gs (ts.drop i) → s'.size ≤ ts.length * 48 → σ' 5 = .slice (some ⟨a, 0, none⟩) ts.length 4 → σ' 8 = .string s' → Q (.exit 0) σ' m') → WP Try.prog (.loop ir5_l0) σ m Q
  | 0, i, m, σ, s, hi, hn, hm, s1, s5, s8, s9, hs, hQ => by
    refine wp_round fun J hJ => ?_
    have h1 : ¬ (i : Int) < ts.length := by omega
    have h2 : ¬ i < ts.length := by omega
    simp [ir5_l0, s1, s5, s8, s9, h1, h2]
    exact hQ _ _ s [] hn hm rfl (by simp) (by simp [joinL]) (by omega) (by simp [s5]) (by simp [s8])
  | r + 1, i, m, σ, s, hi, hn, hm, s1, s5, s8, s9, hs, hQ => by
    refine wp_round fun J hJ => ?_
    have h1 : (i : Int) < ts.length := by omega
    have h2 : i < ts.length := by omega
    obtain ⟨t, ht⟩ : ∃ t, ts[i]? = some t := ⟨ts[i]'h2, by simp⟩
    have htm := htx t (List.mem_of_getElem? ht)
    have hdrop : ts.drop i = t :: ts.drop (i + 1) := by
      rw [List.drop_eq_getElem_cons h2]; rw [List.getElem?_eq_getElem h2] at ht; cases ht; rfl
    have hla := get_lt hg
    have hga := hm a hla
    rw [hg] at hga
    have c1 := cells4_get ht (j := 1) (by omega)
    simp [tokCells] at c1
    have hb : i * 4 + 4 ≤ ts.length * 4 := by omega
    have hb3 : i * 4 + 2 ≤ ts.length * 4 := by omega
    have w0 : IntKind.i64.wrap ((i : Int) + 1) = (i : Int) + 1 := i64_id (by omega) (by omega)
    -- the rest of the round
    have rest : ∀ (g : ByteArray) (σ' : Slots) (m' : Mem), bs g ∈ gaps → m0.next ≤ m'.next → (∀ a, a < m0.next → m'.get a = m0.get a) → σ' 1 = v → σ' 5 = .slice (some ⟨a, 0, none⟩) ts.length 4 → σ' 8 = .string (s ++ g ++ t.text) → σ' 9 = .int .i64 ((i : Int) + 1) → J σ' m' := by
      intro g σ' m' hg1 hn' hm' q1 q5 q8 q9
      have hgl := gap_len hg1
      rw [bs_len] at hgl
      refine hJ _ _ (sp_loop0 hts htx hg hv hbt r (i + 1) m' σ' _ (by omega) hn' hm' q1 q5 q8 (by rw [q9]; simp) (by simp; omega) fun σ'' m'' s'' gs k1 k2 k3 k4 k5 k6 k7 k8 => hQ σ'' m'' s'' (bs g :: gs) k1 k2 (by simp [k3]) ?_ ?_ k6 k7 k8)
      · intro x hx
        rcases List.mem_cons.1 hx with rfl | hx
        · exact hg1
        · exact k4 x hx
      · rw [k5, hdrop]; simp [joinL, bs]
    by_cases hlt : i < bt.length
    · obtain ⟨b, rfl, hgb⟩ : ∃ b, v = .slice (some ⟨b, 0, none⟩) bt.length 1 ∧ m0.get b = some ⟨bt.map (.int .u8 ·), false⟩ := by
        rcases hv with ⟨_, rfl⟩ | h
        · simp at hlt
        · exact h
      have hlb := get_lt hgb
      have hgb' := hm b hlb
      rw [hgb] at hgb'
      obtain ⟨n, hn1⟩ : ∃ n, bt[i]? = some n := ⟨bt[i]'hlt, by simp⟩
      have hn2 : ∀ h, bt[i]'h = n := fun h => by rw [List.getElem?_eq_getElem h] at hn1; simpa using hn1
      have hnr := hbt n (List.mem_of_getElem? hn1)
      have w1 : IntKind.i64.wrap n = n := i64_id (by omega) (by omega)
      have e1 : n.tmod 5 = n % 5 := Int.tmod_eq_emod_of_nonneg (by omega)
      have hlt' : (i : Int) < bt.length := by omega
      have hlt2 : i + 1 ≤ bt.length := by omega
      have hk : n % 5 = 0 ∨ n % 5 = 1 ∨ n % 5 = 2 ∨ n % 5 = 3 ∨ n % 5 = 4 := by omega
      have hgl : ∀ k, (gapB k).size ≤ 8 := fun k => by have := gap_len (gapB_mem k); rwa [bs_len] at this
      rcases hk with hk | hk | hk | hk | hk
      · have eg : (⟨#[32]⟩ : ByteArray) = gapB 0 := by decide
        have hg0 := hgl 0
        have y1 : s.size + (gapB 0).size ≤ 9223372036854775807 := by omega
        have y2 : s.size + (gapB 0).size + t.text.size ≤ 9223372036854775807 := by omega
        simp (disch := first | omega | (simp only [next_put, next_bump]; omega)) [ir5_l0, s1, s5, s8, s9, h1, h2, hlt, hlt', hlt2, hga, hgb', hn1, hn2, w0, w1, e1, hk, hb, hb3, c1, head_td, get_put_self, get_put_ne, get_bump, eg, y1, y2]
        exact rest (gapB 0) _ _ (gapB_mem 0) (by simp only [next_put, next_bump]; omega) (fun c hc => by simp (disch := first | omega | (simp only [next_put, next_bump]; omega)) only [get_put_ne, get_bump]; exact hm c hc) (by simp [s1]) (by simp [s5]) (by simp) (by simp)
      · have eg : (⟨#[10]⟩ : ByteArray) = gapB 1 := by decide
        have hg0 := hgl 1
        have y1 : s.size + (gapB 1).size ≤ 9223372036854775807 := by omega
        have y2 : s.size + (gapB 1).size + t.text.size ≤ 9223372036854775807 := by omega
        simp (disch := first | omega | (simp only [next_put, next_bump]; omega)) [ir5_l0, s1, s5, s8, s9, h1, h2, hlt, hlt', hlt2, hga, hgb', hn1, hn2, w0, w1, e1, hk, hb, hb3, c1, head_td, get_put_self, get_put_ne, get_bump, eg, y1, y2]
        exact rest (gapB 1) _ _ (gapB_mem 1) (by simp only [next_put, next_bump]; omega) (fun c hc => by simp (disch := first | omega | (simp only [next_put, next_bump]; omega)) only [get_put_ne, get_bump]; exact hm c hc) (by simp [s1]) (by simp [s5]) (by simp) (by simp)
      · have eg : (⟨#[9, 13, 32]⟩ : ByteArray) = gapB 2 := by decide
        have hg0 := hgl 2
        have y1 : s.size + (gapB 2).size ≤ 9223372036854775807 := by omega
        have y2 : s.size + (gapB 2).size + t.text.size ≤ 9223372036854775807 := by omega
        simp (disch := first | omega | (simp only [next_put, next_bump]; omega)) [ir5_l0, s1, s5, s8, s9, h1, h2, hlt, hlt', hlt2, hga, hgb', hn1, hn2, w0, w1, e1, hk, hb, hb3, c1, head_td, get_put_self, get_put_ne, get_bump, eg, y1, y2]
        exact rest (gapB 2) _ _ (gapB_mem 2) (by simp only [next_put, next_bump]; omega) (fun c hc => by simp (disch := first | omega | (simp only [next_put, next_bump]; omega)) only [get_put_ne, get_bump]; exact hm c hc) (by simp [s1]) (by simp [s5]) (by simp) (by simp)
      · have eg : (⟨#[35, 120, 59, 121, 123, 10]⟩ : ByteArray) = gapB 3 := by decide
        have hg0 := hgl 3
        have y1 : s.size + (gapB 3).size ≤ 9223372036854775807 := by omega
        have y2 : s.size + (gapB 3).size + t.text.size ≤ 9223372036854775807 := by omega
        simp (disch := first | omega | (simp only [next_put, next_bump]; omega)) [ir5_l0, s1, s5, s8, s9, h1, h2, hlt, hlt', hlt2, hga, hgb', hn1, hn2, w0, w1, e1, hk, hb, hb3, c1, head_td, get_put_self, get_put_ne, get_bump, eg, y1, y2]
        exact rest (gapB 3) _ _ (gapB_mem 3) (by simp only [next_put, next_bump]; omega) (fun c hc => by simp (disch := first | omega | (simp only [next_put, next_bump]; omega)) only [get_put_ne, get_bump]; exact hm c hc) (by simp [s1]) (by simp [s5]) (by simp) (by simp)
      · have eg : (⟨#[32, 35, 32, 49, 47, 50, 10, 10]⟩ : ByteArray) = gapB 4 := by decide
        have hg0 := hgl 4
        have y1 : s.size + (gapB 4).size ≤ 9223372036854775807 := by omega
        have y2 : s.size + (gapB 4).size + t.text.size ≤ 9223372036854775807 := by omega
        simp (disch := first | omega | (simp only [next_put, next_bump]; omega)) [ir5_l0, s1, s5, s8, s9, h1, h2, hlt, hlt', hlt2, hga, hgb', hn1, hn2, w0, w1, e1, hk, hb, hb3, c1, head_td, get_put_self, get_put_ne, get_bump, eg, y1, y2]
        exact rest (gapB 4) _ _ (gapB_mem 4) (by simp only [next_put, next_bump]; omega) (fun c hc => by simp (disch := first | omega | (simp only [next_put, next_bump]; omega)) only [get_put_ne, get_bump]; exact hm c hc) (by simp [s1]) (by simp [s5]) (by simp) (by simp)
    · have hlt' : ¬ (i : Int) < bt.length := by omega
      have hl : lenOfV v = bt.length := by rcases hv with ⟨rfl, rfl⟩ | ⟨b, rfl, _⟩ <;> rfl
      have hsl : isSl v = true := by rcases hv with ⟨rfl, rfl⟩ | ⟨b, rfl, _⟩ <;> rfl
      have eg : (⟨#[32]⟩ : ByteArray) = gapB 0 := by decide
      have hg0 : (gapB 0).size ≤ 8 := by decide
      have y1 : s.size + (gapB 0).size ≤ 9223372036854775807 := by omega
      have y2 : s.size + (gapB 0).size + t.text.size ≤ 9223372036854775807 := by omega
      rcases hv with ⟨rfl, rfl⟩ | ⟨b, rfl, _⟩
      · simp (disch := first | omega | (simp only [next_put, next_bump]; omega)) [ir5_l0, s1, s5, s8, s9, h1, h2, hlt, hlt', hga, w0, hb, hb3, c1, head_td, get_put_self, get_put_ne, get_bump, eg, y1, y2]
        exact rest (gapB 0) _ _ (gapB_mem 0) (by first | exact hn | (simp only [next_put, next_bump]; omega)) (fun c hc => by exact hm c hc) (by simp [s1]) (by simp [s5]) (by simp) (by simp)
      · simp (disch := first | omega | (simp only [next_put, next_bump]; omega)) [ir5_l0, s1, s5, s8, s9, h1, h2, hlt, hlt', hga, w0, hb, hb3, c1, head_td, get_put_self, get_put_ne, get_bump, eg, y1, y2]
        exact rest (gapB 0) _ _ (gapB_mem 0) (by first | exact hn | (simp only [next_put, next_bump]; omega)) (fun c hc => by exact hm c hc) (by simp [s1]) (by simp [s5]) (by simp) (by simp)

set_option maxHeartbeats 2000000 in
theorem sp_loop1 {ts us : List Tk} (hts : ts.length < 100000) (hk : us.map kt = ts.map kt) {a b : Nat} {m : Mem} (hg : m.get a = some ⟨cells4 ts, true⟩) (hh : m.get b = some ⟨cells4 us, true⟩) {Q : IExit → Slots → Mem → Prop} (hQ : ∀ σ', Q (.exit 2) σ' m) :
    ∀ (r i : Nat) (σ : Slots), i + r = ts.length → σ 5 = .slice (some ⟨a, 0, none⟩) ts.length 4 → σ 11 = .slice (some ⟨b, 0, none⟩) us.length 4 → σ 14 = .int .i64 i → WP Try.prog (.loop ir5_l1) σ m Q
  | 0, i, σ, hi, s5, s11, s14 => by
    refine wp_round fun J hJ => ?_
    have h1 : ¬ (i : Int) < ts.length := by omega
    have h2 : ¬ i < ts.length := by omega
    simp [ir5_l1, s5, s11, s14, h1, h2]
    exact hQ _
  | r + 1, i, σ, hi, s5, s11, s14 => by
    refine wp_round fun J hJ => ?_
    have hlen : us.length = ts.length := by have := congrArg List.length hk; simpa using this
    have h1 : (i : Int) < ts.length := by omega
    have h2 : i < ts.length := by omega
    have h3 : (i : Int) < us.length := by omega
    have h4 : i < us.length := by omega
    obtain ⟨t, ht⟩ : ∃ t, ts[i]? = some t := ⟨ts[i]'h2, by simp⟩
    obtain ⟨u, hu⟩ : ∃ u, us[i]? = some u := ⟨us[i]'h4, by simp⟩
    have hkt : kt u = kt t := by
      have := congrArg (fun l => l[i]?) hk
      simp [ht, hu] at this; exact this
    have e1 : u.kind = t.kind := congrArg Prod.fst hkt
    have e2 : u.text = t.text := congrArg Prod.snd hkt
    have c0 := cells4_get ht (j := 0) (by omega)
    have c1 := cells4_get ht (j := 1) (by omega)
    have d0 := cells4_get hu (j := 0) (by omega)
    have d1 := cells4_get hu (j := 1) (by omega)
    rw [Nat.add_zero] at c0 d0
    simp only [tokCells] at c0 d0
    have c0' : ∀ h : i * 4 < (cells4 ts).length, (cells4 ts)[i * 4]'h = .int .i64 t.kind := fun h => by
      have := c0; rw [List.getElem?_eq_getElem h] at this; simpa using this
    have d0' : ∀ h : i * 4 < (cells4 us).length, (cells4 us)[i * 4]'h = .int .i64 t.kind := fun h => by
      have := d0; rw [List.getElem?_eq_getElem h] at this; simpa [e1] using this
    simp [tokCells] at c1 d1
    rw [e2] at d1
    have hb : i * 4 + 4 ≤ ts.length * 4 := by omega
    have hb1 : i * 4 + 1 ≤ ts.length * 4 := by omega
    have hb3 : i * 4 + 2 ≤ ts.length * 4 := by omega
    have hd1 : i * 4 + 1 ≤ us.length * 4 := by omega
    have hd3 : i * 4 + 2 ≤ us.length * 4 := by omega
    have w0 : IntKind.i64.wrap ((i : Int) + 1) = (i : Int) + 1 := i64_id (by omega) (by omega)
    simp [ir5_l1, s5, s11, s14, h1, h2, h3, h4, hg, hh, w0, hb, hb1, hb3, hd1, hd3, c0', c1, d0', d1, head_td]
    exact hJ _ _ (sp_loop1 hts hk hg hh hQ r (i + 1) _ (by omega) (by simp [s5]) (by simp [s11]) (by simp))

theorem lex_err {T : ByteArray} {i : Nat} {l c : Int} {o : Out} (hL : Lex T i l c o) : ∀ e' l' c', o = .err e' l' c' → e' ≠ 0 := by
  induction hL with
  | done h => intro e' l' c' h; cases h
  | nl h0 h1 hL ih => exact ih
  | sp h0 h1 h2 hL ih => exact ih
  | com h0 h1 hk hL ih => exact ih
  | @name _ _ _ o _ h0 h1 hk hk2 hL ih => intro e' l' c' h; cases o with
    | ok us => cases h
    | err a b c => exact ih _ _ _ h
  | nameX => intro e' l' c' h; cases h; decide
  | @num _ _ _ o _ h0 h1 hk hk2 hL ih => intro e' l' c' h; cases o with
    | ok us => cases h
    | err a b c => exact ih _ _ _ h
  | numX => intro e' l' c' h; cases h; decide
  | @sign _ _ _ o h0 h1 hL ih => intro e' l' c' h; cases o with
    | ok us => cases h
    | err a b c => exact ih _ _ _ h
  | bad => intro e' l' c' h; cases h; decide

set_option maxHeartbeats 2000000 in
theorem lspace_wp (T : ByteArray) (v : Value) (bt : List Int) (m : Mem) (hv : Btw m v bt) (hbt : ∀ n ∈ bt, 0 ≤ n ∧ n < 256) : WPCall Try.prog 5 [.string T, v] m fun r _ => r = .bool true := by
  rw [call5 (by simp)]
  by_cases h9 : 800 < T.size
  · have h9' : (800 : Int) < T.size := by omega
    simp [ir5_b, h9']
    refine (awake_wp _).mono fun r m' hp => ?_
    obtain ⟨rfl, _, _⟩ := hp
    simp
  · have h9' : ¬ (800 : Int) < T.size := by omega
    simp [ir5_b, h9']
    refine scan_go (by omega) fun o w m1 ho k1 l1 hw => ?_
    simp only [next_put, next_bump] at k1 l1
    simp (disch := first | omega | (simp only [next_put, next_bump]; omega)) [get_put_self, get_put_ne, get_bump, put_put]
    have ho' := ho
    unfold Scans at ho'
    rw [if_neg (by omega)] at ho'
    cases o with
    | err e l c =>
      have he := lex_err ho' _ _ _ rfl
      simp [Out.e, he]
      refine (awake_wp _).mono fun r m' hp => ?_
      obtain ⟨rfl, _, _⟩ := hp
      simp
    | ok ts =>
      have hlen := scans_len ho
      obtain ⟨ts0, e, hts, he1, he2, hgood⟩ := lex_good ho' ts rfl (Nat.zero_le _)
      rcases hw with ⟨h0, rfl⟩ | ⟨a, ha, rfl, hga⟩
      · exact absurd (by rw [← h0]; rfl) (lex_ne ho')
      have hla := get_lt hga
      simp only [next_bump] at ha
      simp [Out.tks, Out.e] at hga ha ⊢
      have htx : ∀ t ∈ ts, t.text.size ≤ 40 := by
        intro t ht
        rw [hts] at ht
        rcases List.mem_append.1 ht with h | h
        · exact (hgood t h).len
        · simp at h; subst h; rw [he2]; decide
      refine sp_loop0 (ts := ts) (by omega) htx (a := a) (m0 := m1.put (m.next + 6) (some ⟨[.int .i64 0, .int .i64 0], true⟩)) ?_ (v := v) (bt := bt) ?_ hbt ts.length 0 _ _ ⟨#[]⟩ (by omega) (Nat.le_refl _) (fun _ _ => rfl) (by simp) (by simp) (by simp) (by simp) (by simp; rfl) fun σ' m' s' gs q1 q2 q3 q4 q5 q6 q7 q8 => ?_
      · simp (disch := first | omega | (simp only [next_put, next_bump]; omega)) only [get_put_ne, get_bump, hga]
      · rcases hv with h | ⟨b, h1, h2⟩
        · exact .inl h
        · have := get_lt h2
          exact .inr ⟨b, h1, by rw [get_put_ne (by omega), l1 b (by omega), get_bump (by omega), h2]⟩
      · simp at q1 q2 q5
        by_cases h8 : 8000 < s'.size
        · have h8' : (8000 : Int) < s'.size := by omega
          simp [q7, q8, h8']
          refine (awake_wp _).mono fun r m' hp => ?_
          obtain ⟨rfl, _, _⟩ := hp
          simp
        · have h8' : ¬ (8000 : Int) < s'.size := by omega
          simp [q7, q8, h8']
          have hat : At s' 0 (joinL gs (ts0 ++ [e])) := ⟨Nat.zero_le _, by rw [List.drop_zero, q5, hts]; rfl⟩
          obtain ⟨o2, hL2, us, rfl, hus⟩ := relex he1 he2 ts0 gs 0 hgood q4 (by rw [q3, hts]; simp) hat 1 1
          have hS2 : Scans s' (.ok us) := by unfold Scans; rw [if_neg (by omega)]; exact hL2
          rw [← hts] at hus
          refine (scan_wp (by omega) hS2 _).mono fun r m2 hp => ?_
          obtain ⟨k2, l2, w2, rfl, hw2⟩ := hp
          simp only [next_put, next_bump] at k2 l2
          rcases hw2 with ⟨h0, rfl⟩ | ⟨a2, ha2, rfl, hga2⟩
          · exact absurd (by rw [h0]) (lex_ne hL2)
          simp only [next_bump] at ha2
          have hla2 := get_lt hga2
          have hul : us.length = ts.length := by have := congrArg List.length hus; simpa using this
          have hgA : m2.get a = some ⟨cells4 ts, true⟩ := by
            rw [l2 a (by omega), get_bump (by omega), q2 a (by omega), get_put_ne (by omega), hga]
          simp (disch := first | omega | (simp only [next_put, next_bump]; omega)) [q7, q8, hul, get_put_self, get_put_ne, get_bump, put_put]
          refine sp_loop1 (by omega) hus (a := a) (b := a2) ?_ ?_ ?_ ts.length 0 _ (by omega) (by simp [q7]) (by simp [hul]) (by simp)
          · rw [get_put_ne (by omega)]; exact hgA
          · rw [get_put_ne (by omega)]; exact hga2
          · intro σ''
            simp
            refine (awake_wp _).mono fun r m' hp => ?_
            obtain ⟨rfl, _, _⟩ := hp
            simp
end Go.Proofs.Ytaoijkldbipplaa
namespace Go.Proofs.Ytaoijkldbipplaa
open Go Go.DI
theorem lexerSpace_law (m : Mem) (us : List Value) (h : AbsArgs m [.str, .slice (.int .u8)] us) : WPCall Try.prog 5 us m fun r _ => r = .bool true := by
  rcases h with _ | ⟨h1, h⟩
  rcases h with _ | ⟨h2, h⟩
  cases h
  obtain ⟨rfl, _⟩ := h1.str
  obtain ⟨h3, _, h4⟩ := h2.ints
  exact lspace_wp _ _ _ m h3 fun n hn => u8_wf (h4 n hn)
end Go.Proofs.Ytaoijkldbipplaa
