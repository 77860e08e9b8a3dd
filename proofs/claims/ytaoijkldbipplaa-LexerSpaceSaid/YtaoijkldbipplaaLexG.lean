/-
  'LexerExact'.
-/
import Derived.Test.YtaoijkldbipplaaLexF
namespace Go.Proofs.Ytaoijkldbipplaa
open Go Go.DI
set_option linter.unusedSimpArgs false
set_option linter.unusedVariables false

theorem pre_ok {o : Out} {acc ts : List Tk} (h : o.pre acc = .ok ts) : ∃ us, o = .ok us ∧ ts = acc ++ us := by
  cases o with
  | ok us => simp only [Out.pre, Out.ok.injEq] at h; exact ⟨us, rfl, h.symm⟩
  | err e l c => simp [Out.pre] at h
theorem lex_len {T : ByteArray} {i : Nat} {l c : Int} {o : Out} (hL : Lex T i l c o) : ∀ ts, o = .ok ts → i ≤ T.size → ts.length ≤ T.size - i + 1 := by
  induction hL with
  | done h => intro ts h1 _; cases h1; simp
  | nl h0 h1 hL ih => intro ts h2 h3; have := ih ts h2 (by omega); omega
  | sp h0 h1 h2 hL ih => intro ts h2 h3; have := ih ts h2 (by omega); omega
  | @com i l c o k h0 h1 hk hL ih =>
    intro ts h2 h3
    have p2 := @rw1_le notNl T i
    rw [← hk] at p2
    have := ih ts h2 (by omega); omega
  | @name i l c o k h0 h1 hk hk2 hL ih =>
    intro ts h2 h3
    obtain ⟨us, rfl, rfl⟩ := pre_ok h2
    have p1 := rw1_pos h0 (letter_inner h1)
    have p2 := @rw1_le isInner T i
    rw [← hk] at p1 p2
    have := ih us rfl (by omega); simp; omega
  | nameX => intro ts h; cases h
  | @num i l c o k h0 h1 hk hk2 hL ih =>
    intro ts h2 h3
    obtain ⟨us, rfl, rfl⟩ := pre_ok h2
    have p1 := rw1_pos h0 h1
    have p2 := @rw1_le isDigit T i
    rw [← hk] at p1 p2
    have := ih us rfl (by omega); simp; omega
  | numX => intro ts h; cases h
  | @sign i l c o h0 h1 hL ih =>
    intro ts h2 h3
    obtain ⟨us, rfl, rfl⟩ := pre_ok h2
    have := ih us rfl (by omega); simp; omega
  | bad => intro ts h; cases h
theorem scans_len {T : ByteArray} {ts : List Tk} (h : Scans T (.ok ts)) : ts.length ≤ T.size + 1 := by
  unfold Scans at h
  split at h
  · cases h
  · exact lex_len h ts rfl (Nat.zero_le _)

theorem exact_wp (T : ByteArray) (m : Mem) : WPCall Try.prog 3 [.string T] m fun r _ => r = .bool true := by
  rw [call3 (by simp)]
  by_cases h9 : 9000 < T.size
  · have h9' : (9000 : Int) < T.size := by omega
    simp [ir3_b, h9']
    refine (awake_wp _).mono fun r m' hp => ?_
    obtain ⟨rfl, _, _⟩ := hp
    simp
  · have h9' : ¬ (9000 : Int) < T.size := by omega
    obtain ⟨o, ho⟩ := scans_total (T := T)
    simp [ir3_b, h9']
    refine (scan_wp (by omega) ho _).mono fun r1 m1 hp1 => ?_
    obtain ⟨k1, k2, hp1⟩ := hp1
    simp only [next_put, next_bump] at k1 k2
    cases o with
    | ok ts =>
      obtain ⟨v, rfl, hv⟩ := hp1
      simp (disch := first | omega | (simp only [next_put, next_bump]; omega)) [get_put_self, get_put_ne, get_bump, put_put]
      refine (rscan_wp (by omega) ho _).mono fun r2 m2 hp2 => ?_
      obtain ⟨q1, q2, w, rfl, hw⟩ := hp2
      simp only [next_put, next_bump] at q1 q2
      have hA : m2.get (m.next + 6) = some ⟨[.int .i64 0, .int .i64 0], true⟩ := by
        rw [q2 _ (by omega)]; simp (disch := first | omega | (simp only [next_put, next_bump]; omega)) [get_put_self, get_put_ne, get_bump]
      simp (disch := first | omega | (simp only [next_put, next_bump]; omega)) [hA, get_put_self, get_put_ne, get_bump, put_put]
      have hl := scans_len ho
      have hv2 : TokSl (m2.put (m1.next + 6) (some ⟨[.int .i64 0, .int .i64 0], true⟩)) (fun _ => True) v ts := hv.mono fun a z ha hz => by
        have := get_lt hz
        simp only [next_bump] at ha
        refine ⟨trivial, ?_⟩
        rw [get_put_ne (by omega), q2 a (by omega)]
        simp (disch := first | omega | (simp only [next_put, next_bump]; omega)) only [get_put_ne, get_bump, hz]
      have hw2 : TokSl (m2.put (m1.next + 6) (some ⟨[.int .i64 0, .int .i64 0], true⟩)) (fun _ => True) w ts := hw.mono fun a z ha hz => by
        have := get_lt hz
        simp only [next_put, next_bump] at ha
        refine ⟨trivial, ?_⟩
        rw [get_put_ne (by omega), hz]
      rw [(same_ret hv2 hw2 (by omega)).wp]
      simp
      refine (awake_wp _).mono fun r m' hp => ?_
      obtain ⟨rfl, _, _⟩ := hp
      simp
    | err e l c =>
      subst hp1
      simp (disch := first | omega | (simp only [next_put, next_bump]; omega)) [get_put_self, get_put_ne, get_bump, put_put]
      refine (rscan_wp (by omega) ho _).mono fun r2 m2 hp2 => ?_
      obtain ⟨q1, q2, rfl⟩ := hp2
      simp only [next_put, next_bump] at q1 q2
      have hA : m2.get (m.next + 6) = some ⟨[.int .i64 l, .int .i64 c], true⟩ := by
        rw [q2 _ (by omega)]; simp (disch := first | omega | (simp only [next_put, next_bump]; omega)) [get_put_self, get_put_ne, get_bump]
      simp (disch := first | omega | (simp only [next_put, next_bump]; omega)) [hA, get_put_self, get_put_ne, get_bump, put_put]
      rw [(same_ret (ts := []) (x := fun _ => True) (y := fun _ => True) (.inl ⟨rfl, rfl⟩) (.inl ⟨rfl, rfl⟩) (by simp)).wp]
      simp
      refine (awake_wp _).mono fun r m' hp => ?_
      obtain ⟨rfl, _, _⟩ := hp
      simp
end Go.Proofs.Ytaoijkldbipplaa
