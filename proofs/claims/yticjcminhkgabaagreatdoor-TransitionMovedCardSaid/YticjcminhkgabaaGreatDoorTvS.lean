/-
  A computed run that knows what some calls of whole contents answer.
-/
import Derived.Test.YticjcminhkgabaaGreatDoorTvR
namespace Go.DI
open Go Go.RowKit
set_option linter.unusedSimpArgs false
set_option linter.unusedVariables false

/-- equality of values without functions and memory -/
def veq : Nat → Value → Value → Bool
  | 0, _, _ => false
  | n + 1, a, b => match a, b with
    | .bool x, .bool y => decide (x = y)
    | .int k x, .int k' y => decide (k = k') && decide (x = y)
    | .string s, .string s' => decide (s.data.toList = s'.data.toList)
    | .nilFunc, .nilFunc => true
    | .nilIface, .nilIface => true
    | .pointer none, .pointer none => true
    | .slice none l z, .slice none l' z' => Nat.beq l l' && Nat.beq z z'
    | .agg xs, .agg ys => eqs (veq n) xs.toList ys.toList
    | .tuple xs, .tuple ys => eqs (veq n) xs.toList ys.toList
    | .func (.yield k) xs cs, .func (.yield k') ys ds => Nat.beq k k' && (eqs (veq n) xs.toList ys.toList && eqs (veq n) cs.toList ds.toList)
    | _, _ => false
where
  eqs (f : Value → Value → Bool) : List Value → List Value → Bool
  | [], [] => true
  | x :: l, y :: k => f x y && eqs f l k
  | _, _ => false
theorem eqs_sound {f : Value → Value → Bool} (hf : ∀ a b, f a b = true → a = b) : ∀ {l k : List Value}, veq.eqs f l k = true → l = k
  | [], [], _ => rfl
  | [], _ :: _, h => by cases h
  | _ :: _, [], h => by cases h
  | x :: l, y :: k, h => by
    simp only [veq.eqs, Bool.and_eq_true] at h
    rw [hf x y h.1, eqs_sound hf h.2]
theorem veq_sound : ∀ {n : Nat} (a b : Value), veq n a b = true → a = b
  | 0, _, _, h => by cases h
  | n + 1, a, b, h => by
    have ih : ∀ a b, veq n a b = true → a = b := fun a b h => veq_sound a b h
    have arr : ∀ {xs ys : Array Value}, veq.eqs (veq n) xs.toList ys.toList = true → xs = ys := fun {xs ys} h => Array.toList_inj.1 (eqs_sound ih h)
    simp only [veq] at h
    split at h
    · rw [of_decide_eq_true h]
    · simp only [Bool.and_eq_true, decide_eq_true_eq] at h; rw [h.1, h.2]
    · next s s' =>
      have := of_decide_eq_true h
      obtain ⟨⟨l⟩⟩ := s; obtain ⟨⟨l'⟩⟩ := s'
      simp only at this; rw [this]
    · rfl
    · rfl
    · rfl
    · simp only [Bool.and_eq_true, Nat.beq_eq] at h; rw [h.1, h.2]
    · rw [arr h]
    · rw [arr h]
    · simp only [Bool.and_eq_true, Nat.beq_eq] at h; rw [h.1, arr h.2.1, arr h.2.2]
    · cases h
def vals (n : Nat) (l k : List Value) : Bool := veq.eqs (veq n) l k
theorem vals_sound {n : Nat} {l k : List Value} (h : vals n l k = true) : l = k := eqs_sound (fun a b h => veq_sound a b h) h

abbrev Memo := List (Nat × List Value × Value)
def memoF (f : Nat) (ts : List Value) : Memo → Option Value
  | [] => none
  | p :: l => bif Nat.beq p.1 f && vals 30 p.2.1 ts then some p.2.2 else memoF f ts l
def hasF (f : Nat) : Memo → Bool
  | [] => false
  | p :: l => Nat.beq p.1 f || hasF f l
def MemoOk (P : Program) (l : Memo) : Prop := ∀ p ∈ l, TPure P p.1 p.2.1 p.2.2
theorem memoF_ok {P : Program} {f : Nat} {ts : List Value} {r : Value} : ∀ {l : Memo}, MemoOk P l → memoF f ts l = some r → TPure P f ts r
  | [], _, h => by cases h
  | p :: l, hl, h => by
    simp only [memoF] at h
    cases hb : Nat.beq p.1 f && vals 30 p.2.1 ts with
    | false => rw [hb] at h; exact memoF_ok (fun q hq => hl q (by simp [hq])) h
    | true =>
      rw [hb] at h
      simp only [cond_true, Option.some.injEq] at h
      simp only [Bool.and_eq_true, Nat.beq_eq] at hb
      rw [← hb.1, ← vals_sound hb.2, ← h]
      exact hl p (by simp)
/-- a known call -/
def knownE (mo : Memo) (f : Nat) (args : List Value) (M : TM) : Option (Value × TM) := match frzs 9 (mm M) args with
  | some ts => (match memoF f ts mo with
    | some r => if flatV r then (match clrE M (args.flatMap (reach 9 (mm M))) with
          | some M2 => some (r, M2)
          | none => none)
        else (match shutE M (args.flatMap (reach 9 (mm M))) with
          | some M2 => some (r, M2)
          | none => none)
    | none => none)
  | none => none
theorem knownE_ok {P : Program} {mo : Memo} (hmo : MemoOk P mo) {f : Nat} {args : List Value} {M M' : TM} {r : Value} (hw : WFM M) (h : knownE mo f args M = some (r, M')) : WFM M' ∧ WPTC P f args (mm M) fun r' t' => r' = r ∧ t' = mm M' := by
  have fin : ∀ {ts : List Value}, ∀ hp : TPure P f ts r, pureT [oneP hp] f args (mm M) (fun r' t' => r' = r ∧ t' = mm M') → WPTC P f args (mm M) fun r' t' => r' = r ∧ t' = mm M' := fun {ts} hp q E F as m hs ha => by
    refine (pure_soundT hs ha q).mono fun r' m' hh => ?_
    obtain ⟨h1, F', r0, t', ⟨rfl, rfl⟩, h3, h4, h5⟩ := hh
    exact ⟨E, F', _, _, ⟨rfl, rfl⟩, h3, h4, h5⟩
  unfold knownE at h
  split at h
  · next ts hts =>
    split at h
    · next r1 hr =>
      have hp : TPure P f ts r1 := memoF_ok hmo hr
      split at h
      · next hfl =>
        split at h
        · next M2 h2 =>
          cases h
          obtain ⟨w2, e2⟩ := clrE_ok hw h2
          exact ⟨w2, fin hp (one_pure hp hts ⟨rfl, by rw [if_pos hfl, e2]⟩)⟩
        · cases h
      · next hfl =>
        split at h
        · next M2 h2 =>
          cases h
          obtain ⟨w2, e2⟩ := shutE_ok hw h2
          exact ⟨w2, fin hp (one_pure hp hts ⟨rfl, by rw [if_neg hfl, e2]⟩)⟩
        · cases h
    · cases h
  · cases h
/-- a call, to a depth; each loop has at most n rounds; some functions are known -/
def funM (tbl : Nat → Option IFunc) (mo : Memo) (n : Nat) : Nat → ClE
  | 0 => fun _ _ _ => none
  | d + 1 => fun f args M => bif hasF f mo then knownE mo f args M else match tbl f with
    | some Fn => if Nat.ble args.length Fn.nt && Nat.blt args.length 1000000 then endE Fn.res (codeE (funM tbl mo n d) n Fn.body (initE args 0 .nil) M) else none
    | none => none
theorem funM_ok {P : Program} {tbl : Nat → Option IFunc} (ht : TblOk P tbl) {mo : Memo} (hmo : MemoOk P mo) {n : Nat} : ∀ d, ClOk P (funM tbl mo n d)
  | 0 => fun f args M r M' hw h => by cases h
  | d + 1 => fun f args M r M' hw h => by
    simp only [funM] at h
    cases hb : hasF f mo with
    | true => rw [hb] at h; exact knownE_ok hmo hw h
    | false =>
    rw [hb] at h
    simp only [cond_false] at h
    split at h
    · next Fn hf =>
      obtain ⟨hF, hok⟩ := ht f Fn hf
      split at h
      · next hl =>
        simp only [Bool.and_eq_true, Nat.ble_eq, Nat.blt_eq] at hl
        cases hc : codeE (funM tbl mo n d) n Fn.body (initE args 0 .nil) M with
        | none => rw [hc] at h; cases h
        | some x =>
          obtain ⟨e, S, M1⟩ := x
          rw [hc] at h
          obtain ⟨w, q⟩ := codeE_ok (funM_ok ht hmo d) hok hw hc
          have fin : e ≠ .exit 0 → (∀ id, e ≠ .exit id) → retOk (mm M1) (sg S) Fn.res = true → r = retV (mm M1) (sg S) Fn.res → M' = M1 → WFM M' ∧ WPTC P f args (mm M) fun r' t' => r' = r ∧ t' = mm M' := fun _ hne hr e1 e2 => by
            subst e1; subst e2
            refine ⟨w, fun E F as m hs ha => ?_⟩
            rw [wpCall_def hF (by rw [← ha.1]; exact hl.1)]
            refine (q E F (initσ as) m hs (by rw [sg_init hl.2]; exact SR.init ha)).mono fun e' s1 m1 hh => ?_
            obtain ⟨rfl, E1, F1, g1, g2, g3⟩ := hh
            obtain ⟨a, b⟩ := ret_rel g1 g2 hr
            cases e' with
            | exit id => exact absurd rfl (hne id)
            | normal => exact ⟨a, E1, F1, _, _, ⟨rfl, rfl⟩, g1, b, g3⟩
            | ret => exact ⟨a, E1, F1, _, _, ⟨rfl, rfl⟩, g1, b, g3⟩
          cases e with
          | exit id => simp only [endE] at h; cases h
          | normal =>
            simp only [endE] at h
            split at h
            · next hr => cases h; exact fin (by simp) (by simp) hr rfl rfl
            · cases h
          | ret =>
            simp only [endE] at h
            split at h
            · next hr => cases h; exact fin (by simp) (by simp) hr rfl rfl
            · cases h
      · cases h
    · cases h
/-- a closed call of whole contents, computed, with known calls -/
def evalM (tbl : Nat → Option IFunc) (mo : Memo) (n d f : Nat) (args : List Value) (r : Value) : Bool := match funM tbl mo n d f args TM0 with
  | some (v, M1) => (match frz 9 (mm M1) v with
    | some r1 => veq 30 r1 r
    | none => false)
  | none => false
theorem evalM_tp {P : Program} {tbl : Nat → Option IFunc} (ht : TblOk P tbl) {mo : Memo} (hmo : MemoOk P mo) {n d f : Nat} {args : List Value} {r : Value} (h : evalM tbl mo n d f args r = true) : TPure P f args r := by
  unfold evalM at h
  split at h
  · next v M1 hM =>
    obtain ⟨w, q⟩ := funM_ok ht hmo d f args TM0 _ _ wf0 hM
    rw [mm0] at q
    split at h
    · next r1 hr =>
      have := veq_sound _ _ h
      subst this
      exact tpure_of (q.mono fun r' t' hh => by rw [hh.1, hh.2]; exact hr)
    · cases h
  · cases h
theorem memo_nil {P : Program} : MemoOk P [] := fun p hp => by cases hp
theorem memo_cons {P : Program} {p : Nat × List Value × Value} {l : Memo} (h : TPure P p.1 p.2.1 p.2.2) (hl : MemoOk P l) : MemoOk P (p :: l) := fun q hq => by
  rcases List.mem_cons.1 hq with rfl | hq
  · exact h
  · exact hl q hq
end Go.DI
