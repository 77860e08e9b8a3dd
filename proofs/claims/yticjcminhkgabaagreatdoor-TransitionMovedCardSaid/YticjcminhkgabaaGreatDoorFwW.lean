/-
  What a proof works with: 'WPCall', 'WP', 'WPO' and their laws, each an equation.
-/
import Derived.Test.YticjcminhkgabaaGreatDoorFwS
namespace Go.DI
open Go Go.RowKit

section mono
variable {cl cl' : Callee}

def ClLe (cl cl' : Callee) : Prop := ∀ f a m r, cl f a m = some r → cl' f a m = some r

theorem stepOp_mono (h : ClLe cl cl') {base : Nat} {o : IOp} {σ : Slots} {m : Mem} {r : Slots × Mem} (hs : stepOp cl base o σ m = some r) : stepOp cl' base o σ m = some r := by
  unfold stepOp at hs ⊢
  by_cases hw : wantedI σ o.g = true
  · rw [if_pos hw] at hs ⊢
    cases hc : o.k.callee σ m with
    | none => rw [hc] at hs; exact hs
    | some fa =>
      obtain ⟨f, args⟩ := fa
      rw [hc] at hs
      simp only at hs ⊢
      cases hf : cl f args m with
      | none => rw [hf] at hs; cases hs
      | some vm => rw [hf] at hs; rw [h _ _ _ _ hf]; exact hs
  · rw [if_neg hw] at hs ⊢; exact hs

theorem runOps_mono (h : ClLe cl cl') {base : Nat} : ∀ {L : List IOp} {σ : Slots} {m : Mem} {r : Slots × Mem}, runOps cl base L σ m = some r → runOps cl' base L σ m = some r
  | [], _, _, _, hs => hs
  | _ :: _, _, _, _, hs => by
    obtain ⟨σ1, m1, h1, h2, h3⟩ := runOps_cons hs
    exact runOps_mk (stepOp_mono h h1) h2 (runOps_mono h h3)

theorem iter_mono {f g : Slots → Mem → Option (IExit × Slots × Mem)} (h : ∀ σ m r, f σ m = some r → g σ m = some r) : ∀ {n n' : Nat} {σ : Slots} {m : Mem} {r : IExit × Slots × Mem}, n ≤ n' → iter f n σ m = some r → iter g n' σ m = some r
  | 0, _, _, _, _, _, hs => by simp [iter] at hs
  | n + 1, 0, _, _, _, hn, _ => by omega
  | n + 1, n' + 1, σ, m, r, hn, hs => by
    rcases iter_step hs with ⟨σ1, m1, h1, h2⟩ | ⟨h1, h2⟩
    · simp only [iter, h _ _ _ h1]
      exact iter_mono h (by omega) h2
    · obtain ⟨r1, r2, r3⟩ := r
      simp only [iter, h _ _ _ h1]
      cases r1 with
      | normal => exact absurd rfl h2
      | exit id => rfl
      | ret => rfl

theorem exec_mono (h : ClLe cl cl') {n n' : Nat} (hn : n ≤ n') : ∀ {c : ICode} {σ : Slots} {m : Mem} {r : IExit × Slots × Mem}, exec cl n c σ m = some r → exec cl' n' c σ m = some r
  | .skip, _, _, _, hs => hs
  | .region ops, σ, m, r, hs => by
    simp only [exec] at hs ⊢
    split at hs
    · rename_i hr; rw [runOps_mono h hr]; exact hs
    · cases hs
  | .late pre o rest, σ, m, r, hs => by
    simp only [exec] at hs ⊢
    split at hs
    · rename_i h1
      split at hs
      · rename_i hok
        split at hs
        · rename_i h2
          rw [runOps_mono h h1]
          simp only [hok, if_true, runOps_mono h h2]
          exact hs
        · cases hs
      · cases hs
    · cases hs
  | .seq a b, σ, m, r, hs => by
    simp only [exec] at hs ⊢
    split at hs
    · rename_i h1
      rw [exec_mono h hn h1]
      exact exec_mono h hn hs
    · rename_i hne
      rw [exec_mono h hn hs]
      obtain ⟨r1, r2, r3⟩ := r
      cases r1 with
      | normal => exact absurd hs (hne _ _)
      | exit id => rfl
      | ret => rfl
  | .cond x a b, σ, m, r, hs => by
    simp only [exec] at hs ⊢
    split at hs
    · rename_i h1
      rw [if_pos h1]
      split at hs
      · rename_i h2; rw [if_pos h2]; exact exec_mono h hn hs
      · rename_i h2; rw [if_neg h2]; exact exec_mono h hn hs
    · cases hs
  | .block id c, σ, m, r, hs => by
    simp only [exec] at hs ⊢
    split at hs
    · rename_i h1; rw [exec_mono h hn h1]; exact hs
    · rename_i hne
      rw [exec_mono h hn hs]
      obtain ⟨r1, r2, r3⟩ := r
      cases r1 with
      | normal => rfl
      | exit id => exact absurd hs (hne _ _ _)
      | ret => rfl
  | .loop c, σ, m, r, hs => by
    simp only [exec] at hs ⊢
    exact iter_mono (fun σ m r h1 => exec_mono h hn h1) hn hs
  | .exit id, _, _, _, hs => hs
  | .ret, _, _, _, hs => hs

theorem callF_mono {P : Program} : ∀ {n n' : Nat}, n ≤ n' → ClLe (callF P n) (callF P n')
  | 0, _, _ => fun f a m r h => by simp [callF] at h
  | n + 1, 0, hn => by omega
  | n + 1, n' + 1, hn => fun f a m r h => by
    simp only [callF] at h ⊢
    split at h
    · rename_i F hF
      split at h
      · rename_i hle
        rw [if_pos hle]
        split at h
        · cases h
        · rename_i e σ' m' hne hex
          rw [exec_mono (callF_mono (by omega : n ≤ n')) (by omega : n ≤ n') hex]
          cases e with
          | normal => exact h
          | ret => exact h
          | exit id => exact absurd rfl (hne id)
        · cases h
      · cases h
    · cases h
end mono

section wp
variable (P : Program)

def WPCall (f : Nat) (args : List Value) (m : Mem) (Φ : Value → Mem → Prop) : Prop := ∃ n r m', callF P n f args m = some (r, m') ∧ Φ r m'
def WP (c : ICode) (σ : Slots) (m : Mem) (Q : IExit → Slots → Mem → Prop) : Prop := ∃ n e σ' m', exec (callF P n) n c σ m = some (e, σ', m') ∧ Q e σ' m'
def WPO (base : Nat) (ops : List IOp) (σ : Slots) (m : Mem) (K : Slots → Mem → Prop) : Prop := ∃ n σ' m', runOps (callF P n) base ops σ m = some (σ', m') ∧ K σ' m'

def thenK (b : ICode) (Q : IExit → Slots → Mem → Prop) (e : IExit) (σ : Slots) (m : Mem) : Prop := match e with | .normal => WP P b σ m Q | e => Q e σ m
def blockK (id : Nat) (Q : IExit → Slots → Mem → Prop) (e : IExit) (σ : Slots) (m : Mem) : Prop := match e with | .exit id' => if id' = id then Q .normal σ m else Q (.exit id') σ m | e => Q e σ m
def loopK (c : ICode) (Q : IExit → Slots → Mem → Prop) (e : IExit) (σ : Slots) (m : Mem) : Prop := match e with | .normal => WP P (.loop c) σ m Q | e => Q e σ m
def retK (rs : List IRes) (Φ : Value → Mem → Prop) (e : IExit) (σ : Slots) (m : Mem) : Prop := match e with | .exit _ => False | _ => retOk m σ rs = true ∧ Φ (retV m σ rs) m
def callK (base : Nat) (d : Option Nat) (ck : List (Operand × Operand)) (rest : List IOp) (σ : Slots) (m : Mem) (K : Slots → Mem → Prop) (r : Value) (m' : Mem) : Prop := keepOk σ ck m m' ∧ WPO P base rest (putD σ d r) m' K

variable {P} {σ : Slots} {m : Mem} {Q : IExit → Slots → Mem → Prop}

theorem thenK_normal {b : ICode} : thenK P b Q .normal σ m = WP P b σ m Q := rfl
theorem thenK_exit {b : ICode} {id : Nat} : thenK P b Q (.exit id) σ m = Q (.exit id) σ m := rfl
theorem thenK_ret {b : ICode} : thenK P b Q .ret σ m = Q .ret σ m := rfl
theorem blockK_normal {id : Nat} : blockK id Q .normal σ m = Q .normal σ m := rfl
theorem blockK_exit {id id' : Nat} : blockK id Q (.exit id') σ m = if id' = id then Q .normal σ m else Q (.exit id') σ m := rfl
theorem blockK_ret {id : Nat} : blockK id Q .ret σ m = Q .ret σ m := rfl
theorem loopK_normal {c : ICode} : loopK P c Q .normal σ m = WP P (.loop c) σ m Q := rfl
theorem loopK_exit {c : ICode} {id : Nat} : loopK P c Q (.exit id) σ m = Q (.exit id) σ m := rfl
theorem loopK_ret {c : ICode} : loopK P c Q .ret σ m = Q .ret σ m := rfl
theorem retK_normal {F : List IRes} {Φ : Value → Mem → Prop} : retK F Φ .normal σ m = (retOk m σ F = true ∧ Φ (retV m σ F) m) := rfl
theorem retK_ret {F : List IRes} {Φ : Value → Mem → Prop} : retK F Φ .ret σ m = (retOk m σ F = true ∧ Φ (retV m σ F) m) := rfl

theorem exec_up {n n' : Nat} (h : n ≤ n') {c : ICode} {r : IExit × Slots × Mem} (hs : exec (callF P n) n c σ m = some r) : exec (callF P n') n' c σ m = some r := exec_mono (callF_mono h) h hs

theorem wp_skip' : WP P .skip σ m Q = Q .normal σ m := by
  refine propext ⟨fun ⟨n, e, σ', m', h, q⟩ => ?_, fun h => ⟨0, _, _, _, rfl, h⟩⟩
  cases h; exact q
theorem wp_exit' {id : Nat} : WP P (.exit id) σ m Q = Q (.exit id) σ m := by
  refine propext ⟨fun ⟨n, e, σ', m', h, q⟩ => ?_, fun h => ⟨0, _, _, _, rfl, h⟩⟩
  cases h; exact q
theorem wp_ret' : WP P .ret σ m Q = Q .ret σ m := by
  refine propext ⟨fun ⟨n, e, σ', m', h, q⟩ => ?_, fun h => ⟨0, _, _, _, rfl, h⟩⟩
  cases h; exact q
theorem wp_region' {ops : List IOp} : WP P (.region ops) σ m Q = WPO P m.next ops σ (regBump ops m) (Q .normal) := by
  refine propext ⟨fun ⟨n, e, σ', m', h, q⟩ => ?_, fun ⟨n, σ', m', h, q⟩ => ⟨n, .normal, σ', m', by simp only [exec, h], q⟩⟩
  simp only [exec] at h
  split at h
  · rename_i hr; cases h; exact ⟨n, _, _, hr, q⟩
  · cases h
def lateK (o : IOp) (Q : IExit → Slots → Mem → Prop) (id : Nat) (σ1 : Slots) (m1 : Mem) (σ2 : Slots) (m2 : Mem) : Prop := Q .normal σ2 ((o.k.mem id σ1 m1).bump (m2.next - m1.next))
theorem wp_late {pre : List IOp} {o : IOp} {rest : List IOp} : WP P (.late pre o rest) σ m Q = WPO P m.next pre σ (m.bump (pre.length + (rest.length + 1))) fun σ1 m1 =>
    lateOk o σ1 m1 = true ∧ WPO P m.next rest (putD σ1 o.d (o.k.val (m.next + o.ix) σ1 m1)) (icy m1) (lateK o Q (m.next + o.ix) σ1 m1) := by
  refine propext ⟨fun ⟨n, e, σ', m', h, q⟩ => ?_, fun ⟨n, σ1, m1, h, hok, n2, σ2, m2, h2, q⟩ => ⟨max n n2, .normal, σ2, _, by
    simp only [exec, runOps_mono (callF_mono (Nat.le_max_left n n2)) h, hok, if_true, runOps_mono (callF_mono (Nat.le_max_right n n2)) h2], q⟩⟩
  simp only [exec] at h
  split at h
  · rename_i σ1 m1 h1
    split at h
    · rename_i hok
      split at h
      · rename_i σ2 m2 h2
        cases h
        exact ⟨n, σ1, m1, h1, hok, n, _, m2, h2, q⟩
      · cases h
    · cases h
  · cases h
theorem wp_seq' {a b : ICode} : WP P (.seq a b) σ m Q = WP P a σ m (thenK P b Q) := by
  refine propext ⟨fun ⟨n, e, σ', m', h, q⟩ => ?_, fun ⟨n, e, σ', m', h, q⟩ => ?_⟩
  · simp only [exec] at h
    split at h
    · rename_i σ1 m1 h1; exact ⟨n, .normal, σ1, m1, h1, n, e, σ', m', h, q⟩
    · rename_i hne
      refine ⟨n, e, σ', m', h, ?_⟩
      cases e with
      | normal => exact absurd h (hne _ _)
      | exit id => exact q
      | ret => exact q
  · cases e with
    | normal =>
      obtain ⟨n2, e2, σ2, m2, h2, q2⟩ := q
      refine ⟨max n n2, e2, σ2, m2, ?_, q2⟩
      simp only [exec, exec_up (Nat.le_max_left n n2) h]
      exact exec_up (Nat.le_max_right n n2) h2
    | exit id => exact ⟨n, _, σ', m', by simp only [exec, h], q⟩
    | ret => exact ⟨n, _, σ', m', by simp only [exec, h], q⟩
theorem wp_cond' {c : Operand} {a b : ICode} : WP P (.cond c a b) σ m Q = (isB (ev σ c) = true ∧ if asB (ev σ c) = true then WP P a σ m Q else WP P b σ m Q) := by
  refine propext ⟨fun ⟨n, e, σ', m', h, q⟩ => ?_, fun ⟨h1, h2⟩ => ?_⟩
  · simp only [exec] at h
    split at h
    · rename_i h1
      refine ⟨h1, ?_⟩
      split at h
      · rename_i h2; rw [if_pos h2]; exact ⟨n, e, σ', m', h, q⟩
      · rename_i h2; rw [if_neg h2]; exact ⟨n, e, σ', m', h, q⟩
    · cases h
  · split at h2
    · rename_i h3; obtain ⟨n, e, σ', m', h, q⟩ := h2; exact ⟨n, e, σ', m', by simp only [exec, if_pos h1, if_pos h3, h], q⟩
    · rename_i h3; obtain ⟨n, e, σ', m', h, q⟩ := h2; exact ⟨n, e, σ', m', by simp only [exec, if_pos h1, if_neg h3, h], q⟩
theorem wp_block' {id : Nat} {c : ICode} : WP P (.block id c) σ m Q = WP P c σ m (blockK id Q) := by
  refine propext ⟨fun ⟨n, e, σ', m', h, q⟩ => ?_, fun ⟨n, e, σ', m', h, q⟩ => ?_⟩
  · simp only [exec] at h
    split at h
    · rename_i id' σ1 m1 h1
      refine ⟨n, .exit id', σ1, m1, h1, ?_⟩
      rw [blockK_exit]
      split at h
      · rename_i he; cases h; rw [if_pos he]; exact q
      · rename_i he; cases h; rw [if_neg he]; exact q
    · rename_i hne
      refine ⟨n, e, σ', m', h, ?_⟩
      cases e with
      | normal => exact q
      | exit id' => exact absurd h (hne _ _ _)
      | ret => exact q
  · cases e with
    | normal => exact ⟨n, .normal, σ', m', by simp only [exec, h], q⟩
    | ret => exact ⟨n, .ret, σ', m', by simp only [exec, h], q⟩
    | exit id' =>
      rw [blockK_exit] at q
      split at q
      · rename_i he; exact ⟨n, .normal, σ', m', by simp only [exec, h, if_pos he], q⟩
      · rename_i he; exact ⟨n, .exit id', σ', m', by simp only [exec, h, if_neg he], q⟩
theorem wp_loop' {c : ICode} : WP P (.loop c) σ m Q = WP P c σ m (loopK P c Q) := by
  refine propext ⟨fun ⟨n, e, σ', m', h, q⟩ => ?_, fun ⟨n, e, σ', m', h, q⟩ => ?_⟩
  · simp only [exec] at h
    cases n with
    | zero => simp [iter] at h
    | succ n =>
      rcases iter_step h with ⟨σ1, m1, h1, h2⟩ | ⟨h1, h2⟩
      · refine ⟨n + 1, .normal, σ1, m1, h1, n + 1, e, σ', m', ?_, q⟩
        simp only [exec]
        exact iter_mono (fun _ _ _ h => h) (by omega) h2
      · refine ⟨n + 1, e, σ', m', h1, ?_⟩
        cases e with
        | normal => exact absurd rfl h2
        | exit id => exact q
        | ret => exact q
  · cases e with
    | normal =>
      obtain ⟨n2, e2, σ2, m2, h2, q2⟩ := q
      refine ⟨max n n2 + 1, e2, σ2, m2, ?_, q2⟩
      simp only [exec] at h2 ⊢
      have h1 : exec (callF P (max n n2 + 1)) (max n n2 + 1) c σ m = some (.normal, σ', m') := exec_up (by omega) h
      simp only [iter, h1]
      exact iter_mono (fun _ _ _ h => exec_up (by omega) h) (by omega) h2
    | exit id => exact ⟨n + 1, _, σ', m', by simp only [exec, iter]; rw [exec_up (by omega : n ≤ n + 1) h], q⟩
    | ret => exact ⟨n + 1, _, σ', m', by simp only [exec, iter]; rw [exec_up (by omega : n ≤ n + 1) h], q⟩

theorem wpCall_def {f : Nat} {args : List Value} {Φ : Value → Mem → Prop} {F : IFunc} (hF : cFunc P f = some F) (hl : args.length ≤ F.nt) : WPCall P f args m Φ = WP P F.body (initσ args) m (retK F.res Φ) := by
  refine propext ⟨fun ⟨n, r, m', h, q⟩ => ?_, fun ⟨n, e, σ', m', h, q⟩ => ?_⟩
  · cases n with
    | zero => simp [callF] at h
    | succ n =>
      simp only [callF, hF, if_pos hl] at h
      split at h
      · cases h
      · rename_i e σ' m1 hne hex
        split at h
        · rename_i hok
          cases h
          refine ⟨n, e, σ', m', hex, ?_⟩
          cases e with
          | normal => exact ⟨hok, q⟩
          | ret => exact ⟨hok, q⟩
          | exit id => exact absurd rfl (hne id)
        · cases h
      · cases h
  · cases e with
    | normal => exact ⟨n + 1, _, m', by simp only [callF, hF, if_pos hl, h, q.1, if_true], q.2⟩
    | ret => exact ⟨n + 1, _, m', by simp only [callF, hF, if_pos hl, h, q.1, if_true], q.2⟩
    | exit id => exact q.elim

/-- a call's outcome is one -/
def Ret (P : Program) (f : Nat) (args : List Value) (m : Mem) (r : Value) (m' : Mem) : Prop := ∃ n, callF P n f args m = some (r, m')
theorem Ret.wp {f : Nat} {args : List Value} {r : Value} {m' : Mem} (h : Ret P f args m r m') {Φ : Value → Mem → Prop} : WPCall P f args m Φ = Φ r m' := by
  obtain ⟨n, hn⟩ := h
  refine propext ⟨fun ⟨n', r', m'', h', q⟩ => ?_, fun q => ⟨n, r, m', hn, q⟩⟩
  have h1 := callF_mono (Nat.le_max_left n n') _ _ _ _ hn
  have h2 := callF_mono (Nat.le_max_right n n') _ _ _ _ h'
  rw [h1] at h2
  cases h2; exact q
theorem Ret.of_wp {f : Nat} {args : List Value} {r : Value} {m' : Mem} (h : WPCall P f args m fun r' m'' => r' = r ∧ m'' = m') : Ret P f args m r m' := by
  obtain ⟨n, r', m'', h1, rfl, rfl⟩ := h
  exact ⟨n, h1⟩
theorem WPCall.ret {f : Nat} {args : List Value} {Φ : Value → Mem → Prop} (h : WPCall P f args m Φ) : ∃ r m', Ret P f args m r m' ∧ Φ r m' := by
  obtain ⟨n, r, m', h1, q⟩ := h
  exact ⟨r, m', ⟨n, h1⟩, q⟩
theorem WPCall.mono {f : Nat} {args : List Value} {Φ Ψ : Value → Mem → Prop} (h : WPCall P f args m Φ) (hq : ∀ r m', Φ r m' → Ψ r m') : WPCall P f args m Ψ := by
  obtain ⟨n, r, m', h1, q⟩ := h
  exact ⟨n, r, m', h1, hq _ _ q⟩
theorem WP.mono {c : ICode} {Q' : IExit → Slots → Mem → Prop} (h : WP P c σ m Q) (hq : ∀ e σ' m', Q e σ' m' → Q' e σ' m') : WP P c σ m Q' := by
  obtain ⟨n, e, σ', m', h1, q⟩ := h
  exact ⟨n, e, σ', m', h1, hq _ _ _ q⟩

/-! the operations -/
variable {K : Slots → Mem → Prop} {base ix : Nat} {rest : List IOp} {d : Option Nat} {g : Option (Nat × Bool)} {ck : List (Operand × Operand)}
theorem wpo_nil : WPO P base [] σ m K = K σ m := by
  refine propext ⟨fun ⟨n, σ', m', h, q⟩ => ?_, fun h => ⟨0, _, _, rfl, h⟩⟩
  cases h; exact q
theorem runOps_up {n n' : Nat} (h : n ≤ n') {L : List IOp} {r : Slots × Mem} (hs : runOps (callF P n) base L σ m = some r) : runOps (callF P n') base L σ m = some r := runOps_mono (callF_mono h) hs

theorem wpo_plain {k : IK} (hk : k.isCall = false) : WPO P base (⟨ix, d, none, k, ck⟩ :: rest) σ m K = (k.ok σ m = true ∧ ckOk σ ck = true ∧ WPO P base rest (putD σ d (k.val (base + ix) σ m)) (k.mem (base + ix) σ m) K) := by
  have hcal : k.callee σ m = none := isCall_callee hk
  refine propext ⟨fun ⟨n, σ', m', h, q⟩ => ?_, fun ⟨h1, h2, n, σ', m', h3, q⟩ => ?_⟩
  · obtain ⟨σ1, m1, h1, h2, h3⟩ := runOps_cons h
    obtain ⟨hok, e⟩ := step_mem (o := ⟨ix, d, none, k, ck⟩) rfl hcal h1
    cases e
    have h4 := h2 rfl
    simp only [hcal] at h4
    exact ⟨hok, h4, n, σ', m', h3, q⟩
  · refine ⟨n, σ', m', runOps_mk (step_mem_mk (o := ⟨ix, d, none, k, ck⟩) rfl hcal h1) (fun _ => ?_) h3, q⟩
    simp only [hcal]; exact h2
theorem wpo_guard {k : IK} {t : Nat} {b : Bool} : WPO P base (⟨ix, d, some (t, b), k, ck⟩ :: rest) σ m K = if wantedI σ (some (t, b)) = true then WPO P base (⟨ix, d, none, k, ck⟩ :: rest) σ m K else WPO P base rest (putD σ d undef) m K := by
  split
  · rename_i hw
    have hst : ∀ cl : Callee, stepOp cl base ⟨ix, d, some (t, b), k, ck⟩ σ m = stepOp cl base ⟨ix, d, none, k, ck⟩ σ m := fun cl => by
      unfold stepOp
      simp only [hw, if_true, show wantedI σ none = true from rfl]
    have hcp : ∀ m', ckProp ⟨ix, d, some (t, b), k, ck⟩ σ m m' ↔ ckProp ⟨ix, d, none, k, ck⟩ σ m m' := fun m' => ⟨fun h _ => h hw, fun h _ => h rfl⟩
    refine propext ⟨fun ⟨n, σ', m', h, q⟩ => ?_, fun ⟨n, σ', m', h, q⟩ => ?_⟩
    · obtain ⟨σ1, m1, h1, h2, h3⟩ := runOps_cons h
      exact ⟨n, σ', m', runOps_mk (by rw [← hst]; exact h1) ((hcp _).1 h2) h3, q⟩
    · obtain ⟨σ1, m1, h1, h2, h3⟩ := runOps_cons h
      exact ⟨n, σ', m', runOps_mk (by rw [hst]; exact h1) ((hcp _).2 h2) h3, q⟩
  · rename_i hw
    have hw' : wantedI σ (some (t, b)) = false := by simpa using hw
    refine propext ⟨fun ⟨n, σ', m', h, q⟩ => ?_, fun ⟨n, σ', m', h, q⟩ => ?_⟩
    · obtain ⟨σ1, m1, h1, h2, h3⟩ := runOps_cons h
      rw [step_skip_ (o := ⟨ix, d, some (t, b), k, ck⟩) hw'] at h1
      cases h1
      exact ⟨n, σ', m', h3, q⟩
    · exact ⟨n, σ', m', runOps_mk (step_skip_ (o := ⟨ix, d, some (t, b), k, ck⟩) hw') (fun h => absurd h hw) h, q⟩
theorem wpo_callee {k : IK} {f : Nat} {args : List Value} (hcal : k.callee σ m = some (f, args)) : WPO P base (⟨ix, d, none, k, ck⟩ :: rest) σ m K = WPCall P f args m (callK P base d ck rest σ m K) := by
  refine propext ⟨fun ⟨n, σ', m', h, q⟩ => ?_, fun ⟨n, r, m1, h, h1, n2, σ2, m2, h2, q⟩ => ?_⟩
  · obtain ⟨σ1, m1, h1, h2, h3⟩ := runOps_cons h
    obtain ⟨v, m2, g1, g2⟩ := step_call (o := ⟨ix, d, none, k, ck⟩) rfl hcal h1
    cases g2
    have h4 := h2 rfl
    simp only [hcal] at h4
    exact ⟨n, v, _, g1, h4, n, σ', m', h3, q⟩
  · refine ⟨max n n2, σ2, m2, runOps_mk (step_call_mk (o := ⟨ix, d, none, k, ck⟩) rfl hcal (callF_mono (Nat.le_max_left n n2) _ _ _ _ h)) (fun _ => ?_) (runOps_up (Nat.le_max_right n n2) h2), q⟩
    simp only [hcal]; exact h1
theorem wpo_call {f : Nat} {as : List Operand} : WPO P base (⟨ix, d, none, .call f as, ck⟩ :: rest) σ m K = WPCall P f (as.map (ev σ)) m (callK P base d ck rest σ m K) := wpo_callee rfl
theorem wpo_callv {x : Operand} {as : List Operand} {f : Nat} {first caps : Array Value} (h : ev σ x = .func (.func f) first caps) :
    WPO P base (⟨ix, d, none, .callv x as, ck⟩ :: rest) σ m K = WPCall P f (first.toList ++ as.map (ev σ) ++ caps.toList) m (callK P base d ck rest σ m K) := wpo_callee (by simp only [IK.callee, h])
theorem callK_nil {r : Value} {m' : Mem} : callK P base d [] rest σ m K r m' = WPO P base rest (putD σ d r) m' K := by
  simp [callK, keepOk]
theorem ckOk_nil : ckOk σ [] = true := rfl
end wp

/-! a law's frame -/
theorem MRel.empty {B : Nat} {w : World} : MRel B (fun _ => none) ⟨0, fun _ => none, fun _ => none⟩ w where
  dom := fun _ _ h => by cases h
  inb := fun _ _ h => by cases h
  live := fun b x h => by unfold Mem.get at h; split at h <;> cases h
  excl := fun b x b' x' l l' h => by unfold Mem.get at h; split at h <;> cases h
  mdom := fun _ _ h => by cases h
  maps := fun b es h => by simp only [Mem.getM, Mem.get, Nat.not_lt_zero, if_false] at h; cases h

theorem law_flat {P : Program} (hmix : P.follows .mixedOrders = true) {f : Nat} {args : List Value} (hfl : args.all flat1 = true) (W : World) (h : WPCall P f args ⟨0, fun _ => none, fun _ => none⟩ fun r _ => r = .bool true) :
    Calls P f args.toArray W fun e w' => e = .returned (.bool true) ∧ Below W.heap.size W w' := by
  obtain ⟨n, r, m', h1, rfl⟩ := h
  have := (call_all hmix n W.heap.size f args _ _ _ h1).2.2.2.2 (fun _ => none) W args.toArray (by simpa using LRel.flat _ hfl) MRel.empty (Nat.le_refl _)
  refine this.mono fun e w' hh => ?_
  obtain ⟨v, ρ', rfl, _, _, hv, _, hb⟩ := hh
  exact ⟨by rw [hv.inv_bool], hb⟩

end Go.DI
