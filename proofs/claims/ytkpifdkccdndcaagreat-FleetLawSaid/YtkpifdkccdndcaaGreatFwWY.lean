/-
  What a proof works with: 'WPCall', 'WP', 'WPO' and their laws, each an equation.
  The laws of a proof's own steps: each an equation, for simp. Written by a program of ours (genx.py).
  Laws of the abstract memory, and of numbers, for a proof's own steps.
-/
import Derived.Test.YtkpifdkccdndcaaGreatFwTS
namespace Go.DI
open Go Go.RowKit

section mono
variable {cl cl' : Callee}

def ClLe (cl cl' : Callee) : Prop := ∀ f a m r, cl f a m = some r → cl' f a m = some r

theorem stepOp_mono (h : ClLe cl cl') {base : Nat} {o : IOp} {σ : Slots} {m : Mem} {r : Slots × Mem} (hs : stepOp cl base o σ m = some r) : stepOp cl' base o σ m = some r := by
  unfold stepOp at hs ⊢
  by_cases hw : wantedI σ o.g = true
  · rw [if_pos hw] at hs ⊢
    cases hc : o.k.callee σ m with
    | none => rw [hc] at hs; exact hs
    | some fa =>
      obtain ⟨f, args⟩ := fa
      rw [hc] at hs
      simp only at hs ⊢
      cases hf : cl f args m with
      | none => rw [hf] at hs; cases hs
      | some vm => rw [hf] at hs; rw [h _ _ _ _ hf]; exact hs
  · rw [if_neg hw] at hs ⊢; exact hs

theorem runOps_mono (h : ClLe cl cl') {base : Nat} : ∀ {L : List IOp} {σ : Slots} {m : Mem} {r : Slots × Mem}, runOps cl base L σ m = some r → runOps cl' base L σ m = some r
  | [], _, _, _, hs => hs
  | _ :: _, _, _, _, hs => by
    obtain ⟨σ1, m1, h1, h2, h3⟩ := runOps_cons hs
    exact runOps_mk (stepOp_mono h h1) h2 (runOps_mono h h3)

theorem iter_mono {f g : Slots → Mem → Option (IExit × Slots × Mem)} (h : ∀ σ m r, f σ m = some r → g σ m = some r) : ∀ {n n' : Nat} {σ : Slots} {m : Mem} {r : IExit × Slots × Mem}, n ≤ n' → iter f n σ m = some r → iter g n' σ m = some r
  | 0, _, _, _, _, _, hs => by simp [iter] at hs
  | n + 1, 0, _, _, _, hn, _ => by omega
  | n + 1, n' + 1, σ, m, r, hn, hs => by
    rcases iter_step hs with ⟨σ1, m1, h1, h2⟩ | ⟨h1, h2⟩
    · simp only [iter, h _ _ _ h1]
      exact iter_mono h (by omega) h2
    · obtain ⟨r1, r2, r3⟩ := r
      simp only [iter, h _ _ _ h1]
      cases r1 with
      | normal => exact absurd rfl h2
      | exit id => rfl
      | ret => rfl

theorem exec_mono (h : ClLe cl cl') {n n' : Nat} (hn : n ≤ n') : ∀ {c : ICode} {σ : Slots} {m : Mem} {r : IExit × Slots × Mem}, exec cl n c σ m = some r → exec cl' n' c σ m = some r
  | .skip, _, _, _, hs => hs
  | .region ops, σ, m, r, hs => by
    simp only [exec] at hs ⊢
    split at hs
    · rename_i hr; rw [runOps_mono h hr]; exact hs
    · cases hs
  | .seq a b, σ, m, r, hs => by
    simp only [exec] at hs ⊢
    split at hs
    · rename_i h1
      rw [exec_mono h hn h1]
      exact exec_mono h hn hs
    · rename_i hne
      rw [exec_mono h hn hs]
      obtain ⟨r1, r2, r3⟩ := r
      cases r1 with
      | normal => exact absurd hs (hne _ _)
      | exit id => rfl
      | ret => rfl
  | .cond x a b, σ, m, r, hs => by
    simp only [exec] at hs ⊢
    split at hs
    · rename_i h1
      rw [if_pos h1]
      split at hs
      · rename_i h2; rw [if_pos h2]; exact exec_mono h hn hs
      · rename_i h2; rw [if_neg h2]; exact exec_mono h hn hs
    · cases hs
  | .block id c, σ, m, r, hs => by
    simp only [exec] at hs ⊢
    split at hs
    · rename_i h1; rw [exec_mono h hn h1]; exact hs
    · rename_i hne
      rw [exec_mono h hn hs]
      obtain ⟨r1, r2, r3⟩ := r
      cases r1 with
      | normal => rfl
      | exit id => exact absurd hs (hne _ _ _)
      | ret => rfl
  | .loop c, σ, m, r, hs => by
    simp only [exec] at hs ⊢
    exact iter_mono (fun σ m r h1 => exec_mono h hn h1) hn hs
  | .exit id, _, _, _, hs => hs
  | .ret, _, _, _, hs => hs

theorem callF_mono {P : Program} : ∀ {n n' : Nat}, n ≤ n' → ClLe (callF P n) (callF P n')
  | 0, _, _ => fun f a m r h => by simp [callF] at h
  | n + 1, 0, hn => by omega
  | n + 1, n' + 1, hn => fun f a m r h => by
    simp only [callF] at h ⊢
    split at h
    · rename_i F hF
      split at h
      · rename_i hle
        rw [if_pos hle]
        split at h
        · cases h
        · rename_i e σ' m' hne hex
          rw [exec_mono (callF_mono (by omega : n ≤ n')) (by omega : n ≤ n') hex]
          cases e with
          | normal => exact h
          | ret => exact h
          | exit id => exact absurd rfl (hne id)
        · cases h
      · cases h
    · cases h
end mono

section wp
variable (P : Program)

def WPCall (f : Nat) (args : List Value) (m : Mem) (Φ : Value → Mem → Prop) : Prop := ∃ n r m', callF P n f args m = some (r, m') ∧ Φ r m'
def WP (c : ICode) (σ : Slots) (m : Mem) (Q : IExit → Slots → Mem → Prop) : Prop := ∃ n e σ' m', exec (callF P n) n c σ m = some (e, σ', m') ∧ Q e σ' m'
def WPO (base : Nat) (ops : List IOp) (σ : Slots) (m : Mem) (K : Slots → Mem → Prop) : Prop := ∃ n σ' m', runOps (callF P n) base ops σ m = some (σ', m') ∧ K σ' m'

def thenK (b : ICode) (Q : IExit → Slots → Mem → Prop) (e : IExit) (σ : Slots) (m : Mem) : Prop := match e with | .normal => WP P b σ m Q | e => Q e σ m
def blockK (id : Nat) (Q : IExit → Slots → Mem → Prop) (e : IExit) (σ : Slots) (m : Mem) : Prop := match e with | .exit id' => if id' = id then Q .normal σ m else Q (.exit id') σ m | e => Q e σ m
def loopK (c : ICode) (Q : IExit → Slots → Mem → Prop) (e : IExit) (σ : Slots) (m : Mem) : Prop := match e with | .normal => WP P (.loop c) σ m Q | e => Q e σ m
def retK (rs : List IRes) (Φ : Value → Mem → Prop) (e : IExit) (σ : Slots) (m : Mem) : Prop := match e with | .exit _ => False | _ => retOk m σ rs = true ∧ Φ (retV m σ rs) m
def callK (base : Nat) (d : Option Nat) (ck : List (Operand × Operand)) (rest : List IOp) (σ : Slots) (m : Mem) (K : Slots → Mem → Prop) (r : Value) (m' : Mem) : Prop := keepOk σ ck m m' ∧ WPO P base rest (putD σ d r) m' K

variable {P} {σ : Slots} {m : Mem} {Q : IExit → Slots → Mem → Prop}

theorem thenK_normal {b : ICode} : thenK P b Q .normal σ m = WP P b σ m Q := rfl
theorem thenK_exit {b : ICode} {id : Nat} : thenK P b Q (.exit id) σ m = Q (.exit id) σ m := rfl
theorem thenK_ret {b : ICode} : thenK P b Q .ret σ m = Q .ret σ m := rfl
theorem blockK_normal {id : Nat} : blockK id Q .normal σ m = Q .normal σ m := rfl
theorem blockK_exit {id id' : Nat} : blockK id Q (.exit id') σ m = if id' = id then Q .normal σ m else Q (.exit id') σ m := rfl
theorem blockK_ret {id : Nat} : blockK id Q .ret σ m = Q .ret σ m := rfl
theorem loopK_normal {c : ICode} : loopK P c Q .normal σ m = WP P (.loop c) σ m Q := rfl
theorem loopK_exit {c : ICode} {id : Nat} : loopK P c Q (.exit id) σ m = Q (.exit id) σ m := rfl
theorem loopK_ret {c : ICode} : loopK P c Q .ret σ m = Q .ret σ m := rfl
theorem retK_normal {F : List IRes} {Φ : Value → Mem → Prop} : retK F Φ .normal σ m = (retOk m σ F = true ∧ Φ (retV m σ F) m) := rfl
theorem retK_ret {F : List IRes} {Φ : Value → Mem → Prop} : retK F Φ .ret σ m = (retOk m σ F = true ∧ Φ (retV m σ F) m) := rfl

theorem exec_up {n n' : Nat} (h : n ≤ n') {c : ICode} {r : IExit × Slots × Mem} (hs : exec (callF P n) n c σ m = some r) : exec (callF P n') n' c σ m = some r := exec_mono (callF_mono h) h hs

theorem wp_skip' : WP P .skip σ m Q = Q .normal σ m := by
  refine propext ⟨fun ⟨n, e, σ', m', h, q⟩ => ?_, fun h => ⟨0, _, _, _, rfl, h⟩⟩
  cases h; exact q
theorem wp_exit' {id : Nat} : WP P (.exit id) σ m Q = Q (.exit id) σ m := by
  refine propext ⟨fun ⟨n, e, σ', m', h, q⟩ => ?_, fun h => ⟨0, _, _, _, rfl, h⟩⟩
  cases h; exact q
theorem wp_ret' : WP P .ret σ m Q = Q .ret σ m := by
  refine propext ⟨fun ⟨n, e, σ', m', h, q⟩ => ?_, fun h => ⟨0, _, _, _, rfl, h⟩⟩
  cases h; exact q
theorem wp_region' {ops : List IOp} : WP P (.region ops) σ m Q = WPO P m.next ops σ (regBump ops m) (Q .normal) := by
  refine propext ⟨fun ⟨n, e, σ', m', h, q⟩ => ?_, fun ⟨n, σ', m', h, q⟩ => ⟨n, .normal, σ', m', by simp only [exec, h], q⟩⟩
  simp only [exec] at h
  split at h
  · rename_i hr; cases h; exact ⟨n, _, _, hr, q⟩
  · cases h
theorem wp_seq' {a b : ICode} : WP P (.seq a b) σ m Q = WP P a σ m (thenK P b Q) := by
  refine propext ⟨fun ⟨n, e, σ', m', h, q⟩ => ?_, fun ⟨n, e, σ', m', h, q⟩ => ?_⟩
  · simp only [exec] at h
    split at h
    · rename_i σ1 m1 h1; exact ⟨n, .normal, σ1, m1, h1, n, e, σ', m', h, q⟩
    · rename_i hne
      refine ⟨n, e, σ', m', h, ?_⟩
      cases e with
      | normal => exact absurd h (hne _ _)
      | exit id => exact q
      | ret => exact q
  · cases e with
    | normal =>
      obtain ⟨n2, e2, σ2, m2, h2, q2⟩ := q
      refine ⟨max n n2, e2, σ2, m2, ?_, q2⟩
      simp only [exec, exec_up (Nat.le_max_left n n2) h]
      exact exec_up (Nat.le_max_right n n2) h2
    | exit id => exact ⟨n, _, σ', m', by simp only [exec, h], q⟩
    | ret => exact ⟨n, _, σ', m', by simp only [exec, h], q⟩
theorem wp_cond' {c : Operand} {a b : ICode} : WP P (.cond c a b) σ m Q = (isB (ev σ c) = true ∧ if asB (ev σ c) = true then WP P a σ m Q else WP P b σ m Q) := by
  refine propext ⟨fun ⟨n, e, σ', m', h, q⟩ => ?_, fun ⟨h1, h2⟩ => ?_⟩
  · simp only [exec] at h
    split at h
    · rename_i h1
      refine ⟨h1, ?_⟩
      split at h
      · rename_i h2; rw [if_pos h2]; exact ⟨n, e, σ', m', h, q⟩
      · rename_i h2; rw [if_neg h2]; exact ⟨n, e, σ', m', h, q⟩
    · cases h
  · split at h2
    · rename_i h3; obtain ⟨n, e, σ', m', h, q⟩ := h2; exact ⟨n, e, σ', m', by simp only [exec, if_pos h1, if_pos h3, h], q⟩
    · rename_i h3; obtain ⟨n, e, σ', m', h, q⟩ := h2; exact ⟨n, e, σ', m', by simp only [exec, if_pos h1, if_neg h3, h], q⟩
theorem wp_block' {id : Nat} {c : ICode} : WP P (.block id c) σ m Q = WP P c σ m (blockK id Q) := by
  refine propext ⟨fun ⟨n, e, σ', m', h, q⟩ => ?_, fun ⟨n, e, σ', m', h, q⟩ => ?_⟩
  · simp only [exec] at h
    split at h
    · rename_i id' σ1 m1 h1
      refine ⟨n, .exit id', σ1, m1, h1, ?_⟩
      rw [blockK_exit]
      split at h
      · rename_i he; cases h; rw [if_pos he]; exact q
      · rename_i he; cases h; rw [if_neg he]; exact q
    · rename_i hne
      refine ⟨n, e, σ', m', h, ?_⟩
      cases e with
      | normal => exact q
      | exit id' => exact absurd h (hne _ _ _)
      | ret => exact q
  · cases e with
    | normal => exact ⟨n, .normal, σ', m', by simp only [exec, h], q⟩
    | ret => exact ⟨n, .ret, σ', m', by simp only [exec, h], q⟩
    | exit id' =>
      rw [blockK_exit] at q
      split at q
      · rename_i he; exact ⟨n, .normal, σ', m', by simp only [exec, h, if_pos he], q⟩
      · rename_i he; exact ⟨n, .exit id', σ', m', by simp only [exec, h, if_neg he], q⟩
theorem wp_loop' {c : ICode} : WP P (.loop c) σ m Q = WP P c σ m (loopK P c Q) := by
  refine propext ⟨fun ⟨n, e, σ', m', h, q⟩ => ?_, fun ⟨n, e, σ', m', h, q⟩ => ?_⟩
  · simp only [exec] at h
    cases n with
    | zero => simp [iter] at h
    | succ n =>
      rcases iter_step h with ⟨σ1, m1, h1, h2⟩ | ⟨h1, h2⟩
      · refine ⟨n + 1, .normal, σ1, m1, h1, n + 1, e, σ', m', ?_, q⟩
        simp only [exec]
        exact iter_mono (fun _ _ _ h => h) (by omega) h2
      · refine ⟨n + 1, e, σ', m', h1, ?_⟩
        cases e with
        | normal => exact absurd rfl h2
        | exit id => exact q
        | ret => exact q
  · cases e with
    | normal =>
      obtain ⟨n2, e2, σ2, m2, h2, q2⟩ := q
      refine ⟨max n n2 + 1, e2, σ2, m2, ?_, q2⟩
      simp only [exec] at h2 ⊢
      have h1 : exec (callF P (max n n2 + 1)) (max n n2 + 1) c σ m = some (.normal, σ', m') := exec_up (by omega) h
      simp only [iter, h1]
      exact iter_mono (fun _ _ _ h => exec_up (by omega) h) (by omega) h2
    | exit id => exact ⟨n + 1, _, σ', m', by simp only [exec, iter]; rw [exec_up (by omega : n ≤ n + 1) h], q⟩
    | ret => exact ⟨n + 1, _, σ', m', by simp only [exec, iter]; rw [exec_up (by omega : n ≤ n + 1) h], q⟩

theorem wpCall_def {f : Nat} {args : List Value} {Φ : Value → Mem → Prop} {F : IFunc} (hF : cFunc P f = some F) (hl : args.length ≤ F.nt) : WPCall P f args m Φ = WP P F.body (initσ args) m (retK F.res Φ) := by
  refine propext ⟨fun ⟨n, r, m', h, q⟩ => ?_, fun ⟨n, e, σ', m', h, q⟩ => ?_⟩
  · cases n with
    | zero => simp [callF] at h
    | succ n =>
      simp only [callF, hF, if_pos hl] at h
      split at h
      · cases h
      · rename_i e σ' m1 hne hex
        split at h
        · rename_i hok
          cases h
          refine ⟨n, e, σ', m', hex, ?_⟩
          cases e with
          | normal => exact ⟨hok, q⟩
          | ret => exact ⟨hok, q⟩
          | exit id => exact absurd rfl (hne id)
        · cases h
      · cases h
  · cases e with
    | normal => exact ⟨n + 1, _, m', by simp only [callF, hF, if_pos hl, h, q.1, if_true], q.2⟩
    | ret => exact ⟨n + 1, _, m', by simp only [callF, hF, if_pos hl, h, q.1, if_true], q.2⟩
    | exit id => exact q.elim

/-- a call's outcome is one -/
def Ret (P : Program) (f : Nat) (args : List Value) (m : Mem) (r : Value) (m' : Mem) : Prop := ∃ n, callF P n f args m = some (r, m')
theorem Ret.wp {f : Nat} {args : List Value} {r : Value} {m' : Mem} (h : Ret P f args m r m') {Φ : Value → Mem → Prop} : WPCall P f args m Φ = Φ r m' := by
  obtain ⟨n, hn⟩ := h
  refine propext ⟨fun ⟨n', r', m'', h', q⟩ => ?_, fun q => ⟨n, r, m', hn, q⟩⟩
  have h1 := callF_mono (Nat.le_max_left n n') _ _ _ _ hn
  have h2 := callF_mono (Nat.le_max_right n n') _ _ _ _ h'
  rw [h1] at h2
  cases h2; exact q
theorem Ret.of_wp {f : Nat} {args : List Value} {r : Value} {m' : Mem} (h : WPCall P f args m fun r' m'' => r' = r ∧ m'' = m') : Ret P f args m r m' := by
  obtain ⟨n, r', m'', h1, rfl, rfl⟩ := h
  exact ⟨n, h1⟩
theorem WPCall.ret {f : Nat} {args : List Value} {Φ : Value → Mem → Prop} (h : WPCall P f args m Φ) : ∃ r m', Ret P f args m r m' ∧ Φ r m' := by
  obtain ⟨n, r, m', h1, q⟩ := h
  exact ⟨r, m', ⟨n, h1⟩, q⟩
theorem WPCall.mono {f : Nat} {args : List Value} {Φ Ψ : Value → Mem → Prop} (h : WPCall P f args m Φ) (hq : ∀ r m', Φ r m' → Ψ r m') : WPCall P f args m Ψ := by
  obtain ⟨n, r, m', h1, q⟩ := h
  exact ⟨n, r, m', h1, hq _ _ q⟩
theorem WP.mono {c : ICode} {Q' : IExit → Slots → Mem → Prop} (h : WP P c σ m Q) (hq : ∀ e σ' m', Q e σ' m' → Q' e σ' m') : WP P c σ m Q' := by
  obtain ⟨n, e, σ', m', h1, q⟩ := h
  exact ⟨n, e, σ', m', h1, hq _ _ _ q⟩

/-! the operations -/
variable {K : Slots → Mem → Prop} {base ix : Nat} {rest : List IOp} {d : Option Nat} {g : Option (Nat × Bool)} {ck : List (Operand × Operand)}
theorem wpo_nil : WPO P base [] σ m K = K σ m := by
  refine propext ⟨fun ⟨n, σ', m', h, q⟩ => ?_, fun h => ⟨0, _, _, rfl, h⟩⟩
  cases h; exact q
theorem runOps_up {n n' : Nat} (h : n ≤ n') {L : List IOp} {r : Slots × Mem} (hs : runOps (callF P n) base L σ m = some r) : runOps (callF P n') base L σ m = some r := runOps_mono (callF_mono h) hs

theorem wpo_plain {k : IK} (hk : k.isCall = false) : WPO P base (⟨ix, d, none, k, ck⟩ :: rest) σ m K = (k.ok σ m = true ∧ ckOk σ ck = true ∧ WPO P base rest (putD σ d (k.val (base + ix) σ m)) (k.mem (base + ix) σ m) K) := by
  have hcal : k.callee σ m = none := isCall_callee hk
  refine propext ⟨fun ⟨n, σ', m', h, q⟩ => ?_, fun ⟨h1, h2, n, σ', m', h3, q⟩ => ?_⟩
  · obtain ⟨σ1, m1, h1, h2, h3⟩ := runOps_cons h
    obtain ⟨hok, e⟩ := step_mem (o := ⟨ix, d, none, k, ck⟩) rfl hcal h1
    cases e
    have h4 := h2 rfl
    simp only [hcal] at h4
    exact ⟨hok, h4, n, σ', m', h3, q⟩
  · refine ⟨n, σ', m', runOps_mk (step_mem_mk (o := ⟨ix, d, none, k, ck⟩) rfl hcal h1) (fun _ => ?_) h3, q⟩
    simp only [hcal]; exact h2
theorem wpo_guard {k : IK} {t : Nat} {b : Bool} : WPO P base (⟨ix, d, some (t, b), k, ck⟩ :: rest) σ m K = if wantedI σ (some (t, b)) = true then WPO P base (⟨ix, d, none, k, ck⟩ :: rest) σ m K else WPO P base rest (putD σ d undef) m K := by
  split
  · rename_i hw
    have hst : ∀ cl : Callee, stepOp cl base ⟨ix, d, some (t, b), k, ck⟩ σ m = stepOp cl base ⟨ix, d, none, k, ck⟩ σ m := fun cl => by
      unfold stepOp
      simp only [hw, if_true, show wantedI σ none = true from rfl]
    have hcp : ∀ m', ckProp ⟨ix, d, some (t, b), k, ck⟩ σ m m' ↔ ckProp ⟨ix, d, none, k, ck⟩ σ m m' := fun m' => ⟨fun h _ => h hw, fun h _ => h rfl⟩
    refine propext ⟨fun ⟨n, σ', m', h, q⟩ => ?_, fun ⟨n, σ', m', h, q⟩ => ?_⟩
    · obtain ⟨σ1, m1, h1, h2, h3⟩ := runOps_cons h
      exact ⟨n, σ', m', runOps_mk (by rw [← hst]; exact h1) ((hcp _).1 h2) h3, q⟩
    · obtain ⟨σ1, m1, h1, h2, h3⟩ := runOps_cons h
      exact ⟨n, σ', m', runOps_mk (by rw [hst]; exact h1) ((hcp _).2 h2) h3, q⟩
  · rename_i hw
    have hw' : wantedI σ (some (t, b)) = false := by simpa using hw
    refine propext ⟨fun ⟨n, σ', m', h, q⟩ => ?_, fun ⟨n, σ', m', h, q⟩ => ?_⟩
    · obtain ⟨σ1, m1, h1, h2, h3⟩ := runOps_cons h
      rw [step_skip_ (o := ⟨ix, d, some (t, b), k, ck⟩) hw'] at h1
      cases h1
      exact ⟨n, σ', m', h3, q⟩
    · exact ⟨n, σ', m', runOps_mk (step_skip_ (o := ⟨ix, d, some (t, b), k, ck⟩) hw') (fun h => absurd h hw) h, q⟩
theorem wpo_callee {k : IK} {f : Nat} {args : List Value} (hcal : k.callee σ m = some (f, args)) : WPO P base (⟨ix, d, none, k, ck⟩ :: rest) σ m K = WPCall P f args m (callK P base d ck rest σ m K) := by
  refine propext ⟨fun ⟨n, σ', m', h, q⟩ => ?_, fun ⟨n, r, m1, h, h1, n2, σ2, m2, h2, q⟩ => ?_⟩
  · obtain ⟨σ1, m1, h1, h2, h3⟩ := runOps_cons h
    obtain ⟨v, m2, g1, g2⟩ := step_call (o := ⟨ix, d, none, k, ck⟩) rfl hcal h1
    cases g2
    have h4 := h2 rfl
    simp only [hcal] at h4
    exact ⟨n, v, _, g1, h4, n, σ', m', h3, q⟩
  · refine ⟨max n n2, σ2, m2, runOps_mk (step_call_mk (o := ⟨ix, d, none, k, ck⟩) rfl hcal (callF_mono (Nat.le_max_left n n2) _ _ _ _ h)) (fun _ => ?_) (runOps_up (Nat.le_max_right n n2) h2), q⟩
    simp only [hcal]; exact h1
theorem wpo_call {f : Nat} {as : List Operand} : WPO P base (⟨ix, d, none, .call f as, ck⟩ :: rest) σ m K = WPCall P f (as.map (ev σ)) m (callK P base d ck rest σ m K) := wpo_callee rfl
theorem wpo_callv {x : Operand} {as : List Operand} {f : Nat} {first caps : Array Value} (h : ev σ x = .func (.func f) first caps) :
    WPO P base (⟨ix, d, none, .callv x as, ck⟩ :: rest) σ m K = WPCall P f (first.toList ++ as.map (ev σ) ++ caps.toList) m (callK P base d ck rest σ m K) := wpo_callee (by simp only [IK.callee, h])
theorem callK_nil {r : Value} {m' : Mem} : callK P base d [] rest σ m K r m' = WPO P base rest (putD σ d r) m' K := by
  simp [callK, keepOk]
theorem ckOk_nil : ckOk σ [] = true := rfl
end wp

/-! a law's frame -/
theorem MRel.empty {B : Nat} {w : World} : MRel B (fun _ => none) ⟨0, fun _ => none, fun _ => none⟩ w where
  dom := fun _ _ h => by cases h
  inb := fun _ _ h => by cases h
  live := fun b x h => by unfold Mem.get at h; split at h <;> cases h
  excl := fun b x b' x' l l' h => by unfold Mem.get at h; split at h <;> cases h
  mdom := fun _ _ h => by cases h
  maps := fun b es h => by simp only [Mem.getM, Mem.get, Nat.not_lt_zero, if_false] at h; cases h

theorem law_flat {P : Program} (hmix : P.follows .mixedOrders = true) {f : Nat} {args : List Value} (hfl : args.all flat1 = true) (W : World) (h : WPCall P f args ⟨0, fun _ => none, fun _ => none⟩ fun r _ => r = .bool true) :
    Calls P f args.toArray W fun e w' => e = .returned (.bool true) ∧ Below W.heap.size W w' := by
  obtain ⟨n, r, m', h1, rfl⟩ := h
  have := (call_all (B := W.heap.size) hmix n f args _ _ _ h1).2.2.2.2 (fun _ => none) W args.toArray (by simpa using LRel.flat _ hfl) MRel.empty (Nat.le_refl _)
  refine this.mono fun e w' hh => ?_
  obtain ⟨v, ρ', rfl, _, _, hv, _, hb⟩ := hh
  exact ⟨by rw [hv.inv_bool], hb⟩

end Go.DI
namespace Go.DI
open Go

/-- a byte of a string, as a number -/
def byI (s : ByteArray) (i : Nat) : Int := ((s.data.toList.getD i 0).toNat : Nat)
def mlOk (kk : KK) (m : Mem) (x k : Value) : Bool := match mapOf m x with
  | some es => keyLike kk k es
  | none => false
def mlV (zero : Value) (o : Bool) (m : Mem) (x k : Value) : Value :=
  if o then .tuple #[((mapOf m x).bind (mget k)).getD zero, .bool ((mapOf m x).bind (mget k)).isSome] else ((mapOf m x).bind (mget k)).getD zero
def mpOk (kk : KK) (m : Mem) (x k v : Value) : Bool := match x with
  | .map (some b) => (match m.getM b with
    | some es => keyLike kk k es && oneC v
    | none => false)
  | _ => false
def mpM (m : Mem) (x k v : Value) : Mem := m.putM (mapBlk x) (mset k v ((m.getM (mapBlk x)).getD []))
@[simp] theorem mlOk_some {kk : KK} {m : Mem} {b : Nat} {k : Value} : mlOk kk m (.map (some b)) k = (match m.getM b with | some es => keyLike kk k es | none => false) := rfl
@[simp] theorem mlV_some {z : Value} {o : Bool} {m : Mem} {b : Nat} {k : Value} : mlV z o m (.map (some b)) k = if o then .tuple #[((m.getM b).bind (mget k)).getD z, .bool ((m.getM b).bind (mget k)).isSome] else ((m.getM b).bind (mget k)).getD z := rfl
@[simp] theorem mpOk_some {kk : KK} {m : Mem} {b : Nat} {k v : Value} : mpOk kk m (.map (some b)) k v = (match m.getM b with | some es => keyLike kk k es && oneC v | none => false) := rfl
@[simp] theorem mpM_some {m : Mem} {b : Nat} {k v : Value} : mpM m (.map (some b)) k v = m.putM b (mset k v ((m.getM b).getD [])) := rfl
attribute [simp] wp_skip' wp_exit' wp_ret' wp_region' wp_seq' wp_cond' wp_block' thenK_normal thenK_exit thenK_ret blockK_normal blockK_exit blockK_ret loopK_normal loopK_exit loopK_ret retK_normal retK_ret
  wpo_nil wpo_guard wpo_call callK_nil ckOk_nil

section
variable {P : Program} {base ix : Nat} {d : Option Nat} {rest : List IOp} {σ : Slots} {m : Mem} {K : Slots → Mem → Prop} {ck : List (Operand × Operand)}
@[simp] theorem wpo_mov (x : Operand) : WPO P base (⟨ix, d, none, .mov x, ck⟩ :: rest) σ m K = (ckOk σ ck = true ∧ WPO P base rest (putD σ d (ev σ x)) (m) K) := by
  rw [wpo_plain rfl]; simp only [IK.ok, true_and]; try rfl
@[simp] theorem wpo_pick (c a b : Operand) : WPO P base (⟨ix, d, none, .pick c a b, ck⟩ :: rest) σ m K = (isB (ev σ c) = true ∧ ckOk σ ck = true ∧ WPO P base rest (putD σ d (if asB (ev σ c) = true then ev σ a else ev σ b)) (m) K) := by
  rw [wpo_plain rfl]; rfl
@[simp] theorem wpo_nilck (x : Operand) : WPO P base (⟨ix, d, none, .nilck x, ck⟩ :: rest) σ m K = (isNotNil (ev σ x) = true ∧ ckOk σ ck = true ∧ WPO P base rest (putD σ d (ev σ x)) (m) K) := by
  rw [wpo_plain rfl]; rfl
@[simp] theorem wpo_alloc (z : List Value) : WPO P base (⟨ix, d, none, .alloc z, ck⟩ :: rest) σ m K = (ckOk σ ck = true ∧ WPO P base rest (putD σ d (.pointer (some ⟨base + ix, 0, none⟩))) (m.put (base + ix) (some ⟨z, true⟩)) K) := by
  rw [wpo_plain rfl]; simp only [IK.ok, true_and]; try rfl
@[simp] theorem wpo_box (x : Operand) : WPO P base (⟨ix, d, none, .box x, ck⟩ :: rest) σ m K = (notTup (ev σ x) = true ∧ ckOk σ ck = true ∧ WPO P base rest (putD σ d (.pointer (some ⟨base + ix, 0, none⟩))) (m.put (base + ix) (some ⟨vcells (ev σ x), true⟩)) K) := by
  rw [wpo_plain rfl]; rfl
@[simp] theorem wpo_build (z : List Value) (ps : List (Nat × Nat × Operand)) : WPO P base (⟨ix, d, none, .build z ps, ck⟩ :: rest) σ m K = (partsOk z σ ps = true ∧ ckOk σ ck = true ∧ WPO P base rest (putD σ d (.agg (partsV z σ ps).toArray)) (m) K) := by
  rw [wpo_plain rfl]; rfl
@[simp] theorem wpo_bslice (z n : Nat) (cs : List Value) (ps : List (Nat × Nat × Operand)) : WPO P base (⟨ix, d, none, .bslice z n cs ps, ck⟩ :: rest) σ m K = (partsOk cs σ ps = true ∧ ckOk σ ck = true ∧ WPO P base rest (putD σ d (.slice (some ⟨base + ix, 0, none⟩) n z)) (m.put (base + ix) (some ⟨partsV cs σ ps, true⟩)) K) := by
  rw [wpo_plain rfl]; rfl
@[simp] theorem wpo_load (ag : Bool) (n : Nat) (x : Operand) : WPO P base (⟨ix, d, none, .load ag n x, ck⟩ :: rest) σ m K = ((addrOk m (ev σ x) n && (ag || decide (n = 1))) = true ∧ ckOk σ ck = true ∧ WPO P base rest (putD σ d (loadV m ag n (ev σ x))) (m) K) := by
  rw [wpo_plain rfl]; rfl
@[simp] theorem wpo_store (n : Nat) (x v : Operand) : WPO P base (⟨ix, d, none, .store n x v, ck⟩ :: rest) σ m K = ((addrOk m (ev σ x) n && addrOwn m (ev σ x) && notTup (ev σ v) && decide ((vcells (ev σ v)).length = n)) = true ∧ ckOk σ ck = true ∧ WPO P base rest (putD σ d (undef)) (storeM m (ev σ x) (vcells (ev σ v))) K) := by
  rw [wpo_plain rfl]; rfl
@[simp] theorem wpo_bin (op : BinOp) (c : TyC) (x y : Operand) : WPO P base (⟨ix, d, none, .bin op c x y, ck⟩ :: rest) σ m K = (binOk op c (ev σ x) (ev σ y) = true ∧ ckOk σ ck = true ∧ WPO P base rest (putD σ d (binV op (ev σ x) (ev σ y))) (m) K) := by
  rw [wpo_plain rfl]; rfl
@[simp] theorem wpo_eqAgg (neg : Bool) (ks : List CK) (x y : Operand) : WPO P base (⟨ix, d, none, .eqAgg neg ks x y, ck⟩ :: rest) σ m K = ((isAggV (ev σ x) && isAggV (ev σ y) && cellsLike ks (vcells (ev σ x)) (vcells (ev σ y))) = true ∧ ckOk σ ck = true ∧ WPO P base rest (putD σ d (.bool (if neg then !cellsEq (vcells (ev σ x)) (vcells (ev σ y)) else cellsEq (vcells (ev σ x)) (vcells (ev σ y))))) (m) K) := by
  rw [wpo_plain rfl]; rfl
@[simp] theorem wpo_un (op : UnOp) (x : Operand) : WPO P base (⟨ix, d, none, .un op x, ck⟩ :: rest) σ m K = (unOk op (ev σ x) = true ∧ ckOk σ ck = true ∧ WPO P base rest (putD σ d (unV op (ev σ x))) (m) K) := by
  rw [wpo_plain rfl]; rfl
@[simp] theorem wpo_convI (k : IntKind) (x : Operand) : WPO P base (⟨ix, d, none, .convI k x, ck⟩ :: rest) σ m K = (isI (ev σ x) = true ∧ ckOk σ ck = true ∧ WPO P base rest (putD σ d (.int k (k.wrap (asI (ev σ x))))) (m) K) := by
  rw [wpo_plain rfl]; rfl
@[simp] theorem wpo_convId (x : Operand) : WPO P base (⟨ix, d, none, .convId x, ck⟩ :: rest) σ m K = (isStr (ev σ x) = true ∧ ckOk σ ck = true ∧ WPO P base rest (putD σ d (ev σ x)) (m) K) := by
  rw [wpo_plain rfl]; rfl
@[simp] theorem wpo_convBS (x : Operand) : WPO P base (⟨ix, d, none, .convBS x, ck⟩ :: rest) σ m K = ((sliceOk m 1 (ev σ x) && (sliceCells m 1 (ev σ x)).all isU8) = true ∧ ckOk σ ck = true ∧ WPO P base rest (putD σ d (.string (toBytes (sliceCells m 1 (ev σ x))))) (m) K) := by
  rw [wpo_plain rfl]; rfl
@[simp] theorem wpo_convSB (x : Operand) : WPO P base (⟨ix, d, none, .convSB x, ck⟩ :: rest) σ m K = ((isStr (ev σ x) && decide ((asS (ev σ x)).size ≤ 9223372036854775807)) = true ∧ ckOk σ ck = true ∧ WPO P base rest (putD σ d (.slice (some ⟨base + ix, 0, none⟩) (asS (ev σ x)).size 1)) (m.put (base + ix) (some ⟨ofBytes (asS (ev σ x)), true⟩)) K) := by
  rw [wpo_plain rfl]; rfl
@[simp] theorem wpo_sliceStr (x : Operand) (lo hi : Option Operand) : WPO P base (⟨ix, d, none, .sliceStr x lo hi, ck⟩ :: rest) σ m K = ((IK.sliceStr x lo hi).ok σ m = true ∧ ckOk σ ck = true ∧ WPO P base rest (putD σ d (.string ((asS (ev σ x)).extract (optI σ lo 0).toNat (optI σ hi (zqu (ev σ x))).toNat))) (m) K) := by
  rw [wpo_plain rfl]; try rfl
@[simp] theorem wpo_sliceS (z : Nat) (x : Operand) (lo hi : Option Operand) : WPO P base (⟨ix, d, none, .sliceS z x lo hi, ck⟩ :: rest) σ m K = ((IK.sliceS z x lo hi).ok σ m = true ∧ ckOk σ ck = true ∧ WPO P base rest (putD σ d (zqv (ev σ x) z (optI σ lo 0).toNat (optI σ hi (zqu (ev σ x))).toNat)) (m) K) := by
  rw [wpo_plain rfl]; try rfl
@[simp] theorem wpo_mkslice (z bytes : Nat) (zs : List Value) (l c : Operand) : WPO P base (⟨ix, d, none, .mkslice z bytes zs l c, ck⟩ :: rest) σ m K = ((IK.mkslice z bytes zs l c).ok σ m = true ∧ ckOk σ ck = true ∧ WPO P base rest (putD σ d (.slice (some ⟨base + ix, 0, none⟩) (asI (ev σ l)).toNat z)) (m.put (base + ix) (some ⟨(List.replicate (asI (ev σ l)).toNat zs).flatten, true⟩)) K) := by
  rw [wpo_plain rfl]; try rfl
@[simp] theorem wpo_faddr (off : Nat) (x : Operand) : WPO P base (⟨ix, d, none, .faddr off x, ck⟩ :: rest) σ m K = (ptrPlain (ev σ x) = true ∧ ckOk σ ck = true ∧ WPO P base rest (putD σ d (ptrAdd (ev σ x) off)) (m) K) := by
  rw [wpo_plain rfl]; rfl
@[simp] theorem wpo_field (ag : Bool) (off n : Nat) (x : Operand) : WPO P base (⟨ix, d, none, .field ag off n x, ck⟩ :: rest) σ m K = ((fieldOk off n (ev σ x) && (ag || decide (n = 1))) = true ∧ ckOk σ ck = true ∧ WPO P base rest (putD σ d (fieldV ag off n (ev σ x))) (m) K) := by
  rw [wpo_plain rfl]; rfl
@[simp] theorem wpo_iaddr (z : Nat) (x i : Operand) : WPO P base (⟨ix, d, none, .iaddr z x i, ck⟩ :: rest) σ m K = ((zqs z (ev σ x) && isI (ev σ i) && decide (0 ≤ asI (ev σ i)) && decide (asI (ev σ i) < zqu (ev σ x))) = true ∧ ckOk σ ck = true ∧ WPO P base rest (putD σ d (zqt (ev σ x) z (asI (ev σ i)))) (m) K) := by
  rw [wpo_plain rfl]; rfl
@[simp] theorem wpo_iaddrA (z len : Nat) (x i : Operand) : WPO P base (⟨ix, d, none, .iaddrA z len x i, ck⟩ :: rest) σ m K = ((ptrPlain (ev σ x) && isI (ev σ i) && decide (0 ≤ asI (ev σ i)) && decide (asI (ev σ i) < (len : Int))) = true ∧ ckOk σ ck = true ∧ WPO P base rest (putD σ d (ptrAdd (ev σ x) ((asI (ev σ i)).toNat * z))) (m) K) := by
  rw [wpo_plain rfl]; rfl
@[simp] theorem wpo_idxStr (x i : Operand) : WPO P base (⟨ix, d, none, .idxStr x i, ck⟩ :: rest) σ m K = ((isStr (ev σ x) && isI (ev σ i) && decide (0 ≤ asI (ev σ i)) && decide (asI (ev σ i) < zqu (ev σ x))) = true ∧ ckOk σ ck = true ∧ WPO P base rest (putD σ d (.int .u8 (byI (asS (ev σ x)) (asI (ev σ i)).toNat))) (m) K) := by
  rw [wpo_plain rfl]; rfl
@[simp] theorem wpo_ext (i : Nat) (x : Operand) : WPO P base (⟨ix, d, none, .ext i x, ck⟩ :: rest) σ m K = (tupOk (ev σ x) i = true ∧ ckOk σ ck = true ∧ WPO P base rest (putD σ d (tupAt (ev σ x) i)) (m) K) := by
  rw [wpo_plain rfl]; rfl
@[simp] theorem wpo_lenS (x : Operand) : WPO P base (⟨ix, d, none, .lenS x, ck⟩ :: rest) σ m K = (isStr (ev σ x) = true ∧ ckOk σ ck = true ∧ WPO P base rest (putD σ d (.int .i64 (zqu (ev σ x)))) (m) K) := by
  rw [wpo_plain rfl]; rfl
@[simp] theorem wpo_lenV (x : Operand) : WPO P base (⟨ix, d, none, .lenV x, ck⟩ :: rest) σ m K = (isSl (ev σ x) = true ∧ ckOk σ ck = true ∧ WPO P base rest (putD σ d (.int .i64 (zqu (ev σ x)))) (m) K) := by
  rw [wpo_plain rfl]; rfl
@[simp] theorem wpo_app (z bytes : Nat) (x y : Operand) : WPO P base (⟨ix, d, none, .app z bytes x y, ck⟩ :: rest) σ m K = ((IK.app z bytes x y).ok σ m = true ∧ ckOk σ ck = true ∧ WPO P base rest (putD σ d ((IK.app z bytes x y).val (base + ix) σ m)) ((IK.app z bytes x y).mem (base + ix) σ m) K) := by
  rw [wpo_plain rfl]; try rfl
@[simp] theorem wpo_minmax (mx : Bool) (x : Operand) (xs : List Operand) : WPO P base (⟨ix, d, none, .minmax mx x xs, ck⟩ :: rest) σ m K = ((isI (ev σ x) && xs.all fun y => isI (ev σ y)) = true ∧ ckOk σ ck = true ∧ WPO P base rest (putD σ d (xs.foldl (fun acc y => if mx then maxI acc (ev σ y) else minI acc (ev σ y)) (ev σ x))) (m) K) := by
  rw [wpo_plain rfl]; rfl
@[simp] theorem wpo_mkif (t : TypeId) (x : Operand) : WPO P base (⟨ix, d, none, .mkif t x, ck⟩ :: rest) σ m K = (ckOk σ ck = true ∧ WPO P base rest (putD σ d (.iface t (ev σ x))) (m) K) := by
  rw [wpo_plain rfl]; simp only [IK.ok, true_and]; try rfl
@[simp] theorem wpo_tass (t : TypeId) (x : Operand) : WPO P base (⟨ix, d, none, .tass t x, ck⟩ :: rest) σ m K = (ifOk t (ev σ x) = true ∧ ckOk σ ck = true ∧ WPO P base rest (putD σ d (ifV (ev σ x))) (m) K) := by
  rw [wpo_plain rfl]; rfl
@[simp] theorem wpo_mkmap  : WPO P base (⟨ix, d, none, .mkmap , ck⟩ :: rest) σ m K = (ckOk σ ck = true ∧ WPO P base rest (putD σ d (.map (some (base + ix)))) (m.putM (base + ix) []) K) := by
  rw [wpo_plain rfl]; simp only [IK.ok, true_and]; try rfl
@[simp] theorem wpo_mlook (kk : KK) (zero : Value) (o : Bool) (x k : Operand) : WPO P base (⟨ix, d, none, .mlook kk zero o x k, ck⟩ :: rest) σ m K = (mlOk kk m (ev σ x) (ev σ k) = true ∧ ckOk σ ck = true ∧ WPO P base rest (putD σ d (mlV zero o m (ev σ x) (ev σ k))) (m) K) := by
  rw [wpo_plain rfl]; rfl
@[simp] theorem wpo_mput (kk : KK) (x k v : Operand) : WPO P base (⟨ix, d, none, .mput kk x k v, ck⟩ :: rest) σ m K = (mpOk kk m (ev σ x) (ev σ k) (ev σ v) = true ∧ ckOk σ ck = true ∧ WPO P base rest (putD σ d (undef)) (mpM m (ev σ x) (ev σ k) (ev σ v)) K) := by
  rw [wpo_plain rfl]; rfl
@[simp] theorem wpo_sliceM (z : Nat) (x : Operand) (lo : Option Operand) (hi mx : Operand) : WPO P base (⟨ix, d, none, .sliceM z x lo hi mx, ck⟩ :: rest) σ m K = ((IK.sliceM z x lo hi mx).ok σ m = true ∧ ckOk σ ck = true ∧ WPO P base rest (putD σ d (zqv (ev σ x) z (optI σ lo 0).toNat (asI (ev σ hi)).toNat)) (m) K) := by
  rw [wpo_plain rfl]; try rfl
@[simp] theorem wpo_sliceA (z n : Nat) (x : Operand) : WPO P base (⟨ix, d, none, .sliceA z n x, ck⟩ :: rest) σ m K = ((addrOk m (ev σ x) (n * z) && decide (n ≤ maxLen)) = true ∧ ckOk σ ck = true ∧ WPO P base rest (putD σ d (arrSl (ev σ x) z n)) (m) K) := by
  rw [wpo_plain rfl]; rfl
@[simp] theorem wpo_mkfunc (fn : Fn) (fs cs : List Operand) : WPO P base (⟨ix, d, none, .mkfunc fn fs cs, ck⟩ :: rest) σ m K = (ckOk σ ck = true ∧ WPO P base rest (putD σ d (.func fn (fs.map (ev σ)).toArray (cs.map (ev σ)).toArray)) (m) K) := by
  rw [wpo_plain rfl]; simp only [IK.ok, true_and]; try rfl

@[simp] theorem ifOk_iface {t t' : TypeId} {v : Value} : ifOk t (.iface t' v) = decide (t' = t) := rfl
@[simp] theorem ifV_iface {t : TypeId} {v : Value} : ifV (.iface t v) = v := rfl
@[simp] theorem ev_tmp {t : Nat} : ev σ (.tmp t) = σ t := rfl
@[simp] theorem ev_const {v : Value} : ev σ (.const v) = v := rfl
@[simp] theorem ev_func {f : Nat} : ev σ (.func f) = .func (.func f) #[] #[] := rfl
@[simp] theorem putD_some {t : Nat} {v : Value} : putD σ (some t) v = upd σ t v := rfl
@[simp] theorem putD_none {v : Value} : putD σ none v = σ := rfl
@[simp] theorem upd_apply {t u : Nat} {v : Value} : upd σ t v u = if u = t then v else σ u := rfl
@[simp] theorem initσ_0 {a0 : Value} {l : List Value} : initσ (a0 :: l) 0 = a0 := rfl
@[simp] theorem initσ_1 {a0 a1 : Value} {l : List Value} : initσ (a0 :: a1 :: l) 1 = a1 := rfl
@[simp] theorem initσ_2 {a0 a1 a2 : Value} {l : List Value} : initσ (a0 :: a1 :: a2 :: l) 2 = a2 := rfl
@[simp] theorem initσ_3 {a0 a1 a2 a3 : Value} {l : List Value} : initσ (a0 :: a1 :: a2 :: a3 :: l) 3 = a3 := rfl
@[simp] theorem initσ_4 {a0 a1 a2 a3 a4 : Value} {l : List Value} : initσ (a0 :: a1 :: a2 :: a3 :: a4 :: l) 4 = a4 := rfl
@[simp] theorem initσ_5 {a0 a1 a2 a3 a4 a5 : Value} {l : List Value} : initσ (a0 :: a1 :: a2 :: a3 :: a4 :: a5 :: l) 5 = a5 := rfl
@[simp] theorem initσ_6 {a0 a1 a2 a3 a4 a5 a6 : Value} {l : List Value} : initσ (a0 :: a1 :: a2 :: a3 :: a4 :: a5 :: a6 :: l) 6 = a6 := rfl
@[simp] theorem initσ_7 {a0 a1 a2 a3 a4 a5 a6 a7 : Value} {l : List Value} : initσ (a0 :: a1 :: a2 :: a3 :: a4 :: a5 :: a6 :: a7 :: l) 7 = a7 := rfl
def wB (v : Value) (b : Bool) : Bool := match v with | .bool c => c == b | _ => false
@[simp] theorem wB_bool {c b : Bool} : wB (.bool c) b = (c == b) := rfl
@[simp] theorem wB_undef {b : Bool} : wB undef b = false := rfl
@[simp] theorem wanted_some {t : Nat} {b : Bool} : wantedI σ (some (t, b)) = wB (σ t) b := rfl
@[simp] theorem retV_one {r : IRes} : retV m σ [r] = resV m σ r := rfl
@[simp] theorem retV_nil : retV m σ [] = .tuple #[] := rfl
@[simp] theorem retV_two {r s : IRes} {l : List IRes} : retV m σ (r :: s :: l) = .tuple ((r :: s :: l).map (resV m σ)).toArray := rfl
@[simp] theorem resV_tmp {t : Nat} : resV m σ (.tmp t) = σ t := rfl
@[simp] theorem resV_cell {t n : Nat} {ag : Bool} : resV m σ (.cell t ag n) = loadV m ag n (σ t) := rfl
@[simp] theorem retOk_eq {l : List IRes} : retOk m σ l = l.all (resOk m σ) := rfl
@[simp] theorem resOk_tmp {t : Nat} : resOk m σ (.tmp t) = true := rfl
@[simp] theorem resOk_cell {t n : Nat} {ag : Bool} : resOk m σ (.cell t ag n) = (addrOk m (σ t) n && (ag || decide (n = 1))) := rfl
@[simp] theorem regBump_eq {l : List IOp} : regBump l m = if l.any (fun o => o.k.isAlloc) = true then m.bump l.length else m := by unfold regBump; rfl
end
attribute [simp] asB isB asI isI asS vcells blit blkOf notTup isNotNil ptrPlain ptrAdd zqs zqt arrSl isStr isSl tupAt tupOk fieldV fieldOk isAggV zqu zqr optI optOk minI maxI isU8 byteOf partsOk partsV
  binOk binV intBin intBinOk strBin strBinOk eqOk eqV isNilV unV unOk cellEq cellLike cellsEq cellsLike
attribute [simp] keyLike isKeyB mget mset oneC
@[simp] theorem isAlloc_mkmap : IK.mkmap.isAlloc = true := rfl
@[simp] theorem isAlloc_alloc (a : List Value) : (IK.alloc a).isAlloc = true := rfl
@[simp] theorem isAlloc_box (a : Operand) : (IK.box a).isAlloc = true := rfl
@[simp] theorem isAlloc_bslice (a b : Nat) (c : List Value) (d : List (Nat × Nat × Operand)) : (IK.bslice a b c d).isAlloc = true := rfl
@[simp] theorem isAlloc_convSB (a : Operand) : (IK.convSB a).isAlloc = true := rfl
@[simp] theorem isAlloc_mkslice (a b : Nat) (c : List Value) (d e : Operand) : (IK.mkslice a b c d e).isAlloc = true := rfl
@[simp] theorem isAlloc_app (a b : Nat) (c d : Operand) : (IK.app a b c d).isAlloc = true := rfl
@[simp] theorem isAlloc_mlook (a : KK) (b : Value) (c : Bool) (d e : Operand) : (IK.mlook a b c d e).isAlloc = false := rfl
@[simp] theorem isAlloc_mput (a : KK) (b c d : Operand) : (IK.mput a b c d).isAlloc = false := rfl
@[simp] theorem isAlloc_sliceA (a b : Nat) (c : Operand) : (IK.sliceA a b c).isAlloc = false := rfl
@[simp] theorem isAlloc_sliceM (a : Nat) (b : Operand) (c : Option Operand) (d e : Operand) : (IK.sliceM a b c d e).isAlloc = false := rfl
@[simp] theorem isAlloc_mkif (a : TypeId) (b : Operand) : (IK.mkif a b).isAlloc = false := rfl
@[simp] theorem isAlloc_tass (a : TypeId) (b : Operand) : (IK.tass a b).isAlloc = false := rfl
@[simp] theorem isAlloc_icall (a : List (TypeId × Nat × Option (Bool × Nat))) (b : Operand) (c : List Operand) : (IK.icall a b c).isAlloc = false := rfl
@[simp] theorem isAlloc_mov (a : Operand) : (IK.mov a).isAlloc = false := rfl
@[simp] theorem isAlloc_pick (a b c : Operand) : (IK.pick a b c).isAlloc = false := rfl
@[simp] theorem isAlloc_nilck (a : Operand) : (IK.nilck a).isAlloc = false := rfl
@[simp] theorem isAlloc_build (a : List Value) (b : List (Nat × Nat × Operand)) : (IK.build a b).isAlloc = false := rfl
@[simp] theorem isAlloc_load (a : Bool) (b : Nat) (c : Operand) : (IK.load a b c).isAlloc = false := rfl
@[simp] theorem isAlloc_store (a : Nat) (b c : Operand) : (IK.store a b c).isAlloc = false := rfl
@[simp] theorem isAlloc_bin (a : BinOp) (b : TyC) (c d : Operand) : (IK.bin a b c d).isAlloc = false := rfl
@[simp] theorem isAlloc_eqAgg (a : Bool) (b : List CK) (c d : Operand) : (IK.eqAgg a b c d).isAlloc = false := rfl
@[simp] theorem isAlloc_un (a : UnOp) (b : Operand) : (IK.un a b).isAlloc = false := rfl
@[simp] theorem isAlloc_convI (a : IntKind) (b : Operand) : (IK.convI a b).isAlloc = false := rfl
@[simp] theorem isAlloc_convId (a : Operand) : (IK.convId a).isAlloc = false := rfl
@[simp] theorem isAlloc_convBS (a : Operand) : (IK.convBS a).isAlloc = false := rfl
@[simp] theorem isAlloc_sliceStr (a : Operand) (b c : Option Operand) : (IK.sliceStr a b c).isAlloc = false := rfl
@[simp] theorem isAlloc_sliceS (a : Nat) (b : Operand) (c d : Option Operand) : (IK.sliceS a b c d).isAlloc = false := rfl
@[simp] theorem isAlloc_faddr (a : Nat) (b : Operand) : (IK.faddr a b).isAlloc = false := rfl
@[simp] theorem isAlloc_field (a : Bool) (b c : Nat) (d : Operand) : (IK.field a b c d).isAlloc = false := rfl
@[simp] theorem isAlloc_iaddr (a : Nat) (b c : Operand) : (IK.iaddr a b c).isAlloc = false := rfl
@[simp] theorem isAlloc_iaddrA (a b : Nat) (c d : Operand) : (IK.iaddrA a b c d).isAlloc = false := rfl
@[simp] theorem isAlloc_idxStr (a b : Operand) : (IK.idxStr a b).isAlloc = false := rfl
@[simp] theorem isAlloc_ext (a : Nat) (b : Operand) : (IK.ext a b).isAlloc = false := rfl
@[simp] theorem isAlloc_lenS (a : Operand) : (IK.lenS a).isAlloc = false := rfl
@[simp] theorem isAlloc_lenV (a : Operand) : (IK.lenV a).isAlloc = false := rfl
@[simp] theorem isAlloc_minmax (a : Bool) (b : Operand) (c : List Operand) : (IK.minmax a b c).isAlloc = false := rfl
@[simp] theorem isAlloc_mkfunc (a : Fn) (b c : List Operand) : (IK.mkfunc a b c).isAlloc = false := rfl
@[simp] theorem isAlloc_call (a : Nat) (b : List Operand) : (IK.call a b).isAlloc = false := rfl
@[simp] theorem isAlloc_callv (a : Operand) (b : List Operand) : (IK.callv a b).isAlloc = false := rfl
end Go.DI
namespace Go.DI
open Go

section
variable {m : Mem} {b b' k : Nat} {x y : Option Blk} {z : Blk}
@[simp] theorem zqp : (m.put b x).next = m.next := rfl
@[simp] theorem zqq : (m.bump k).next = m.next + k := rfl
theorem get_lt (h : m.get b = some z) : b < m.next := by
  unfold Mem.get at h; split at h
  · assumption
  · cases h
theorem zql (h : b < m.next) : (m.put b x).get b = x := by simp [Mem.get, Mem.put, h]
theorem zqm (h : b' ≠ b) : (m.put b x).get b' = m.get b' := by simp [Mem.get, Mem.put, h]
theorem zqn (h : b < m.next) : (m.bump k).get b = m.get b := by
  have : b < m.next + k := by omega
  simp [Mem.get, Mem.bump, h, this]
@[simp] theorem next_putM {es : List (Value × Value)} : (m.putM b es).next = m.next := rfl
theorem get_putM_self {es : List (Value × Value)} (h : b < m.next) : (m.putM b es).get b = some ⟨[], true⟩ := by simp [Mem.get, Mem.putM, h]
theorem get_putM_ne {es : List (Value × Value)} (h : b' ≠ b) : (m.putM b es).get b' = m.get b' := by simp [Mem.get, Mem.putM, h]
theorem getM_putM_self {es : List (Value × Value)} (h : b < m.next) : (m.putM b es).getM b = some es := by simp [Mem.getM, get_putM_self h]; simp [Mem.putM]
theorem getM_putM_ne {es : List (Value × Value)} (h : b' ≠ b) : (m.putM b es).getM b' = m.getM b' := by simp [Mem.getM, get_putM_ne h]; simp [Mem.putM, h]
theorem getM_put_ne (h : b' ≠ b) : (m.put b x).getM b' = m.getM b' := by simp [Mem.getM, zqm h]; rfl
theorem getM_bump (h : b < m.next) : (m.bump k).getM b = m.getM b := by simp [Mem.getM, zqn h]; rfl
theorem putM_putM {es fs : List (Value × Value)} : (m.putM b es).putM b fs = m.putM b fs := by
  unfold Mem.putM
  congr 1
  · funext i; by_cases h : i = b <;> simp [h]
  · funext i; by_cases h : i = b <;> simp [h]
theorem zqo : (m.put b x).put b y = m.put b y := by
  simp only [Mem.put, Mem.mk.injEq, true_and, and_true]
  funext i; by_cases h : i = b <;> simp [h]
theorem put_same (h : m.get b = some z) : m.put b (some z) = m := by
  obtain ⟨n, f, g⟩ := m
  have h1 := get_lt h
  simp only [Mem.get, Mem.put, Mem.mk.injEq, true_and, and_true] at h h1 ⊢
  rw [if_pos h1] at h
  funext i; by_cases hi : i = b
  · subst hi; simp [h]
  · simp [hi]
@[simp] theorem addrOk_ptr {a o n : Nat} : addrOk m (.pointer (some ⟨a, o, none⟩)) n = (match m.get a with | some x => decide (o + n ≤ x.cells.length) | none => false) := rfl
@[simp] theorem addrOwn_ptr {a o : Nat} : addrOwn m (.pointer (some ⟨a, o, none⟩)) = (match m.get a with | some x => x.own | none => false) := rfl
@[simp] theorem loadV_ptr {a o n : Nat} {ag : Bool} : loadV m ag n (.pointer (some ⟨a, o, none⟩)) = if ag then .agg (cellsAt m a o n).toArray else (cellsAt m a o 1).headD undef := rfl
@[simp] theorem cellsAt_eq {a o n : Nat} : cellsAt m a o n = match m.get a with | some x => (x.cells.drop o).take n | none => [] := rfl
@[simp] theorem storeM_ptr {a o : Nat} {cs : List Value} : storeM m (.pointer (some ⟨a, o, none⟩)) cs = match m.get a with | some x => m.put a (some ⟨blit x.cells o cs, x.own⟩) | none => m := rfl
@[simp] theorem sliceOk_sl {a o l c n : Nat} : sliceOk m n (.slice (some ⟨a, o, none⟩) l c) = (c == n && (match m.get a with | some x => decide (o + l * n ≤ x.cells.length) | none => false)) := rfl
@[simp] theorem sliceOk_nil {n : Nat} : sliceOk m n (.slice none 0 0) = true := rfl
@[simp] theorem sliceOwn_sl {a o l c : Nat} : sliceOwn m (.slice (some ⟨a, o, none⟩) l c) = (match m.get a with | some x => x.own | none => false) := rfl
@[simp] theorem sliceOwn_nil {l c : Nat} : sliceOwn m (.slice none l c) = true := rfl
@[simp] theorem sliceCells_sl {a o l c n : Nat} : sliceCells m n (.slice (some ⟨a, o, none⟩) l c) = cellsAt m a o (l * n) := rfl
@[simp] theorem sliceCells_nil {l c n : Nat} : sliceCells m n (.slice none l c) = [] := rfl
@[simp] theorem kill_sl {a o l c : Nat} : kill m (.slice (some ⟨a, o, none⟩) l c) = m.put a none := rfl
@[simp] theorem kill_nil {l c : Nat} : kill m (.slice none l c) = m := rfl
end
theorem i64_id {n : Int} (h1 : -9223372036854775808 ≤ n) (h2 : n ≤ 9223372036854775807) : IntKind.i64.wrap n = n := IntWalk.i64_in n ⟨h1, h2⟩
section
variable {P : Program} {σ : Slots} {m : Mem} {Q : IExit → Slots → Mem → Prop}
/-- a loop's round, what stands behind it left closed -/
def loopJ (J : Slots → Mem → Prop) (Q : IExit → Slots → Mem → Prop) (e : IExit) (σ : Slots) (m : Mem) : Prop := match e with | .normal => J σ m | e => Q e σ m
@[simp] theorem loopJ_normal {J : Slots → Mem → Prop} : loopJ J Q .normal σ m = J σ m := rfl
@[simp] theorem loopJ_exit {J : Slots → Mem → Prop} {id : Nat} : loopJ J Q (.exit id) σ m = Q (.exit id) σ m := rfl
@[simp] theorem loopJ_ret {J : Slots → Mem → Prop} : loopJ J Q .ret σ m = Q .ret σ m := rfl
theorem wp_round {c : ICode} (h : ∀ J : Slots → Mem → Prop, (∀ σ' m', WP P (.loop c) σ' m' Q → J σ' m') → WP P c σ m (loopJ J Q)) : WP P (.loop c) σ m Q := by
  rw [wp_loop']
  refine (h (fun σ' m' => WP P (.loop c) σ' m' Q) (fun _ _ h => h)).mono fun e σ' m' h => ?_
  cases e <;> exact h
def callvW (P : Program) (v : Value) (args : List Value) (m : Mem) (Φ : Value → Mem → Prop) : Prop := match v with
  | .func (.func f) first caps => WPCall P f (first.toList ++ args ++ caps.toList) m Φ
  | _ => False
@[simp] theorem callvW_func {f : Nat} {first caps : Array Value} {args : List Value} {Φ : Value → Mem → Prop} : callvW P (.func (.func f) first caps) args m Φ = WPCall P f (first.toList ++ args ++ caps.toList) m Φ := rfl
@[simp] theorem wpo_callv_eq {base ix : Nat} {d : Option Nat} {rest : List IOp} {K : Slots → Mem → Prop} {ck : List (Operand × Operand)} {x : Operand} {as : List Operand} :
    WPO P base (⟨ix, d, none, .callv x as, ck⟩ :: rest) σ m K = callvW P (ev σ x) (as.map (ev σ)) m (callK P base d ck rest σ m K) := by
  by_cases hx : ∃ f first caps, ev σ x = .func (.func f) first caps
  · obtain ⟨f, first, caps, hx⟩ := hx
    rw [wpo_callv hx, hx]; rfl
  · have hcal : (IK.callv x as).callee σ m = none := by
      simp only [IK.callee]
      split
      · rename_i f first caps h; exact absurd ⟨f, first, caps, h⟩ hx
      · rfl
    have h2 : callvW P (ev σ x) (as.map (ev σ)) m (callK P base d ck rest σ m K) = False := by
      unfold callvW
      split
      · rename_i f first caps h; exact absurd ⟨f, first, caps, h⟩ hx
      · rfl
    rw [h2]
    refine propext ⟨fun ⟨n, σ', m', h, q⟩ => ?_, False.elim⟩
    obtain ⟨σ1, m1, h1, _, _⟩ := runOps_cons h
    obtain ⟨hok, _⟩ := step_mem (o := ⟨ix, d, none, .callv x as, ck⟩) rfl hcal h1
    cases hok
/-- a call of a method through an interface value -/
def icallW (P : Program) (rows : List (TypeId × Nat × Option (Bool × Nat))) (v : Value) (args : List Value) (m : Mem) (Φ : Value → Mem → Prop) : Prop := match v with
  | .iface t v => match rows.find? (fun r => r.1 == t) with
    | some (_, f, none) => WPCall P f (v :: args) m Φ
    | some (_, f, some (ag, n)) => (addrOk m v n && (ag || decide (n = 1))) = true ∧ WPCall P f (loadV m ag n v :: args) m Φ
    | none => False
  | _ => False
theorem wpo_icall_eq {base ix : Nat} {d : Option Nat} {rest : List IOp} {K : Slots → Mem → Prop} {ck : List (Operand × Operand)} {rows : List (TypeId × Nat × Option (Bool × Nat))} {x : Operand} {as : List Operand} :
    WPO P base (⟨ix, d, none, .icall rows x as, ck⟩ :: rest) σ m K = icallW P rows (ev σ x) (as.map (ev σ)) m (callK P base d ck rest σ m K) := by
  have hno : (IK.icall rows x as).callee σ m = none → WPO P base (⟨ix, d, none, .icall rows x as, ck⟩ :: rest) σ m K = False := fun hcal => by
    refine propext ⟨fun ⟨n, σ', m', h, q⟩ => ?_, False.elim⟩
    obtain ⟨σ1, m1, h1, _, _⟩ := runOps_cons h
    obtain ⟨hok, _⟩ := step_mem (o := ⟨ix, d, none, .icall rows x as, ck⟩) rfl hcal h1
    cases hok
  unfold icallW
  split
  · rename_i t v hv
    split
    · rename_i r f hr
      exact wpo_callee (by simp only [IK.callee, hv, hr])
    · rename_i r f ag n hr
      by_cases hok : (addrOk m v n && (ag || decide (n = 1))) = true
      · rw [wpo_callee (f := f) (args := loadV m ag n v :: as.map (ev σ)) (by simp only [IK.callee, hv, hr, hok, if_true])]
        simp only [hok, true_and]
      · rw [hno (by simp only [IK.callee, hv, hr, if_neg hok])]
        exact propext ⟨False.elim, fun h => absurd h.1 hok⟩
    · rename_i hr
      rw [hno (by simp only [IK.callee, hv, hr])]
  · rename_i hv
    refine hno ?_
    simp only [IK.callee]
/-- the same, for a value and rows that are written out -/
@[simp] theorem wpo_icall {base ix : Nat} {d : Option Nat} {rest : List IOp} {K : Slots → Mem → Prop} {ck : List (Operand × Operand)} {rows : List (TypeId × Nat × Option (Bool × Nat))} {x : Operand} {as : List Operand} :
    WPO P base (⟨ix, d, none, .icall rows x as, ck⟩ :: rest) σ m K = icallW P rows (ev σ x) (as.map (ev σ)) m (callK P base d ck rest σ m K) := wpo_icall_eq
@[simp] theorem icallW_val {t t' : TypeId} {f : Nat} {rows : List (TypeId × Nat × Option (Bool × Nat))} {v : Value} {args : List Value} {Φ : Value → Mem → Prop} :
    icallW P ((t', f, none) :: rows) (.iface t v) args m Φ = if t' = t then WPCall P f (v :: args) m Φ else icallW P rows (.iface t v) args m Φ := by
  by_cases h : t' = t
  · subst h; simp [icallW]
  · simp [icallW, h]
@[simp] theorem icallW_load {t t' : TypeId} {f n : Nat} {ag : Bool} {rows : List (TypeId × Nat × Option (Bool × Nat))} {v : Value} {args : List Value} {Φ : Value → Mem → Prop} :
    icallW P ((t', f, some (ag, n)) :: rows) (.iface t v) args m Φ = if t' = t then ((addrOk m v n && (ag || decide (n = 1))) = true ∧ WPCall P f (loadV m ag n v :: args) m Φ) else icallW P rows (.iface t v) args m Φ := by
  by_cases h : t' = t
  · subst h; simp [icallW]
  · simp [icallW, h]
end
@[simp] theorem lget_0 {d a0 : Value} {l : List Value} : (a0 :: l)[0]?.getD d = a0 := rfl
@[simp] theorem lget_1 {d a0 a1 : Value} {l : List Value} : (a0 :: a1 :: l)[1]?.getD d = a1 := rfl
@[simp] theorem lget_2 {d a0 a1 a2 : Value} {l : List Value} : (a0 :: a1 :: a2 :: l)[2]?.getD d = a2 := rfl
@[simp] theorem lget_3 {d a0 a1 a2 a3 : Value} {l : List Value} : (a0 :: a1 :: a2 :: a3 :: l)[3]?.getD d = a3 := rfl
@[simp] theorem lget_4 {d a0 a1 a2 a3 a4 : Value} {l : List Value} : (a0 :: a1 :: a2 :: a3 :: a4 :: l)[4]?.getD d = a4 := rfl
@[simp] theorem lget_5 {d a0 a1 a2 a3 a4 a5 : Value} {l : List Value} : (a0 :: a1 :: a2 :: a3 :: a4 :: a5 :: l)[5]?.getD d = a5 := rfl
@[simp] theorem lget_6 {d a0 a1 a2 a3 a4 a5 a6 : Value} {l : List Value} : (a0 :: a1 :: a2 :: a3 :: a4 :: a5 :: a6 :: l)[6]?.getD d = a6 := rfl
@[simp] theorem lget_7 {d a0 a1 a2 a3 a4 a5 a6 a7 : Value} {l : List Value} : (a0 :: a1 :: a2 :: a3 :: a4 :: a5 :: a6 :: a7 :: l)[7]?.getD d = a7 := rfl
attribute [simp] IK.ok IK.val IK.mem zqv
end Go.DI
