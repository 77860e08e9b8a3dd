/-
  Laws of the abstract memory, and of numbers, for a proof's own steps.
-/
import Derived.Test.YticjcminhkgabaaGreatDoorFwX
namespace Go.DI
open Go

section
variable {m : Mem} {b b' k : Nat} {x y : Option Blk} {z : Blk}
@[simp] theorem zqp : (m.put b x).next = m.next := rfl
@[simp] theorem zqq : (m.bump k).next = m.next + k := rfl
theorem get_lt (h : m.get b = some z) : b < m.next := by
  unfold Mem.get at h; split at h
  · assumption
  · cases h
theorem zql (h : b < m.next) : (m.put b x).get b = x := by simp [Mem.get, Mem.put, h]
theorem zqm (h : b' ≠ b) : (m.put b x).get b' = m.get b' := by simp [Mem.get, Mem.put, h]
theorem zqn (h : b < m.next) : (m.bump k).get b = m.get b := by
  have : b < m.next + k := by omega
  simp [Mem.get, Mem.bump, h, this]
@[simp] theorem next_putM {es : List (Value × Value)} : (m.putM b es).next = m.next := rfl
theorem get_putM_self {es : List (Value × Value)} (h : b < m.next) : (m.putM b es).get b = some ⟨[], true⟩ := by simp [Mem.get, Mem.putM, h]
theorem get_putM_ne {es : List (Value × Value)} (h : b' ≠ b) : (m.putM b es).get b' = m.get b' := by simp [Mem.get, Mem.putM, h]
theorem getM_putM_self {es : List (Value × Value)} (h : b < m.next) : (m.putM b es).getM b = some es := by simp [Mem.getM, get_putM_self h]; simp [Mem.putM]
theorem getM_putM_ne {es : List (Value × Value)} (h : b' ≠ b) : (m.putM b es).getM b' = m.getM b' := by simp [Mem.getM, get_putM_ne h]; simp [Mem.putM, h]
theorem getM_put_ne (h : b' ≠ b) : (m.put b x).getM b' = m.getM b' := by simp [Mem.getM, zqm h]; rfl
theorem getM_bump (h : b < m.next) : (m.bump k).getM b = m.getM b := by simp [Mem.getM, zqn h]; rfl
theorem putM_putM {es fs : List (Value × Value)} : (m.putM b es).putM b fs = m.putM b fs := by
  unfold Mem.putM
  congr 1
  · funext i; by_cases h : i = b <;> simp [h]
  · funext i; by_cases h : i = b <;> simp [h]
theorem zqo : (m.put b x).put b y = m.put b y := by
  simp only [Mem.put, Mem.mk.injEq, true_and, and_true]
  funext i; by_cases h : i = b <;> simp [h]
theorem put_same (h : m.get b = some z) : m.put b (some z) = m := by
  obtain ⟨n, f, g⟩ := m
  have h1 := get_lt h
  simp only [Mem.get, Mem.put, Mem.mk.injEq, true_and, and_true] at h h1 ⊢
  rw [if_pos h1] at h
  funext i; by_cases hi : i = b
  · subst hi; simp [h]
  · simp [hi]
@[simp] theorem addrOk_ptr {a o n : Nat} : addrOk m (.pointer (some ⟨a, o, none⟩)) n = (match m.get a with | some x => decide (o + n ≤ x.cells.length) | none => false) := rfl
@[simp] theorem addrOwn_ptr {a o : Nat} : addrOwn m (.pointer (some ⟨a, o, none⟩)) = (match m.get a with | some x => x.own | none => false) := rfl
@[simp] theorem loadV_ptr {a o n : Nat} {ag : Bool} : loadV m ag n (.pointer (some ⟨a, o, none⟩)) = if ag then .agg (cellsAt m a o n).toArray else (cellsAt m a o 1).headD undef := rfl
@[simp] theorem cellsAt_eq {a o n : Nat} : cellsAt m a o n = match m.get a with | some x => (x.cells.drop o).take n | none => [] := rfl
@[simp] theorem storeM_ptr {a o : Nat} {cs : List Value} : storeM m (.pointer (some ⟨a, o, none⟩)) cs = match m.get a with | some x => m.put a (some ⟨blit x.cells o cs, x.own⟩) | none => m := rfl
@[simp] theorem sliceOk_sl {a o l c n : Nat} : sliceOk m n (.slice (some ⟨a, o, none⟩) l c) = (c == n && (match m.get a with | some x => decide (o + l * n ≤ x.cells.length) | none => false)) := rfl
@[simp] theorem sliceOk_nil {n : Nat} : sliceOk m n (.slice none 0 0) = true := rfl
@[simp] theorem sliceOwn_sl {a o l c : Nat} : sliceOwn m (.slice (some ⟨a, o, none⟩) l c) = (match m.get a with | some x => x.own | none => false) := rfl
@[simp] theorem sliceOwn_nil {l c : Nat} : sliceOwn m (.slice none l c) = true := rfl
@[simp] theorem sliceCells_sl {a o l c n : Nat} : sliceCells m n (.slice (some ⟨a, o, none⟩) l c) = cellsAt m a o (l * n) := rfl
@[simp] theorem sliceCells_nil {l c n : Nat} : sliceCells m n (.slice none l c) = [] := rfl
@[simp] theorem kill_sl {a o l c : Nat} : kill m (.slice (some ⟨a, o, none⟩) l c) = m.put a none := rfl
@[simp] theorem kill_nil {l c : Nat} : kill m (.slice none l c) = m := rfl
end
theorem i64_id {n : Int} (h1 : -9223372036854775808 ≤ n) (h2 : n ≤ 9223372036854775807) : IntKind.i64.wrap n = n := IntWalk.i64_in n ⟨h1, h2⟩
section
variable {P : Program} {σ : Slots} {m : Mem} {Q : IExit → Slots → Mem → Prop}
/-- a loop's round, what stands behind it left closed -/
def loopJ (J : Slots → Mem → Prop) (Q : IExit → Slots → Mem → Prop) (e : IExit) (σ : Slots) (m : Mem) : Prop := match e with | .normal => J σ m | e => Q e σ m
@[simp] theorem loopJ_normal {J : Slots → Mem → Prop} : loopJ J Q .normal σ m = J σ m := rfl
@[simp] theorem loopJ_exit {J : Slots → Mem → Prop} {id : Nat} : loopJ J Q (.exit id) σ m = Q (.exit id) σ m := rfl
@[simp] theorem loopJ_ret {J : Slots → Mem → Prop} : loopJ J Q .ret σ m = Q .ret σ m := rfl
theorem wp_round {c : ICode} (h : ∀ J : Slots → Mem → Prop, (∀ σ' m', WP P (.loop c) σ' m' Q → J σ' m') → WP P c σ m (loopJ J Q)) : WP P (.loop c) σ m Q := by
  rw [wp_loop']
  refine (h (fun σ' m' => WP P (.loop c) σ' m' Q) (fun _ _ h => h)).mono fun e σ' m' h => ?_
  cases e <;> exact h
def callvW (P : Program) (v : Value) (args : List Value) (m : Mem) (Φ : Value → Mem → Prop) : Prop := match v with
  | .func (.func f) first caps => WPCall P f (first.toList ++ args ++ caps.toList) m Φ
  | _ => False
@[simp] theorem callvW_func {f : Nat} {first caps : Array Value} {args : List Value} {Φ : Value → Mem → Prop} : callvW P (.func (.func f) first caps) args m Φ = WPCall P f (first.toList ++ args ++ caps.toList) m Φ := rfl
@[simp] theorem wpo_callv_eq {base ix : Nat} {d : Option Nat} {rest : List IOp} {K : Slots → Mem → Prop} {ck : List (Operand × Operand)} {x : Operand} {as : List Operand} :
    WPO P base (⟨ix, d, none, .callv x as, ck⟩ :: rest) σ m K = callvW P (ev σ x) (as.map (ev σ)) m (callK P base d ck rest σ m K) := by
  by_cases hx : ∃ f first caps, ev σ x = .func (.func f) first caps
  · obtain ⟨f, first, caps, hx⟩ := hx
    rw [wpo_callv hx, hx]; rfl
  · have hcal : (IK.callv x as).callee σ m = none := by
      simp only [IK.callee]
      split
      · rename_i f first caps h; exact absurd ⟨f, first, caps, h⟩ hx
      · rfl
    have h2 : callvW P (ev σ x) (as.map (ev σ)) m (callK P base d ck rest σ m K) = False := by
      unfold callvW
      split
      · rename_i f first caps h; exact absurd ⟨f, first, caps, h⟩ hx
      · rfl
    rw [h2]
    refine propext ⟨fun ⟨n, σ', m', h, q⟩ => ?_, False.elim⟩
    obtain ⟨σ1, m1, h1, _, _⟩ := runOps_cons h
    obtain ⟨hok, _⟩ := step_mem (o := ⟨ix, d, none, .callv x as, ck⟩) rfl hcal h1
    cases hok
/-- a call of a method through an interface value -/
def icallW (P : Program) (rows : List (TypeId × Nat × Option (Bool × Nat))) (v : Value) (args : List Value) (m : Mem) (Φ : Value → Mem → Prop) : Prop := match v with
  | .iface t v => match rows.find? (fun r => r.1 == t) with
    | some (_, f, none) => WPCall P f (v :: args) m Φ
    | some (_, f, some (ag, n)) => (addrOk m v n && (ag || decide (n = 1))) = true ∧ WPCall P f (loadV m ag n v :: args) m Φ
    | none => False
  | _ => False
theorem wpo_icall_eq {base ix : Nat} {d : Option Nat} {rest : List IOp} {K : Slots → Mem → Prop} {ck : List (Operand × Operand)} {rows : List (TypeId × Nat × Option (Bool × Nat))} {x : Operand} {as : List Operand} :
    WPO P base (⟨ix, d, none, .icall rows x as, ck⟩ :: rest) σ m K = icallW P rows (ev σ x) (as.map (ev σ)) m (callK P base d ck rest σ m K) := by
  have hno : (IK.icall rows x as).callee σ m = none → WPO P base (⟨ix, d, none, .icall rows x as, ck⟩ :: rest) σ m K = False := fun hcal => by
    refine propext ⟨fun ⟨n, σ', m', h, q⟩ => ?_, False.elim⟩
    obtain ⟨σ1, m1, h1, _, _⟩ := runOps_cons h
    obtain ⟨hok, _⟩ := step_mem (o := ⟨ix, d, none, .icall rows x as, ck⟩) rfl hcal h1
    cases hok
  unfold icallW
  split
  · rename_i t v hv
    split
    · rename_i r f hr
      exact wpo_callee (by simp only [IK.callee, hv, hr])
    · rename_i r f ag n hr
      by_cases hok : (addrOk m v n && (ag || decide (n = 1))) = true
      · rw [wpo_callee (f := f) (args := loadV m ag n v :: as.map (ev σ)) (by simp only [IK.callee, hv, hr, hok, if_true])]
        simp only [hok, true_and]
      · rw [hno (by simp only [IK.callee, hv, hr, if_neg hok])]
        exact propext ⟨False.elim, fun h => absurd h.1 hok⟩
    · rename_i hr
      rw [hno (by simp only [IK.callee, hv, hr])]
  · rename_i hv
    refine hno ?_
    simp only [IK.callee]
/-- the same, for a value and rows that are written out -/
@[simp] theorem wpo_icall {base ix : Nat} {d : Option Nat} {rest : List IOp} {K : Slots → Mem → Prop} {ck : List (Operand × Operand)} {rows : List (TypeId × Nat × Option (Bool × Nat))} {x : Operand} {as : List Operand} :
    WPO P base (⟨ix, d, none, .icall rows x as, ck⟩ :: rest) σ m K = icallW P rows (ev σ x) (as.map (ev σ)) m (callK P base d ck rest σ m K) := wpo_icall_eq
@[simp] theorem icallW_val {t t' : TypeId} {f : Nat} {rows : List (TypeId × Nat × Option (Bool × Nat))} {v : Value} {args : List Value} {Φ : Value → Mem → Prop} :
    icallW P ((t', f, none) :: rows) (.iface t v) args m Φ = if t' = t then WPCall P f (v :: args) m Φ else icallW P rows (.iface t v) args m Φ := by
  by_cases h : t' = t
  · subst h; simp [icallW]
  · simp [icallW, h]
@[simp] theorem icallW_load {t t' : TypeId} {f n : Nat} {ag : Bool} {rows : List (TypeId × Nat × Option (Bool × Nat))} {v : Value} {args : List Value} {Φ : Value → Mem → Prop} :
    icallW P ((t', f, some (ag, n)) :: rows) (.iface t v) args m Φ = if t' = t then ((addrOk m v n && (ag || decide (n = 1))) = true ∧ WPCall P f (loadV m ag n v :: args) m Φ) else icallW P rows (.iface t v) args m Φ := by
  by_cases h : t' = t
  · subst h; simp [icallW]
  · simp [icallW, h]
end
@[simp] theorem lget_0 {d a0 : Value} {l : List Value} : (a0 :: l)[0]?.getD d = a0 := rfl
@[simp] theorem lget_1 {d a0 a1 : Value} {l : List Value} : (a0 :: a1 :: l)[1]?.getD d = a1 := rfl
@[simp] theorem lget_2 {d a0 a1 a2 : Value} {l : List Value} : (a0 :: a1 :: a2 :: l)[2]?.getD d = a2 := rfl
@[simp] theorem lget_3 {d a0 a1 a2 a3 : Value} {l : List Value} : (a0 :: a1 :: a2 :: a3 :: l)[3]?.getD d = a3 := rfl
@[simp] theorem lget_4 {d a0 a1 a2 a3 a4 : Value} {l : List Value} : (a0 :: a1 :: a2 :: a3 :: a4 :: l)[4]?.getD d = a4 := rfl
@[simp] theorem lget_5 {d a0 a1 a2 a3 a4 a5 : Value} {l : List Value} : (a0 :: a1 :: a2 :: a3 :: a4 :: a5 :: l)[5]?.getD d = a5 := rfl
@[simp] theorem lget_6 {d a0 a1 a2 a3 a4 a5 a6 : Value} {l : List Value} : (a0 :: a1 :: a2 :: a3 :: a4 :: a5 :: a6 :: l)[6]?.getD d = a6 := rfl
@[simp] theorem lget_7 {d a0 a1 a2 a3 a4 a5 a6 a7 : Value} {l : List Value} : (a0 :: a1 :: a2 :: a3 :: a4 :: a5 :: a6 :: a7 :: l)[7]?.getD d = a7 := rfl
attribute [simp] IK.ok IK.val IK.mem
section
variable {p : Option Addr} {a : Addr} {l c z i j : Nat}
@[simp] theorem lenOfV_str {s : ByteArray} : zqu (.string s) = s.size := rfl
@[simp] theorem zqa : zqu (.slice p l c) = l := rfl
@[simp] theorem zqb : isSl (.slice p l c) = true := rfl
@[simp] theorem zqf : zqr (.slice p l c) = l := rfl
@[simp] theorem zqc {b o : Nat} : zqs z (.slice (some ⟨b, o, none⟩) l c) = (c == z) := rfl
@[simp] theorem zqd {b o : Nat} {n : Int} : zqt (.slice (some ⟨b, o, none⟩) l c) z n = .pointer (some ⟨b, o + n.toNat * z, none⟩) := rfl
@[simp] theorem zqe {b o : Nat} : zqv (.slice (some ⟨b, o, none⟩) l c) z i j = .slice (some ⟨b, o + i * z, none⟩) (j - i) c := rfl
@[simp] theorem zqi : zqs z (.slice none 0 0) = true := rfl
@[simp] theorem zqj : zqv (.slice none 0 0) z i j = .slice none 0 0 := rfl
end
@[simp] theorem u64b {n : Nat} : min n IntKind.u64.bits = min n 64 := rfl
@[simp] theorem u32b {n : Nat} : min n IntKind.u32.bits = min n 32 := rfl
attribute [simp] zql zqm zqn zqo
end Go.DI
