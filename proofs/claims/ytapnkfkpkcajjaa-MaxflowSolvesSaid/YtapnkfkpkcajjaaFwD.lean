/-
  The operations that touch no memory, continued: comparisons, arithmetic, slices' bounds, structs.
-/
import Derived.Test.YtapnkfkpkcajjaaFwC
namespace Go.DI
open Go Go.RowKit

section
variable {P : Program} {w : World}

theorem run_eqIn_bool {t : TypeId} (d : Nat) (h : P.underlying t = some .bool) (a b : Bool) : (Op.equalIn (d + 1) t (.bool a) (.bool b)).run P w = .ok (a == b) w := by
  simp [Op.equalIn, run_underlying h]
theorem run_eqIn_ptr {t e : TypeId} (d : Nat) (h : P.underlying t = some (.pointer e)) (p q : Option Addr) (hpq : p = none ∨ q = none) : (Op.equalIn (d + 1) t (.pointer p) (.pointer q)).run P w = .ok (p.isNone && q.isNone) w := by
  rcases hpq with rfl | rfl
  · simp [Op.equalIn, run_underlying h]
  · cases p <;> simp [Op.equalIn, run_underlying h]
theorem run_eqIn_slice {t e : TypeId} (d : Nat) (h : P.underlying t = some (.slice e)) (p q : Option Addr) (l c l' c' : Nat) (hpq : p = none ∨ q = none) : (Op.equalIn (d + 1) t (.slice p l c) (.slice q l' c')).run P w = .ok (p.isNone && q.isNone) w := by
  rcases hpq with rfl | rfl
  · simp [Op.equalIn, run_underlying h]
  · cases p <;> simp [Op.equalIn, run_underlying h]
theorem run_eqIn_fn {t : TypeId} {as bs : Array TypeId} {vd : Bool} (d : Nat) (h : P.underlying t = some (.func as bs vd)) (x y : Value)
    (hxy : (x = .nilFunc ∧ y = .nilFunc) ∨ (x = .nilFunc ∧ ∃ a b c, y = .func a b c) ∨ (y = .nilFunc ∧ ∃ a b c, x = .func a b c)) : (Op.equalIn (d + 1) t x y).run P w = .ok (isNilV x && isNilV y) w := by
  rcases hxy with ⟨rfl, rfl⟩ | ⟨rfl, _, _, _, rfl⟩ | ⟨rfl, _, _, _, rfl⟩ <;> simp [Op.equalIn, run_underlying h, isNilV]
theorem run_equal_bool {t : TypeId} (h : P.underlying t = some .bool) (a b : Bool) : (Op.equal t (.bool a) (.bool b)).run P w = .ok (a == b) w := run_eqIn_bool 9999 h a b
theorem run_equal_ptr {t e : TypeId} (h : P.underlying t = some (.pointer e)) (p q : Option Addr) (hpq : p = none ∨ q = none) : (Op.equal t (.pointer p) (.pointer q)).run P w = .ok (p.isNone && q.isNone) w := run_eqIn_ptr 9999 h p q hpq
theorem run_equal_slice {t e : TypeId} (h : P.underlying t = some (.slice e)) (p q : Option Addr) (l c l' c' : Nat) (hpq : p = none ∨ q = none) : (Op.equal t (.slice p l c) (.slice q l' c')).run P w = .ok (p.isNone && q.isNone) w := run_eqIn_slice 9999 h p q l c l' c' hpq
theorem run_equal_fn {t : TypeId} {as bs : Array TypeId} {vd : Bool} (h : P.underlying t = some (.func as bs vd)) (x y : Value)
    (hxy : (x = .nilFunc ∧ y = .nilFunc) ∨ (x = .nilFunc ∧ ∃ a b c, y = .func a b c) ∨ (y = .nilFunc ∧ ∃ a b c, x = .func a b c)) : (Op.equal t x y).run P w = .ok (isNilV x && isNilV y) w := run_eqIn_fn 9999 h x y hxy

theorem tyC_bool {t : TypeId} (h : tyC P t = .bool) : P.underlying t = some .bool := by
  unfold tyC at h; split at h <;> first | assumption | cases h
theorem tyC_ptr {t : TypeId} (h : tyC P t = .ptr) : ∃ e, P.underlying t = some (.pointer e) := by
  unfold tyC at h; split at h <;> first | exact ⟨_, by assumption⟩ | cases h
theorem tyC_slice {t : TypeId} (h : tyC P t = .slice) : ∃ e, P.underlying t = some (.slice e) := by
  unfold tyC at h; split at h <;> first | exact ⟨_, by assumption⟩ | cases h
theorem tyC_fn {t : TypeId} (h : tyC P t = .fn) : ∃ a b c, P.underlying t = some (.func a b c) := by
  unfold tyC at h; split at h <;> first | exact ⟨_, _, _, by assumption⟩ | cases h

theorem run_guard {op : BinOp} {t : TypeId} {x y : Operand} {u v : Value} (h1 : u ≠ .nilIface) (h2 : isAggV u = false) : (eqGuard op t x y u v).run P w = .ok () w := by
  unfold eqGuard
  by_cases hop : op = .eql ∨ op = .neq
  · rcases hop with rfl | rfl <;> simp <;> cases u <;> simp_all [isAggV]
  · cases op <;> simp_all

theorem run_int {op : BinOp} {t : TypeId} {k k' : IntKind} {a b : Int} (h : intBinOk op k k' a b = true) : (binOp op t (.int k a) (.int k' b)).run P w = .ok (intBin op k a b) w := by
  cases op <;> simp_all [intBinOk, binOp, intBin, Op.intArith, Op.intDiv, Op.intBits, Op.intCmp, Op.shift] <;> first | rfl | (intro h'; omega)
theorem toList_beq (a b : ByteArray) : (a.toList == b.toList) = decide (a = b) := by
  rw [Bool.eq_iff_iff]
  simp only [ByteArray.toList_eq, beq_iff_eq, decide_eq_true_eq]
  constructor
  · intro h
    cases a; cases b
    simpa using h
  · rintro rfl; rfl
theorem run_str {op : BinOp} {t : TypeId} {a b : ByteArray} (h : strBinOk op a b = true) : (binOp op t (.string a) (.string b)).run P w = .ok (strBin op a b) w := by
  have e := toList_beq a b
  cases op <;> simp_all [strBinOk, binOp, strBin, Op.stringOp]
  omega

theorem binOp_eql {op : BinOp} (hopc : op = .eql ∨ op = .neq) {t : TypeId} {u v : Value} (hu : isI u = false) (hs : isStr u = false) (hu2 : isPtr u = true → isI v = false) {r : Bool} (hf : (∀ k a b, u ≠ .complex k a b) ∧ ∀ k a, u ≠ .float k a)
    (h : (Op.equal t u v).run P w = .ok r w) : (binOp op t u v).run P w = .ok (.bool (if op = .eql then r else !r)) w := by
  rcases hopc with rfl | rfl <;> cases u <;> simp_all [isI, isStr, binOp]

theorem run_eqV {op : BinOp} {t : TypeId} {ρ : Ren} {u v u' v' : Value} (hopc : op = .eql ∨ op = .neq) (hok : eqOk (tyC P t) u v = true) (hu : VRel ρ u u') (hv : VRel ρ v v') :
    (binOp op t u' v').run P w = .ok (binV op u v) w ∧ u' ≠ .nilIface ∧ isAggV u' = false := by
  unfold eqOk at hok
  split at hok
  · rename_i hT
    have := hu.inv_bool; subst this
    have := hv.inv_bool; subst this
    refine ⟨?_, by simp, rfl⟩
    rw [binOp_eql hopc rfl rfl (by simp [isPtr]) (by simp) (run_equal_bool (tyC_bool hT) _ _)]
    rcases hopc with rfl | rfl <;> simp [binV, eqV]
  · rename_i p hT
    obtain ⟨e, he⟩ := tyC_ptr hT
    have := hu.inv_flat rfl; subst this
    have hv2 : ∃ q, v' = .pointer q ∧ q.isNone = p.isNone := by
      cases p with
      | none => exact ⟨none, hv.inv_flat rfl, rfl⟩
      | some a => obtain ⟨l, _, _, h⟩ := hv.inv_ptr; exact ⟨_, h, rfl⟩
    obtain ⟨q, rfl, hq⟩ := hv2
    refine ⟨?_, by simp, rfl⟩
    rw [binOp_eql hopc rfl rfl (by simp [isPtr]) (by simp) (run_equal_ptr he _ _ (.inl rfl))]
    cases p <;> rcases hopc with rfl | rfl <;> simp_all [binV, eqV, isNilV]
  · rename_i p _ hT
    obtain ⟨e, he⟩ := tyC_ptr hT
    have := hv.inv_flat rfl; subst this
    have hv2 : ∃ q, u' = .pointer q ∧ q.isNone = p.isNone := by
      cases p with
      | none => exact ⟨none, hu.inv_flat rfl, rfl⟩
      | some a => obtain ⟨l, _, _, h⟩ := hu.inv_ptr; exact ⟨_, h, rfl⟩
    obtain ⟨q, rfl, hq⟩ := hv2
    refine ⟨?_, by simp, rfl⟩
    rw [binOp_eql hopc rfl rfl (by simp [isI]) (by simp) (run_equal_ptr he _ _ (.inr rfl))]
    cases p <;> rcases hopc with rfl | rfl <;> simp_all [binV, eqV, isNilV]
  · rename_i l1 c1 p l2 c2 hT
    obtain ⟨e, he⟩ := tyC_slice hT
    have hu2 : u' = .slice none l1 c1 := by cases hu with | flat h => rfl
    subst hu2
    have hv2 : ∃ q l c, v' = .slice q l c ∧ q.isNone = p.isNone := by
      cases p with
      | none => cases hv with | flat h => exact ⟨_, _, _, rfl, rfl⟩
      | some a => obtain ⟨l, a', cap, _, _, h, _⟩ := hv.inv_slice; exact ⟨_, _, _, h, rfl⟩
    obtain ⟨q, l, c, rfl, hq⟩ := hv2
    refine ⟨?_, by simp, rfl⟩
    rw [binOp_eql hopc rfl rfl (by simp [isPtr]) (by simp) (run_equal_slice he _ _ _ _ _ _ (.inl rfl))]
    cases p <;> rcases hopc with rfl | rfl <;> simp_all [binV, eqV, isNilV]
  · rename_i p l1 c1 l2 c2 _ hT
    obtain ⟨e, he⟩ := tyC_slice hT
    have hv2 : v' = .slice none l2 c2 := by cases hv with | flat h => rfl
    subst hv2
    have hu2 : ∃ q l c, u' = .slice q l c ∧ q.isNone = p.isNone := by
      cases p with
      | none => cases hu with | flat h => exact ⟨_, _, _, rfl, rfl⟩
      | some a => obtain ⟨l, a', cap, _, _, h, _⟩ := hu.inv_slice; exact ⟨_, _, _, h, rfl⟩
    obtain ⟨q, l, c, rfl, hq⟩ := hu2
    refine ⟨?_, by simp, rfl⟩
    rw [binOp_eql hopc rfl rfl (by simp [isPtr]) (by simp) (run_equal_slice he _ _ _ _ _ _ (.inr rfl))]
    cases p <;> rcases hopc with rfl | rfl <;> simp_all [binV, eqV, isNilV]
  · rename_i hT
    obtain ⟨a, b, c, he⟩ := tyC_fn hT
    have := hu.inv_flat rfl; subst this
    have := hv.inv_flat rfl; subst this
    refine ⟨?_, by simp, rfl⟩
    rw [binOp_eql hopc rfl rfl (by simp [isPtr]) (by simp) (run_equal_fn he _ _ (.inl ⟨rfl, rfl⟩))]
    rcases hopc with rfl | rfl <;> simp [binV, eqV, isNilV]
  · rename_i hT
    obtain ⟨a, b, c, he⟩ := tyC_fn hT
    have := hu.inv_flat rfl; subst this
    obtain ⟨ys, ds, rfl, _⟩ := hv.inv_func
    refine ⟨?_, by simp, rfl⟩
    rw [binOp_eql hopc rfl rfl (by simp [isPtr]) (by simp) (run_equal_fn he _ _ (.inr (.inl ⟨rfl, _, _, _, rfl⟩)))]
    rcases hopc with rfl | rfl <;> simp [binV, eqV, isNilV]
  · rename_i hT
    obtain ⟨a, b, c, he⟩ := tyC_fn hT
    have := hv.inv_flat rfl; subst this
    obtain ⟨ys, ds, rfl, _⟩ := hu.inv_func
    refine ⟨?_, by simp, rfl⟩
    rw [binOp_eql hopc rfl rfl (by simp [isPtr]) (by simp) (run_equal_fn he _ _ (.inr (.inr ⟨rfl, _, _, _, rfl⟩)))]
    rcases hopc with rfl | rfl <;> simp [binV, eqV, isNilV]
  · cases hok

theorem eqOk_not {c : TyC} {u v : Value} (h : eqOk c u v = true) : isI u = false ∧ isStr u = false := by
  unfold eqOk at h
  split at h <;> first | exact ⟨rfl, rfl⟩ | cases h

/-- the one theorem on '+', '==' .. -/
theorem y_binV {o : Oper} {a : Act} {op : BinOp} {t yt : TypeId} {x y : Operand} {ρ : Ren} {u v : Value} (hop : o.op = .binOp op t x y yt) (hx : VRel ρ u (a.eval x)) (hy : VRel ρ v (a.eval y))
    (hok : binOk op (tyC P t) u v = true) : ∃ v', Yields P o a w v' w ∧ VRel ρ (binV op u v) v' := by
  generalize hx' : a.eval x = u' at hx
  generalize hy' : a.eval y = v' at hy
  cases u with
  | int k n =>
    cases v <;> simp only [binOk] at hok
    case int k' n' =>
      have := hx.inv_int; subst this
      have := hy.inv_int; subst this
      refine ⟨intBin op k n n', y_bin hop (run_guard (by simp [hx']) (by simp [hx', isAggV])) (by rw [hx', hy']; exact run_int hok), ?_⟩
      simp only [binV]
      exact .flat (by cases op <;> rfl)
    all_goals (cases op <;> first | cases hok | (cases hc : tyC P t <;> simp [hc, eqOk] at hok))
  | string s =>
    cases v <;> simp only [binOk] at hok
    case string s' =>
      have := hx.inv_string; subst this
      have := hy.inv_string; subst this
      refine ⟨strBin op s s', y_bin hop (run_guard (by simp [hx']) (by simp [hx', isAggV])) (by rw [hx', hy']; exact run_str hok), ?_⟩
      simp only [binV]
      exact .flat (by cases op <;> simp_all [strBin, strBinOk, flat1])
    all_goals (cases op <;> first | cases hok | (cases hc : tyC P t <;> simp [hc, eqOk] at hok))
  | _ =>
    simp only [binOk] at hok
    have hopc : op = .eql ∨ op = .neq := by cases op <;> first | exact .inl rfl | exact .inr rfl | cases hok
    have hok' := hok
    rcases hopc with rfl | rfl
    · obtain ⟨h1, h2, h3⟩ := run_eqV (w := w) (.inl rfl) hok' hx hy
      exact ⟨_, y_bin hop (run_guard (by rw [hx']; exact h2) (by rw [hx']; exact h3)) (by rw [hx', hy']; exact h1), .flat (by simp [binV, flat1])⟩
    · obtain ⟨h1, h2, h3⟩ := run_eqV (w := w) (.inr rfl) hok' hx hy
      exact ⟨_, y_bin hop (run_guard (by rw [hx']; exact h2) (by rw [hx']; exact h3)) (by rw [hx', hy']; exact h1), .flat (by simp [binV, flat1])⟩
end
end Go.DI
