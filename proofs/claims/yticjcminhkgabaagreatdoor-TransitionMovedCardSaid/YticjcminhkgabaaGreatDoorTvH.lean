/-
  The laws of a walk over values with whole contents, each an equation, for simp. Written by a program of ours (gent.py).
-/
import Derived.Test.YticjcminhkgabaaGreatDoorTvG
namespace Go.DI
open Go
set_option linter.unusedSimpArgs false

section
variable {P : Program} {sp : Sps P} {sq : List (PSpec P)} {si : List (ISpec P)} {base ix : Nat} {d : Option Nat} {rest : List IOp} {σ : Slots} {t : Mem} {K : Slots → Mem → Prop} {ck : List (Operand × Operand)} {Q : IExit → Slots → Mem → Prop}
def thenT (sp : Sps P) (b : ICode) (Q : IExit → Slots → Mem → Prop) (e : IExit) (σ : Slots) (t : Mem) : Prop := match e with
  | .normal => TW sp b σ t Q
  | e => Q e σ t
@[simp] theorem thenT_normal {b : ICode} : thenT sp b Q .normal σ t = TW sp b σ t Q := propext Iff.rfl
@[simp] theorem thenT_exit {b : ICode} {id : Nat} : thenT sp b Q (.exit id) σ t = Q (.exit id) σ t := propext Iff.rfl
@[simp] theorem thenT_ret {b : ICode} : thenT sp b Q .ret σ t = Q .ret σ t := propext Iff.rfl
@[simp] theorem retKT_normal {F : List IRes} {Φ : Value → Mem → Prop} : retKT F Φ .normal σ t = (retOk t σ F = true ∧ Φ (retV t σ F) t) := propext Iff.rfl
@[simp] theorem retKT_ret {F : List IRes} {Φ : Value → Mem → Prop} : retKT F Φ .ret σ t = (retOk t σ F = true ∧ Φ (retV t σ F) t) := propext Iff.rfl
@[simp] theorem tw_skip : TW sp .skip σ t Q = Q .normal σ t := propext Iff.rfl
@[simp] theorem tw_exit {id : Nat} : TW sp (.exit id) σ t Q = Q (.exit id) σ t := propext Iff.rfl
@[simp] theorem tw_ret : TW sp .ret σ t Q = Q .ret σ t := propext Iff.rfl
@[simp] theorem tw_region {ops : List IOp} : TW sp (.region ops) σ t Q = TWO sp t.next ops σ (regBump ops t) (Q .normal) := propext Iff.rfl
@[simp] theorem tw_seq {a b : ICode} : TW sp (.seq a b) σ t Q = TW sp a σ t (thenT sp b Q) := propext Iff.rfl
@[simp] theorem tw_cond {c : Operand} {a b : ICode} : TW sp (.cond c a b) σ t Q = (isB (ev σ c) = true ∧ if asB (ev σ c) = true then TW sp a σ t Q else TW sp b σ t Q) := propext Iff.rfl
@[simp] theorem tw_block {id : Nat} {c : ICode} : TW sp (.block id c) σ t Q = TW sp c σ t (blockK id Q) := propext Iff.rfl
@[simp] theorem tw_loop {c : ICode} : TW sp (.loop c) σ t Q = WPT P (.loop c) σ t Q := propext Iff.rfl
@[simp] theorem two_nil : TWO sp base [] σ t K = K σ t := propext Iff.rfl
@[simp] theorem two_guard {k : IK} {j : Nat} {b : Bool} : TWO sp base (⟨ix, d, some (j, b), k, ck⟩ :: rest) σ t K = if wantedI σ (some (j, b)) = true then TWO sp base (⟨ix, d, none, k, ck⟩ :: rest) σ t K else TWO sp base rest (putD σ d undef) t K := by
  simp only [TWO]; rfl
/-- what stands behind a call -/
def kT (sp : Sps P) (base : Nat) (d : Option Nat) (rest : List IOp) (σ : Slots) (K : Slots → Mem → Prop) (r : Value) (t : Mem) : Prop := TWO sp base rest (putD σ d r) t K
@[simp] theorem kT_eq {r : Value} : kT sp base d rest σ K r t = TWO sp base rest (putD σ d r) t K := propext Iff.rfl
@[simp] theorem two_call {f : Nat} {as : List Operand} : TWO sp base (⟨ix, d, none, .call f as, ck⟩ :: rest) σ t K = callT sp f (as.map (ev σ)) t (keepT σ t ck) (kT sp base d rest σ K) := by
  simp only [TWO, wantedI, if_true]; rfl
@[simp] theorem two_callv {x : Operand} {as : List Operand} : TWO sp base (⟨ix, d, none, .callv x as, ck⟩ :: rest) σ t K = callvT sp (ev σ x) (as.map (ev σ)) t (keepT σ t ck) (kT sp base d rest σ K) := by
  simp only [TWO, wantedI, if_true]; rfl
@[simp] theorem callvT_func {f : Nat} {first caps : Array Value} {args : List Value} {kp : Bool} {K : Value → Mem → Prop} : callvT sp (.func (.func f) first caps) args t kp K = callT sp f (first.toList ++ args ++ caps.toList) t kp K := propext Iff.rfl
@[simp] theorem two_mov (x : Operand) : TWO sp base (⟨ix, d, none, .mov x, ck⟩ :: rest) σ t K = (ckOkT σ t ck = true ∧ TWO sp base rest (putD σ d (ev σ x)) (t) K) := by
  simp only [TWO, wantedI, if_true, oneT, IK.okT, IK.ok, true_and]; rfl
@[simp] theorem two_pick (c a b : Operand) : TWO sp base (⟨ix, d, none, .pick c a b, ck⟩ :: rest) σ t K = (isB (ev σ c) = true ∧ (ckOkT σ t ck = true ∧ TWO sp base rest (putD σ d (if asB (ev σ c) = true then ev σ a else ev σ b)) (t) K)) := by
  simp only [TWO, wantedI, if_true, oneT]; rfl
@[simp] theorem two_nilck (x : Operand) : TWO sp base (⟨ix, d, none, .nilck x, ck⟩ :: rest) σ t K = (isNotNil (ev σ x) = true ∧ (ckOkT σ t ck = true ∧ TWO sp base rest (putD σ d (ev σ x)) (t) K)) := by
  simp only [TWO, wantedI, if_true, oneT]; rfl
@[simp] theorem two_alloc (z : List Value) : TWO sp base (⟨ix, d, none, .alloc z, ck⟩ :: rest) σ t K = (ckOkT σ t ck = true ∧ TWO sp base rest (putD σ d (.pointer (some ⟨base + ix, 0, none⟩))) (t.put (base + ix) (some ⟨z, true⟩)) K) := by
  simp only [TWO, wantedI, if_true, oneT, IK.okT, IK.ok, true_and]; rfl
@[simp] theorem two_box (x : Operand) : TWO sp base (⟨ix, d, none, .box x, ck⟩ :: rest) σ t K = (notTup (ev σ x) = true ∧ (ckOkT σ t ck = true ∧ TWO sp base rest (putD σ d (.pointer (some ⟨base + ix, 0, none⟩))) (t.put (base + ix) (some ⟨vcells (ev σ x), true⟩)) K)) := by
  simp only [TWO, wantedI, if_true, oneT]; rfl
@[simp] theorem two_build (z : List Value) (ps : List (Nat × Nat × Operand)) : TWO sp base (⟨ix, d, none, .build z ps, ck⟩ :: rest) σ t K = (partsOk z σ ps = true ∧ (ckOkT σ t ck = true ∧ TWO sp base rest (putD σ d (.agg (partsV z σ ps).toArray)) (t) K)) := by
  simp only [TWO, wantedI, if_true, oneT]; rfl
@[simp] theorem two_bslice (z n : Nat) (cs : List Value) (ps : List (Nat × Nat × Operand)) : TWO sp base (⟨ix, d, none, .bslice z n cs ps, ck⟩ :: rest) σ t K = (partsOk cs σ ps = true ∧ (ckOkT σ t ck = true ∧ TWO sp base rest (putD σ d (.slice (some ⟨base + ix, 0, none⟩) n z)) (t.put (base + ix) (some ⟨partsV cs σ ps, true⟩)) K)) := by
  simp only [TWO, wantedI, if_true, oneT]; rfl
@[simp] theorem two_load (ag : Bool) (n : Nat) (x : Operand) : TWO sp base (⟨ix, d, none, .load ag n x, ck⟩ :: rest) σ t K = ((addrOkT t (ev σ x) n && (ag || decide (n = 1))) = true ∧ (ckOkT σ t ck = true ∧ TWO sp base rest (putD σ d (loadVT t ag n (ev σ x))) (t) K)) := by
  simp only [TWO, wantedI, if_true, oneT]; rfl
@[simp] theorem two_store (n : Nat) (x v : Operand) : TWO sp base (⟨ix, d, none, .store n x v, ck⟩ :: rest) σ t K = ((addrOk t (ev σ x) n && addrOwn t (ev σ x) && notTup (ev σ v) && decide ((vcells (ev σ v)).length = n)) = true ∧ (ckOkT σ t ck = true ∧ TWO sp base rest (putD σ d (undef)) (storeM t (ev σ x) (vcells (ev σ v))) K)) := by
  simp only [TWO, wantedI, if_true, oneT]; rfl
@[simp] theorem two_bin (op : BinOp) (c : TyC) (x y : Operand) : TWO sp base (⟨ix, d, none, .bin op c x y, ck⟩ :: rest) σ t K = ((binSafe (ev σ x) && binSafe (ev σ y) && binOk op c (ev σ x) (ev σ y)) = true ∧ (ckOkT σ t ck = true ∧ TWO sp base rest (putD σ d (binV op (ev σ x) (ev σ y))) (t) K)) := by
  simp only [TWO, wantedI, if_true, oneT]; rfl
@[simp] theorem two_eqAgg (neg : Bool) (ks : List CK) (x y : Operand) : TWO sp base (⟨ix, d, none, .eqAgg neg ks x y, ck⟩ :: rest) σ t K = ((isAggV (ev σ x) && isAggV (ev σ y) && cellsLike ks (vcells (ev σ x)) (vcells (ev σ y))) = true ∧ (ckOkT σ t ck = true ∧ TWO sp base rest (putD σ d (.bool (if neg then !cellsEq (vcells (ev σ x)) (vcells (ev σ y)) else cellsEq (vcells (ev σ x)) (vcells (ev σ y))))) (t) K)) := by
  simp only [TWO, wantedI, if_true, oneT]; rfl
@[simp] theorem two_un (op : UnOp) (x : Operand) : TWO sp base (⟨ix, d, none, .un op x, ck⟩ :: rest) σ t K = (unOk op (ev σ x) = true ∧ (ckOkT σ t ck = true ∧ TWO sp base rest (putD σ d (unV op (ev σ x))) (t) K)) := by
  simp only [TWO, wantedI, if_true, oneT]; rfl
@[simp] theorem two_convI (k : IntKind) (x : Operand) : TWO sp base (⟨ix, d, none, .convI k x, ck⟩ :: rest) σ t K = (isI (ev σ x) = true ∧ (ckOkT σ t ck = true ∧ TWO sp base rest (putD σ d (.int k (k.wrap (asI (ev σ x))))) (t) K)) := by
  simp only [TWO, wantedI, if_true, oneT]; rfl
@[simp] theorem two_convId (x : Operand) : TWO sp base (⟨ix, d, none, .convId x, ck⟩ :: rest) σ t K = (isStr (ev σ x) = true ∧ (ckOkT σ t ck = true ∧ TWO sp base rest (putD σ d (ev σ x)) (t) K)) := by
  simp only [TWO, wantedI, if_true, oneT]; rfl
@[simp] theorem two_convBS (x : Operand) : TWO sp base (⟨ix, d, none, .convBS x, ck⟩ :: rest) σ t K = ((sliceOkT t 1 (ev σ x) && (cellsT t 1 (ev σ x)).all isU8) = true ∧ (ckOkT σ t ck = true ∧ TWO sp base rest (putD σ d (.string (toBytes (cellsT t 1 (ev σ x))))) (t) K)) := by
  simp only [TWO, wantedI, if_true, oneT]; rfl
@[simp] theorem two_convSB (x : Operand) : TWO sp base (⟨ix, d, none, .convSB x, ck⟩ :: rest) σ t K = ((isStr (ev σ x) && decide ((asS (ev σ x)).size ≤ 9223372036854775807)) = true ∧ (ckOkT σ t ck = true ∧ TWO sp base rest (putD σ d (.slice (some ⟨base + ix, 0, none⟩) (asS (ev σ x)).size 1)) (t.put (base + ix) (some ⟨ofBytes (asS (ev σ x)), true⟩)) K)) := by
  simp only [TWO, wantedI, if_true, oneT]; rfl
@[simp] theorem two_sliceStr (x : Operand) (lo hi : Option Operand) : TWO sp base (⟨ix, d, none, .sliceStr x lo hi, ck⟩ :: rest) σ t K = ((isStr (ev σ x) && optOk σ lo && optOk σ hi && decide (0 ≤ optI σ lo 0) && decide (optI σ lo 0 ≤ optI σ hi (zqu (ev σ x))) && decide (optI σ hi (zqu (ev σ x)) ≤ zqu (ev σ x))) = true ∧ (ckOkT σ t ck = true ∧ TWO sp base rest (putD σ d (.string ((asS (ev σ x)).extract (optI σ lo 0).toNat (optI σ hi (zqu (ev σ x))).toNat))) (t) K)) := by
  simp only [TWO, wantedI, if_true, oneT]; rfl
@[simp] theorem two_sliceS (z : Nat) (x : Operand) (lo hi : Option Operand) : TWO sp base (⟨ix, d, none, .sliceS z x lo hi, ck⟩ :: rest) σ t K = ((slPlainT z (ev σ x) && optOk σ lo && optOk σ hi && decide (0 ≤ optI σ lo 0) && decide (optI σ lo 0 ≤ optI σ hi (lenT (ev σ x))) && decide (optI σ hi (lenT (ev σ x)) ≤ lenT (ev σ x))) = true ∧ (ckOkT σ t ck = true ∧ TWO sp base rest (putD σ d (slSubT (ev σ x) z (optI σ lo 0).toNat (optI σ hi (lenT (ev σ x))).toNat)) (t) K)) := by
  simp only [TWO, wantedI, if_true, oneT]; rfl
@[simp] theorem two_sliceM (z : Nat) (x : Operand) (lo : Option Operand) (hi mx : Operand) : TWO sp base (⟨ix, d, none, .sliceM z x lo hi mx, ck⟩ :: rest) σ t K = ((slPlainT z (ev σ x) && optOk σ lo && isI (ev σ hi) && isI (ev σ mx) && decide (0 ≤ optI σ lo 0) && decide (optI σ lo 0 ≤ asI (ev σ hi)) && decide (asI (ev σ hi) ≤ asI (ev σ mx)) && decide (asI (ev σ mx) ≤ lenT (ev σ x))) = true ∧ (ckOkT σ t ck = true ∧ TWO sp base rest (putD σ d (slSubT (ev σ x) z (optI σ lo 0).toNat (asI (ev σ hi)).toNat)) (t) K)) := by
  simp only [TWO, wantedI, if_true, oneT]; rfl
@[simp] theorem two_sliceA (z n : Nat) (x : Operand) : TWO sp base (⟨ix, d, none, .sliceA z n x, ck⟩ :: rest) σ t K = ((addrOk t (ev σ x) (n * z) && decide (n ≤ maxLen)) = true ∧ (ckOkT σ t ck = true ∧ TWO sp base rest (putD σ d (arrSl (ev σ x) z n)) (t) K)) := by
  simp only [TWO, wantedI, if_true, oneT]; rfl
@[simp] theorem two_mkslice (z bytes : Nat) (zs : List Value) (l c : Operand) : TWO sp base (⟨ix, d, none, .mkslice z bytes zs l c, ck⟩ :: rest) σ t K = ((isI (ev σ l) && isI (ev σ c) && decide (0 ≤ asI (ev σ l)) && decide (asI (ev σ l) ≤ asI (ev σ c)) && decide (asI (ev σ c) * (bytes : Int) ≤ 140737488355328) && decide (asI (ev σ c) ≤ 9223372036854775807) && decide (0 < z)) = true ∧ (ckOkT σ t ck = true ∧ TWO sp base rest (putD σ d (.slice (some ⟨base + ix, 0, none⟩) (asI (ev σ l)).toNat z)) (t.put (base + ix) (some ⟨(List.replicate (asI (ev σ l)).toNat zs).flatten, true⟩)) K)) := by
  simp only [TWO, wantedI, if_true, oneT]; rfl
@[simp] theorem two_faddr (off : Nat) (x : Operand) : TWO sp base (⟨ix, d, none, .faddr off x, ck⟩ :: rest) σ t K = (ptrPlainT (ev σ x) = true ∧ (ckOkT σ t ck = true ∧ TWO sp base rest (putD σ d (ptrAddT (ev σ x) off)) (t) K)) := by
  simp only [TWO, wantedI, if_true, oneT]; rfl
@[simp] theorem two_field (ag : Bool) (off n : Nat) (x : Operand) : TWO sp base (⟨ix, d, none, .field ag off n x, ck⟩ :: rest) σ t K = ((fieldOk off n (ev σ x) && (ag || decide (n = 1))) = true ∧ (ckOkT σ t ck = true ∧ TWO sp base rest (putD σ d (fieldV ag off n (ev σ x))) (t) K)) := by
  simp only [TWO, wantedI, if_true, oneT]; rfl
@[simp] theorem two_iaddr (z : Nat) (x i : Operand) : TWO sp base (⟨ix, d, none, .iaddr z x i, ck⟩ :: rest) σ t K = ((slPlainT z (ev σ x) && isI (ev σ i) && decide (0 ≤ asI (ev σ i)) && decide (asI (ev σ i) < lenT (ev σ x))) = true ∧ (ckOkT σ t ck = true ∧ TWO sp base rest (putD σ d (slElemT (ev σ x) z (asI (ev σ i)))) (t) K)) := by
  simp only [TWO, wantedI, if_true, oneT]; rfl
@[simp] theorem two_iaddrA (z len : Nat) (x i : Operand) : TWO sp base (⟨ix, d, none, .iaddrA z len x i, ck⟩ :: rest) σ t K = ((ptrPlainT (ev σ x) && isI (ev σ i) && decide (0 ≤ asI (ev σ i)) && decide (asI (ev σ i) < (len : Int))) = true ∧ (ckOkT σ t ck = true ∧ TWO sp base rest (putD σ d (ptrAddT (ev σ x) ((asI (ev σ i)).toNat * z))) (t) K)) := by
  simp only [TWO, wantedI, if_true, oneT]; rfl
@[simp] theorem two_idxStr (x i : Operand) : TWO sp base (⟨ix, d, none, .idxStr x i, ck⟩ :: rest) σ t K = ((isStr (ev σ x) && isI (ev σ i) && decide (0 ≤ asI (ev σ i)) && decide (asI (ev σ i) < zqu (ev σ x))) = true ∧ (ckOkT σ t ck = true ∧ TWO sp base rest (putD σ d (.int .u8 (byI (asS (ev σ x)) (asI (ev σ i)).toNat))) (t) K)) := by
  simp only [TWO, wantedI, if_true, oneT]; rfl
@[simp] theorem two_ext (i : Nat) (x : Operand) : TWO sp base (⟨ix, d, none, .ext i x, ck⟩ :: rest) σ t K = (tupOk (ev σ x) i = true ∧ (ckOkT σ t ck = true ∧ TWO sp base rest (putD σ d (tupAt (ev σ x) i)) (t) K)) := by
  simp only [TWO, wantedI, if_true, oneT]; rfl
@[simp] theorem two_lenS (x : Operand) : TWO sp base (⟨ix, d, none, .lenS x, ck⟩ :: rest) σ t K = (isStr (ev σ x) = true ∧ (ckOkT σ t ck = true ∧ TWO sp base rest (putD σ d (.int .i64 (zqu (ev σ x)))) (t) K)) := by
  simp only [TWO, wantedI, if_true, oneT]; rfl
@[simp] theorem two_lenV (x : Operand) : TWO sp base (⟨ix, d, none, .lenV x, ck⟩ :: rest) σ t K = (isSlT (ev σ x) = true ∧ (ckOkT σ t ck = true ∧ TWO sp base rest (putD σ d (.int .i64 (lenT (ev σ x)))) (t) K)) := by
  simp only [TWO, wantedI, if_true, oneT]; rfl
@[simp] theorem two_app (z bytes : Nat) (x y : Operand) : TWO sp base (⟨ix, d, none, .app z bytes x y, ck⟩ :: rest) σ t K = ((sliceOk t z (ev σ x) && sliceOwn t (ev σ x) && sliceOkT t z (ev σ y) && decide (0 < z) && decide ((zqr (ev σ x) + slLenT (ev σ y)) * bytes ≤ 140737488355328) && decide (zqr (ev σ x) + slLenT (ev σ y) ≤ 9223372036854775807)) = true ∧ (ckOkT σ t ck = true ∧ TWO sp base rest (putD σ d (if slLenT (ev σ y) = 0 then ev σ x else .slice (some ⟨base + ix, 0, none⟩) (zqr (ev σ x) + slLenT (ev σ y)) z)) (if slLenT (ev σ y) = 0 then t else (kill t (ev σ x)).put (base + ix) (some ⟨sliceCells t z (ev σ x) ++ cellsT t z (ev σ y), true⟩)) K)) := by
  simp only [TWO, wantedI, if_true, oneT]; rfl
@[simp] theorem two_minmax (mx : Bool) (x : Operand) (xs : List Operand) : TWO sp base (⟨ix, d, none, .minmax mx x xs, ck⟩ :: rest) σ t K = ((isI (ev σ x) && xs.all fun y => isI (ev σ y)) = true ∧ (ckOkT σ t ck = true ∧ TWO sp base rest (putD σ d (xs.foldl (fun acc y => if mx then maxI acc (ev σ y) else minI acc (ev σ y)) (ev σ x))) (t) K)) := by
  simp only [TWO, wantedI, if_true, oneT]; rfl
@[simp] theorem two_mkif (ty : TypeId) (x : Operand) : TWO sp base (⟨ix, d, none, .mkif ty x, ck⟩ :: rest) σ t K = (ckOkT σ t ck = true ∧ TWO sp base rest (putD σ d (.iface ty (ev σ x))) (t) K) := by
  simp only [TWO, wantedI, if_true, oneT, IK.okT, IK.ok, true_and]; rfl
@[simp] theorem two_tass (ty : TypeId) (x : Operand) : TWO sp base (⟨ix, d, none, .tass ty x, ck⟩ :: rest) σ t K = (ifOk ty (ev σ x) = true ∧ (ckOkT σ t ck = true ∧ TWO sp base rest (putD σ d (ifV (ev σ x))) (t) K)) := by
  simp only [TWO, wantedI, if_true, oneT]; rfl
@[simp] theorem two_mkmap  : TWO sp base (⟨ix, d, none, .mkmap , ck⟩ :: rest) σ t K = (ckOkT σ t ck = true ∧ TWO sp base rest (putD σ d (.map (some (base + ix)))) (t.putM (base + ix) []) K) := by
  simp only [TWO, wantedI, if_true, oneT, IK.okT, IK.ok, true_and]; rfl
@[simp] theorem two_mlook (kk : KK) (zero : Value) (o : Bool) (x k : Operand) : TWO sp base (⟨ix, d, none, .mlook kk zero o x k, ck⟩ :: rest) σ t K = (mlOk kk t (ev σ x) (ev σ k) = true ∧ (ckOkT σ t ck = true ∧ TWO sp base rest (putD σ d (mlV zero o t (ev σ x) (ev σ k))) (t) K)) := by
  simp only [TWO, wantedI, if_true, oneT]; rfl
@[simp] theorem two_mput (kk : KK) (x k v : Operand) : TWO sp base (⟨ix, d, none, .mput kk x k v, ck⟩ :: rest) σ t K = (mpOk kk t (ev σ x) (ev σ k) (ev σ v) = true ∧ (ckOkT σ t ck = true ∧ TWO sp base rest (putD σ d (undef)) (mpM t (ev σ x) (ev σ k) (ev σ v)) K)) := by
  simp only [TWO, wantedI, if_true, oneT]; rfl
@[simp] theorem two_mkfunc (f : Nat) (fs cs : List Operand) : TWO sp base (⟨ix, d, none, .mkfunc (.func f) fs cs, ck⟩ :: rest) σ t K = (ckOkT σ t ck = true ∧ TWO sp base rest (putD σ d (.func (.func f) (fs.map (ev σ)).toArray (cs.map (ev σ)).toArray)) (t) K) := by
  simp only [TWO, wantedI, if_true, oneT, IK.okT, IK.ok, true_and]; rfl

@[simp] theorem addrOkT_P {row : List Value} {k n : Nat} : addrOkT t (immP row k) n = decide (k + n ≤ row.length) := by simp [addrOkT]
@[simp] theorem addrOkT_ptr {a o n : Nat} : addrOkT t (.pointer (some ⟨a, o, none⟩)) n = (match t.get a with | some x => decide (o + n ≤ x.cells.length) | none => false) := rfl
@[simp] theorem loadVT_P {row : List Value} {k n : Nat} {ag : Bool} : loadVT t ag n (immP row k) = if ag then .agg ((row.drop k).take n).toArray else ((row.drop k).take 1).headD undef := by simp [loadVT]
@[simp] theorem loadVT_ptr {a o n : Nat} {ag : Bool} : loadVT t ag n (.pointer (some ⟨a, o, none⟩)) = if ag then .agg (cellsAt t a o n).toArray else (cellsAt t a o 1).headD undef := rfl
@[simp] theorem ptrPlainT_P {row : List Value} {k : Nat} : ptrPlainT (immP row k) = true := rfl
@[simp] theorem ptrPlainT_ptr {a o : Nat} : ptrPlainT (.pointer (some ⟨a, o, none⟩)) = true := rfl
@[simp] theorem ptrAddT_P {row : List Value} {k n : Nat} : ptrAddT (immP row k) n = immP row (k + n) := by simp [ptrAddT]
@[simp] theorem ptrAddT_ptr {a o n : Nat} : ptrAddT (.pointer (some ⟨a, o, none⟩)) n = .pointer (some ⟨a, o + n, none⟩) := rfl
section
variable {rows : List (List Value)} {z z' l c n : Nat} {a : Option Addr} {ad : Addr} {s : ByteArray} {i : Int}
@[simp] theorem isSlT_S : isSlT (immS rows z) = true := rfl
@[simp] theorem isSlT_sl : isSlT (.slice a l c) = true := rfl
@[simp] theorem lenT_S : lenT (immS rows z) = rows.length := by simp [lenT]
@[simp] theorem lenT_sl : lenT (.slice a l c) = l := rfl
@[simp] theorem slLenT_S : slLenT (immS rows z) = rows.length := by simp [slLenT]
@[simp] theorem slLenT_sl : slLenT (.slice a l c) = l := rfl
@[simp] theorem slPlainT_S : slPlainT z' (immS rows z) = (z == z') := by simp [slPlainT]
@[simp] theorem slPlainT_sl {b o : Nat} : slPlainT z (.slice (some ⟨b, o, none⟩) l c) = (c == z) := by simp [slPlainT, isImm]
@[simp] theorem slPlainT_nil : slPlainT z (.slice none 0 0) = true := rfl
@[simp] theorem slSubT_S {h : Nat} : slSubT (immS rows z) z' l h = immS ((rows.take h).drop l) z' := by simp [slSubT]
@[simp] theorem slSubT_sl {b o h : Nat} : slSubT (.slice (some ⟨b, o, none⟩) n c) z l h = .slice (some ⟨b, o + l * z, none⟩) (h - l) c := rfl
@[simp] theorem slSubT_nil {h : Nat} : slSubT (.slice none n c) z l h = .slice none 0 0 := rfl
@[simp] theorem slElemT_S : slElemT (immS rows z) z' i = immP (rows.getD i.toNat []) 0 := by simp [slElemT]
@[simp] theorem slElemT_sl {b o : Nat} : slElemT (.slice (some ⟨b, o, none⟩) l c) z i = .pointer (some ⟨b, o + i.toNat * z, none⟩) := rfl
@[simp] theorem sliceOkT_S : sliceOkT t z' (immS rows z) = (z == z') := by simp [sliceOkT]
@[simp] theorem sliceOkT_sl {b o : Nat} : sliceOkT t z (.slice (some ⟨b, o, none⟩) l c) = (c == z && (match t.get b with | some x => decide (o + l * z ≤ x.cells.length) | none => false)) := rfl
@[simp] theorem sliceOkT_nil : sliceOkT t z (.slice none 0 0) = true := rfl
@[simp] theorem cellsT_S : cellsT t z' (immS rows z) = rows.flatten := by simp [cellsT]
@[simp] theorem cellsT_sl {b o : Nat} : cellsT t z (.slice (some ⟨b, o, none⟩) l c) = cellsAt t b o (l * z) := rfl
@[simp] theorem cellsT_nil : cellsT t z (.slice none l c) = [] := rfl
end
/-! which values are not whole contents -/
@[simp] theorem isY_int {k : IntKind} {n : Int} : isY (.int k n) = false := rfl
@[simp] theorem isY_bool {b : Bool} : isY (.bool b) = false := rfl
@[simp] theorem isY_str {b : ByteArray} : isY (.string b) = false := rfl
@[simp] theorem isY_ptr {a : Option Addr} : isY (.pointer a) = false := rfl
@[simp] theorem isY_sl {a : Option Addr} {l c : Nat} : isY (.slice a l c) = false := rfl
@[simp] theorem isY_map {a : Option Nat} : isY (.map a) = false := rfl
@[simp] theorem isY_agg {a : Array Value} : isY (.agg a) = false := rfl
@[simp] theorem isY_tuple {a : Array Value} : isY (.tuple a) = false := rfl
@[simp] theorem isY_undef : isY undef = false := rfl
@[simp] theorem isY_func {f : Nat} {a b : Array Value} : isY (.func (.func f) a b) = false := rfl
@[simp] theorem isY_nilF : isY .nilFunc = false := rfl
@[simp] theorem isY_nilI : isY .nilIface = false := rfl
@[simp] theorem isY_if {t : TypeId} {v : Value} : isY (.iface t v) = false := rfl
@[simp] theorem binSafe_int {k : IntKind} {n : Int} : binSafe (.int k n) = true := rfl
@[simp] theorem binSafe_bool {b : Bool} : binSafe (.bool b) = true := rfl
@[simp] theorem binSafe_str {b : ByteArray} : binSafe (.string b) = true := rfl
@[simp] theorem binSafe_ptr {a : Option Addr} : binSafe (.pointer a) = true := rfl
@[simp] theorem binSafe_nil {l c : Nat} : binSafe (.slice none l c) = true := rfl
@[simp] theorem binSafe_sl {a : Addr} {l c : Nat} : binSafe (.slice (some a) l c) = (l != 0) := by simp [binSafe]
@[simp] theorem binSafe_func {f : Nat} {a b : Array Value} : binSafe (.func (.func f) a b) = true := rfl
@[simp] theorem binSafe_nilF : binSafe .nilFunc = true := rfl
@[simp high] theorem vcells_S {rows : List (List Value)} {z : Nat} : vcells (immS rows z) = [immS rows z] := rfl
@[simp high] theorem vcells_P {row : List Value} {z : Nat} : vcells (immP row z) = [immP row z] := rfl
@[simp high] theorem notTup_S {rows : List (List Value)} {z : Nat} : notTup (immS rows z) = true := rfl
@[simp high] theorem notTup_P {row : List Value} {z : Nat} : notTup (immP row z) = true := rfl
@[simp high] theorem oneC_S {rows : List (List Value)} {z : Nat} : oneC (immS rows z) = true := rfl
@[simp high] theorem flat1_S {rows : List (List Value)} {z : Nat} : flat1 (immS rows z) = false := rfl
@[simp high] theorem flat1_P {row : List Value} {z : Nat} : flat1 (immP row z) = false := rfl
@[simp high] theorem isNotNil_P {row : List Value} {z : Nat} : isNotNil (immP row z) = true := rfl
@[simp high] theorem blkOf_S {rows : List (List Value)} {z : Nat} : blkOf (immS rows z) = none := rfl
@[simp high] theorem blkOf_P {row : List Value} {z : Nat} : blkOf (immP row z) = none := rfl
@[simp] theorem ckOkT_nil : ckOkT σ t [] = true := rfl
@[simp] theorem ckOkT_cons {x y : Operand} : ckOkT σ t ((x, y) :: ck) = (apart t (ev σ x) (ev σ y) && ckOkT σ t ck) := rfl
@[simp] theorem keepT_nil : keepT σ t [] = true := rfl
@[simp] theorem keepT_cons {x : Operand × Operand} : keepT σ t (x :: ck) = ((match blkOf (ev σ x.1) with | some o => !ownAt t o | none => true) && keepT σ t ck) := rfl

section
variable {k : IntKind} {n : Int} {b : Bool} {s : ByteArray} {a : Option Addr} {l c f : Nat} {xs ys : Array Value} {v : Value} {ty : TypeId} {mp : Option Nat}
@[simp] theorem vcells_int : vcells (.int k n) = [.int k n] := rfl
@[simp] theorem notTup_int : notTup (.int k n) = true := rfl
@[simp] theorem oneC_int : oneC (.int k n) = true := rfl
@[simp] theorem vcells_bool : vcells (.bool b) = [.bool b] := rfl
@[simp] theorem notTup_bool : notTup (.bool b) = true := rfl
@[simp] theorem oneC_bool : oneC (.bool b) = true := rfl
@[simp] theorem vcells_str : vcells (.string s) = [.string s] := rfl
@[simp] theorem notTup_str : notTup (.string s) = true := rfl
@[simp] theorem oneC_str : oneC (.string s) = true := rfl
@[simp] theorem vcells_ptr : vcells (.pointer a) = [.pointer a] := rfl
@[simp] theorem notTup_ptr : notTup (.pointer a) = true := rfl
@[simp] theorem oneC_ptr : oneC (.pointer a) = true := rfl
@[simp] theorem vcells_sl : vcells (.slice a l c) = [.slice a l c] := rfl
@[simp] theorem notTup_sl : notTup (.slice a l c) = true := rfl
@[simp] theorem oneC_sl : oneC (.slice a l c) = true := rfl
@[simp] theorem vcells_map : vcells (.map mp) = [.map mp] := rfl
@[simp] theorem notTup_map : notTup (.map mp) = true := rfl
@[simp] theorem oneC_map : oneC (.map mp) = true := rfl
@[simp] theorem vcells_func : vcells (.func (.func f) xs ys) = [.func (.func f) xs ys] := rfl
@[simp] theorem notTup_func : notTup (.func (.func f) xs ys) = true := rfl
@[simp] theorem oneC_func : oneC (.func (.func f) xs ys) = true := rfl
@[simp] theorem vcells_nf : vcells (.nilFunc) = [.nilFunc] := rfl
@[simp] theorem notTup_nf : notTup (.nilFunc) = true := rfl
@[simp] theorem oneC_nf : oneC (.nilFunc) = true := rfl
@[simp] theorem vcells_ni : vcells (.nilIface) = [.nilIface] := rfl
@[simp] theorem notTup_ni : notTup (.nilIface) = true := rfl
@[simp] theorem oneC_ni : oneC (.nilIface) = true := rfl
@[simp] theorem vcells_if : vcells (.iface ty v) = [.iface ty v] := rfl
@[simp] theorem notTup_if : notTup (.iface ty v) = true := rfl
@[simp] theorem oneC_if : oneC (.iface ty v) = true := rfl
@[simp] theorem vcells_agg : vcells (.agg xs) = xs.toList := rfl
@[simp] theorem notTup_agg : notTup (.agg xs) = true := rfl
@[simp] theorem oneC_agg : oneC (.agg xs) = false := rfl
@[simp] theorem notTup_tup : notTup (.tuple xs) = false := rfl
@[simp] theorem blkOf_int : blkOf (.int k n) = none := rfl
@[simp] theorem blkOf_bool : blkOf (.bool b) = none := rfl
@[simp] theorem blkOf_str : blkOf (.string s) = none := rfl
@[simp] theorem blkOf_func : blkOf (.func (.func f) xs ys) = none := rfl
@[simp] theorem blkOf_nf : blkOf (.nilFunc) = none := rfl
@[simp] theorem blkOf_ni : blkOf (.nilIface) = none := rfl
@[simp] theorem blkOf_if : blkOf (.iface ty v) = none := rfl
@[simp] theorem blkOf_agg : blkOf (.agg xs) = none := rfl
@[simp] theorem blkOf_tup : blkOf (.tuple xs) = none := rfl
@[simp] theorem blkOf_ptr {ad : Addr} : blkOf (.pointer (some ad)) = some ad.block := rfl
@[simp] theorem blkOf_np : blkOf (.pointer none) = none := rfl
@[simp] theorem blkOf_sl {ad : Addr} : blkOf (.slice (some ad) l c) = some ad.block := rfl
@[simp] theorem blkOf_nil : blkOf (.slice none l c) = none := rfl
@[simp] theorem blkOf_map : blkOf (.map (some l)) = some l := rfl
@[simp] theorem blkOf_nm : blkOf (.map none) = none := rfl
end
/-! calls -/
@[simp] theorem callT_eq {f : Nat} {args : List Value} {kp : Bool} {K : Value → Mem → Prop} : callT sp f args t kp K = if hasS sp.p f = true then pureT sp.p f args t K else kp = true ∧ if hasI sp.i f = true then specI sp.i f args t K else WPTC P f args t K := by
  simp only [callT]
@[simp] theorem hasI_nil {f : Nat} : hasI ([] : List (ISpec P)) f = false := rfl
@[simp] theorem hasI_cons {s : ISpec P} {f : Nat} : hasI (s :: si) f = (s.f == f || hasI si f) := rfl
def useI (o : Option (Value × Mem)) (K : Value → Mem → Prop) : Prop := match o with
  | some (r, t) => K r t
  | none => False
@[simp] theorem useI_some {r : Value} {K : Value → Mem → Prop} : useI (some (r, t)) K = K r t := propext Iff.rfl
@[simp] theorem specI_cons {s : ISpec P} {f : Nat} {args : List Value} {K : Value → Mem → Prop} : specI (s :: si) f args t K = if s.f = f then useI (s.fn args t) K else specI si f args t K := propext Iff.rfl

@[simp] theorem hasS_nil {f : Nat} : hasS ([] : List (PSpec P)) f = false := rfl
@[simp] theorem hasS_cons {s : PSpec P} {f : Nat} : hasS (s :: sq) f = (s.f == f || hasS sq f) := rfl
def useO (o : Option Value) (Φ : Value → Prop) : Prop := match o with
  | some r => Φ r
  | none => False
@[simp] theorem useO_some {r : Value} {Φ : Value → Prop} : useO (some r) Φ = Φ r := propext Iff.rfl
@[simp] theorem specT_cons {s : PSpec P} {f : Nat} {args : List Value} {Φ : Value → Prop} : specT (s :: sq) f args Φ = if s.f = f then useO (s.fn args) Φ else specT sq f args Φ := propext Iff.rfl
def pureK (args : List Value) (t : Mem) (K : Value → Mem → Prop) (r : Value) : Prop := K r (if flatV r = true then clr t (args.flatMap (reach 9 t)) else shut t (args.flatMap (reach 9 t)))
@[simp low] theorem pureK_eq {args : List Value} {K : Value → Mem → Prop} {r : Value} : pureK args t K r = K r (if flatV r = true then clr t (args.flatMap (reach 9 t)) else shut t (args.flatMap (reach 9 t))) := propext Iff.rfl
@[simp] theorem pureK_bool {args : List Value} {K : Value → Mem → Prop} {b : Bool} : pureK args t K (.bool b) = K (.bool b) (clr t (args.flatMap (reach 9 t))) := propext Iff.rfl
@[simp] theorem pureK_int {args : List Value} {K : Value → Mem → Prop} {k : IntKind} {n : Int} : pureK args t K (.int k n) = K (.int k n) (clr t (args.flatMap (reach 9 t))) := propext Iff.rfl
@[simp] theorem pureK_str {args : List Value} {K : Value → Mem → Prop} {s : ByteArray} : pureK args t K (.string s) = K (.string s) (clr t (args.flatMap (reach 9 t))) := propext Iff.rfl
@[simp] theorem pureK_S {args : List Value} {K : Value → Mem → Prop} {rows : List (List Value)} {z : Nat} : pureK args t K (immS rows z) = K (immS rows z) (shut t (args.flatMap (reach 9 t))) := propext Iff.rfl
def specO (o : Option (List Value)) (sp : List (PSpec P)) (f : Nat) (Φ : Value → Prop) : Prop := match o with
  | some ts => specT sp f ts Φ
  | none => False
@[simp] theorem specO_some {ts : List Value} {f : Nat} {Φ : Value → Prop} : specO (some ts) sq f Φ = specT sq f ts Φ := propext Iff.rfl
@[simp] theorem pureT_eq {f : Nat} {args : List Value} {K : Value → Mem → Prop} : pureT sq f args t K = specO (frzs 9 t args) sq f (pureK args t K) := propext Iff.rfl
open Classical in
/-- from a family of contracts -/
noncomputable def PSpec.of (f : Nat) (A : Type) (pre : A → Prop) (enc : A → List Value) (res : A → Value) (ok : ∀ x, pre x → TPure P f (enc x) (res x)) : PSpec P :=
  ⟨f, fun args => if h : ∃ x, pre x ∧ enc x = args then some (res h.choose) else none, fun args r h => by
    split at h
    · next hx => cases h; have := ok _ hx.choose_spec.1; rw [hx.choose_spec.2] at this; exact this
    · cases h⟩
theorem PSpec.of_fn {f : Nat} {A : Type} {pre : A → Prop} {enc : A → List Value} {res : A → Value} {ok : ∀ x, pre x → TPure P f (enc x) (res x)} {x : A} (hp : pre x) (hi : ∀ y, enc y = enc x → y = x) : (PSpec.of f A pre enc res ok).fn (enc x) = some (res x) := by
  have hex : ∃ y, pre y ∧ enc y = enc x := ⟨x, hp, rfl⟩
  simp only [PSpec.of, dif_pos hex]
  rw [hi _ hex.choose_spec.2]
@[simp] theorem PSpec.of_f {f : Nat} {A : Type} {pre : A → Prop} {enc : A → List Value} {res : A → Value} {ok : ∀ x, pre x → TPure P f (enc x) (res x)} : (PSpec.of f A pre enc res ok).f = f := rfl
@[simp] theorem frzs_eq {n : Nat} {args : List Value} : frzs n t args = optMap (frz n t) args := rfl
@[simp] theorem optMap_nil {α β : Type} {f : α → Option β} : optMap f [] = some [] := rfl
@[simp] theorem optMap_cons {α β : Type} {f : α → Option β} {x : α} {xs : List α} : optMap f (x :: xs) = match f x with
  | some y => (match optMap f xs with
    | some ys => some (y :: ys)
    | none => none)
  | none => none := rfl
theorem frz_cell {n : Nat} {v : Value} (h : cellB v = true) : frz n t v = some v := by cases n <;> simp [frz, h]
theorem reach_cell {n : Nat} {v : Value} (h : cellB v = true) : reach n t v = [] := by cases n <;> simp [reach, h]
@[simp] theorem frz_int {n : Nat} {k : IntKind} {x : Int} : frz n t (.int k x) = some (.int k x) := frz_cell rfl
@[simp] theorem reach_int {n : Nat} {k : IntKind} {x : Int} : reach n t (.int k x) = [] := reach_cell rfl
@[simp] theorem cellB_int {k : IntKind} {x : Int} : cellB (.int k x) = true := rfl
@[simp] theorem frz_bool {n : Nat} {b : Bool} : frz n t (.bool b) = some (.bool b) := frz_cell rfl
@[simp] theorem reach_bool {n : Nat} {b : Bool} : reach n t (.bool b) = [] := reach_cell rfl
@[simp] theorem cellB_bool {b : Bool} : cellB (.bool b) = true := rfl
@[simp] theorem frz_str {n : Nat} {s : ByteArray} : frz n t (.string s) = some (.string s) := frz_cell rfl
@[simp] theorem reach_str {n : Nat} {s : ByteArray} : reach n t (.string s) = [] := reach_cell rfl
@[simp] theorem cellB_str {s : ByteArray} : cellB (.string s) = true := rfl
@[simp] theorem frz_nil {n : Nat}  : frz n t (.slice none 0 0) = some (.slice none 0 0) := frz_cell rfl
@[simp] theorem reach_nil {n : Nat}  : reach n t (.slice none 0 0) = [] := reach_cell rfl
@[simp] theorem cellB_nil  : cellB (.slice none 0 0) = true := rfl
@[simp] theorem frz_np {n : Nat}  : frz n t (.pointer none) = some (.pointer none) := frz_cell rfl
@[simp] theorem reach_np {n : Nat}  : reach n t (.pointer none) = [] := reach_cell rfl
@[simp] theorem cellB_np  : cellB (.pointer none) = true := rfl
@[simp] theorem frz_nf {n : Nat}  : frz n t (.nilFunc) = some (.nilFunc) := frz_cell rfl
@[simp] theorem reach_nf {n : Nat}  : reach n t (.nilFunc) = [] := reach_cell rfl
@[simp] theorem cellB_nf  : cellB (.nilFunc) = true := rfl
@[simp] theorem frz_ni {n : Nat}  : frz n t (.nilIface) = some (.nilIface) := frz_cell rfl
@[simp] theorem reach_ni {n : Nat}  : reach n t (.nilIface) = [] := reach_cell rfl
@[simp] theorem cellB_ni  : cellB (.nilIface) = true := rfl
@[simp] theorem frz_nm {n : Nat}  : frz n t (.map none) = some (.map none) := frz_cell rfl
@[simp] theorem reach_nm {n : Nat}  : reach n t (.map none) = [] := reach_cell rfl
@[simp] theorem cellB_nm  : cellB (.map none) = true := rfl
@[simp] theorem frz_S {n : Nat} {rows : List (List Value)} {z : Nat} : frz n t (immS rows z) = some (immS rows z) := frz_cell rfl
@[simp] theorem reach_S {n : Nat} {rows : List (List Value)} {z : Nat} : reach n t (immS rows z) = [] := reach_cell rfl
@[simp] theorem cellB_S {rows : List (List Value)} {z : Nat} : cellB (immS rows z) = true := rfl
@[simp] theorem frz_P {n : Nat} {row : List Value} {z : Nat} : frz n t (immP row z) = some (immP row z) := frz_cell rfl
@[simp] theorem reach_P {n : Nat} {row : List Value} {z : Nat} : reach n t (immP row z) = [] := reach_cell rfl
@[simp] theorem cellB_P {row : List Value} {z : Nat} : cellB (immP row z) = true := rfl
theorem frz_slS {n b o l z : Nat} : frz (n + 1) t (.slice (some ⟨b, o, none⟩) l z) = match t.get b with
  | some x => if o + l * z ≤ x.cells.length then (match optMap (optMap (frz n t)) (chunk z l (x.cells.drop o)) with
    | some rows => some (immS rows z)
    | none => none) else none
  | none => none := by
  simp only [frz, cellB, flat1, isY, Bool.or_false, Bool.false_eq_true, if_false, Option.isNone_none, Bool.true_and, decide_eq_true_eq]
  rfl
@[simp] theorem frz_agg9 {cs : Array Value} : frz 9 t (.agg cs) = match optMap (frz 8 t) cs.toList with
  | some l => some (.agg l.toArray)
  | none => none := rfl
@[simp] theorem frz_tuple9 {cs : Array Value} : frz 9 t (.tuple cs) = match optMap (frz 8 t) cs.toList with
  | some l => some (.tuple l.toArray)
  | none => none := rfl
@[simp] theorem frz_func9 {f : Nat} {xs cs : Array Value} : frz 9 t (.func (.func f) xs cs) = match optMap (frz 8 t) xs.toList, optMap (frz 8 t) cs.toList with
  | some l, some k => some (.func (.func f) l.toArray k.toArray)
  | _, _ => none := rfl
theorem frz_sl9 {b o l z : Nat} : frz 9 t (.slice (some ⟨b, o, none⟩) l z) = match t.get b with
  | some x => if o + l * z ≤ x.cells.length then (match optMap (optMap (frz 8 t)) (chunk z l (x.cells.drop o)) with
    | some rows => some (immS rows z)
    | none => none) else none
  | none => none := frz_slS
@[simp] theorem reach_agg9 {cs : Array Value} : reach 9 t (.agg cs) = cs.toList.flatMap (reach 8 t) := rfl
@[simp] theorem reach_tuple9 {cs : Array Value} : reach 9 t (.tuple cs) = cs.toList.flatMap (reach 8 t) := rfl
@[simp] theorem reach_func9 {f : Nat} {xs cs : Array Value} : reach 9 t (.func (.func f) xs cs) = xs.toList.flatMap (reach 8 t) ++ cs.toList.flatMap (reach 8 t) := rfl
theorem reach_sl9 {b o l z : Nat} : reach 9 t (.slice (some ⟨b, o, none⟩) l z) = b :: (match t.get b with
  | some x => x.cells.flatMap (reach 8 t)
  | none => []) := rfl
@[simp] theorem frz_agg8 {cs : Array Value} : frz 8 t (.agg cs) = match optMap (frz 7 t) cs.toList with
  | some l => some (.agg l.toArray)
  | none => none := rfl
@[simp] theorem frz_tuple8 {cs : Array Value} : frz 8 t (.tuple cs) = match optMap (frz 7 t) cs.toList with
  | some l => some (.tuple l.toArray)
  | none => none := rfl
@[simp] theorem frz_func8 {f : Nat} {xs cs : Array Value} : frz 8 t (.func (.func f) xs cs) = match optMap (frz 7 t) xs.toList, optMap (frz 7 t) cs.toList with
  | some l, some k => some (.func (.func f) l.toArray k.toArray)
  | _, _ => none := rfl
theorem frz_sl8 {b o l z : Nat} : frz 8 t (.slice (some ⟨b, o, none⟩) l z) = match t.get b with
  | some x => if o + l * z ≤ x.cells.length then (match optMap (optMap (frz 7 t)) (chunk z l (x.cells.drop o)) with
    | some rows => some (immS rows z)
    | none => none) else none
  | none => none := frz_slS
@[simp] theorem reach_agg8 {cs : Array Value} : reach 8 t (.agg cs) = cs.toList.flatMap (reach 7 t) := rfl
@[simp] theorem reach_tuple8 {cs : Array Value} : reach 8 t (.tuple cs) = cs.toList.flatMap (reach 7 t) := rfl
@[simp] theorem reach_func8 {f : Nat} {xs cs : Array Value} : reach 8 t (.func (.func f) xs cs) = xs.toList.flatMap (reach 7 t) ++ cs.toList.flatMap (reach 7 t) := rfl
theorem reach_sl8 {b o l z : Nat} : reach 8 t (.slice (some ⟨b, o, none⟩) l z) = b :: (match t.get b with
  | some x => x.cells.flatMap (reach 7 t)
  | none => []) := rfl
@[simp] theorem frz_agg7 {cs : Array Value} : frz 7 t (.agg cs) = match optMap (frz 6 t) cs.toList with
  | some l => some (.agg l.toArray)
  | none => none := rfl
@[simp] theorem frz_tuple7 {cs : Array Value} : frz 7 t (.tuple cs) = match optMap (frz 6 t) cs.toList with
  | some l => some (.tuple l.toArray)
  | none => none := rfl
@[simp] theorem frz_func7 {f : Nat} {xs cs : Array Value} : frz 7 t (.func (.func f) xs cs) = match optMap (frz 6 t) xs.toList, optMap (frz 6 t) cs.toList with
  | some l, some k => some (.func (.func f) l.toArray k.toArray)
  | _, _ => none := rfl
theorem frz_sl7 {b o l z : Nat} : frz 7 t (.slice (some ⟨b, o, none⟩) l z) = match t.get b with
  | some x => if o + l * z ≤ x.cells.length then (match optMap (optMap (frz 6 t)) (chunk z l (x.cells.drop o)) with
    | some rows => some (immS rows z)
    | none => none) else none
  | none => none := frz_slS
@[simp] theorem reach_agg7 {cs : Array Value} : reach 7 t (.agg cs) = cs.toList.flatMap (reach 6 t) := rfl
@[simp] theorem reach_tuple7 {cs : Array Value} : reach 7 t (.tuple cs) = cs.toList.flatMap (reach 6 t) := rfl
@[simp] theorem reach_func7 {f : Nat} {xs cs : Array Value} : reach 7 t (.func (.func f) xs cs) = xs.toList.flatMap (reach 6 t) ++ cs.toList.flatMap (reach 6 t) := rfl
theorem reach_sl7 {b o l z : Nat} : reach 7 t (.slice (some ⟨b, o, none⟩) l z) = b :: (match t.get b with
  | some x => x.cells.flatMap (reach 6 t)
  | none => []) := rfl
@[simp] theorem frz_agg6 {cs : Array Value} : frz 6 t (.agg cs) = match optMap (frz 5 t) cs.toList with
  | some l => some (.agg l.toArray)
  | none => none := rfl
@[simp] theorem frz_tuple6 {cs : Array Value} : frz 6 t (.tuple cs) = match optMap (frz 5 t) cs.toList with
  | some l => some (.tuple l.toArray)
  | none => none := rfl
@[simp] theorem frz_func6 {f : Nat} {xs cs : Array Value} : frz 6 t (.func (.func f) xs cs) = match optMap (frz 5 t) xs.toList, optMap (frz 5 t) cs.toList with
  | some l, some k => some (.func (.func f) l.toArray k.toArray)
  | _, _ => none := rfl
theorem frz_sl6 {b o l z : Nat} : frz 6 t (.slice (some ⟨b, o, none⟩) l z) = match t.get b with
  | some x => if o + l * z ≤ x.cells.length then (match optMap (optMap (frz 5 t)) (chunk z l (x.cells.drop o)) with
    | some rows => some (immS rows z)
    | none => none) else none
  | none => none := frz_slS
@[simp] theorem reach_agg6 {cs : Array Value} : reach 6 t (.agg cs) = cs.toList.flatMap (reach 5 t) := rfl
@[simp] theorem reach_tuple6 {cs : Array Value} : reach 6 t (.tuple cs) = cs.toList.flatMap (reach 5 t) := rfl
@[simp] theorem reach_func6 {f : Nat} {xs cs : Array Value} : reach 6 t (.func (.func f) xs cs) = xs.toList.flatMap (reach 5 t) ++ cs.toList.flatMap (reach 5 t) := rfl
theorem reach_sl6 {b o l z : Nat} : reach 6 t (.slice (some ⟨b, o, none⟩) l z) = b :: (match t.get b with
  | some x => x.cells.flatMap (reach 5 t)
  | none => []) := rfl
@[simp] theorem frz_agg5 {cs : Array Value} : frz 5 t (.agg cs) = match optMap (frz 4 t) cs.toList with
  | some l => some (.agg l.toArray)
  | none => none := rfl
@[simp] theorem frz_tuple5 {cs : Array Value} : frz 5 t (.tuple cs) = match optMap (frz 4 t) cs.toList with
  | some l => some (.tuple l.toArray)
  | none => none := rfl
@[simp] theorem frz_func5 {f : Nat} {xs cs : Array Value} : frz 5 t (.func (.func f) xs cs) = match optMap (frz 4 t) xs.toList, optMap (frz 4 t) cs.toList with
  | some l, some k => some (.func (.func f) l.toArray k.toArray)
  | _, _ => none := rfl
theorem frz_sl5 {b o l z : Nat} : frz 5 t (.slice (some ⟨b, o, none⟩) l z) = match t.get b with
  | some x => if o + l * z ≤ x.cells.length then (match optMap (optMap (frz 4 t)) (chunk z l (x.cells.drop o)) with
    | some rows => some (immS rows z)
    | none => none) else none
  | none => none := frz_slS
@[simp] theorem reach_agg5 {cs : Array Value} : reach 5 t (.agg cs) = cs.toList.flatMap (reach 4 t) := rfl
@[simp] theorem reach_tuple5 {cs : Array Value} : reach 5 t (.tuple cs) = cs.toList.flatMap (reach 4 t) := rfl
@[simp] theorem reach_func5 {f : Nat} {xs cs : Array Value} : reach 5 t (.func (.func f) xs cs) = xs.toList.flatMap (reach 4 t) ++ cs.toList.flatMap (reach 4 t) := rfl
theorem reach_sl5 {b o l z : Nat} : reach 5 t (.slice (some ⟨b, o, none⟩) l z) = b :: (match t.get b with
  | some x => x.cells.flatMap (reach 4 t)
  | none => []) := rfl
@[simp] theorem frz_agg4 {cs : Array Value} : frz 4 t (.agg cs) = match optMap (frz 3 t) cs.toList with
  | some l => some (.agg l.toArray)
  | none => none := rfl
@[simp] theorem frz_tuple4 {cs : Array Value} : frz 4 t (.tuple cs) = match optMap (frz 3 t) cs.toList with
  | some l => some (.tuple l.toArray)
  | none => none := rfl
@[simp] theorem frz_func4 {f : Nat} {xs cs : Array Value} : frz 4 t (.func (.func f) xs cs) = match optMap (frz 3 t) xs.toList, optMap (frz 3 t) cs.toList with
  | some l, some k => some (.func (.func f) l.toArray k.toArray)
  | _, _ => none := rfl
theorem frz_sl4 {b o l z : Nat} : frz 4 t (.slice (some ⟨b, o, none⟩) l z) = match t.get b with
  | some x => if o + l * z ≤ x.cells.length then (match optMap (optMap (frz 3 t)) (chunk z l (x.cells.drop o)) with
    | some rows => some (immS rows z)
    | none => none) else none
  | none => none := frz_slS
@[simp] theorem reach_agg4 {cs : Array Value} : reach 4 t (.agg cs) = cs.toList.flatMap (reach 3 t) := rfl
@[simp] theorem reach_tuple4 {cs : Array Value} : reach 4 t (.tuple cs) = cs.toList.flatMap (reach 3 t) := rfl
@[simp] theorem reach_func4 {f : Nat} {xs cs : Array Value} : reach 4 t (.func (.func f) xs cs) = xs.toList.flatMap (reach 3 t) ++ cs.toList.flatMap (reach 3 t) := rfl
theorem reach_sl4 {b o l z : Nat} : reach 4 t (.slice (some ⟨b, o, none⟩) l z) = b :: (match t.get b with
  | some x => x.cells.flatMap (reach 3 t)
  | none => []) := rfl
@[simp] theorem chunk_0 {z : Nat} {cs : List Value} : chunk z 0 cs = [] := rfl
@[simp] theorem chunk_1 {z : Nat} {cs : List Value} : chunk z 1 cs = [cs.take z] := rfl
@[simp] theorem chunk_2 {z : Nat} {cs : List Value} : chunk z 2 cs = [cs.take z, (cs.drop z).take z] := rfl
@[simp] theorem chunk_3 {z : Nat} {cs : List Value} : chunk z 3 cs = [cs.take z, (cs.drop z).take z, ((cs.drop z).drop z).take z] := rfl
@[simp] theorem chunk_4 {z : Nat} {cs : List Value} : chunk z 4 cs = [cs.take z, (cs.drop z).take z, ((cs.drop z).drop z).take z, (((cs.drop z).drop z).drop z).take z] := rfl
@[simp] theorem chunk_5 {z : Nat} {cs : List Value} : chunk z 5 cs = [cs.take z, (cs.drop z).take z, ((cs.drop z).drop z).take z, (((cs.drop z).drop z).drop z).take z, ((((cs.drop z).drop z).drop z).drop z).take z] := rfl
@[simp] theorem mem0_next : mem0.next = 0 := rfl
@[simp] theorem mem0_get' {o : Nat} : mem0.get o = none := mem0_get o
theorem frz_rows {rows : List (List Value)} {n o l z : Nat} {w : Bool} (hg : t.get o = some ⟨rows.flatten, w⟩) (hl : l = rows.length) (hr : ∀ r ∈ rows, r.length = z ∧ ∀ v ∈ r, cellB v = true) : frz (n + 1) t (.slice (some ⟨o, 0, none⟩) l z) = some (immS rows z) := by
  subst hl
  have hz : ∀ r ∈ rows, r.length = z := fun r h => (hr r h).1
  have h2 : optMap (optMap (frz n t)) rows = some rows := optMap_id fun r h => optMap_id fun v hv => frz_cell ((hr r h).2 v hv)
  have h3 : (rows.flatten).length = rows.length * z := flatten_len hz
  simp [frz, cellB, flat1, isY, hg, chunk_flat hz, h2, h3]
theorem reach_rows {cs : List Value} {n : Nat} (hr : ∀ v ∈ cs, cellB v = true) : cs.flatMap (reach n t) = [] := by
  rw [List.flatMap_eq_nil_iff]
  exact fun v hv => reach_cell (hr v hv)
end
@[simp] theorem rget_0 {d a0 : List Value} {l : List (List Value)} : (a0 :: l)[0]?.getD d = a0 := rfl
@[simp] theorem rget_1 {d a0 a1 : List Value} {l : List (List Value)} : (a0 :: a1 :: l)[1]?.getD d = a1 := rfl
@[simp] theorem rget_2 {d a0 a1 a2 : List Value} {l : List (List Value)} : (a0 :: a1 :: a2 :: l)[2]?.getD d = a2 := rfl
theorem bump_bump {t : Mem} {a b : Nat} : (t.bump a).bump b = t.bump (a + b) := by
  simp only [Mem.bump, Mem.mk.injEq, and_true]
  refine ⟨by omega, ?_⟩
  funext i
  by_cases h : i < t.next
  · simp [h, show i < t.next + a by omega]
  · simp [h]
theorem put_bump {t : Mem} {c k : Nat} {x : Option Blk} (h : c < t.next) : (t.put c x).bump k = (t.bump k).put c x := by
  simp only [Mem.bump, Mem.put, Mem.mk.injEq, and_true, true_and]
  funext i
  by_cases h1 : i = c
  · subst h1; simp [h]
  · simp [h1]
attribute [simp] apart blkOwn ownAt getM_putM_self getM_putM_ne getM_put_ne getM_bump putM_putM get_putM_ne
end Go.DI
