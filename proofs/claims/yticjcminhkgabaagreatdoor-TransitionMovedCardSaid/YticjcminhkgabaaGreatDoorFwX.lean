/-
  The laws of a proof's own steps: each an equation, for simp. Written by a program of ours (genx.py).
-/
import Derived.Test.YticjcminhkgabaaGreatDoorFwW
namespace Go.DI
open Go

/-- a byte of a string, as a number -/
def byI (s : ByteArray) (i : Nat) : Int := ((s.data.toList.getD i 0).toNat : Nat)
def mlOk (kk : KK) (m : Mem) (x k : Value) : Bool := match mapOf m x with
  | some es => keyLike kk k es
  | none => false
def mlV (zero : Value) (o : Bool) (m : Mem) (x k : Value) : Value :=
  if o then .tuple #[((mapOf m x).bind (mget k)).getD zero, .bool ((mapOf m x).bind (mget k)).isSome] else ((mapOf m x).bind (mget k)).getD zero
def mpOk (kk : KK) (m : Mem) (x k v : Value) : Bool := match x with
  | .map (some b) => (match m.getM b with
    | some es => keyLike kk k es && oneC v
    | none => false)
  | _ => false
def mpM (m : Mem) (x k v : Value) : Mem := m.putM (mapBlk x) (mset k v ((m.getM (mapBlk x)).getD []))
@[simp] theorem mlOk_some {kk : KK} {m : Mem} {b : Nat} {k : Value} : mlOk kk m (.map (some b)) k = (match m.getM b with | some es => keyLike kk k es | none => false) := rfl
@[simp] theorem mlV_some {z : Value} {o : Bool} {m : Mem} {b : Nat} {k : Value} : mlV z o m (.map (some b)) k = if o then .tuple #[((m.getM b).bind (mget k)).getD z, .bool ((m.getM b).bind (mget k)).isSome] else ((m.getM b).bind (mget k)).getD z := rfl
@[simp] theorem mpOk_some {kk : KK} {m : Mem} {b : Nat} {k v : Value} : mpOk kk m (.map (some b)) k v = (match m.getM b with | some es => keyLike kk k es && oneC v | none => false) := rfl
@[simp] theorem mpM_some {m : Mem} {b : Nat} {k v : Value} : mpM m (.map (some b)) k v = m.putM b (mset k v ((m.getM b).getD [])) := rfl
attribute [simp] wp_skip' wp_exit' wp_ret' wp_region' wp_seq' wp_cond' wp_block' thenK_normal thenK_exit thenK_ret blockK_normal blockK_exit blockK_ret loopK_normal loopK_exit loopK_ret retK_normal retK_ret
  wpo_nil wpo_guard wpo_call callK_nil ckOk_nil

section
variable {P : Program} {base ix : Nat} {d : Option Nat} {rest : List IOp} {σ : Slots} {m : Mem} {K : Slots → Mem → Prop} {ck : List (Operand × Operand)}
@[simp] theorem wpo_mov (x : Operand) : WPO P base (⟨ix, d, none, .mov x, ck⟩ :: rest) σ m K = (ckOk σ ck = true ∧ WPO P base rest (putD σ d (ev σ x)) (m) K) := by
  rw [wpo_plain rfl]; simp only [IK.ok, true_and]; try rfl
@[simp] theorem wpo_pick (c a b : Operand) : WPO P base (⟨ix, d, none, .pick c a b, ck⟩ :: rest) σ m K = (isB (ev σ c) = true ∧ ckOk σ ck = true ∧ WPO P base rest (putD σ d (if asB (ev σ c) = true then ev σ a else ev σ b)) (m) K) := by
  rw [wpo_plain rfl]; rfl
@[simp] theorem wpo_nilck (x : Operand) : WPO P base (⟨ix, d, none, .nilck x, ck⟩ :: rest) σ m K = (isNotNil (ev σ x) = true ∧ ckOk σ ck = true ∧ WPO P base rest (putD σ d (ev σ x)) (m) K) := by
  rw [wpo_plain rfl]; rfl
@[simp] theorem wpo_alloc (z : List Value) : WPO P base (⟨ix, d, none, .alloc z, ck⟩ :: rest) σ m K = (ckOk σ ck = true ∧ WPO P base rest (putD σ d (.pointer (some ⟨base + ix, 0, none⟩))) (m.put (base + ix) (some ⟨z, true⟩)) K) := by
  rw [wpo_plain rfl]; simp only [IK.ok, true_and]; try rfl
@[simp] theorem wpo_box (x : Operand) : WPO P base (⟨ix, d, none, .box x, ck⟩ :: rest) σ m K = (notTup (ev σ x) = true ∧ ckOk σ ck = true ∧ WPO P base rest (putD σ d (.pointer (some ⟨base + ix, 0, none⟩))) (m.put (base + ix) (some ⟨vcells (ev σ x), true⟩)) K) := by
  rw [wpo_plain rfl]; rfl
@[simp] theorem wpo_build (z : List Value) (ps : List (Nat × Nat × Operand)) : WPO P base (⟨ix, d, none, .build z ps, ck⟩ :: rest) σ m K = (partsOk z σ ps = true ∧ ckOk σ ck = true ∧ WPO P base rest (putD σ d (.agg (partsV z σ ps).toArray)) (m) K) := by
  rw [wpo_plain rfl]; rfl
@[simp] theorem wpo_bslice (z n : Nat) (cs : List Value) (ps : List (Nat × Nat × Operand)) : WPO P base (⟨ix, d, none, .bslice z n cs ps, ck⟩ :: rest) σ m K = (partsOk cs σ ps = true ∧ ckOk σ ck = true ∧ WPO P base rest (putD σ d (.slice (some ⟨base + ix, 0, none⟩) n z)) (m.put (base + ix) (some ⟨partsV cs σ ps, true⟩)) K) := by
  rw [wpo_plain rfl]; rfl
@[simp] theorem wpo_load (ag : Bool) (n : Nat) (x : Operand) : WPO P base (⟨ix, d, none, .load ag n x, ck⟩ :: rest) σ m K = ((addrOk m (ev σ x) n && (ag || decide (n = 1))) = true ∧ ckOk σ ck = true ∧ WPO P base rest (putD σ d (loadV m ag n (ev σ x))) (m) K) := by
  rw [wpo_plain rfl]; rfl
@[simp] theorem wpo_store (n : Nat) (x v : Operand) : WPO P base (⟨ix, d, none, .store n x v, ck⟩ :: rest) σ m K = ((addrOk m (ev σ x) n && addrOwn m (ev σ x) && notTup (ev σ v) && decide ((vcells (ev σ v)).length = n)) = true ∧ ckOk σ ck = true ∧ WPO P base rest (putD σ d (undef)) (storeM m (ev σ x) (vcells (ev σ v))) K) := by
  rw [wpo_plain rfl]; rfl
@[simp] theorem wpo_bin (op : BinOp) (c : TyC) (x y : Operand) : WPO P base (⟨ix, d, none, .bin op c x y, ck⟩ :: rest) σ m K = (binOk op c (ev σ x) (ev σ y) = true ∧ ckOk σ ck = true ∧ WPO P base rest (putD σ d (binV op (ev σ x) (ev σ y))) (m) K) := by
  rw [wpo_plain rfl]; rfl
@[simp] theorem wpo_eqAgg (neg : Bool) (ks : List CK) (x y : Operand) : WPO P base (⟨ix, d, none, .eqAgg neg ks x y, ck⟩ :: rest) σ m K = ((isAggV (ev σ x) && isAggV (ev σ y) && cellsLike ks (vcells (ev σ x)) (vcells (ev σ y))) = true ∧ ckOk σ ck = true ∧ WPO P base rest (putD σ d (.bool (if neg then !cellsEq (vcells (ev σ x)) (vcells (ev σ y)) else cellsEq (vcells (ev σ x)) (vcells (ev σ y))))) (m) K) := by
  rw [wpo_plain rfl]; rfl
@[simp] theorem wpo_un (op : UnOp) (x : Operand) : WPO P base (⟨ix, d, none, .un op x, ck⟩ :: rest) σ m K = (unOk op (ev σ x) = true ∧ ckOk σ ck = true ∧ WPO P base rest (putD σ d (unV op (ev σ x))) (m) K) := by
  rw [wpo_plain rfl]; rfl
@[simp] theorem wpo_convI (k : IntKind) (x : Operand) : WPO P base (⟨ix, d, none, .convI k x, ck⟩ :: rest) σ m K = (isI (ev σ x) = true ∧ ckOk σ ck = true ∧ WPO P base rest (putD σ d (.int k (k.wrap (asI (ev σ x))))) (m) K) := by
  rw [wpo_plain rfl]; rfl
@[simp] theorem wpo_convId (x : Operand) : WPO P base (⟨ix, d, none, .convId x, ck⟩ :: rest) σ m K = (isStr (ev σ x) = true ∧ ckOk σ ck = true ∧ WPO P base rest (putD σ d (ev σ x)) (m) K) := by
  rw [wpo_plain rfl]; rfl
@[simp] theorem wpo_convBS (x : Operand) : WPO P base (⟨ix, d, none, .convBS x, ck⟩ :: rest) σ m K = ((sliceOk m 1 (ev σ x) && (sliceCells m 1 (ev σ x)).all isU8) = true ∧ ckOk σ ck = true ∧ WPO P base rest (putD σ d (.string (toBytes (sliceCells m 1 (ev σ x))))) (m) K) := by
  rw [wpo_plain rfl]; rfl
@[simp] theorem wpo_convSB (x : Operand) : WPO P base (⟨ix, d, none, .convSB x, ck⟩ :: rest) σ m K = ((isStr (ev σ x) && decide ((asS (ev σ x)).size ≤ 9223372036854775807)) = true ∧ ckOk σ ck = true ∧ WPO P base rest (putD σ d (.slice (some ⟨base + ix, 0, none⟩) (asS (ev σ x)).size 1)) (m.put (base + ix) (some ⟨ofBytes (asS (ev σ x)), true⟩)) K) := by
  rw [wpo_plain rfl]; rfl
@[simp] theorem wpo_sliceStr (x : Operand) (lo hi : Option Operand) : WPO P base (⟨ix, d, none, .sliceStr x lo hi, ck⟩ :: rest) σ m K = ((IK.sliceStr x lo hi).ok σ m = true ∧ ckOk σ ck = true ∧ WPO P base rest (putD σ d (.string ((asS (ev σ x)).extract (optI σ lo 0).toNat (optI σ hi (zqu (ev σ x))).toNat))) (m) K) := by
  rw [wpo_plain rfl]; try rfl
@[simp] theorem wpo_sliceS (z : Nat) (x : Operand) (lo hi : Option Operand) : WPO P base (⟨ix, d, none, .sliceS z x lo hi, ck⟩ :: rest) σ m K = ((IK.sliceS z x lo hi).ok σ m = true ∧ ckOk σ ck = true ∧ WPO P base rest (putD σ d (zqv (ev σ x) z (optI σ lo 0).toNat (optI σ hi (zqu (ev σ x))).toNat)) (m) K) := by
  rw [wpo_plain rfl]; try rfl
@[simp] theorem wpo_mkslice (z bytes : Nat) (zs : List Value) (l c : Operand) : WPO P base (⟨ix, d, none, .mkslice z bytes zs l c, ck⟩ :: rest) σ m K = ((IK.mkslice z bytes zs l c).ok σ m = true ∧ ckOk σ ck = true ∧ WPO P base rest (putD σ d (.slice (some ⟨base + ix, 0, none⟩) (asI (ev σ l)).toNat z)) (m.put (base + ix) (some ⟨(List.replicate (asI (ev σ l)).toNat zs).flatten, true⟩)) K) := by
  rw [wpo_plain rfl]; try rfl
@[simp] theorem wpo_faddr (off : Nat) (x : Operand) : WPO P base (⟨ix, d, none, .faddr off x, ck⟩ :: rest) σ m K = (ptrPlain (ev σ x) = true ∧ ckOk σ ck = true ∧ WPO P base rest (putD σ d (ptrAdd (ev σ x) off)) (m) K) := by
  rw [wpo_plain rfl]; rfl
@[simp] theorem wpo_field (ag : Bool) (off n : Nat) (x : Operand) : WPO P base (⟨ix, d, none, .field ag off n x, ck⟩ :: rest) σ m K = ((fieldOk off n (ev σ x) && (ag || decide (n = 1))) = true ∧ ckOk σ ck = true ∧ WPO P base rest (putD σ d (fieldV ag off n (ev σ x))) (m) K) := by
  rw [wpo_plain rfl]; rfl
@[simp] theorem wpo_iaddr (z : Nat) (x i : Operand) : WPO P base (⟨ix, d, none, .iaddr z x i, ck⟩ :: rest) σ m K = ((zqs z (ev σ x) && isI (ev σ i) && decide (0 ≤ asI (ev σ i)) && decide (asI (ev σ i) < zqu (ev σ x))) = true ∧ ckOk σ ck = true ∧ WPO P base rest (putD σ d (zqt (ev σ x) z (asI (ev σ i)))) (m) K) := by
  rw [wpo_plain rfl]; rfl
@[simp] theorem wpo_iaddrA (z len : Nat) (x i : Operand) : WPO P base (⟨ix, d, none, .iaddrA z len x i, ck⟩ :: rest) σ m K = ((ptrPlain (ev σ x) && isI (ev σ i) && decide (0 ≤ asI (ev σ i)) && decide (asI (ev σ i) < (len : Int))) = true ∧ ckOk σ ck = true ∧ WPO P base rest (putD σ d (ptrAdd (ev σ x) ((asI (ev σ i)).toNat * z))) (m) K) := by
  rw [wpo_plain rfl]; rfl
@[simp] theorem wpo_idxStr (x i : Operand) : WPO P base (⟨ix, d, none, .idxStr x i, ck⟩ :: rest) σ m K = ((isStr (ev σ x) && isI (ev σ i) && decide (0 ≤ asI (ev σ i)) && decide (asI (ev σ i) < zqu (ev σ x))) = true ∧ ckOk σ ck = true ∧ WPO P base rest (putD σ d (.int .u8 (byI (asS (ev σ x)) (asI (ev σ i)).toNat))) (m) K) := by
  rw [wpo_plain rfl]; rfl
@[simp] theorem wpo_ext (i : Nat) (x : Operand) : WPO P base (⟨ix, d, none, .ext i x, ck⟩ :: rest) σ m K = (tupOk (ev σ x) i = true ∧ ckOk σ ck = true ∧ WPO P base rest (putD σ d (tupAt (ev σ x) i)) (m) K) := by
  rw [wpo_plain rfl]; rfl
@[simp] theorem wpo_lenS (x : Operand) : WPO P base (⟨ix, d, none, .lenS x, ck⟩ :: rest) σ m K = (isStr (ev σ x) = true ∧ ckOk σ ck = true ∧ WPO P base rest (putD σ d (.int .i64 (zqu (ev σ x)))) (m) K) := by
  rw [wpo_plain rfl]; rfl
@[simp] theorem wpo_lenV (x : Operand) : WPO P base (⟨ix, d, none, .lenV x, ck⟩ :: rest) σ m K = (isSl (ev σ x) = true ∧ ckOk σ ck = true ∧ WPO P base rest (putD σ d (.int .i64 (zqu (ev σ x)))) (m) K) := by
  rw [wpo_plain rfl]; rfl
@[simp] theorem wpo_app (z bytes : Nat) (x y : Operand) : WPO P base (⟨ix, d, none, .app z bytes x y, ck⟩ :: rest) σ m K = ((IK.app z bytes x y).ok σ m = true ∧ ckOk σ ck = true ∧ WPO P base rest (putD σ d ((IK.app z bytes x y).val (base + ix) σ m)) ((IK.app z bytes x y).mem (base + ix) σ m) K) := by
  rw [wpo_plain rfl]; try rfl
@[simp] theorem wpo_minmax (mx : Bool) (x : Operand) (xs : List Operand) : WPO P base (⟨ix, d, none, .minmax mx x xs, ck⟩ :: rest) σ m K = ((isI (ev σ x) && xs.all fun y => isI (ev σ y)) = true ∧ ckOk σ ck = true ∧ WPO P base rest (putD σ d (xs.foldl (fun acc y => if mx then maxI acc (ev σ y) else minI acc (ev σ y)) (ev σ x))) (m) K) := by
  rw [wpo_plain rfl]; rfl
@[simp] theorem wpo_mkif (t : TypeId) (x : Operand) : WPO P base (⟨ix, d, none, .mkif t x, ck⟩ :: rest) σ m K = (ckOk σ ck = true ∧ WPO P base rest (putD σ d (.iface t (ev σ x))) (m) K) := by
  rw [wpo_plain rfl]; simp only [IK.ok, true_and]; try rfl
@[simp] theorem wpo_tass (t : TypeId) (x : Operand) : WPO P base (⟨ix, d, none, .tass t x, ck⟩ :: rest) σ m K = (ifOk t (ev σ x) = true ∧ ckOk σ ck = true ∧ WPO P base rest (putD σ d (ifV (ev σ x))) (m) K) := by
  rw [wpo_plain rfl]; rfl
@[simp] theorem wpo_mkmap  : WPO P base (⟨ix, d, none, .mkmap , ck⟩ :: rest) σ m K = (ckOk σ ck = true ∧ WPO P base rest (putD σ d (.map (some (base + ix)))) (m.putM (base + ix) []) K) := by
  rw [wpo_plain rfl]; simp only [IK.ok, true_and]; try rfl
@[simp] theorem wpo_mlook (kk : KK) (zero : Value) (o : Bool) (x k : Operand) : WPO P base (⟨ix, d, none, .mlook kk zero o x k, ck⟩ :: rest) σ m K = (mlOk kk m (ev σ x) (ev σ k) = true ∧ ckOk σ ck = true ∧ WPO P base rest (putD σ d (mlV zero o m (ev σ x) (ev σ k))) (m) K) := by
  rw [wpo_plain rfl]; rfl
@[simp] theorem wpo_mput (kk : KK) (x k v : Operand) : WPO P base (⟨ix, d, none, .mput kk x k v, ck⟩ :: rest) σ m K = (mpOk kk m (ev σ x) (ev σ k) (ev σ v) = true ∧ ckOk σ ck = true ∧ WPO P base rest (putD σ d (undef)) (mpM m (ev σ x) (ev σ k) (ev σ v)) K) := by
  rw [wpo_plain rfl]; rfl
@[simp] theorem wpo_sliceM (z : Nat) (x : Operand) (lo : Option Operand) (hi mx : Operand) : WPO P base (⟨ix, d, none, .sliceM z x lo hi mx, ck⟩ :: rest) σ m K = ((IK.sliceM z x lo hi mx).ok σ m = true ∧ ckOk σ ck = true ∧ WPO P base rest (putD σ d (zqv (ev σ x) z (optI σ lo 0).toNat (asI (ev σ hi)).toNat)) (m) K) := by
  rw [wpo_plain rfl]; try rfl
@[simp] theorem wpo_sliceA (z n : Nat) (x : Operand) : WPO P base (⟨ix, d, none, .sliceA z n x, ck⟩ :: rest) σ m K = ((addrOk m (ev σ x) (n * z) && decide (n ≤ maxLen)) = true ∧ ckOk σ ck = true ∧ WPO P base rest (putD σ d (arrSl (ev σ x) z n)) (m) K) := by
  rw [wpo_plain rfl]; rfl
@[simp] theorem wpo_mkfunc (fn : Fn) (fs cs : List Operand) : WPO P base (⟨ix, d, none, .mkfunc fn fs cs, ck⟩ :: rest) σ m K = (ckOk σ ck = true ∧ WPO P base rest (putD σ d (.func fn (fs.map (ev σ)).toArray (cs.map (ev σ)).toArray)) (m) K) := by
  rw [wpo_plain rfl]; simp only [IK.ok, true_and]; try rfl

@[simp] theorem ifOk_iface {t t' : TypeId} {v : Value} : ifOk t (.iface t' v) = decide (t' = t) := rfl
@[simp] theorem ifV_iface {t : TypeId} {v : Value} : ifV (.iface t v) = v := rfl
@[simp] theorem ev_tmp {t : Nat} : ev σ (.tmp t) = σ t := rfl
@[simp] theorem ev_const {v : Value} : ev σ (.const v) = v := rfl
@[simp] theorem ev_func {f : Nat} : ev σ (.func f) = .func (.func f) #[] #[] := rfl
@[simp] theorem putD_some {t : Nat} {v : Value} : putD σ (some t) v = upd σ t v := rfl
@[simp] theorem putD_none {v : Value} : putD σ none v = σ := rfl
@[simp] theorem upd_apply {t u : Nat} {v : Value} : upd σ t v u = if u = t then v else σ u := rfl
@[simp] theorem initσ_0 {a0 : Value} {l : List Value} : initσ (a0 :: l) 0 = a0 := rfl
@[simp] theorem initσ_1 {a0 a1 : Value} {l : List Value} : initσ (a0 :: a1 :: l) 1 = a1 := rfl
@[simp] theorem initσ_2 {a0 a1 a2 : Value} {l : List Value} : initσ (a0 :: a1 :: a2 :: l) 2 = a2 := rfl
@[simp] theorem initσ_3 {a0 a1 a2 a3 : Value} {l : List Value} : initσ (a0 :: a1 :: a2 :: a3 :: l) 3 = a3 := rfl
@[simp] theorem initσ_4 {a0 a1 a2 a3 a4 : Value} {l : List Value} : initσ (a0 :: a1 :: a2 :: a3 :: a4 :: l) 4 = a4 := rfl
@[simp] theorem initσ_5 {a0 a1 a2 a3 a4 a5 : Value} {l : List Value} : initσ (a0 :: a1 :: a2 :: a3 :: a4 :: a5 :: l) 5 = a5 := rfl
@[simp] theorem initσ_6 {a0 a1 a2 a3 a4 a5 a6 : Value} {l : List Value} : initσ (a0 :: a1 :: a2 :: a3 :: a4 :: a5 :: a6 :: l) 6 = a6 := rfl
@[simp] theorem initσ_7 {a0 a1 a2 a3 a4 a5 a6 a7 : Value} {l : List Value} : initσ (a0 :: a1 :: a2 :: a3 :: a4 :: a5 :: a6 :: a7 :: l) 7 = a7 := rfl
def wB (v : Value) (b : Bool) : Bool := match v with | .bool c => c == b | _ => false
@[simp] theorem wB_bool {c b : Bool} : wB (.bool c) b = (c == b) := rfl
@[simp] theorem wB_undef {b : Bool} : wB undef b = false := rfl
@[simp] theorem wanted_some {t : Nat} {b : Bool} : wantedI σ (some (t, b)) = wB (σ t) b := rfl
@[simp] theorem retV_one {r : IRes} : retV m σ [r] = resV m σ r := rfl
@[simp] theorem retV_nil : retV m σ [] = .tuple #[] := rfl
@[simp] theorem retV_two {r s : IRes} {l : List IRes} : retV m σ (r :: s :: l) = .tuple ((r :: s :: l).map (resV m σ)).toArray := rfl
@[simp] theorem resV_tmp {t : Nat} : resV m σ (.tmp t) = σ t := rfl
@[simp] theorem resV_cell {t n : Nat} {ag : Bool} : resV m σ (.cell t ag n) = loadV m ag n (σ t) := rfl
@[simp] theorem retOk_eq {l : List IRes} : retOk m σ l = l.all (resOk m σ) := rfl
@[simp] theorem resOk_tmp {t : Nat} : resOk m σ (.tmp t) = true := rfl
@[simp] theorem resOk_cell {t n : Nat} {ag : Bool} : resOk m σ (.cell t ag n) = (addrOk m (σ t) n && (ag || decide (n = 1))) := rfl
@[simp] theorem regBump_eq {l : List IOp} : regBump l m = if l.any (fun o => o.k.isAlloc) = true then m.bump l.length else m := by unfold regBump; rfl
end
attribute [simp] asB isB asI isI asS vcells blit blkOf notTup isNotNil ptrPlain ptrAdd arrSl isStr tupAt tupOk fieldV fieldOk isAggV optI optOk minI maxI isU8 byteOf partsOk partsV
  binOk binV intBin intBinOk strBin strBinOk eqOk eqV isNilV unV unOk cellEq cellLike cellsEq cellsLike
attribute [simp] keyLike isKeyB mget mset oneC
@[simp] theorem isAlloc_mkmap : IK.mkmap.isAlloc = true := rfl
@[simp] theorem isAlloc_alloc (a : List Value) : (IK.alloc a).isAlloc = true := rfl
@[simp] theorem isAlloc_box (a : Operand) : (IK.box a).isAlloc = true := rfl
@[simp] theorem isAlloc_bslice (a b : Nat) (c : List Value) (d : List (Nat × Nat × Operand)) : (IK.bslice a b c d).isAlloc = true := rfl
@[simp] theorem isAlloc_convSB (a : Operand) : (IK.convSB a).isAlloc = true := rfl
@[simp] theorem isAlloc_mkslice (a b : Nat) (c : List Value) (d e : Operand) : (IK.mkslice a b c d e).isAlloc = true := rfl
@[simp] theorem isAlloc_app (a b : Nat) (c d : Operand) : (IK.app a b c d).isAlloc = true := rfl
@[simp] theorem isAlloc_mlook (a : KK) (b : Value) (c : Bool) (d e : Operand) : (IK.mlook a b c d e).isAlloc = false := rfl
@[simp] theorem isAlloc_mput (a : KK) (b c d : Operand) : (IK.mput a b c d).isAlloc = false := rfl
@[simp] theorem isAlloc_sliceA (a b : Nat) (c : Operand) : (IK.sliceA a b c).isAlloc = false := rfl
@[simp] theorem isAlloc_sliceM (a : Nat) (b : Operand) (c : Option Operand) (d e : Operand) : (IK.sliceM a b c d e).isAlloc = false := rfl
@[simp] theorem isAlloc_mkif (a : TypeId) (b : Operand) : (IK.mkif a b).isAlloc = false := rfl
@[simp] theorem isAlloc_tass (a : TypeId) (b : Operand) : (IK.tass a b).isAlloc = false := rfl
@[simp] theorem isAlloc_icall (a : List (TypeId × Nat × Option (Bool × Nat))) (b : Operand) (c : List Operand) : (IK.icall a b c).isAlloc = false := rfl
@[simp] theorem isAlloc_mov (a : Operand) : (IK.mov a).isAlloc = false := rfl
@[simp] theorem isAlloc_pick (a b c : Operand) : (IK.pick a b c).isAlloc = false := rfl
@[simp] theorem isAlloc_nilck (a : Operand) : (IK.nilck a).isAlloc = false := rfl
@[simp] theorem isAlloc_build (a : List Value) (b : List (Nat × Nat × Operand)) : (IK.build a b).isAlloc = false := rfl
@[simp] theorem isAlloc_load (a : Bool) (b : Nat) (c : Operand) : (IK.load a b c).isAlloc = false := rfl
@[simp] theorem isAlloc_store (a : Nat) (b c : Operand) : (IK.store a b c).isAlloc = false := rfl
@[simp] theorem isAlloc_bin (a : BinOp) (b : TyC) (c d : Operand) : (IK.bin a b c d).isAlloc = false := rfl
@[simp] theorem isAlloc_eqAgg (a : Bool) (b : List CK) (c d : Operand) : (IK.eqAgg a b c d).isAlloc = false := rfl
@[simp] theorem isAlloc_un (a : UnOp) (b : Operand) : (IK.un a b).isAlloc = false := rfl
@[simp] theorem isAlloc_convI (a : IntKind) (b : Operand) : (IK.convI a b).isAlloc = false := rfl
@[simp] theorem isAlloc_convId (a : Operand) : (IK.convId a).isAlloc = false := rfl
@[simp] theorem isAlloc_convBS (a : Operand) : (IK.convBS a).isAlloc = false := rfl
@[simp] theorem isAlloc_sliceStr (a : Operand) (b c : Option Operand) : (IK.sliceStr a b c).isAlloc = false := rfl
@[simp] theorem isAlloc_sliceS (a : Nat) (b : Operand) (c d : Option Operand) : (IK.sliceS a b c d).isAlloc = false := rfl
@[simp] theorem isAlloc_faddr (a : Nat) (b : Operand) : (IK.faddr a b).isAlloc = false := rfl
@[simp] theorem isAlloc_field (a : Bool) (b c : Nat) (d : Operand) : (IK.field a b c d).isAlloc = false := rfl
@[simp] theorem isAlloc_iaddr (a : Nat) (b c : Operand) : (IK.iaddr a b c).isAlloc = false := rfl
@[simp] theorem isAlloc_iaddrA (a b : Nat) (c d : Operand) : (IK.iaddrA a b c d).isAlloc = false := rfl
@[simp] theorem isAlloc_idxStr (a b : Operand) : (IK.idxStr a b).isAlloc = false := rfl
@[simp] theorem isAlloc_ext (a : Nat) (b : Operand) : (IK.ext a b).isAlloc = false := rfl
@[simp] theorem isAlloc_lenS (a : Operand) : (IK.lenS a).isAlloc = false := rfl
@[simp] theorem isAlloc_lenV (a : Operand) : (IK.lenV a).isAlloc = false := rfl
@[simp] theorem isAlloc_minmax (a : Bool) (b : Operand) (c : List Operand) : (IK.minmax a b c).isAlloc = false := rfl
@[simp] theorem isAlloc_mkfunc (a : Fn) (b c : List Operand) : (IK.mkfunc a b c).isAlloc = false := rfl
@[simp] theorem isAlloc_call (a : Nat) (b : List Operand) : (IK.call a b).isAlloc = false := rfl
@[simp] theorem isAlloc_callv (a : Operand) (b : List Operand) : (IK.callv a b).isAlloc = false := rfl

/-! short names of operations -/
abbrev τ (n : Nat) : Operand := .tmp n
abbrev imv (i d x : Nat) : IOp := ⟨i, some d, none, .mov (.tmp x), []⟩
abbrev imi (i d : Nat) (n : Int) : IOp := ⟨i, some d, none, .mov (.const (.int .i64 n)), []⟩
abbrev imb (i d : Nat) (b : Bool) : IOp := ⟨i, some d, none, .mov (.const (.bool b)), []⟩
abbrev ild (i d x : Nat) : IOp := ⟨i, some d, none, .load false 1 (.tmp x), []⟩
abbrev ila (i d n x : Nat) : IOp := ⟨i, some d, none, .load true n (.tmp x), []⟩
abbrev ifa (i d n x : Nat) : IOp := ⟨i, some d, none, .faddr n (.tmp x), []⟩
abbrev ibn (i d : Nat) (op : BinOp) (x y : Operand) : IOp := ⟨i, some d, none, .bin op .other x y, []⟩
abbrev iia (i d z x y : Nat) : IOp := ⟨i, some d, none, .iaddr z (.tmp x) (.tmp y), []⟩
abbrev iln (i d x : Nat) : IOp := ⟨i, some d, none, .lenV (.tmp x), []⟩
abbrev iex (i d n x : Nat) : IOp := ⟨i, some d, none, .ext n (.tmp x), []⟩
abbrev icl (i d f : Nat) (as : List Operand) : IOp := ⟨i, some d, none, .call f as, []⟩
abbrev ist (i n x y : Nat) : IOp := ⟨i, none, none, .store n (.tmp x) (.tmp y), []⟩
abbrev iop (i d : Nat) (k : IK) : IOp := ⟨i, some d, none, k, []⟩
abbrev iog (i d j : Nat) (b : Bool) (k : IK) : IOp := ⟨i, some d, some (j, b), k, []⟩
abbrev ioc (i d : Nat) (k : IK) (ck : List (Operand × Operand)) : IOp := ⟨i, some d, none, k, ck⟩
abbrev ino (i : Nat) (k : IK) : IOp := ⟨i, none, none, k, []⟩
attribute [simp] τ imv imi imb ild ila ifa ibn iia iln iex icl ist iop iog ioc ino
end Go.DI
