/-
  A run of closed code over whole contents, as a computation, and what it proves.
-/
import Derived.Test.YticjcminhkgabaaGreatDoorTvN
namespace Go.DI
open Go Go.RowKit
set_option linter.unusedSimpArgs false
set_option linter.unusedVariables false

abbrev ClE := Nat → List Value → TM → Option (Value × TM)
/-- own blocks that a call may not change -/
def ownL (σ : Slots) (t : Mem) : List (Operand × Operand) → List Nat
  | [] => []
  | p :: l => match blkOf (ev σ p.1) with
    | some o => if ownAt t o then o :: ownL σ t l else ownL σ t l
    | none => ownL σ t l
def cutE (M : TM) : List Nat → Option TM
  | [] => some M
  | o :: l => match putB M o none with
    | some M1 => cutE M1 l
    | none => none
def joinE (M M1 : TM) : List Nat → Option TM
  | [] => some M1
  | o :: l => match putB M1 o (M.blk.get o) with
    | some M2 => joinE M M2 l
    | none => none
def shutE (M : TM) : List Nat → Option TM
  | [] => some M
  | o :: l => match M.blk.get o with
    | some x => (match putB M o (some ⟨x.cells, false⟩) with
      | some M1 => shutE M1 l
      | none => none)
    | none => shutE M l
def clrE (M : TM) : List Nat → Option TM
  | [] => some M
  | o :: l => match M.mp.get o with
    | some _ => if keyOk o then clrE ⟨M.next, M.blk, Tr.set 21 M.mp o none⟩ l else none
    | none => clrE M l
/-- a call of whole contents: it runs in a memory of its own -/
def pureE (cl : ClE) (f : Nat) (args : List Value) (M : TM) : Option (Value × TM) := match frzs 9 (mm M) args with
  | some ts => (match cl f ts TM0 with
    | some (v, M1) => (match frz 9 (mm M1) v with
      | some r => if flatV r then (match clrE M (args.flatMap (reach 9 (mm M))) with
          | some M2 => some (r, M2)
          | none => none)
        else (match shutE M (args.flatMap (reach 9 (mm M))) with
          | some M2 => some (r, M2)
          | none => none)
      | none => none)
    | none => none)
  | none => none
def callE (cl : ClE) (f : Nat) (args : List Value) (M : TM) : List Nat → Option (Value × TM)
  | [] => cl f args M
  | L => if L.all (fun o => match M.blk.get o with | some x => !x.cells.isEmpty | none => false) then
      (match cutE M L with
      | some Mc => (match cl f args Mc with
        | some (r, M1) => (match joinE M M1 L with
          | some M2 => some (r, M2)
          | none => none)
        | none => pureE cl f args M)
      | none => none)
    else pureE cl f args M
def oneE (cl : ClE) (base : Nat) (o : IOp) (S : TS) (M : TM) : Option (TS × TM) :=
  let σ := sg S
  let res (x : Option (Value × TM)) : Option (TS × TM) := match x with
    | some (r, M') => (match putE S o.d r with
      | some S' => some (S', M')
      | none => none)
    | none => none
  match o.k with
  | .call f as => res (callE cl f (as.map (ev σ)) M (ownL σ (mm M) o.ck))
  | .callv x as => (match ev σ x with
    | .func (.func f) first caps => res (callE cl f (first.toList ++ as.map (ev σ) ++ caps.toList) M (ownL σ (mm M) o.ck))
    | _ => none)
  | .icall rows x as => (match ev σ x with
    | .iface t v => (match rows.find? (fun r => r.1 == t) with
      | some (_, f, none) => res (callE cl f (v :: as.map (ev σ)) M (ownL σ (mm M) o.ck))
      | some (_, f, some (ag, n)) => if addrOkT (mm M) v n && (ag || decide (n = 1)) then res (callE cl f (loadVT (mm M) ag n v :: as.map (ev σ)) M (ownL σ (mm M) o.ck)) else none
      | none => none)
    | _ => none)
  | k => if k.okT σ (mm M) && ckOkT σ (mm M) o.ck then (match memE k (base + o.ix) σ M with
    | some M' => res (some (k.valT (base + o.ix) σ (mm M), M'))
    | none => none) else none
def opsE (cl : ClE) (base : Nat) : List IOp → TS → TM → Option (TS × TM)
  | [], S, M => some (S, M)
  | o :: rest, S, M => if wantedI (sg S) o.g then (match oneE cl base o S M with
      | some (S', M') => opsE cl base rest S' M'
      | none => none)
    else (match putE S o.d undef with
      | some S' => opsE cl base rest S' M
      | none => none)
def regE (ops : List IOp) (M : TM) : TM := if ops.any (fun o => o.k.isAlloc) then bumpE M ops.length else M
def iterE (f : TS → TM → Option (IExit × TS × TM)) : Nat → TS → TM → Option (IExit × TS × TM)
  | 0, _, _ => none
  | n + 1, S, M => match f S M with
    | some (.normal, S', M') => iterE f n S' M'
    | r => r
def codeE (cl : ClE) (n : Nat) : ICode → TS → TM → Option (IExit × TS × TM)
  | .skip, S, M => some (.normal, S, M)
  | .region ops, S, M => (match opsE cl M.next ops S (regE ops M) with
    | some (S', M') => some (.normal, S', M')
    | none => none)
  | .late _ _ _, _, _ => none
  | .seq a b, S, M => (match codeE cl n a S M with
    | some (.normal, S', M') => codeE cl n b S' M'
    | r => r)
  | .cond c a b, S, M => (match ev (sg S) c with
    | .bool true => codeE cl n a S M
    | .bool false => codeE cl n b S M
    | _ => none)
  | .block id c, S, M => (match codeE cl n c S M with
    | some (.exit id', S', M') => if id' = id then some (.normal, S', M') else some (.exit id', S', M')
    | r => r)
  | .loop c, S, M => iterE (codeE cl n c) n S M
  | .exit id, S, M => some (.exit id, S, M)
  | .ret, S, M => some (.ret, S, M)
def endE (rs : List IRes) : Option (IExit × TS × TM) → Option (Value × TM)
  | some (.exit _, _, _) => none
  | some (_, S, M) => if retOk (mm M) (sg S) rs then some (retV (mm M) (sg S) rs, M) else none
  | none => none
/-- a call, to a depth; each loop has at most n rounds -/
def funE (tbl : Nat → Option IFunc) (n : Nat) : Nat → ClE
  | 0 => fun _ _ _ => none
  | d + 1 => fun f args M => match tbl f with
    | some Fn => if Nat.ble args.length Fn.nt && Nat.blt args.length 1000000 then endE Fn.res (codeE (funE tbl n d) n Fn.body (initE args 0 .nil) M) else none
    | none => none
end Go.DI
