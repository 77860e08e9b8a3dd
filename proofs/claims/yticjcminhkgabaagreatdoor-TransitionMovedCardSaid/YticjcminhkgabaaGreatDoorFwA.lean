/-
  A small intermediate language for the functions of a loaded program, its deterministic meaning over an abstract memory, and the program that makes it of the model's code. Definitions alone.
-/
import Derived.WalkKit
namespace Go.DI
open Go

abbrev Slots := Nat → Value

/-- A block of cells of the abstract memory; 'own': it may be written. -/
structure Blk where
  cells : List Value
  own : Bool

structure Mem where
  next : Nat
  blk : Nat → Option Blk
  mp : Nat → Option (List (Value × Value))

def Mem.get (m : Mem) (b : Nat) : Option Blk := if b < m.next then m.blk b else none
def Mem.put (m : Mem) (b : Nat) (x : Option Blk) : Mem := ⟨m.next, fun i => if i = b then x else m.blk i, m.mp⟩
def Mem.bump (m : Mem) (k : Nat) : Mem := ⟨m.next + k, fun i => if i < m.next then m.blk i else none, m.mp⟩
/-- a map: a block without cells, with entries of its own -/
def Mem.getM (m : Mem) (b : Nat) : Option (List (Value × Value)) := match m.get b with
  | some ⟨[], true⟩ => m.mp b
  | _ => none
def Mem.putM (m : Mem) (b : Nat) (es : List (Value × Value)) : Mem := ⟨m.next, fun i => if i = b then some ⟨[], true⟩ else m.blk i, fun i => if i = b then some es else m.mp i⟩

def upd (σ : Slots) (d : Nat) (v : Value) : Slots := fun t => if t = d then v else σ t
def putD (σ : Slots) (d : Option Nat) (v : Value) : Slots := match d with | some d => upd σ d v | none => σ

def ev (σ : Slots) : Operand → Value
  | .tmp t => σ t
  | .const v => v
  | .func f => .func (.func f) #[] #[]
  | .global _ => undef

def asB : Value → Bool | .bool b => b | _ => false
def isB : Value → Bool | .bool _ => true | _ => false
def asI : Value → Int | .int _ n => n | _ => 0
def isI : Value → Bool | .int _ _ => true | _ => false
def asS : Value → ByteArray | .string s => s | _ => .empty
def vcells : Value → List Value | .agg cs => cs.toList | v => [v]
def blit : List Value → Nat → List Value → List Value
  | cs, _, [] => cs
  | cs, off, v :: vs => blit (cs.set off v) (off + 1) vs
/-- The block behind an address or a slice. -/
def blkOf : Value → Option Nat
  | .pointer (some a) => some a.block
  | .slice (some a) _ _ => some a.block
  | .map (some b) => some b
  | _ => none

/-- a plain value of one cell in which no address lies -/
def flat1 : Value → Bool
  | .bool _ | .int _ _ | .float _ _ | .complex _ _ _ | .string _ | .pointer none | .map none | .chan none | .nilFunc | .nilIface => true
  | .slice none l c => l == 0 && c == 0
  | _ => false
def flatV : Value → Bool
  | .agg cs => cs.toList.all flat1
  | .tuple cs => cs.toList.all flat1
  | v => flat1 v
def oneC : Value → Bool
  | .agg _ | .tuple _ => false
  | _ => true
def notTup : Value → Bool
  | .tuple _ => false
  | _ => true

inductive TyC where
  | bool | ptr | slice | fn | iface | agg | other
  deriving DecidableEq

inductive CK where
  | int | str | bool
  deriving DecidableEq
/-- the kind of a map's keys -/
inductive KK where
  | int (k : IntKind) | str
  deriving DecidableEq

inductive IK where
  | mov (x : Operand)
  | pick (c a b : Operand)
  | nilck (x : Operand)
  | alloc (zero : List Value)
  | box (x : Operand)
  | build (zero : List Value) (parts : List (Nat × Nat × Operand))
  | bslice (z n : Nat) (zero : List Value) (parts : List (Nat × Nat × Operand))
  | load (ag : Bool) (n : Nat) (x : Operand)
  | store (n : Nat) (x v : Operand)
  | bin (op : BinOp) (c : TyC) (x y : Operand)
  | eqAgg (neg : Bool) (ks : List CK) (x y : Operand)
  | un (op : UnOp) (x : Operand)
  | convI (k : IntKind) (x : Operand)
  | convId (x : Operand)
  | convBS (x : Operand)
  | convSB (x : Operand)
  | mkslice (z bytes : Nat) (zero : List Value) (l c : Operand)
  | sliceStr (x : Operand) (lo hi : Option Operand)
  | sliceS (z : Nat) (x : Operand) (lo hi : Option Operand)
  | sliceM (z : Nat) (x : Operand) (lo : Option Operand) (hi mx : Operand)
  | sliceA (z n : Nat) (x : Operand)
  | faddr (off : Nat) (x : Operand)
  | field (ag : Bool) (off n : Nat) (x : Operand)
  | iaddr (z : Nat) (x i : Operand)
  | iaddrA (z len : Nat) (x i : Operand)
  | idxStr (x i : Operand)
  | ext (i : Nat) (x : Operand)
  | lenS (x : Operand)
  | lenV (x : Operand)
  | app (z bytes : Nat) (x y : Operand)
  | minmax (mx : Bool) (x : Operand) (xs : List Operand)
  | mkfunc (fn : Fn) (first caps : List Operand)
  | call (f : Nat) (args : List Operand)
  | callv (x : Operand) (args : List Operand)
  | mkif (t : TypeId) (x : Operand)
  | tass (t : TypeId) (x : Operand)
  | icall (rows : List (TypeId × Nat × Option (Bool × Nat))) (x : Operand) (args : List Operand)
  | mkmap
  | mlook (ck : KK) (zero : Value) (ok : Bool) (x k : Operand)
  | mput (ck : KK) (x k v : Operand)

structure IOp where
  ix : Nat
  d : Option Nat
  g : Option (Nat × Bool)
  k : IK
  ck : List (Operand × Operand)

inductive IRes where
  | tmp (t : Nat)
  | cell (t : Nat) (ag : Bool) (n : Nat)

inductive ICode where
  | skip
  | region (ops : List IOp)
  | late (pre : List IOp) (o : IOp) (rest : List IOp)
  | seq (a b : ICode)
  | cond (c : Operand) (a b : ICode)
  | block (id : Nat) (c : ICode)
  | loop (c : ICode)
  | exit (id : Nat)
  | ret

structure IFunc where
  nt : Nat
  res : List IRes
  body : ICode

inductive IExit where
  | normal
  | exit (id : Nat)
  | ret
  deriving DecidableEq

/-! ### The meaning of one operation: 'ok', the value, the memory -/

def addrOk (m : Mem) (v : Value) (n : Nat) : Bool :=
  match v with
  | .pointer (some a) => a.spot.isNone && (match m.get a.block with | some x => decide (a.off + n ≤ x.cells.length) | none => false)
  | _ => false
def addrOwn (m : Mem) (v : Value) : Bool :=
  match v with
  | .pointer (some a) => (match m.get a.block with | some x => x.own | none => false)
  | _ => false
def cellsAt (m : Mem) (b off n : Nat) : List Value :=
  match m.get b with
  | some x => (x.cells.drop off).take n
  | none => []
def loadV (m : Mem) (ag : Bool) (n : Nat) (v : Value) : Value :=
  match v with
  | .pointer (some a) => if ag then .agg (cellsAt m a.block a.off n).toArray else (cellsAt m a.block a.off 1).headD undef
  | _ => undef
def storeM (m : Mem) (v : Value) (cs : List Value) : Mem :=
  match v with
  | .pointer (some a) => (match m.get a.block with | some x => m.put a.block (some ⟨blit x.cells a.off cs, x.own⟩) | none => m)
  | _ => m
/-- a slice that lies in a living block -/
def sliceOk (m : Mem) (z : Nat) (v : Value) : Bool :=
  match v with
  | .slice none l c => l == 0 && c == 0
  | .slice (some a) l c => a.spot.isNone && c == z && (match m.get a.block with | some x => decide (a.off + l * z ≤ x.cells.length) | none => false)
  | _ => false
def sliceOwn (m : Mem) (v : Value) : Bool :=
  match v with
  | .slice none _ _ => true
  | .slice (some a) _ _ => (match m.get a.block with | some x => x.own | none => false)
  | _ => false
def zqr : Value → Nat
  | .slice _ l _ => l
  | _ => 0
def sliceCells (m : Mem) (z : Nat) (v : Value) : List Value :=
  match v with
  | .slice (some a) l _ => cellsAt m a.block a.off (l * z)
  | _ => []
def kill (m : Mem) (v : Value) : Mem :=
  match v with
  | .slice (some a) _ _ => m.put a.block none
  | _ => m

def intBin (op : BinOp) (k : IntKind) (a b : Int) : Value :=
  match op with
  | .add => .int k (k.wrap (a + b))
  | .sub => .int k (k.wrap (a - b))
  | .mul => .int k (k.wrap (a * b))
  | .quo => .int k (k.wrap (a.tdiv b))
  | .rem => .int k (a.tmod b)
  | .and => .int k (k.wrap (BitVec.ofInt k.bits a &&& BitVec.ofInt k.bits b).toNat)
  | .or => .int k (k.wrap (BitVec.ofInt k.bits a ||| BitVec.ofInt k.bits b).toNat)
  | .xor => .int k (k.wrap (BitVec.ofInt k.bits a ^^^ BitVec.ofInt k.bits b).toNat)
  | .andNot => .int k (k.wrap (BitVec.ofInt k.bits a &&& ~~~(BitVec.ofInt k.bits b)).toNat)
  | .shl => .int k (k.wrap (a * 2 ^ (min b.toNat k.bits)))
  | .shr => .int k (a.fdiv (2 ^ (min b.toNat k.bits)))
  | .eql => .bool (decide (a = b))
  | .neq => .bool (!decide (a = b))
  | .lss => .bool (decide (a < b))
  | .leq => .bool (decide (a ≤ b))
  | .gtr => .bool (decide (a > b))
  | .geq => .bool (decide (a ≥ b))
def intBinOk (op : BinOp) (k k' : IntKind) (_a b : Int) : Bool :=
  match op with
  | .shl | .shr => decide (0 ≤ b)
  | .quo | .rem => decide (k = k') && decide (b ≠ 0)
  | _ => decide (k = k')
def strBin (op : BinOp) (a b : ByteArray) : Value :=
  match op with
  | .add => .string (a ++ b)
  | .eql => .bool (decide (a = b))
  | .neq => .bool (!decide (a = b))
  | .lss => .bool (Op.bytesLess a.toList b.toList)
  | .leq => .bool (Op.bytesLess a.toList b.toList || decide (a = b))
  | .gtr => .bool (!(Op.bytesLess a.toList b.toList || decide (a = b)))
  | .geq => .bool (!Op.bytesLess a.toList b.toList)
  | _ => undef
def strBinOk (op : BinOp) (a b : ByteArray) : Bool :=
  match op with
  | .add => decide (a.size + b.size ≤ 9223372036854775807)
  | .eql | .neq | .lss | .leq | .gtr | .geq => true
  | _ => false
def isNilV : Value → Bool
  | .pointer none => true
  | .slice none _ _ => true
  | .nilFunc => true
  | .nilIface => true
  | _ => false
/-- 'x == y' where one of them is nil, or two bools -/
def eqV (x y : Value) : Bool :=
  match x, y with
  | .bool a, .bool b => a == b
  | x, y => isNilV x && isNilV y
def eqOk (c : TyC) (x y : Value) : Bool :=
  match c, x, y with
  | .bool, .bool _, .bool _ => true
  | .ptr, .pointer none, .pointer _ => true
  | .ptr, .pointer _, .pointer none => true
  | .slice, .slice none _ _, .slice _ _ _ => true
  | .slice, .slice _ _ _, .slice none _ _ => true
  | .fn, .nilFunc, .nilFunc => true
  | .fn, .nilFunc, .func _ _ _ => true
  | .fn, .func _ _ _, .nilFunc => true
  | _, _, _ => false
def binV (op : BinOp) (x y : Value) : Value :=
  match x, y with
  | .int k a, .int _ b => intBin op k a b
  | .string a, .string b => strBin op a b
  | x, y => match op with
    | .eql => .bool (eqV x y)
    | .neq => .bool (!eqV x y)
    | _ => undef
def binOk (op : BinOp) (c : TyC) (x y : Value) : Bool :=
  match x, y with
  | .int k a, .int k' b => intBinOk op k k' a b
  | .string a, .string b => strBinOk op a b
  | x, y => match op with
    | .eql | .neq => eqOk c x y
    | _ => false
def cellEq : Value → Value → Bool
  | .int _ a, .int _ b => decide (a = b)
  | .string a, .string b => decide (a = b)
  | .bool a, .bool b => a == b
  | _, _ => false
def cellLike : CK → Value → Value → Bool
  | .int, .int k _, .int k' _ => decide (k = k')
  | .str, .string _, .string _ => true
  | .bool, .bool _, .bool _ => true
  | _, _, _ => false
def cellsEq : List Value → List Value → Bool
  | [], [] => true
  | a :: as, b :: bs => cellEq a b && cellsEq as bs
  | _, _ => false
def cellsLike : List CK → List Value → List Value → Bool
  | [], [], [] => true
  | k :: ks, a :: as, b :: bs => cellLike k a b && cellsLike ks as bs
  | _, _, _ => false
def isAggV : Value → Bool | .agg _ => true | _ => false
def unV (op : UnOp) (x : Value) : Value :=
  match op, x with
  | .neg, .int k n => .int k (k.wrap (0 - n))
  | .not, .bool b => .bool (!b)
  | _, _ => undef
def unOk (op : UnOp) (x : Value) : Bool :=
  match op, x with
  | .neg, .int _ _ => true
  | .not, .bool _ => true
  | _, _ => false

def byteOf : Value → UInt8 | .int _ n => UInt8.ofNat n.toNat | _ => 0
def isU8 : Value → Bool | .int .u8 _ => true | _ => false
def ofBytes (s : ByteArray) : List Value := s.data.toList.map fun b => .int .u8 b.toNat
def toBytes (cs : List Value) : ByteArray := ⟨(cs.map byteOf).toArray⟩

def optI (σ : Slots) (x : Option Operand) (dflt : Int) : Int := match x with | some o => asI (ev σ o) | none => dflt
def optOk (σ : Slots) (x : Option Operand) : Bool := match x with | some o => isI (ev σ o) | none => true
def isStr : Value → Bool | .string _ => true | _ => false
def isSl : Value → Bool | .slice _ _ _ => true | _ => false
def isPtr : Value → Bool | .pointer (some _) => true | _ => false
def ptrAdd (v : Value) (n : Nat) : Value :=
  match v with
  | .pointer (some a) => .pointer (some ⟨a.block, a.off + n, none⟩)
  | _ => undef
def ptrPlain : Value → Bool | .pointer (some a) => a.spot.isNone | _ => false
def zqv (v : Value) (z l h : Nat) : Value :=
  match v with
  | .slice (some a) _ c => .slice (some ⟨a.block, a.off + l * z, none⟩) (h - l) c
  | _ => .slice none 0 0
def zqs (z : Nat) : Value → Bool
  | .slice none l c => l == 0 && c == 0
  | .slice (some a) _ c => a.spot.isNone && c == z
  | _ => false
def arrSl (v : Value) (z n : Nat) : Value :=
  match v with
  | .pointer (some a) => .slice (some ⟨a.block, a.off, none⟩) n z
  | _ => .slice none 0 0
def zqt (v : Value) (z : Nat) (i : Int) : Value :=
  match v with
  | .slice (some a) _ _ => .pointer (some ⟨a.block, a.off + i.toNat * z, none⟩)
  | _ => undef
def isNotNil : Value → Bool
  | .pointer none | .nilIface | .nilFunc => false
  | .func (.method _) _ _ => false
  | _ => true
def tupAt (v : Value) (i : Nat) : Value := match v with | .tuple vs => vs.toList.getD i undef | _ => undef
def tupOk (v : Value) (i : Nat) : Bool := match v with | .tuple vs => decide (i < vs.toList.length) | _ => false
def fieldV (ag : Bool) (off n : Nat) (v : Value) : Value :=
  match v with
  | .agg cs => if ag then .agg ((cs.toList.drop off).take n).toArray else cs.toList.getD off undef
  | _ => undef
def fieldOk (off n : Nat) (v : Value) : Bool := match v with | .agg cs => decide (off + n ≤ cs.toList.length) | _ => false
def minI (a b : Value) : Value := match a, b with | .int k x, .int _ y => .int k (if y < x then y else x) | _, _ => undef
def maxI (a b : Value) : Value := match a, b with | .int k x, .int _ y => .int k (if y > x then y else x) | _, _ => undef
def partsOk (cs : List Value) (σ : Slots) (ps : List (Nat × Nat × Operand)) : Bool :=
  ps.all fun (off, n, x) => notTup (ev σ x) && decide ((vcells (ev σ x)).length = n) && decide (off + n ≤ cs.length)
def partsV (cs : List Value) (σ : Slots) : List (Nat × Nat × Operand) → List Value
  | [] => cs
  | (off, _, x) :: r => partsV (blit cs off (vcells (ev σ x))) σ r

/-- an interface value of the dynamic type t -/
def ifOk (t : TypeId) : Value → Bool
  | .iface t' _ => decide (t' = t)
  | _ => false
def ifV : Value → Value
  | .iface _ v => v
  | _ => undef

/-! maps -/
/-- the entries of a map; those of nil are none -/
def mapOf (m : Mem) : Value → Option (List (Value × Value))
  | .map none => some []
  | .map (some b) => m.getM b
  | _ => none
def isKeyB : KK → Value → Bool
  | .int k, .int k' _ => decide (k' = k)
  | .str, .string _ => true
  | _, _ => false
def keyLike (ck : KK) (k : Value) (es : List (Value × Value)) : Bool := isKeyB ck k && es.all fun e => isKeyB ck e.1
def mget (k : Value) : List (Value × Value) → Option Value
  | [] => none
  | e :: r => if cellEq k e.1 then some e.2 else mget k r
def mset (k v : Value) : List (Value × Value) → List (Value × Value)
  | [] => [(k, v)]
  | e :: r => if cellEq k e.1 then (k, v) :: r else e :: mset k v r
def mapBlk : Value → Nat
  | .map (some b) => b
  | _ => 0

def zqu : Value → Int
  | .string s => s.size
  | .slice _ l _ => l
  | _ => 0

def IK.ok (k : IK) (σ : Slots) (m : Mem) : Bool :=
  match k with
  | .mov _ => true
  | .pick c _ _ => isB (ev σ c)
  | .nilck x => isNotNil (ev σ x)
  | .alloc _ => true
  | .box x => notTup (ev σ x)
  | .build z ps => partsOk z σ ps
  | .bslice _ _ z ps => partsOk z σ ps
  | .load ag n x => addrOk m (ev σ x) n && (ag || decide (n = 1))
  | .store n x v => addrOk m (ev σ x) n && addrOwn m (ev σ x) && notTup (ev σ v) && decide ((vcells (ev σ v)).length = n)
  | .bin op c x y => binOk op c (ev σ x) (ev σ y)
  | .eqAgg _ ks x y => isAggV (ev σ x) && isAggV (ev σ y) && cellsLike ks (vcells (ev σ x)) (vcells (ev σ y))
  | .un op x => unOk op (ev σ x)
  | .convI _ x => isI (ev σ x)
  | .convId x => isStr (ev σ x)
  | .convBS x => sliceOk m 1 (ev σ x) && (sliceCells m 1 (ev σ x)).all isU8
  | .convSB x => isStr (ev σ x) && decide ((asS (ev σ x)).size ≤ 9223372036854775807)
  | .mkslice z bytes _ l c => isI (ev σ l) && isI (ev σ c) && decide (0 ≤ asI (ev σ l)) && decide (asI (ev σ l) ≤ asI (ev σ c)) && decide (asI (ev σ c) * (bytes : Int) ≤ 140737488355328) && decide (asI (ev σ c) ≤ 9223372036854775807) && decide (0 < z)
  | .sliceStr x lo hi => isStr (ev σ x) && optOk σ lo && optOk σ hi && decide (0 ≤ optI σ lo 0) && decide (optI σ lo 0 ≤ optI σ hi (zqu (ev σ x))) && decide (optI σ hi (zqu (ev σ x)) ≤ zqu (ev σ x))
  | .sliceS z x lo hi => zqs z (ev σ x) && optOk σ lo && optOk σ hi && decide (0 ≤ optI σ lo 0) && decide (optI σ lo 0 ≤ optI σ hi (zqu (ev σ x))) && decide (optI σ hi (zqu (ev σ x)) ≤ zqu (ev σ x))
  | .sliceM z x lo hi mx => zqs z (ev σ x) && optOk σ lo && isI (ev σ hi) && isI (ev σ mx) && decide (0 ≤ optI σ lo 0) && decide (optI σ lo 0 ≤ asI (ev σ hi)) && decide (asI (ev σ hi) ≤ asI (ev σ mx)) && decide (asI (ev σ mx) ≤ zqu (ev σ x))
  | .sliceA z n x => addrOk m (ev σ x) (n * z) && decide (n ≤ maxLen)
  | .faddr _ x => ptrPlain (ev σ x)
  | .field ag off n x => fieldOk off n (ev σ x) && (ag || decide (n = 1))
  | .iaddr z x i => zqs z (ev σ x) && isI (ev σ i) && decide (0 ≤ asI (ev σ i)) && decide (asI (ev σ i) < zqu (ev σ x))
  | .iaddrA _ len x i => ptrPlain (ev σ x) && isI (ev σ i) && decide (0 ≤ asI (ev σ i)) && decide (asI (ev σ i) < (len : Int))
  | .idxStr x i => isStr (ev σ x) && isI (ev σ i) && decide (0 ≤ asI (ev σ i)) && decide (asI (ev σ i) < zqu (ev σ x))
  | .ext i x => tupOk (ev σ x) i
  | .lenS x => isStr (ev σ x)
  | .lenV x => isSl (ev σ x)
  | .app z bytes x y => sliceOk m z (ev σ x) && sliceOwn m (ev σ x) && sliceOk m z (ev σ y) && decide (0 < z) && decide ((zqr (ev σ x) + zqr (ev σ y)) * bytes ≤ 140737488355328) && decide (zqr (ev σ x) + zqr (ev σ y) ≤ 9223372036854775807)
  | .minmax _ x xs => isI (ev σ x) && xs.all fun y => isI (ev σ y)
  | .mkfunc _ _ _ => true
  | .call _ _ => false
  | .callv _ _ => false
  | .mkif _ _ => true
  | .tass t x => ifOk t (ev σ x)
  | .icall _ _ _ => false
  | .mkmap => true
  | .mlook ck _ _ x k => match mapOf m (ev σ x) with
    | some es => keyLike ck (ev σ k) es
    | none => false
  | .mput ck x k v => match ev σ x with
    | .map (some b) => (match m.getM b with
      | some es => keyLike ck (ev σ k) es && oneC (ev σ v)
      | none => false)
    | _ => false

def IK.val (k : IK) (id : Nat) (σ : Slots) (m : Mem) : Value :=
  match k with
  | .mov x => ev σ x
  | .pick c a b => if asB (ev σ c) then ev σ a else ev σ b
  | .nilck x => ev σ x
  | .alloc _ => .pointer (some ⟨id, 0, none⟩)
  | .box _ => .pointer (some ⟨id, 0, none⟩)
  | .build z ps => .agg (partsV z σ ps).toArray
  | .bslice z n _ _ => .slice (some ⟨id, 0, none⟩) n z
  | .load ag n x => loadV m ag n (ev σ x)
  | .store _ _ _ => undef
  | .bin op _ x y => binV op (ev σ x) (ev σ y)
  | .eqAgg neg _ x y => .bool (if neg then !cellsEq (vcells (ev σ x)) (vcells (ev σ y)) else cellsEq (vcells (ev σ x)) (vcells (ev σ y)))
  | .un op x => unV op (ev σ x)
  | .convI k x => .int k (k.wrap (asI (ev σ x)))
  | .convId x => ev σ x
  | .convBS x => .string (toBytes (sliceCells m 1 (ev σ x)))
  | .convSB x => .slice (some ⟨id, 0, none⟩) (asS (ev σ x)).size 1
  | .mkslice z _ _ l _ => .slice (some ⟨id, 0, none⟩) (asI (ev σ l)).toNat z
  | .sliceStr x lo hi => .string ((asS (ev σ x)).extract (optI σ lo 0).toNat (optI σ hi (zqu (ev σ x))).toNat)
  | .sliceS z x lo hi => zqv (ev σ x) z (optI σ lo 0).toNat (optI σ hi (zqu (ev σ x))).toNat
  | .sliceM z x lo hi _ => zqv (ev σ x) z (optI σ lo 0).toNat (asI (ev σ hi)).toNat
  | .sliceA z n x => arrSl (ev σ x) z n
  | .faddr off x => ptrAdd (ev σ x) off
  | .field ag off n x => fieldV ag off n (ev σ x)
  | .iaddr z x i => zqt (ev σ x) z (asI (ev σ i))
  | .iaddrA z _ x i => ptrAdd (ev σ x) ((asI (ev σ i)).toNat * z)
  | .idxStr x i => .int .u8 (((asS (ev σ x)).data.toList.getD (asI (ev σ i)).toNat 0).toNat : Nat)
  | .ext i x => tupAt (ev σ x) i
  | .lenS x => .int .i64 (zqu (ev σ x))
  | .lenV x => .int .i64 (zqu (ev σ x))
  | .app z _ x y => if zqr (ev σ y) = 0 then ev σ x else .slice (some ⟨id, 0, none⟩) (zqr (ev σ x) + zqr (ev σ y)) z
  | .minmax mx x xs => xs.foldl (fun acc y => if mx then maxI acc (ev σ y) else minI acc (ev σ y)) (ev σ x)
  | .mkfunc fn first caps => .func fn (first.map (ev σ)).toArray (caps.map (ev σ)).toArray
  | .call _ _ => undef
  | .callv _ _ => undef
  | .mkif t x => .iface t (ev σ x)
  | .tass _ x => ifV (ev σ x)
  | .icall _ _ _ => undef
  | .mkmap => .map (some id)
  | .mlook _ zero ok x k =>
    let r := (mapOf m (ev σ x)).bind (mget (ev σ k))
    if ok then .tuple #[r.getD zero, .bool r.isSome] else r.getD zero
  | .mput _ _ _ _ => undef

def IK.mem (k : IK) (id : Nat) (σ : Slots) (m : Mem) : Mem :=
  match k with
  | .alloc z => m.put id (some ⟨z, true⟩)
  | .box x => m.put id (some ⟨vcells (ev σ x), true⟩)
  | .bslice _ _ z ps => m.put id (some ⟨partsV z σ ps, true⟩)
  | .store _ x v => storeM m (ev σ x) (vcells (ev σ v))
  | .convSB x => m.put id (some ⟨ofBytes (asS (ev σ x)), true⟩)
  | .mkslice _ _ zero l _ => m.put id (some ⟨(List.replicate (asI (ev σ l)).toNat zero).flatten, true⟩)
  | .app z _ x y => if zqr (ev σ y) = 0 then m else (kill m (ev σ x)).put id (some ⟨sliceCells m z (ev σ x) ++ sliceCells m z (ev σ y), true⟩)
  | .mkmap => m.putM id []
  | .mput _ x k v => m.putM (mapBlk (ev σ x)) (mset (ev σ k) (ev σ v) ((m.getM (mapBlk (ev σ x))).getD []))
  | _ => m

/-- two operands whose blocks may not be one (draw regions) -/
def ckOk (σ : Slots) (ck : List (Operand × Operand)) : Bool :=
  ck.all fun (x, y) => match blkOf (ev σ x), blkOf (ev σ y) with
    | some a, some b => a != b
    | _, _ => true
/-- the blocks that a call may not change (draw regions) -/
def keepOk (σ : Slots) (ck : List (Operand × Operand)) (m m' : Mem) : Prop :=
  ∀ p ∈ ck, ∀ b, blkOf (ev σ p.1) = some b → m'.get b = m.get b

abbrev Callee := Nat → List Value → Mem → Option (Value × Mem)

/-- the call that an operation makes -/
def IK.callee (k : IK) (σ : Slots) (m : Mem) : Option (Nat × List Value) :=
  match k with
  | .icall rows x args => match ev σ x with
    | .iface t v => match rows.find? (fun r => r.1 == t) with
      | some (_, f, none) => some (f, v :: args.map (ev σ))
      | some (_, f, some (ag, n)) => if addrOk m v n && (ag || decide (n = 1)) then some (f, loadV m ag n v :: args.map (ev σ)) else none
      | none => none
    | _ => none
  | .call f args => some (f, args.map (ev σ))
  | .callv x args => match ev σ x with
    | .func (.func f) first caps => some (f, first.toList ++ args.map (ev σ) ++ caps.toList)
    | _ => none
  | _ => none

def wantedI (σ : Slots) : Option (Nat × Bool) → Bool
  | none => true
  | some (t, b) => match σ t with | .bool c => c == b | _ => false

/-- one operation; its alloc's name is 'base + ix' -/
noncomputable def stepOp (cl : Callee) (base : Nat) (o : IOp) (σ : Slots) (m : Mem) : Option (Slots × Mem) :=
  if wantedI σ o.g then
    match o.k.callee σ m with
    | some (f, args) => match cl f args m with
      | some (v, m') => some (putD σ o.d v, m')
      | none => none
    | none => if o.k.ok σ m then some (putD σ o.d (o.k.val (base + o.ix) σ m), o.k.mem (base + o.ix) σ m) else none
  else some (putD σ o.d undef, m)

/-- what is asked beside it in a draw region -/
def ckProp (o : IOp) (σ : Slots) (m m' : Mem) : Prop :=
  wantedI σ o.g = true → match o.k.callee σ m with
    | some _ => keepOk σ o.ck m m'
    | none => ckOk σ o.ck = true

open Classical in
noncomputable def runOps (cl : Callee) (base : Nat) : List IOp → Slots → Mem → Option (Slots × Mem)
  | [], σ, m => some (σ, m)
  | o :: rest, σ, m => match stepOp cl base o σ m with
    | some (σ', m') => if ckProp o σ m m' then runOps cl base rest σ' m' else none
    | none => none

def IK.isAlloc : IK → Bool
  | .alloc _ | .box _ | .bslice _ _ _ _ | .convSB _ | .mkslice _ _ _ _ _ | .app _ _ _ _ | .mkmap => true
  | _ => false
def IK.isMap : IK → Bool
  | .mkmap | .mlook _ _ _ _ _ | .mput _ _ _ _ => true
  | _ => false
/-- names are handed out where memory is made -/
def regBump (ops : List IOp) (m : Mem) : Mem := if ops.any (fun o => o.k.isAlloc) then m.bump ops.length else m

/-- the slice reaches to the end of its block -/
def tight (z : Nat) (m : Mem) : Value → Bool
  | .slice (some a) l _ => (match m.get a.block with | some b => decide (b.cells.length = a.off + l * z) | none => false)
  | _ => true
/-- an append behind which the old slice is read: what follows runs in a memory that nobody may write -/
def lateOk (o : IOp) (σ : Slots) (m : Mem) : Bool := o.g.isNone && (match o.k with | .app z _ x _ => tight z m (ev σ x) | _ => false) && o.k.ok σ m
def icyB (x : Blk) : Blk := ⟨x.cells, false⟩
def icy (m : Mem) : Mem := ⟨m.next, fun b => (m.blk b).map icyB, fun _ => none⟩

/-- a loop's rounds -/
def iter (f : Slots → Mem → Option (IExit × Slots × Mem)) : Nat → Slots → Mem → Option (IExit × Slots × Mem)
  | 0, _, _ => none
  | n + 1, σ, m => match f σ m with
    | some (.normal, σ', m') => iter f n σ' m'
    | r => r

noncomputable def exec (cl : Callee) (n : Nat) : ICode → Slots → Mem → Option (IExit × Slots × Mem)
  | .skip, σ, m => some (.normal, σ, m)
  | .region ops, σ, m => match runOps cl m.next ops σ (regBump ops m) with
    | some (σ', m') => some (.normal, σ', m')
    | none => none
  | .late pre o rest, σ, m => match runOps cl m.next pre σ (m.bump (pre.length + (rest.length + 1))) with
    | some (σ1, m1) => if lateOk o σ1 m1 then
        (match runOps cl m.next rest (putD σ1 o.d (o.k.val (m.next + o.ix) σ1 m1)) (icy m1) with
        | some (σ2, m2) => some (.normal, σ2, (o.k.mem (m.next + o.ix) σ1 m1).bump (m2.next - m1.next))
        | none => none)
      else none
    | none => none
  | .seq a b, σ, m => match exec cl n a σ m with
    | some (.normal, σ', m') => exec cl n b σ' m'
    | r => r
  | .cond c a b, σ, m => if isB (ev σ c) then (if asB (ev σ c) then exec cl n a σ m else exec cl n b σ m) else none
  | .block id c, σ, m => match exec cl n c σ m with
    | some (.exit id', σ', m') => if id' = id then some (.normal, σ', m') else some (.exit id', σ', m')
    | r => r
  | .loop c, σ, m => iter (exec cl n c) n σ m
  | .exit id, σ, m => some (.exit id, σ, m)
  | .ret, σ, m => some (.ret, σ, m)

def resOk (m : Mem) (σ : Slots) : IRes → Bool
  | .tmp _ => true
  | .cell t ag n => addrOk m (σ t) n && (ag || decide (n = 1))
def resV (m : Mem) (σ : Slots) : IRes → Value
  | .tmp t => σ t
  | .cell t ag n => loadV m ag n (σ t)
def retOk (m : Mem) (σ : Slots) (rs : List IRes) : Bool := rs.all (resOk m σ)
def retV (m : Mem) (σ : Slots) : List IRes → Value
  | [r] => resV m σ r
  | rs => .tuple (rs.map (resV m σ)).toArray

def initσ (args : List Value) : Slots := fun t => args.getD t undef

/-! ### From the model's code -/

def tySize (P : Program) (t : TypeId) : Option Nat := (P.info? t).map (·.size)
def tyZero (P : Program) (t : TypeId) : Option (List Value) :=
  match P.info? t with
  | some i => match i.zero with
    | some z => let cs := z.cells.toList
      if cs.all flat1 && decide (cs.length = i.size) then some cs else none
    | none => none
  | none => none
def tyAgg (P : Program) (t : TypeId) : Option Bool :=
  match P.underlying t with
  | some (.struct _) => some true
  | some (.array _ _) => some true
  | some _ => some false
  | none => none
def tyC (P : Program) (t : TypeId) : TyC :=
  match P.underlying t with
  | some .bool => .bool
  | some (.pointer _) => .ptr
  | some (.slice _) => .slice
  | some (.func _ _ _) => .fn
  | some (.interface _) => .iface
  | some (.struct _) => .agg
  | some (.array _ _) => .agg
  | _ => .other

def argOk : Operand → Bool
  | .tmp _ => true
  | .const v => flatV v
  | .func _ => true
  | .global _ => false
def optArgOk : Option Operand → Bool
  | some x => argOk x
  | none => true

/-- the kinds of a struct's cells, if it is made of integers, strings and bools alone, with no blank field -/
def eqFieldsW (e : TypeId → Option (List CK)) : List Field → Nat → Option (List CK)
  | [], _ => some []
  | f :: r, off => if f.name != "_" && f.offset == off then
      (match e f.type with
       | some ks => match eqFieldsW e r (off + ks.length) with
         | some rest => if ks.length = 0 then none else some (ks ++ rest)
         | none => none
       | none => none)
    else none
def eqFlat (P : Program) : Nat → TypeId → Option (List CK)
  | 0, _ => none
  | d + 1, t => match P.underlying t, tySize P t with
    | some .bool, some n => if n = 1 then some [.bool] else none
    | some (.int _), some n => if n = 1 then some [.int] else none
    | some .string, some n => if n = 1 then some [.str] else none
    | some (.struct fs), some n => match eqFieldsW (eqFlat P d) fs.toList 0 with
      | some ks => if decide (n = ks.length) && !P.stoodInHeld t then some ks else none
      | none => none
    | some (.array k e), some n => match eqFlat P d e with
      | some ks => if decide (n = k * ks.length) && decide (0 < ks.length) then some (List.replicate k ks).flatten else none
      | none => none
    | _, _ => none

def guard (b : Bool) : Option Unit := if b then some () else none

def fieldParts (P : Program) (fs : Array Field) : List (Nat × Operand) → Option (List (Nat × Nat × Operand))
  | [] => some []
  | (i, x) :: r => match fs[i]? with
    | some f => match tySize P f.type, fieldParts P fs r with
      | some n, some ps => if argOk x then some ((f.offset, n, x) :: ps) else none
      | _, _ => none
    | none => none
def elemParts (z : Nat) : List (Nat × Operand) → Option (List (Nat × Nat × Operand))
  | [] => some []
  | (i, x) :: r => match elemParts z r with
    | some ps => if argOk x then some ((i * z, z, x) :: ps) else none
    | none => none

/-- the method of a type: its function, and whether its receiver is read behind the pointer -/
def mRow (P : Program) (name : String) (t : TypeId) : Option (TypeId × Nat × Option (Bool × Nat)) :=
  match P.info? t with
  | some i => match i.methods.find? (·.name == name) with
    | some mt => if mt.path.isEmpty then (match mt.func with
      | some (f, pr) => match P.underlying t, pr with
        | some (.pointer _), true => some (t, f, none)
        | some (.pointer e), false => match tyAgg P e, tySize P e with
          | some ag, some n => some (t, f, some (ag, n))
          | _, _ => none
        | _, _ => none
      | none => none) else none
    | none => none
  | none => none
def mRows (P : Program) (name : String) : List (TypeId × Nat × Option (Bool × Nat)) := (List.range P.types.size).filterMap (mRow P name)

/-- a type's zero, of one cell in which no address lies -/
def tyZero1 (P : Program) (t : TypeId) : Option Value :=
  match P.info? t with
  | some i => match i.zero with
    | some z => if flat1 z then some z else none
    | none => none
  | none => none
/-- the kind of a map's keys -/
def ckOfTy (P : Program) (t : TypeId) : Option KK :=
  match P.underlying t with
  | some (.int k) => some (.int k)
  | some .string => some .str
  | _ => none
def cCall (P : Program) (c : Call) : Option IK :=
  match c.callee with
  | .invoke (.tmp t) name => if c.args.toList.all argOk then some (.icall (mRows P name) (.tmp t) c.args.toList) else none
  | .value (.func f) => match P.funcs[f]? with
    | some fn => if fn.body.isSome && !(fn.name == "runtime.NumGoroutine") && c.args.toList.all argOk then some (.call f c.args.toList) else none
    | none => none
  | .value (.tmp t) => if c.args.toList.all argOk then some (.callv (.tmp t) c.args.toList) else none
  | .builtin .len => match c.args.toList, c.argTypes.toList with
    | [x], [t] => match P.underlying t with
      | some .string => if argOk x then some (.lenS x) else none
      | some (.slice _) => if argOk x then some (.lenV x) else none
      | _ => none
    | _, _ => none
  | .builtin .append => match c.args.toList, c.argTypes.toList with
    | [x, y], [t, u] => match P.underlying t with
      | some (.slice e) => match P.info? e with
        | some i => if t = u && argOk x && argOk y && (tyZero P e).isSome then some (.app i.size i.bytes x y) else none
        | none => none
      | _ => none
    | _, _ => none
  | .builtin .min => match c.args.toList with
    | x :: xs => if argOk x && xs.all argOk then some (.minmax false x xs) else none
    | [] => none
  | .builtin .max => match c.args.toList with
    | x :: xs => if argOk x && xs.all argOk then some (.minmax true x xs) else none
    | [] => none
  | _ => none

def cKind0 (P : Program) (o : Oper) : Option IK :=
  match o.op with
  | .move x => if argOk x then some (.mov x) else none
  | .assign x => if argOk x then some (.mov x) else none
  | .pick c a b => if argOk c && argOk a && argOk b then some (.pick c a b) else none
  | .nilCheck x => if argOk x then some (.nilck x) else none
  | .alloc e => match tyZero P e with
    | some z => some (.alloc z)
    | none => none
  | .box _ x => if argOk x then some (.box x) else none
  | .build t ps => match P.underlying t, tyZero P t with
    | some (.struct fs), some z => match fieldParts P fs ps.toList with
      | some qs => if (fs.toList.all fun f => (tySize P f.type).isSome) then some (.build z qs) else none
      | none => none
    | some (.array _ e), some z => match tySize P e with
      | some n => match elemParts n ps.toList with
        | some qs => some (.build z qs)
        | none => none
      | none => none
    | _, _ => none
  | .buildSlice t n ps => match P.underlying t with
    | some (.slice e) => match tyZero P e with
      | some z => match elemParts z.length ps.toList with
        | some qs => if 0 < z.length && n * z.length ≤ 16777216 then some (.bslice z.length n (List.replicate n z).flatten qs) else none
        | none => none
      | none => none
    | _ => none
  | .load t x => match tyAgg P t, tySize P t with
    | some a, some n => if argOk x then some (.load a n x) else none
    | _, _ => none
  | .store t x v => match tySize P t with
    | some n => if argOk x && argOk v then some (.store n x v) else none
    | none => none
  | .binOp op t x y _ =>
    if argOk x && argOk y then
      (if tyC P t = .agg then
        (match op, eqFlat P 8 t with
         | .eql, some ks => if !P.eqGuardType P.depth t then some (.eqAgg false ks x y) else none
         | .neq, some ks => if !P.eqGuardType P.depth t then some (.eqAgg true ks x y) else none
         | _, _ => none)
      else some (.bin op (tyC P t) x y))
    else none
  | .unOp op _ x => if argOk x then some (.un op x) else none
  | .convert s d x => match P.underlying s, P.underlying d with
    | some (.int _), some (.int k) => if argOk x then some (.convI k x) else none
    | some .string, some .string => if argOk x then some (.convId x) else none
    | some (.slice e), some .string => match P.underlying e with
      | some (.int .u8) => if argOk x then some (.convBS x) else none
      | _ => none
    | some .string, some (.slice e) => match P.underlying e with
      | some (.int .u8) => if argOk x then some (.convSB x) else none
      | _ => none
    | _, _ => none
  | .makeSlice t l c => match P.underlying t with
    | some (.slice e) => match tyZero P e, P.info? e with
      | some z, some i => if argOk l && argOk c then some (.mkslice z.length i.bytes z l c) else none
      | _, _ => none
    | _ => none
  | .slice t x lo hi mx => match P.underlying t with
    | some .string => if argOk x && optArgOk lo && optArgOk hi && mx.isNone then some (.sliceStr x lo hi) else none
    | some (.slice e) => match tySize P e with
      | some z => match mx with
        | none => if argOk x && optArgOk lo && optArgOk hi then some (.sliceS z x lo hi) else none
        | some mo => match hi with
          | some ho => if argOk x && optArgOk lo && argOk ho && argOk mo then some (.sliceM z x lo ho mo) else none
          | none => none
      | none => none
    | some (.array n e) => match tySize P e with
      | some z => if argOk x && lo.isNone && hi.isNone && mx.isNone then some (.sliceA z n x) else none
      | none => none
    | _ => none
  | .fieldAddr s x i => match P.underlying s with
    | some (.struct fs) => match fs[i]? with
      | some f => match tySize P f.type with
        | some n => if argOk x && 0 < n then some (.faddr f.offset x) else none
        | none => none
      | none => none
    | _ => none
  | .field t x i => match P.underlying t with
    | some (.struct fs) => match fs[i]? with
      | some f => match tyAgg P f.type, tySize P f.type with
        | some a, some n => if argOk x then some (.field a f.offset n x) else none
        | _, _ => none
      | none => none
    | _ => none
  | .indexAddr t x i => match P.underlying t with
    | some (.slice e) => match tySize P e with
      | some z => if argOk x && argOk i then some (.iaddr z x i) else none
      | none => none
    | some (.array len e) => match tySize P e with
      | some z => if argOk x && argOk i then some (.iaddrA z len x i) else none
      | none => none
    | _ => none
  | .index t x i => match P.underlying t with
    | some .string => if argOk x && argOk i then some (.idxStr x i) else none
    | _ => none
  | .extract x i => if argOk x then some (.ext i x) else none
  | .makeInterface t x => match P.underlying t with
    | some (.interface _) => none
    | some _ => if argOk x then some (.mkif t x) else none
    | none => none
  | .typeAssert x _ t ok => match P.underlying t with
    | some (.interface _) => none
    | some _ => if argOk x && !ok then some (.tass t x) else none
    | none => none
  | .makeMap t r => match P.underlying t, r with
    | some (.map _ _), none => some .mkmap
    | _, _ => none
  | .lookup t x i ok => match P.underlying t with
    | some (.map k e) => match ckOfTy P k, tyZero1 P e with
      | some ck, some z => if argOk x && argOk i then some (.mlook ck z ok x i) else none
      | _, _ => none
    | _ => none
  | .mapUpdate t x k v => match P.underlying t with
    | some (.map kt _) => match ckOfTy P kt with
      | some ck => if argOk x && argOk k && argOk v then some (.mput ck x k v) else none
      | none => none
    | _ => none
  | .makeFunc fn first caps => if first.toList.all argOk && caps.toList.all argOk then some (.mkfunc fn first.toList caps.toList) else none
  | .call c => cCall P c
  | _ => none
/-- an operation that never succeeds: it stands for what has no form -/
def trapK : IK := .nilck (.const (.pointer none))
def cKind (P : Program) (o : Oper) : Option IK := match cKind0 P o with
  | some k => some k
  | none => some trapK
theorem trap_bad {σ : Slots} {m : Mem} : trapK.ok σ m = false := rfl
theorem cKind_cases {P : Program} {o : Oper} {k : IK} (h : cKind P o = some k) : cKind0 P o = some k ∨ k = trapK := by
  unfold cKind at h
  split at h
  · next k' h1 => cases h; exact .inl h1
  · cases h; exact .inr rfl

/-- the guard's slot -/
def cGuard (ops : Array Oper) (o : Oper) : Option (Option (Nat × Bool)) :=
  match o.guard with
  | none => some none
  | some (j, b) => match (ops[j]?).bind (·.dst) with
    | some t => some (some (t, b))
    | none => none

def cOne (P : Program) (ops : Array Oper) (nt : Nat) (ix : Nat) : Option IOp :=
  match ops[ix]? with
  | some o => match cKind P o, cGuard ops o with
    | some k, some g => if (o.dst.all fun d => decide (d < nt)) then some ⟨ix, o.dst, g, k, []⟩ else none
    | _, _ => none
  | none => none

def cOps (P : Program) (ops : Array Oper) (nt : Nat) : List Nat → Option (List IOp)
  | [] => some []
  | ix :: r => match cOne P ops nt ix, cOps P ops nt r with
    | some o, some rest => some (o :: rest)
    | _, _ => none

/-! ### Draw regions: an order of our own, and what must be checked -/

def IK.rd : IK → List Operand
  | .load _ _ x => [x]
  | .sliceA _ _ x => [x]
  | .store _ x _ => [x]
  | .convBS x => [x]
  | .app _ _ x y => [x, y]
  | _ => []
def IK.wro : IK → List Operand
  | .store _ x _ => [x]
  | .app _ _ x _ => [x]
  | _ => []
def IK.isCall : IK → Bool
  | .call _ _ | .callv _ _ | .icall _ _ _ => true
  | _ => false
def IK.opnds : IK → List Operand
  | .mov x | .nilck x | .box x | .load _ _ x | .un _ x | .convI _ x | .convId x | .convBS x | .convSB x | .faddr _ x | .field _ _ _ x | .ext _ x | .lenS x | .lenV x | .sliceA _ _ x => [x]
  | .pick c a b => [c, a, b]
  | .alloc _ => []
  | .build _ ps | .bslice _ _ _ ps => ps.map fun p => p.2.2
  | .store _ x v => [x, v]
  | .bin _ _ x y | .eqAgg _ _ x y | .mkslice _ _ _ x y | .iaddr _ x y | .iaddrA _ _ x y | .idxStr x y | .app _ _ x y => [x, y]
  | .sliceStr x l h | .sliceS _ x l h => x :: (l.toList ++ h.toList)
  | .sliceM _ x l h mx => x :: h :: mx :: l.toList
  | .minmax _ x xs => x :: xs
  | .mkfunc _ a b => a ++ b
  | .call _ as => as
  | .callv x as => x :: as
  | .mkif _ x | .tass _ x => [x]
  | .icall _ x as => x :: as
  | .mkmap => []
  | .mlook _ _ _ x k => [x, k]
  | .mput _ x k v => [x, k, v]
def slotsOf (l : List Operand) : List Nat := l.filterMap fun | .tmp t => some t | _ => none
def IOp.reads (o : IOp) : List Nat := slotsOf o.k.opnds ++ (match o.g with | some (t, _) => [t] | none => [])
def IOp.ckSlots (o : IOp) : List Nat := slotsOf (o.ck.map (·.1)) ++ slotsOf (o.ck.map (·.2))
def nin (l : List Nat) (d : Option Nat) : Bool := match d with | some d => !l.contains d | none => true

def dOps : Option Nat → List Operand
  | some d => [.tmp d]
  | none => []
/-- the pairs to be held apart when 'i' may come up before 'k' -/
def pairs (k i : IOp) : List (Operand × Operand) :=
  if i.k.isCall then k.k.rd.map fun x => (x, x)
  else if k.k.isCall then []
  else
    ((k.k.wro ++ (if k.k.isAlloc then dOps k.d else [])).flatMap fun x => (i.k.rd ++ i.k.wro).map fun y => (x, y))
      ++ k.k.rd.flatMap fun x => i.k.wro.map fun y => (x, y)

def compatB (k i : IOp) (btw : List Nat) : Bool :=
  !k.k.isMap && !i.k.isMap && nin (k.reads ++ k.ckSlots) i.d && nin i.reads k.d && (match k.d, i.d with | some a, some b => a != b | _, _ => true) &&
  (if i.k.isCall then !k.k.isCall && !k.k.isAlloc && k.k.wro.isEmpty && (slotsOf k.k.rd).all fun t => !btw.contains t && k.d != some t
   else if k.k.isCall then i.k.rd.isEmpty && i.k.wro.isEmpty
   else (!k.k.isAlloc || (k.d.isSome && nin btw k.d)) && (slotsOf (k.k.rd ++ k.k.wro)).all fun t => !btw.contains t && k.d != some t)

/-- which operations an operation waits for, as bits -/
def maskOf (tab : List Nat) (o : Oper) : Nat :=
  o.after.toList.foldl (fun s e => if Region.binds .any e then s ||| 2 ^ e.on ||| tab.getD e.on 0 else s) 0
def masks : List Oper → List Nat → List Nat
  | [], acc => acc
  | o :: r, acc => masks r (acc ++ [maskOf acc o])

/-- 'prev': those before it, the last one first -/
def ckOf (tab : List Nat) (i : IOp) : List IOp → List (Operand × Operand)
  | [] => []
  | k :: r => (if (tab.getD i.ix 0).testBit k.ix then [] else pairs k i) ++ ckOf tab i r
def ckB (tab : List Nat) (i : IOp) : List IOp → List Nat → Bool
  | [], _ => true
  | k :: r, btw => ((tab.getD i.ix 0).testBit k.ix || compatB k i btw) && ckB tab i r (btw ++ k.d.toList)

def topoB (ops : Array Oper) (ix : Nat) (prev : List IOp) : Bool :=
  match ops[ix]? with
  | some op => op.after.toList.all fun e => !Region.binds .any e || prev.any fun k => k.ix == e.on
  | none => false

def cDraw (P : Program) (ops : Array Oper) (nt : Nat) (tab : List Nat) : List Nat → List IOp → Option (List IOp)
  | [], _ => some []
  | ix :: r, prev => match cOne P ops nt ix with
    | some o =>
      let o' : IOp := ⟨o.ix, o.d, o.g, o.k, ckOf tab o prev⟩
      if ckB tab o' prev [] && topoB ops ix prev then
        match cDraw P ops nt tab r (o' :: prev) with
        | some rest => some (o' :: rest)
        | none => none
      else none
    | none => none

/-- what may come up early: 0; calls and stores: 1; new memory: 2 -/
def prio (o : Oper) : Nat :=
  match o.op with
  | .alloc _ | .box _ _ | .buildSlice _ _ _ | .makeSlice _ _ _ | .makeMap _ _ => 2
  | .store _ _ _ => 1
  | .convert _ _ _ => 0
  | .call { callee := .builtin .len, .. } | .call { callee := .builtin .cap, .. } | .call { callee := .builtin .min, .. } | .call { callee := .builtin .max, .. } => 0
  | .call _ => 1
  | _ => 0
def sortOps (ops : Array Oper) : Nat → List Nat → List Nat → List Nat
  | 0, _, acc => acc.reverse
  | n + 1, left, acc =>
    let rdy := left.filter fun i => ((ops[i]?).map fun o => o.after.all fun e => !Region.binds .any e || acc.contains e.on).getD false
    match (rdy.find? fun i => ((ops[i]?).map prio).getD 0 == 0).or ((rdy.find? fun i => ((ops[i]?).map prio).getD 0 == 1).or rdy.head?) with
    | some i => sortOps ops n (left.filter (· != i)) (i :: acc)
    | none => acc.reverse

def nodupB : List Nat → Bool
  | [] => true
  | x :: l => !l.contains x && nodupB l
def permB (n : Nat) (l : List Nat) : Bool := decide (l.length = n) && nodupB l && (l.all fun i => decide (i < n)) && (List.range n).all fun i => l.contains i

def sameTmp : Operand → Operand → Bool
  | .tmp a, .tmp b => a == b
  | _, _ => false
/-- what a slot is a copy of -/
def srcOf (l : List Oper) (x : Operand) : Operand :=
  match x with
  | .tmp t => (match l.find? (fun o => o.dst == some t) with
    | some o => (match o.op with
      | .move y => y
      | .assign y => y
      | _ => x)
    | none => x)
  | _ => x
/-- an append whose slice is an argument of a later call -/
def lateHint (l : List Oper) : List Oper → Bool
  | [] => false
  | o :: r => (match o.op with
      | .call c => (match c.callee, c.args.toList with
        | .builtin .append, x :: _ => r.any fun p => match p.op with
          | .call c' => (match c'.callee with
            | .builtin _ => false
            | _ => c'.args.toList.any fun y => sameTmp (srcOf l x) (srcOf l y))
          | _ => false
        | _, _ => false)
      | _ => false) || lateHint l r
def cutApp : List IOp → Option (List IOp × IOp × List IOp)
  | [] => none
  | o :: r => match o.k with
    | .app _ _ _ _ => some ([], o, r)
    | _ => (cutApp r).map fun (a, b, c) => (o :: a, b, c)
/-- each waits for all before it -/
def chainB (tab : List Nat) (n : Nat) : Bool := (List.range n).all fun j => (List.range j).all fun i => (tab.getD j 0).testBit i
def textB (ops : Array Oper) : Bool := (List.range ops.size).all fun j => match ops[j]? with
  | some o => o.after.toList.all fun e => !Region.binds .any e || decide (e.on < j)
  | none => false
def cLate (P : Program) (nt : Nat) (ops : Array Oper) (draw : Bool) : Option ICode :=
  if lateHint ops.toList ops.toList && (!draw || (textB ops && chainB (masks ops.toList []) ops.size)) then
    (match cOps P ops nt (List.range ops.size) with
    | some L => (cutApp L).map fun (a, b, c) => .late a b c
    | none => none)
  else none

def cRegion (P : Program) (nt : Nat) (ops : Array Oper) : Bool → Option ICode
  | false => match cOps P ops nt (List.range ops.size) with
    | some l => some (.region l)
    | none => none
  | true =>
    let order := sortOps ops ops.size (List.range ops.size) []
    if permB ops.size order then
      match cDraw P ops nt (masks ops.toList []) order [] with
      | some l => some (.region l)
      | none => none
    else none

def cCode (P : Program) (nt : Nat) : Code → Option ICode
  | .skip => some .skip
  | .region _ ops draw => match cLate P nt ops draw with
    | some c => some c
    | none => cRegion P nt ops draw
  | .seq a b => match cCode P nt a, cCode P nt b with
    | some x, some y => some (.seq x y)
    | _, _ => none
  | .cond c a b => match cCode P nt a, cCode P nt b with
    | some x, some y => if argOk c then some (.cond c x y) else none
    | _, _ => none
  | .block id c => match cCode P nt c with
    | some x => some (.block id x)
    | none => none
  | .loop c => match cCode P nt c with
    | some x => some (.loop x)
    | none => none
  | .exit id => some (.exit id)
  | .ret => some .ret
  | _ => none

def cRes (P : Program) (nt : Nat) : List ResultVar → Option (List IRes)
  | [] => some []
  | .tmp t :: r => match cRes P nt r with
    | some l => if t < nt then some (.tmp t :: l) else none
    | none => none
  | .cell a t :: r => match tyAgg P t, tySize P t, cRes P nt r with
    | some ag, some n, some l => if a < nt then some (.cell a ag n :: l) else none
    | _, _, _ => none

def cFunc (P : Program) (f : Nat) : Option IFunc :=
  match P.funcs[f]? with
  | some fn => if fn.name == "runtime.NumGoroutine" then none else match fn.body with
    | some c => match cCode P fn.ntmps c, cRes P fn.ntmps fn.results.toList with
      | some b, some rs => some ⟨fn.ntmps, rs, b⟩
      | _, _ => none
    | none => none
  | none => none

noncomputable def callF (P : Program) : Nat → Callee
  | 0, _, _, _ => none
  | n + 1, f, args, m => match cFunc P f with
    | some F => if args.length ≤ F.nt then
        (match exec (callF P n) n F.body (initσ args) m with
        | some (.exit _, _, _) => none
        | some (_, σ', m') => if retOk m' σ' F.res then some (retV m' σ' F.res, m') else none
        | none => none)
      else none
    | none => none

end Go.DI
