/-
  A part of the proof of the statement, in texts that tools of ours (wip/shrink.py, irpack.py, relax.py, minify.py, join.py, lay.py) have shortened.
-/
import Derived.WalkKit
set_option linter.all false
set_option maxRecDepth 8000
set_option maxHeartbeats 16000000
namespace Go
abbrev a1:= @Bool.and_eq_true
abbrev cD:= @List.getElem?_eq_getElem
abbrev dO:= @List.getElem?_eq_some_iff
abbrev e2:= @decide_eq_true_eq
abbrev eQ:= @List.all_eq_true
abbrev gJ:= @List.mem_of_getElem?
abbrev ey:= @Nat.le_refl
abbrev jS:= @Int.eq_ofNat_of_zero_le
abbrev jT:= @List.take_of_length_le
abbrev la:= @List.getD_eq_getElem?_getD
abbrev hH:= @List.mem_cons
abbrev hn:= @List.mem_map
abbrev j4:= @List.getElem_of_mem
abbrev jm:= @List.not_mem_nil
abbrev ht:= @Nat.zero_le
abbrev kB:= @Bool.false_eq_true
abbrev jQ:= @List.getElem_mem
abbrev kT:= @List.length_append
abbrev l7:= @List.mem_append_right
abbrev j5:= @List.length_map
abbrev kk:= @List.mem_append
abbrev mN:= @List.mem_append_left
abbrev lV:= @Option.some.injEq
abbrev qu:= @List.length_eq_zero_iff
abbrev kC:= @Nat.le_trans
abbrev sf:= @List.getElem?_append_left
abbrev nk:= @List.take_length
abbrev qv:= @List.getElem?_eq_none
abbrev s4:= @List.getElem?_append_right
abbrev rh:= @Option.map_eq_some_iff
abbrev ot:= @Int.toNat_natCast
abbrev nU:= @List.length_take
abbrev qw:= @Array.toArray_toList
abbrev oY:= @List.flatten_cons
abbrev oZ:= @List.getElem?_map
abbrev pH:= @Nat.lt_of_lt_of_le
abbrev uC:= @Array.getElem?_eq_some_iff
abbrev ri:= @Nat.mul_le_mul_right
abbrev ly:= @Nat.add_mul
abbrev mO:= @List.map_cons
abbrev nm:= @List.all_cons
abbrev pI:= @List.length_cons
abbrev ou:= @List.mem_range
abbrev rj:= @List.mem_singleton
abbrev jR:= @Eq.trans
abbrev pJ:= @Nat.add_assoc
abbrev xH:= @List.getElem?_cons_succ
abbrev s5:= @List.getElem?_set
abbrev kl:= @Iff.rfl
abbrev B2:= @List.eq_nil_of_length_eq_zero
abbrev zA:= @Array.getElem?_eq_getElem
abbrev zB:= @Option.isNone_iff_eq_none
abbrev uD:= @List.mem_filterMap
abbrev uE:= @Bool.not_eq_true'
abbrev s6:= @List.all_append
abbrev s7:= @List.cons.injEq
abbrev xI:= @List.getElem?_append
abbrev vT:= @List.getElem?_take
abbrev xJ:= @List.mem_of_mem_take
abbrev uF:= @List.mem_flatMap
abbrev B3:= @List.pairwise_iff_getElem
abbrev vU:= @List.nodup_append
abbrev zC:= @Bool.and_eq_false_iff
abbrev uG:= @Bool.or_eq_true
abbrev uH:= @List.nil_append
abbrev s8:= @Bool.true_and
abbrev zD:= @List.map_congr_left
abbrev vV:= @List.map_append
abbrev xK:= @List.cons_append
abbrev zE:= @List.getElem?_drop
abbrev B4:= @List.mem_cons_of_mem
abbrev B5:= @List.mem_of_mem_drop
abbrev zF:= @List.all_eq_false
abbrev xL:= @List.foldl_cons
abbrev xM:= @List.length_nil
abbrev xN:= @Nat.not_lt_zero
abbrev Pe:= @List.findIdx?_eq_some_iff_getElem
abbrev Jt:= @Array.getElem?_append_left
abbrev zG:= @Option.getD_some
abbrev EW:= @Array.getElem?_toList
abbrev Ju:= @List.mem_or_eq_of_mem_set
abbrev Pf:= @List.isEmpty_iff_length_eq_zero
abbrev Jv:= @Option.isSome_iff_exists
abbrev zH:= @decide_eq_false
abbrev xO:= @Prod.mk.injEq
abbrev B6:= @Array.toList_inj
abbrev zI:= @Bool.and_assoc
abbrev zJ:= @List.drop_drop
abbrev xP:= @List.map_nil
abbrev B7:= @List.append_nil
abbrev EX:= @List.append_assoc
abbrev EY:= @List.ext_getElem?
abbrev Pg:= @List.drop_eq_getElem_cons
abbrev Ph:= @List.findIdx?_eq_none_iff
abbrev Jw:= @Array.getElem?_push
abbrev Jx:= @List.replicate_succ
end Go
namespace Go.DI
open Go
abbrev aR:=Nat->Value
structure fB where
  cells:List Value
  own:Bool
structure W where
  next:Nat
  gV:Nat->Option fB
  mp:Nat->Option (List (Value×Value))
def W.X(m:W)(b:Nat):Option fB:=if b<m.next then m.gV b else none
def W.a0(m:W)(b:Nat)(x:Option fB):W:=⟨m.next,λi=>if i=b then x else m.gV i,m.mp⟩
def W.cf(m:W)(k:Nat):W:=⟨m.next+k,λi=>if i<m.next then m.gV i else none,m.mp⟩
def W.eS(m:W)(b:Nat):Option (List (Value×Value)):=match m.X b with
  |some ⟨[],true⟩=>m.mp b
  |_=>none
def W.g2(m:W)(b:Nat)(bc:List (Value×Value)):W:=⟨m.next,λi=>if i=b then some ⟨[],true⟩else m.gV i,λi=>if i=b then some bc else m.mp i⟩
def qt(A:aR)(d:Nat)(v:Value):aR:= λt=>if t=d then v else A t
def dc(A:aR)(d:Option Nat)(v:Value):aR:=match d with|some d=>qt A d v|none=>A
def Z(A:aR):Operand->Value
  | .tmp t=>A t
  | .const v=>v
  | .func f=> .func (.func f) #[] #[]
  | .global _=>undef
def uM:Value->Bool| .bool b=>b|_=>false
def sK:Value->Bool| .bool _=>true|_=>false
def eZ:Value->Int| .int _ n=>n|_=>0
def e4:Value->Bool| .int _ _=>true|_=>false
def qB:Value->ByteArray| .string s=>s|_=> .empty
def O:Value->List Value| .agg cs=>cs.toList|v=>[v]
def gL:List Value->Nat->List Value->List Value
  |cs,_,[]=>cs
  |cs,off,v::cz=>gL (cs.set off v) (off+1) cz
def N:Value->Option Nat
  | .pointer (some a)=>some a.block
  | .slice (some a) _ _=>some a.block
  | .map (some b)=>some b
  |_=>none
def dZ:Value->Bool
  | .bool _| .int _ _| .float _ _| .complex _ _ _| .string _| .pointer none| .map none| .chan none| .nilFunc| .nilIface=>true
  | .slice none l c=>l==0&&c==0
  |_=>false
def mV:Value->Bool
  | .agg cs=>cs.toList.all dZ
  | .tuple cs=>cs.toList.all dZ
  |v=>dZ v
def S:Value->Bool
  | .agg _| .tuple _=>false
  |_=>true
def U:Value->Bool
  | .tuple _=>false
  |_=>true
inductive td where
  |bool|cw|slice|fn|iface|agg|fW
  deriving DecidableEq
inductive pK where
  |int|str|bool
  deriving DecidableEq
inductive kD where
  |int (k:IntKind)|str
  deriving DecidableEq
inductive ag where
  |mq (x:Operand)
  |sQ (c a b:Operand)
  |qe (x:Operand)
  |c9 (zero:List Value)
  |mz (x:Operand)
  |fF (zero:List Value) (aBs:List (Nat×Nat×Operand))
  |gM (J n:Nat) (zero:List Value) (aBs:List (Nat×Nat×Operand))
  |k5 (dp:Bool) (n:Nat) (x:Operand)
  |store (n:Nat) (x v:Operand)
  |e8 (op:BinOp) (c:td) (x y:Operand)
  |wy (kh:Bool) (gQ:List pK) (x y:Operand)
  |qs (op:UnOp) (x:Operand)
  |si (k:IntKind) (x:Operand)
  |Cq (x:Operand)
  |mT (x:Operand)
  |nX (x:Operand)
  |kN (J bytes:Nat) (zero:List Value) (l c:Operand)
  |BT (x:Operand) (cB ai:Option Operand)
  |nO (J:Nat) (x:Operand) (cB ai:Option Operand)
  |vK (J:Nat) (x:Operand) (cB:Option Operand) (ai fr:Operand)
  |pC (J n:Nat) (x:Operand)
  |so (off:Nat) (x:Operand)
  |field (dp:Bool) (off n:Nat) (x:Operand)
  |oH (J:Nat) (x i:Operand)
  |ph (J len:Nat) (x i:Operand)
  |tL (x i:Operand)
  |ext (i:Nat) (x:Operand)
  |sL (x:Operand)
  |sM (x:Operand)
  |app (J bytes:Nat) (x y:Operand)
  |Cm (x:Operand)
  |np (J bytes:Nat) (zero:List Value) (x n:Operand)
  |hv (zero:List Value) (x:Operand)
  |pq (fr:Bool) (x:Operand) (xs:List Operand)
  |ub (fn:Fn) (first mA:List Operand)
  |dY (f:Nat) (args:List Operand)
  |iN (x:Operand) (args:List Operand)
  |vu (t:TypeId) (x:Operand)
  |zr (t:TypeId) (x:Operand)
  |iR (bh:List (TypeId×Nat×Option (Bool×Nat))) (x:Operand) (args:List Operand)
  |m6
  |m7 (a9:kD) (zero:Value) (ok:Bool) (x k:Operand)
  |l3 (a9:kD) (x k v:Operand)
structure bp where
  aS:Nat
  d:Option Nat
  g:Option (Nat×Bool)
  k:ag
  a9:List (Operand×Operand)
inductive ld where
  |bw (t:Nat)
  |im (t:Nat) (dp:Bool) (n:Nat)
inductive H where
  |skip
  |D (ops:List bp)
  |q0 (bX:List bp) (o:bp) (b4:List bp)
  |B (a b:H)
  |aM (c:Operand) (a b:H)
  |block (id:Nat) (c:H)
  |loop (c:H)
  |a7 (id:Nat)
  |aF
structure bM where
  cZ:Nat
  jA:List ld
  body:H
inductive dA where
  |ew
  |a7 (id:Nat)
  |aF
  deriving DecidableEq
def gD(m:W)(v:Value)(n:Nat):Bool:=
  match v with
  | .pointer (some a)=>a.spot.isNone&&(match m.X a.block with|some x=>decide (a.off+n<=x.cells.length)|none=>false)
  |_=>false
def pT(m:W)(v:Value):Bool:=
  match v with
  | .pointer (some a)=>(match m.X a.block with|some x=>x.own|none=>false)
  |_=>false
def hP(m:W)(b off n:Nat):List Value:=
  match m.X b with
  |some x=>(x.cells.drop off).take n
  |none=>[]
def kM(m:W)(dp:Bool)(n:Nat)(v:Value):Value:=
  match v with
  | .pointer (some a)=>if dp then .agg (hP m a.block a.off n).toArray else(hP m a.block a.off 1).headD undef
  |_=>undef
def nP(m:W)(v:Value)(cs:List Value):W:=
  match v with
  | .pointer (some a)=>(match m.X a.block with|some x=>m.a0 a.block (some ⟨gL x.cells a.off cs,x.own⟩)|none=>m)
  |_=>m
def fS(m:W)(J:Nat)(v:Value):Bool:=
  match v with
  | .slice none l c=>l==0&&c==0
  | .slice (some a) l c=>a.spot.isNone&&c==J&&(match m.X a.block with|some x=>decide (a.off+l*J<=x.cells.length)|none=>false)
  |_=>false
def kj(m:W)(v:Value):Bool:=
  match v with
  | .slice none _ _=>true
  | .slice (some a) _ _=>(match m.X a.block with|some x=>x.own|none=>false)
  |_=>false
def gI:Value->Nat
  | .slice _ l _=>l
  |_=>0
def gj(m:W)(J:Nat)(v:Value):List Value:=
  match v with
  | .slice (some a) l _=>hP m a.block a.off (l*J)
  |_=>[]
def Nk:Value->Bool
  | .slice none l c=>l==0&&c==0
  |_=>false
theorem Nl{v:Value}(h:Nk v=true):v= .slice none 0 0:=by
  unfold Nk at h;split at h
  · simp only[a1,beq_iff_eq]at h;rw[h.1,h.2]
  · cases h
def mS(m:W)(zero:List Value)(v:Value):W:=
  match v with
  | .slice (some a) l _=>(match m.X a.block with|some x=>m.a0 a.block (some ⟨gL x.cells a.off (List.replicate l zero).flatten,x.own⟩)|none=>m)
  |_=>m
def kL(m:W)(v:Value):W:=
  match v with
  | .slice (some a) _ _=>m.a0 a.block none
  |_=>m
def CU(op:BinOp)(k:IntKind)(a b:Int):Value:=
  match op with
  | .add=> .int k (k.wrap (a+b))
  | .sub=> .int k (k.wrap (a-b))
  | .mul=> .int k (k.wrap (a*b))
  | .quo=> .int k (k.wrap (a.tdiv b))
  | .rem=> .int k (a.tmod b)
  | .and=> .int k (k.wrap (BitVec.ofInt k.bits a&&&BitVec.ofInt k.bits b).toNat)
  | .or=> .int k (k.wrap (BitVec.ofInt k.bits a|||BitVec.ofInt k.bits b).toNat)
  | .xor=> .int k (k.wrap (BitVec.ofInt k.bits a^^^BitVec.ofInt k.bits b).toNat)
  | .andNot=> .int k (k.wrap (BitVec.ofInt k.bits a&&& ~~~(BitVec.ofInt k.bits b)).toNat)
  | .shl=> .int k (k.wrap (a*2^(min b.toNat k.bits)))
  | .shr=> .int k (a.fdiv (2^(min b.toNat k.bits)))
  | .eql=> .bool (decide (a=b))
  | .neq=> .bool (!decide (a=b))
  | .lss=> .bool (decide (a<b))
  | .leq=> .bool (decide (a<=b))
  | .gtr=> .bool (decide (a>b))
  | .geq=> .bool (decide (a>=b))
def Lc(op:BinOp)(k gg:IntKind)(_a b:Int):Bool:=
  match op with
  | .shl| .shr=>decide (0<=b)
  | .quo| .rem=>decide (k=gg)&&decide (b≠0)
  |_=>decide (k=gg)
def zp(op:BinOp)(a b:ByteArray):Value:=
  match op with
  | .add=> .string (a++b)
  | .eql=> .bool (decide (a=b))
  | .neq=> .bool (!decide (a=b))
  | .lss=> .bool (Op.bytesLess a.toList b.toList)
  | .leq=> .bool (Op.bytesLess a.toList b.toList||decide (a=b))
  | .gtr=> .bool (!(Op.bytesLess a.toList b.toList||decide (a=b)))
  | .geq=> .bool (!Op.bytesLess a.toList b.toList)
  |_=>undef
def I9(op:BinOp)(a b:ByteArray):Bool:=
  match op with
  | .add=>decide (a.size+b.size<=9223372036854775807)
  | .eql| .neq| .lss| .leq| .gtr| .geq=>true
  |_=>false
def qb:Value->Bool
  | .pointer none=>true
  | .slice none _ _=>true
  | .nilFunc=>true
  | .nilIface=>true
  |_=>false
def oz(x y:Value):Bool:=
  match x,y with
  | .bool a,.bool b=>a==b
  |x,y=>qb x&&qb y
def tu(c:td)(x y:Value):Bool:=
  match c,x,y with
  | .bool,.bool _,.bool _=>true
  | .cw,.pointer none,.pointer _=>true
  | .cw,.pointer _,.pointer none=>true
  | .slice,.slice none _ _,.slice _ _ _=>true
  | .slice,.slice _ _ _,.slice none _ _=>true
  | .fn,.nilFunc,.nilFunc=>true
  | .fn,.nilFunc,.func _ _ _=>true
  | .fn,.func _ _ _,.nilFunc=>true
  |_,_,_=>false
def lg(op:BinOp)(x y:Value):Value:=
  match x,y with
  | .int k a,.int _ b=>CU op k a b
  | .string a,.string b=>zp op a b
  | x,y=>match op with
    | .eql=> .bool (oz x y)
    | .neq=> .bool (!oz x y)
    |_=>undef
def ru(op:BinOp)(c:td)(x y:Value):Bool:=
  match x,y with
  | .int k a,.int gg b=>Lc op k gg a b
  | .string a,.string b=>I9 op a b
  | x,y=>match op with
    | .eql| .neq=>tu c x y
    |_=>false
def o7:Value->Value->Bool
  | .int _ a,.int _ b=>decide (a=b)
  | .string a,.string b=>decide (a=b)
  | .bool a,.bool b=>a==b
  |_,_=>false
def x0:pK->Value->Value->Bool
  | .int,.int k _,.int gg _=>decide (k=gg)
  | .str,.string _,.string _=>true
  | .bool,.bool _,.bool _=>true
  |_,_,_=>false
def md:List Value->List Value->Bool
  |[],[]=>true
  |a::bY,b::bs=>o7 a b&&md bY bs
  |_,_=>false
def iq:List pK->List Value->List Value->Bool
  |[],[],[]=>true
  |k::gQ,a::bY,b::bs=>x0 k a b&&iq gQ bY bs
  |_,_,_=>false
def sJ:Value->Bool| .agg _=>true|_=>false
def BY(op:UnOp)(x:Value):Value:=
  match op,x with
  | .neg,.int k n=> .int k (k.wrap (0-n))
  | .not,.bool b=> .bool (!b)
  |_,_=>undef
def xA(op:UnOp)(x:Value):Bool:=
  match op,x with
  | .neg,.int _ _=>true
  | .not,.bool _=>true
  |_,_=>false
def byteOf:Value->UInt8| .int _ n=>UInt8.ofNat n.toNat|_=>0
def AY:Value->Bool| .int .u8 _=>true|_=>false
def xc(s:ByteArray):List Value:=s.data.toList.map λb=> .int .u8 b.toNat
def toBytes(cs:List Value):ByteArray:=⟨(cs.map byteOf).toArray⟩
def g1(A:aR)(x:Option Operand)(PU:Int):Int:=match x with|some o=>eZ (Z A o)|none=>PU
def nK(A:aR)(x:Option Operand):Bool:=match x with|some o=>e4 (Z A o)|none=>true
def lo:Value->Bool| .string _=>true|_=>false
def yQ:Value->Bool| .slice _ _ _=>true|_=>false
def yP:Value->Bool| .pointer (some _)=>true|_=>false
def xg(v:Value)(n:Nat):Value:=
  match v with
  | .pointer (some a)=> .pointer (some ⟨a.block,a.off+n,none⟩)
  |_=>undef
def q3:Value->Bool| .pointer (some a)=>a.spot.isNone|_=>false
def pB(v:Value)(J l h:Nat):Value:=
  match v with
  | .slice (some a) _ c=> .slice (some ⟨a.block,a.off+l*J,none⟩) (h-l) c
  |_=> .slice none 0 0
def nf(J:Nat):Value->Bool
  | .slice none l c=>l==0&&c==0
  | .slice (some a) _ c=>a.spot.isNone&&c==J
  |_=>false
def Fh(v:Value)(J n:Nat):Value:=
  match v with
  | .pointer (some a)=> .slice (some ⟨a.block,a.off,none⟩) n J
  |_=> .slice none 0 0
def xw(v:Value)(J:Nat)(i:Int):Value:=
  match v with
  | .slice (some a) _ _=> .pointer (some ⟨a.block,a.off+i.toNat*J,none⟩)
  |_=>undef
def AW:Value->Bool
  | .pointer none| .nilIface| .nilFunc=>false
  | .func (.method _) _ _=>false
  |_=>true
def BW(v:Value)(i:Nat):Value:=match v with| .tuple cz=>cz.toList.getD i undef|_=>undef
def EK(v:Value)(i:Nat):Bool:=match v with| .tuple cz=>decide (i<cz.toList.length)|_=>false
def Ks(dp:Bool)(off n:Nat)(v:Value):Value:=
  match v with
  | .agg cs=>if dp then .agg ((cs.toList.drop off).take n).toArray else cs.toList.getD off undef
  |_=>undef
def FF(off n:Nat)(v:Value):Bool:=match v with| .agg cs=>decide (off+n<=cs.toList.length)|_=>false
def oc(a b:Value):Value:=match a,b with| .int k x,.int _ y=> .int k (if y<x then y else x)|_,_=>undef
def ob(a b:Value):Value:=match a,b with| .int k x,.int _ y=> .int k (if y>x then y else x)|_,_=>undef
def qh(cs:List Value)(A:aR)(ps:List (Nat×Nat×Operand)):Bool:=
  ps.all λ(off,n,x)=>U (Z A x)&&decide ((O (Z A x)).length=n)&&decide (off+n<=cs.length)
def l5(cs:List Value)(A:aR):List (Nat×Nat×Operand)->List Value
  |[]=>cs
  |(off,_,x)::r=>l5 (gL cs off (O (Z A x))) A r
def Gw(t:TypeId):Value->Bool
  | .iface aI _=>decide (aI=t)
  |_=>false
def ZE:Value->Value
  | .iface _ v=>v
  |_=>undef
def ku(m:W):Value->Option (List (Value×Value))
  | .map none=>some []
  | .map (some b)=>m.eS b
  |_=>none
def n6:kD->Value->Bool
  | .int k,.int gg _=>decide (gg=k)
  | .str,.string _=>true
  |_,_=>false
def oa(a9:kD)(k:Value)(bc:List (Value×Value)):Bool:=n6 a9 k&&bc.all λe=>n6 a9 e.1
def jk(k:Value):List (Value×Value)->Option Value
  |[]=>none
  |e::r=>if o7 k e.1 then some e.2 else jk k r
def lM(k v:Value):List (Value×Value)->List (Value×Value)
  |[]=>[(k,v)]
  |e::r=>if o7 k e.1 then(k,v)::r else e::lM k v r
def vt:Value->Nat
  | .map (some b)=>b
  |_=>0
def iv:Value->Int
  | .string s=>s.size
  | .slice _ l _=>l
  |_=>0
def ag.ok(k:ag)(A:aR)(m:W):Bool:=
  match k with
  | .mq _=>true
  | .sQ c _ _=>sK (Z A c)
  | .qe x=>AW (Z A x)
  | .c9 _=>true
  | .mz x=>U (Z A x)
  | .fF J ps=>qh J A ps
  | .gM _ _ J ps=>qh J A ps
  | .k5 dp n x=>gD m (Z A x) n&&(dp||decide (n=1))
  | .store n x v=>gD m (Z A x) n&&pT m (Z A x)&&U (Z A v)&&decide ((O (Z A v)).length=n)
  | .e8 op c x y=>ru op c (Z A x) (Z A y)
  | .wy _ gQ x y=>sJ (Z A x)&&sJ (Z A y)&&iq gQ (O (Z A x)) (O (Z A y))
  | .qs op x=>xA op (Z A x)
  | .si _ x=>e4 (Z A x)
  | .Cq x=>lo (Z A x)
  | .mT x=>fS m 1 (Z A x)&&(gj m 1 (Z A x)).all AY
  | .nX x=>lo (Z A x)&&decide ((qB (Z A x)).size<=9223372036854775807)
  | .kN J bytes _ l c=>e4 (Z A l)&&e4 (Z A c)&&decide (0<=eZ (Z A l))&&decide (eZ (Z A l)<=eZ (Z A c))&&decide (eZ (Z A c)*(bytes:Int)<=140737488355328)&&decide (eZ (Z A c)<=9223372036854775807)&&decide (0<J)
  | .BT x cB ai=>lo (Z A x)&&nK A cB&&nK A ai&&decide (0<=g1 A cB 0)&&decide (g1 A cB 0<=g1 A ai (iv (Z A x)))&&decide (g1 A ai (iv (Z A x))<=iv (Z A x))
  | .nO J x cB ai=>nf J (Z A x)&&nK A cB&&nK A ai&&decide (0<=g1 A cB 0)&&decide (g1 A cB 0<=g1 A ai (iv (Z A x)))&&decide (g1 A ai (iv (Z A x))<=iv (Z A x))
  | .vK J x cB ai fr=>nf J (Z A x)&&nK A cB&&e4 (Z A ai)&&e4 (Z A fr)&&decide (0<=g1 A cB 0)&&decide (g1 A cB 0<=eZ (Z A ai))&&decide (eZ (Z A ai)<=eZ (Z A fr))&&decide (eZ (Z A fr)<=iv (Z A x))
  | .pC J n x=>gD m (Z A x) (n*J)&&decide (n<=maxLen)
  | .so _ x=>q3 (Z A x)
  | .field dp off n x=>FF off n (Z A x)&&(dp||decide (n=1))
  | .oH J x i=>nf J (Z A x)&&e4 (Z A i)&&decide (0<=eZ (Z A i))&&decide (eZ (Z A i)<iv (Z A x))
  | .ph _ len x i=>q3 (Z A x)&&e4 (Z A i)&&decide (0<=eZ (Z A i))&&decide (eZ (Z A i)<(len:Int))
  | .tL x i=>lo (Z A x)&&e4 (Z A i)&&decide (0<=eZ (Z A i))&&decide (eZ (Z A i)<iv (Z A x))
  | .ext i x=>EK (Z A x) i
  | .sL x=>lo (Z A x)
  | .sM x=>yQ (Z A x)
  | .app J bytes x y=>fS m J (Z A x)&&kj m (Z A x)&&fS m J (Z A y)&&decide (0<J)&&decide ((gI (Z A x)+gI (Z A y))*bytes<=140737488355328)&&decide (gI (Z A x)+gI (Z A y)<=9223372036854775807)
  | .Cm x=>Nk (Z A x)
  | .np J bytes _ x n=>Nk (Z A x)&&e4 (Z A n)&&decide (0<eZ (Z A n))&&decide (eZ (Z A n)*(bytes:Int)<=140737488355328)&&decide (eZ (Z A n)<=9223372036854775807)&&decide (0<J)
  | .hv zero x=>fS m zero.length (Z A x)&&kj m (Z A x)&&decide (0<zero.length)
  | .pq _ x xs=>e4 (Z A x)&&xs.all λy=>e4 (Z A y)
  | .ub _ _ _=>true
  | .dY _ _=>false
  | .iN _ _=>false
  | .vu _ _=>true
  | .zr t x=>Gw t (Z A x)
  | .iR _ _ _=>false
  | .m6=>true
  | .m7 a9 _ _ x k=>match ku m (Z A x)with
    |some bc=>oa a9 (Z A k) bc
    |none=>false
  | .l3 a9 x k v=>match Z A x with
    | .map (some b)=>(match m.eS b with
      |some bc=>oa a9 (Z A k) bc&&S (Z A v)
      |none=>false)
    |_=>false
def ag.val(k:ag)(id:Nat)(A:aR)(m:W):Value:=
  match k with
  | .mq x=>Z A x
  | .sQ c a b=>if uM (Z A c)then Z A a else Z A b
  | .qe x=>Z A x
  | .c9 _=> .pointer (some ⟨id,0,none⟩)
  | .mz _=> .pointer (some ⟨id,0,none⟩)
  | .fF J ps=> .agg (l5 J A ps).toArray
  | .gM J n _ _=> .slice (some ⟨id,0,none⟩) n J
  | .k5 dp n x=>kM m dp n (Z A x)
  | .store _ _ _=>undef
  | .e8 op _ x y=>lg op (Z A x) (Z A y)
  | .wy kh _ x y=> .bool (if kh then !md (O (Z A x)) (O (Z A y))else md (O (Z A x)) (O (Z A y)))
  | .qs op x=>BY op (Z A x)
  | .si k x=> .int k (k.wrap (eZ (Z A x)))
  | .Cq x=>Z A x
  | .mT x=> .string (toBytes (gj m 1 (Z A x)))
  | .nX x=> .slice (some ⟨id,0,none⟩) (qB (Z A x)).size 1
  | .kN J _ _ l _=> .slice (some ⟨id,0,none⟩) (eZ (Z A l)).toNat J
  | .BT x cB ai=> .string ((qB (Z A x)).extract (g1 A cB 0).toNat (g1 A ai (iv (Z A x))).toNat)
  | .nO J x cB ai=>pB (Z A x) J (g1 A cB 0).toNat (g1 A ai (iv (Z A x))).toNat
  | .vK J x cB ai _=>pB (Z A x) J (g1 A cB 0).toNat (eZ (Z A ai)).toNat
  | .pC J n x=>Fh (Z A x) J n
  | .so off x=>xg (Z A x) off
  | .field dp off n x=>Ks dp off n (Z A x)
  | .oH J x i=>xw (Z A x) J (eZ (Z A i))
  | .ph J _ x i=>xg (Z A x) ((eZ (Z A i)).toNat*J)
  | .tL x i=> .int .u8 (((qB (Z A x)).data.toList.getD (eZ (Z A i)).toNat 0).toNat:Nat)
  | .ext i x=>BW (Z A x) i
  | .sL x=> .int .i64 (iv (Z A x))
  | .sM x=> .int .i64 (iv (Z A x))
  | .app J _ x y=>if gI (Z A y)=0 then Z A x else .slice (some ⟨id,0,none⟩) (gI (Z A x)+gI (Z A y)) J
  | .Cm _=> .int .i64 0
  | .np J _ _ _ n=> .slice (some ⟨id,0,none⟩) (eZ (Z A n)).toNat J
  | .hv _ _=>undef
  | .pq fr x xs=>xs.foldl (λdH y=>if fr then ob dH (Z A y)else oc dH (Z A y)) (Z A x)
  | .ub fn first mA=> .func fn (first.map (Z A)).toArray (mA.map (Z A)).toArray
  | .dY _ _=>undef
  | .iN _ _=>undef
  | .vu t x=> .iface t (Z A x)
  | .zr _ x=>ZE (Z A x)
  | .iR _ _ _=>undef
  | .m6=> .map (some id)
  | .m7 _ zero ok x k=>
    let r:=(ku m (Z A x)).bind (jk (Z A k))
    if ok then .tuple #[r.getD zero,.bool r.isSome]else r.getD zero
  | .l3 _ _ _ _=>undef
def ag.gG(k:ag)(id:Nat)(A:aR)(m:W):W:=
  match k with
  | .c9 J=>m.a0 id (some ⟨J,true⟩)
  | .mz x=>m.a0 id (some ⟨O (Z A x),true⟩)
  | .gM _ _ J ps=>m.a0 id (some ⟨l5 J A ps,true⟩)
  | .store _ x v=>nP m (Z A x) (O (Z A v))
  | .nX x=>m.a0 id (some ⟨xc (qB (Z A x)),true⟩)
  | .kN _ _ zero l _=>m.a0 id (some ⟨(List.replicate (eZ (Z A l)).toNat zero).flatten,true⟩)
  | .app J _ x y=>if gI (Z A y)=0 then m else(kL m (Z A x)).a0 id (some ⟨gj m J (Z A x)++gj m J (Z A y),true⟩)
  | .np _ _ zero _ n=>m.a0 id (some ⟨(List.replicate (eZ (Z A n)).toNat zero).flatten,true⟩)
  | .hv zero x=>mS m zero (Z A x)
  | .m6=>m.g2 id []
  | .l3 _ x k v=>m.g2 (vt (Z A x)) (lM (Z A k) (Z A v) ((m.eS (vt (Z A x))).getD []))
  |_=>m
def pV(A:aR)(a9:List (Operand×Operand)):Bool:=
  a9.all λ(x,y)=>match N (Z A x),N (Z A y)with
    |some a,some b=>a !=b
    |_,_=>true
def qZ(A:aR)(a9:List (Operand×Operand))(m aq:W):Prop:=
  ∀p∈a9,∀b,N (Z A p.1)=some b->aq.X b=m.X b
abbrev Callee:=Nat->List Value->W->Option (Value×W)
def ag.fj(k:ag)(A:aR)(m:W):Option (Nat×List Value):=
  match k with
  | .iR bh x args=>match Z A x with
    | .iface t v=>match bh.find? (λr=>r.1==t)with
      |some (_,f,none)=>some (f,v::args.map (Z A))
      |some (_,f,some (dp,n))=>if gD m v n&&(dp||decide (n=1))then some (f,kM m dp n v::args.map (Z A))else none
      |none=>none
    |_=>none
  | .dY f args=>some (f,args.map (Z A))
  | .iN x args=>match Z A x with
    | .func (.func f) first mA=>some (f,first.toList++args.map (Z A)++mA.toList)
    |_=>none
  |_=>none
def eR(A:aR):Option (Nat×Bool)->Bool
  |none=>true
  |some (t,b)=>match A t with| .bool c=>c==b|_=>false
noncomputable def hF(bJ:Callee)(base:Nat)(o:bp)(A:aR)(m:W):Option (aR×W):=
  if eR A o.g then
    match o.k.fj A m with
    | some (f,args)=>match bJ f args m with
      |some (v,aq)=>some (dc A o.d v,aq)
      |none=>none
    |none=>if o.k.ok A m then some (dc A o.d (o.k.val (base+o.aS) A m),o.k.gG (base+o.aS) A m)else none
  else some (dc A o.d undef,m)
def oy(o:bp)(A:aR)(m aq:W):Prop:=
  eR A o.g=true->match o.k.fj A m with
    |some _=>qZ A o.a9 m aq
    |none=>pV A o.a9=true
open Classical in
noncomputable def j3(bJ:Callee)(base:Nat):List bp->aR->W->Option (aR×W)
  |[],A,m=>some (A,m)
  | o::b4,A,m=>match hF bJ base o A m with
    |some (ak,aq)=>if oy o A m aq then j3 bJ base b4 ak aq else none
    |none=>none
def ag.e3:ag->Bool
  | .c9 _| .mz _| .gM _ _ _ _| .nX _| .kN _ _ _ _ _| .app _ _ _ _| .np _ _ _ _ _| .m6=>true
  |_=>false
def ag.vk:ag->Bool
  | .hv _ _| .m6| .m7 _ _ _ _ _| .l3 _ _ _ _=>true
  |_=>false
def hl(ops:List bp)(m:W):W:=if ops.any (λo=>o.k.e3)then m.cf ops.length else m
def qp(J:Nat)(m:W):Value->Bool
  | .slice (some a) l _=>(match m.X a.block with|some b=>decide (b.cells.length=a.off+l*J)|none=>false)
  |_=>true
def m4(o:bp)(A:aR)(m:W):Bool:=o.g.isNone&&(match o.k with| .app J _ x _=>qp J m (Z A x)|_=>false)&&o.k.ok A m
def CR(x:fB):fB:=⟨x.cells,false⟩
def nC(m:W):W:=⟨m.next,λb=>(m.gV b).map CR,λ_=>none⟩
def jJ(f:aR->W->Option (dA×aR×W)):Nat->aR->W->Option (dA×aR×W)
  |0,_,_=>none
  | n+1,A,m=>match f A m with
    |some (.ew,ak,aq)=>jJ f n ak aq
    |r=>r
noncomputable def eu(bJ:Callee)(n:Nat):H->aR->W->Option (dA×aR×W)
  | .skip,A,m=>some (.ew,A,m)
  | .D ops,A,m=>match j3 bJ m.next ops A (hl ops m)with
    |some (ak,aq)=>some (.ew,ak,aq)
    |none=>none
  | .q0 bX o b4,A,m=>match j3 bJ m.next bX A (m.cf (bX.length+(b4.length+1)))with
    | some (bQ,bk)=>if m4 o bQ bk then
        (match j3 bJ m.next b4 (dc bQ o.d (o.k.val (m.next+o.aS) bQ bk)) (nC bk)with
        |some (dt,dR)=>some (.ew,dt,(o.k.gG (m.next+o.aS) bQ bk).cf (dR.next-bk.next))
        |none=>none)
      else none
    |none=>none
  | .B a b,A,m=>match eu bJ n a A m with
    |some (.ew,ak,aq)=>eu bJ n b ak aq
    |r=>r
  | .aM c a b,A,m=>if sK (Z A c)then(if uM (Z A c)then eu bJ n a A m else eu bJ n b A m)else none
  | .block id c,A,m=>match eu bJ n c A m with
    |some (.a7 jg,ak,aq)=>if jg=id then some (.ew,ak,aq)else some (.a7 jg,ak,aq)
    |r=>r
  | .loop c,A,m=>jJ (eu bJ n c) n A m
  | .a7 id,A,m=>some (.a7 id,A,m)
  | .aF,A,m=>some (.aF,A,m)
def py(m:W)(A:aR):ld->Bool
  | .bw _=>true
  | .im t dp n=>gD m (A t) n&&(dp||decide (n=1))
def qj(m:W)(A:aR):ld->Value
  | .bw t=>A t
  | .im t dp n=>kM m dp n (A t)
def k7(m:W)(A:aR)(cy:List ld):Bool:=cy.all (py m A)
def lu(m:W)(A:aR):List ld->Value
  |[r]=>qj m A r
  |cy=> .tuple (cy.map (qj m A)).toArray
def jI(args:List Value):aR:= λt=>args.getD t undef
def kS(P:Program)(t:TypeId):Option Nat:=(P.info? t).map (·.size)
def pF(P:Program)(t:TypeId):Option (List Value):=
  match P.info? t with
  | some i=>match i.zero with
    | some J=>let cs:=J.cells.toList
      if cs.all dZ&&decide (cs.length=i.size)then some cs else none
    |none=>none
  |none=>none
def oU(P:Program)(t:TypeId):Option Bool:=
  match P.underlying t with
  |some (.struct _)=>some true
  |some (.array _ _)=>some true
  |some _=>some false
  |none=>none
def oV(P:Program)(t:TypeId):td:=
  match P.underlying t with
  |some .bool=> .bool
  |some (.pointer _)=> .cw
  |some (.slice _)=> .slice
  |some (.func _ _ _)=> .fn
  |some (.interface _)=> .iface
  |some (.struct _)=> .agg
  |some (.array _ _)=> .agg
  |_=> .fW
def cX:Operand->Bool
  | .tmp _=>true
  | .const v=>mV v
  | .func _=>true
  | .global _=>false
def Eg:Option Operand->Bool
  |some x=>cX x
  |none=>true
def FD(e:TypeId->Option (List pK)):List Field->Nat->Option (List pK)
  |[],_=>some []
  | f ::r,off=>if f.name != "_" &&f.offset==off then
      (match e f.type with
       | some gQ=>match FD e r (off+gQ.length)with
         |some b4=>if gQ.length=0 then none else some (gQ++b4)
         |none=>none
       |none=>none)
    else none
def tr(P:Program):Nat->TypeId->Option (List pK)
  |0,_=>none
  | d+1,t=>match P.underlying t,kS P t with
    |some .bool,some n=>if n=1 then some [.bool]else none
    |some (.int _),some n=>if n=1 then some [.int]else none
    |some .string,some n=>if n=1 then some [.str]else none
    | some (.struct fG),some n=>match FD (tr P d) fG.toList 0 with
      |some gQ=>if decide (n=gQ.length)&& !P.stoodInHeld t then some gQ else none
      |none=>none
    | some (.array k e),some n=>match tr P d e with
      |some gQ=>if decide (n=k*gQ.length)&&decide (0<gQ.length)then some (List.replicate k gQ).flatten else none
      |none=>none
    |_,_=>none
def guard(b:Bool):Option Unit:=if b then some ()else none
def FG(P:Program)(fG:Array Field):List (Nat×Operand)->Option (List (Nat×Nat×Operand))
  |[]=>some []
  | (i,x)::r=>match fG[i]? with
    | some f=>match kS P f.type,FG P fG r with
      |some n,some ps=>if cX x then some ((f.offset,n,x)::ps)else none
      |_,_=>none
    |none=>none
def zT(J:Nat):List (Nat×Operand)->Option (List (Nat×Nat×Operand))
  |[]=>some []
  | (i,x)::r=>match zT J r with
    |some ps=>if cX x then some ((i*J,J,x)::ps)else none
    |none=>none
def Bj(P:Program)(name:String)(t:TypeId):Option (TypeId×Nat×Option (Bool×Nat)):=
  match P.info? t with
  | some i=>match i.methods.find? (·.name==name)with
    | some Bn=>if Bn.path.isEmpty then(match Bn.func with
      | some (f,aBF)=>match P.underlying t,aBF with
        |some (.pointer _),true=>some (t,f,none)
        | some (.pointer e),false=>match oU P e,kS P e with
          |some dp,some n=>some (t,f,some (dp,n))
          |_,_=>none
        |_,_=>none
      |none=>none)else none
    |none=>none
  |none=>none
def T6(P:Program)(name:String):List (TypeId×Nat×Option (Bool×Nat)):=(List.range P.types.size).filterMap (Bj P name)
def OR(P:Program)(t:TypeId):Option Value:=
  match P.info? t with
  | some i=>match i.zero with
    |some J=>if dZ J then some J else none
    |none=>none
  |none=>none
def Kd(P:Program)(t:TypeId):Option kD:=
  match P.underlying t with
  |some (.int k)=>some (.int k)
  |some .string=>some .str
  |_=>none
def Fq(P:Program)(c:Call):Option ag:=
  match c.callee with
  | .invoke (.tmp t) name=>if c.args.toList.all cX then some (.iR (T6 P name) (.tmp t) c.args.toList)else none
  | .value (.func f)=>match P.funcs[f]? with
    |some fn=>if fn.body.isSome&& !(fn.name== "runtime.NumGoroutine")&&c.args.toList.all cX then some (.dY f c.args.toList)else none
    |none=>none
  | .value (.tmp t)=>if c.args.toList.all cX then some (.iN (.tmp t) c.args.toList)else none
  | .builtin .len=>match c.args.toList,c.argTypes.toList with
    | [x],[t]=>match P.underlying t with
      |some .string=>if cX x then some (.sL x)else none
      |some (.slice _)=>if cX x then some (.sM x)else none
      |_=>none
    |_,_=>none
  | .builtin .append=>match c.args.toList,c.argTypes.toList with
    | [x,y],[t,bt]=>match P.underlying t with
      | some (.slice e)=>match P.info? e with
        | some i=>if t=bt then(if cX x&&cX y&&(pF P e).isSome then some (.app i.size i.bytes x y)else none)
          else(match P.underlying bt,pF P e with
          |some (.int _),some EZ=>if cX x&&cX y then some (.np EZ.length i.bytes EZ x y)else none
          |_,_=>none)
        |none=>none
      |_=>none
    |_,_=>none
  | .builtin .min=>match c.args.toList with
    |x::xs=>if cX x&&xs.all cX then some (.pq false x xs)else none
    |[]=>none
  | .builtin .max=>match c.args.toList with
    |x::xs=>if cX x&&xs.all cX then some (.pq true x xs)else none
    |[]=>none
  | .builtin .cap=>match c.args.toList,c.argTypes.toList with
    | [x],[t]=>match P.underlying t with
      |some (.slice _)=>if cX x then some (.Cm x)else none
      |_=>none
    |_,_=>none
  | .builtin .clear=>match c.args.toList,c.argTypes.toList with
    | [x],[t]=>match P.underlying t with
      | some (.slice e)=>match pF P e with
        |some EZ=>if cX x then some (.hv EZ x)else none
        |none=>none
      |_=>none
    |_,_=>none
  |_=>none
def Ck(P:Program)(o:Oper):Option ag:=
  match o.op with
  | .move x=>if cX x then some (.mq x)else none
  | .assign x=>if cX x then some (.mq x)else none
  | .pick c a b=>if cX c&&cX a&&cX b then some (.sQ c a b)else none
  | .nilCheck x=>if cX x then some (.qe x)else none
  | .alloc e=>match pF P e with
    |some J=>some (.c9 J)
    |none=>none
  | .box _ x=>if cX x then some (.mz x)else none
  | .build t ps=>match P.underlying t,pF P t with
    | some (.struct fG),some J=>match FG P fG ps.toList with
      |some h2=>if(fG.toList.all λf=>(kS P f.type).isSome)then some (.fF J h2)else none
      |none=>none
    | some (.array _ e),some J=>match kS P e with
      | some n=>match zT n ps.toList with
        |some h2=>some (.fF J h2)
        |none=>none
      |none=>none
    |_,_=>none
  | .buildSlice t n ps=>match P.underlying t with
    | some (.slice e)=>match pF P e with
      | some J=>match zT J.length ps.toList with
        |some h2=>if 0<J.length&&n*J.length<=16777216 then some (.gM J.length n (List.replicate n J).flatten h2)else none
        |none=>none
      |none=>none
    |_=>none
  | .load t x=>match oU P t,kS P t with
    |some a,some n=>if cX x then some (.k5 a n x)else none
    |_,_=>none
  | .store t x v=>match kS P t with
    |some n=>if cX x&&cX v then some (.store n x v)else none
    |none=>none
  | .binOp op t x y _=>
    if cX x&&cX y then
      (if oV P t= .agg then
        (match op,tr P 8 t with
         | .eql,some gQ=>if !P.eqGuardType P.depth t then some (.wy false gQ x y)else none
         | .neq,some gQ=>if !P.eqGuardType P.depth t then some (.wy true gQ x y)else none
         |_,_=>none)
      else some (.e8 op (oV P t) x y))
    else none
  | .unOp op _ x=>if cX x then some (.qs op x)else none
  | .convert s d x=>match P.underlying s,P.underlying d with
    |some (.int _),some (.int k)=>if cX x then some (.si k x)else none
    |some .string,some .string=>if cX x then some (.Cq x)else none
    | some (.slice e),some .string=>match P.underlying e with
      |some (.int .u8)=>if cX x then some (.mT x)else none
      |_=>none
    | some .string,some (.slice e)=>match P.underlying e with
      |some (.int .u8)=>if cX x then some (.nX x)else none
      |_=>none
    |_,_=>none
  | .makeSlice t l c=>match P.underlying t with
    | some (.slice e)=>match pF P e,P.info? e with
      |some J,some i=>if cX l&&cX c then some (.kN J.length i.bytes J l c)else none
      |_,_=>none
    |_=>none
  | .slice t x cB ai fr=>match P.underlying t with
    |some .string=>if cX x&&Eg cB&&Eg ai&&fr.isNone then some (.BT x cB ai)else none
    | some (.slice e)=>match kS P e with
      | some J=>match fr with
        |none=>if cX x&&Eg cB&&Eg ai then some (.nO J x cB ai)else none
        | some hz=>match ai with
          |some aE=>if cX x&&Eg cB&&cX aE&&cX hz then some (.vK J x cB aE hz)else none
          |none=>none
      |none=>none
    | some (.array n e)=>match kS P e with
      |some J=>if cX x&&cB.isNone&&ai.isNone&&fr.isNone then some (.pC J n x)else none
      |none=>none
    |_=>none
  | .fieldAddr s x i=>match P.underlying s with
    | some (.struct fG)=>match fG[i]? with
      | some f=>match kS P f.type with
        |some n=>if cX x&&0<n then some (.so f.offset x)else none
        |none=>none
      |none=>none
    |_=>none
  | .field t x i=>match P.underlying t with
    | some (.struct fG)=>match fG[i]? with
      | some f=>match oU P f.type,kS P f.type with
        |some a,some n=>if cX x then some (.field a f.offset n x)else none
        |_,_=>none
      |none=>none
    |_=>none
  | .indexAddr t x i=>match P.underlying t with
    | some (.slice e)=>match kS P e with
      |some J=>if cX x&&cX i then some (.oH J x i)else none
      |none=>none
    | some (.array len e)=>match kS P e with
      |some J=>if cX x&&cX i then some (.ph J len x i)else none
      |none=>none
    |_=>none
  | .index t x i=>match P.underlying t with
    |some .string=>if cX x&&cX i then some (.tL x i)else none
    |_=>none
  | .extract x i=>if cX x then some (.ext i x)else none
  | .makeInterface t x=>match P.underlying t with
    |some (.interface _)=>none
    |some _=>if cX x then some (.vu t x)else none
    |none=>none
  | .typeAssert x _ t ok=>match P.underlying t with
    |some (.interface _)=>none
    |some _=>if cX x&& !ok then some (.zr t x)else none
    |none=>none
  | .makeMap t r=>match P.underlying t,r with
    |some (.map _ _),none=>some .m6
    |_,_=>none
  | .lookup t x i ok=>match P.underlying t with
    | some (.map k e)=>match Kd P k,OR P e with
      |some a9,some J=>if cX x&&cX i then some (.m7 a9 J ok x i)else none
      |_,_=>none
    |_=>none
  | .mapUpdate t x k v=>match P.underlying t with
    | some (.map tV _)=>match Kd P tV with
      |some a9=>if cX x&&cX k&&cX v then some (.l3 a9 x k v)else none
      |none=>none
    |_=>none
  | .makeFunc fn first mA=>if first.toList.all cX&&mA.toList.all cX then some (.ub fn first.toList mA.toList)else none
  | .call c=>Fq P c
  |_=>none
def VZ:ag:= .qe (.const (.pointer none))
def xW(P:Program)(o:Oper):Option ag:=match Ck P o with
  |some k=>some k
  |none=>some VZ
theorem aic{A:aR}{m:W}:VZ.ok A m=false:=rfl
theorem J2{P:Program}{o:Oper}{k:ag}(h:xW P o=some k):Ck P o=some k\/k=VZ:=by
  unfold xW at h;split at h
  · next gg E=>cases h;exact .inl E
  · cases h;exact .inr rfl
def J1(ops:Array Oper)(o:Oper):Option (Option (Nat×Bool)):=
  match o.guard with
  |none=>some none
  | some (j,b)=>match(ops[j]?).bind (·.dst)with
    |some t=>some (some (t,b))
    |none=>none
def J3(P:Program)(ops:Array Oper)(cZ:Nat)(aS:Nat):Option bp:=
  match ops[aS]? with
  | some o=>match xW P o,J1 ops o with
    |some k,some g=>if(o.dst.all λd=>decide (d<cZ))then some ⟨aS,o.dst,g,k,[]⟩else none
    |_,_=>none
  |none=>none
def Cl(P:Program)(ops:Array Oper)(cZ:Nat):List Nat->Option (List bp)
  |[]=>some []
  | aS::r=>match J3 P ops cZ aS,Cl P ops cZ r with
    |some o,some b4=>some (o::b4)
    |_,_=>none
def ag.lS:ag->List Operand
  | .k5 _ _ x=>[x]
  | .pC _ _ x=>[x]
  | .store _ x _=>[x]
  | .mT x=>[x]
  | .hv _ x=>[x]
  | .app _ _ x y=>[x,y]
  |_=>[]
def ag.mM:ag->List Operand
  | .hv _ x=>[x]
  | .store _ x _=>[x]
  | .app _ _ x _=>[x]
  |_=>[]
def ag.ke:ag->Bool
  | .dY _ _| .iN _ _| .iR _ _ _=>true
  |_=>false
def ag.hh:ag->List Operand
  | .mq x| .qe x| .mz x| .k5 _ _ x| .qs _ x| .si _ x| .Cq x| .mT x| .nX x| .so _ x| .field _ _ _ x| .ext _ x| .sL x| .sM x| .Cm x| .hv _ x| .pC _ _ x=>[x]
  | .sQ c a b=>[c,a,b]
  | .c9 _=>[]
  | .fF _ ps| .gM _ _ _ ps=>ps.map λp=>p.2.2
  | .store _ x v=>[x,v]
  | .e8 _ _ x y| .wy _ _ x y| .kN _ _ _ x y| .oH _ x y| .ph _ _ x y| .tL x y| .app _ _ x y| .np _ _ _ x y=>[x,y]
  | .BT x l h| .nO _ x l h=>x::(l.toList++h.toList)
  | .vK _ x l h fr=>x::h::fr::l.toList
  | .pq _ x xs=>x::xs
  | .ub _ a b=>a++b
  | .dY _ bY=>bY
  | .iN x bY=>x::bY
  | .vu _ x| .zr _ x=>[x]
  | .iR _ x bY=>x::bY
  | .m6=>[]
  | .m7 _ _ _ x k=>[x,k]
  | .l3 _ x k v=>[x,k,v]
def ED(l:List Operand):List Nat:=l.filterMap fun| .tmp t=>some t|_=>none
def bp.vE(o:bp):List Nat:=ED o.k.hh++(match o.g with|some (t,_)=>[t]|none=>[])
def bp.XM(o:bp):List Nat:=ED (o.a9.map (·.1))++ED (o.a9.map (·.2))
def rU(l:List Nat)(d:Option Nat):Bool:=match d with|some d=> !l.contains d|none=>true
def Kk:Option Nat->List Operand
  |some d=>[.tmp d]
  |none=>[]
def pw(k i:bp):List (Operand×Operand):=
  if i.k.ke then k.k.lS.map λx=>(x,x)
  else if k.k.ke then[]
  else
    ((k.k.mM++(if k.k.e3 then Kk k.d else[])).flatMap λx=>(i.k.lS++i.k.mM).map λy=>(x,y))
      ++k.k.lS.flatMap λx=>i.k.mM.map λy=>(x,y)
def pW(k i:bp)(rv:List Nat):Bool:=
  !k.k.vk&& !i.k.vk&&rU (k.vE++k.XM) i.d&&rU i.vE k.d&&(match k.d,i.d with|some a,some b=>a !=b|_,_=>true)&&
  (if i.k.ke then !k.k.ke&& !k.k.e3&&k.k.mM.isEmpty&&(ED k.k.lS).all λt=> !rv.contains t&&k.d !=some t
   else if k.k.ke then i.k.lS.isEmpty&&i.k.mM.isEmpty
   else(!k.k.e3||(k.d.isSome&&rU rv k.d))&&(ED (k.k.lS++k.k.mM)).all λt=> !rv.contains t&&k.d !=some t)
def NI(hG:List Nat)(o:Oper):Nat:=
  o.after.toList.foldl (λs e=>if Region.binds .any e then s|||2^e.on|||hG.getD e.on 0 else s) 0
def y2:List Oper->List Nat->List Nat
  |[],dH=>dH
  |o::r,dH=>y2 r (dH++[NI dH o])
def tl(hG:List Nat)(i:bp):List bp->List (Operand×Operand)
  |[]=>[]
  |k::r=>(if(hG.getD i.aS 0).testBit k.aS then[]else pw k i)++tl hG i r
def Kc(hG:List Nat)(i:bp):List bp->List Nat->Bool
  |[],_=>true
  |k::r,rv=>((hG.getD i.aS 0).testBit k.aS||pW k i rv)&&Kc hG i r (rv++k.d.toList)
def aia(ops:Array Oper)(aS:Nat)(lR:List bp):Bool:=
  match ops[aS]? with
  |some op=>op.after.toList.all λe=> !Region.binds .any e||lR.any λk=>k.aS==e.on
  |none=>false
def Fs(P:Program)(ops:Array Oper)(cZ:Nat)(hG:List Nat):List Nat->List bp->Option (List bp)
  |[],_=>some []
  | aS::r,lR=>match J3 P ops cZ aS with
    | some o=>
      let o':bp:=⟨o.aS,o.d,o.g,o.k,tl hG o lR⟩
      if Kc hG o' lR []&&aia ops aS lR then
        match Fs P ops cZ hG r (o'::lR)with
        |some b4=>some (o'::b4)
        |none=>none
      else none
    |none=>none
def ag5(o:Oper):Nat:=
  match o.op with
  | .alloc _| .box _ _| .buildSlice _ _ _| .makeSlice _ _ _| .makeMap _ _=>2
  | .store _ _ _=>1
  | .convert _ _ _=>0
  | .call {callee:= .builtin .len,..}| .call {callee:= .builtin .cap,..}| .call {callee:= .builtin .min,..}| .call {callee:= .builtin .max,..}=>0
  | .call _=>1
  |_=>0
def ahT(ops:Array Oper):Nat->List Nat->List Nat->List Nat
  |0,_,dH=>dH.reverse
  | n+1,left,dH=>
    let UF:=left.filter λi=>((ops[i]?).map λo=>o.after.all λe=> !Region.binds .any e||dH.contains e.on).getD false
    match(UF.find? λi=>((ops[i]?).map ag5).getD 0==0).or ((UF.find? λi=>((ops[i]?).map ag5).getD 0==1).or UF.head?)with
    |some i=>ahT ops n (left.filter (· !=i)) (i::dH)
    |none=>dH.reverse
def vw:List Nat->Bool
  |[]=>true
  |x::l=> !l.contains x&&vw l
def Uv(n:Nat)(l:List Nat):Bool:=decide (l.length=n)&&vw l&&(l.all λi=>decide (i<n))&&(List.range n).all λi=>l.contains i
def aDJ:Operand->Operand->Bool
  | .tmp a,.tmp b=>a==b
  |_,_=>false
def ahX(l:List Oper)(x:Operand):Operand:=
  match x with
  | .tmp t=>(match l.find? (λo=>o.dst==some t)with
    | some o=>(match o.op with
      | .move y=>y
      | .assign y=>y
      |_=>x)
    |none=>x)
  |_=>x
def aga(l:List Oper):List Oper->Bool
  |[]=>false
  | o ::r=>(match o.op with
      | .call c=>(match c.callee,c.args.toList with
        | .builtin .append,x::_=>r.any λp=>match p.op with
          | .call km=>(match km.callee with
            | .builtin _=>false
            |_=>km.args.toList.any λy=>aDJ (ahX l x) (ahX l y))
          |_=>false
        |_,_=>false)
      |_=>false)||aga l r
def Fz:List bp->Option (List bp×bp×List bp)
  |[]=>none
  | o::r=>match o.k with
    | .app _ _ _ _=>some ([],o,r)
    |_=>(Fz r).map λ(a,b,c)=>(o::a,b,c)
def XG(hG:List Nat)(n:Nat):Bool:=(List.range n).all λj=>(List.range j).all λi=>(hG.getD j 0).testBit i
def ah4(ops:Array Oper):Bool:=(List.range ops.size).all λj=>match ops[j]? with
  |some o=>o.after.toList.all λe=> !Region.binds .any e||decide (e.on<j)
  |none=>false
def PE(P:Program)(cZ:Nat)(ops:Array Oper)(rz:Bool):Option H:=
  if aga ops.toList ops.toList&&(!rz||(ah4 ops&&XG (y2 ops.toList []) ops.size))then
    (match Cl P ops cZ (List.range ops.size)with
    |some L=>(Fz L).map λ(a,b,c)=> .q0 a b c
    |none=>none)
  else none
def J4(P:Program)(cZ:Nat)(ops:Array Oper):Bool->Option H
  | false=>match Cl P ops cZ (List.range ops.size)with
    |some l=>some (.D l)
    |none=>none
  | true=>
    let order:=ahT ops ops.size (List.range ops.size) []
    if Uv ops.size order then
      match Fs P ops cZ (y2 ops.toList []) order []with
      |some l=>some (.D l)
      |none=>none
    else none
def qD(P:Program)(cZ:Nat):Code->Option H
  | .skip=>some .skip
  | .region _ ops rz=>match PE P cZ ops rz with
    |some c=>some c
    |none=>J4 P cZ ops rz
  | .seq a b=>match qD P cZ a,qD P cZ b with
    |some x,some y=>some (.B x y)
    |_,_=>none
  | .cond c a b=>match qD P cZ a,qD P cZ b with
    |some x,some y=>if cX c then some (.aM c x y)else none
    |_,_=>none
  | .block id c=>match qD P cZ c with
    |some x=>some (.block id x)
    |none=>none
  | .loop c=>match qD P cZ c with
    |some x=>some (.loop x)
    |none=>none
  | .exit id=>some (.a7 id)
  | .ret=>some .aF
  |_=>none
def wh(P:Program)(cZ:Nat):List ResultVar->Option (List ld)
  |[]=>some []
  | .tmp t::r=>match wh P cZ r with
    |some l=>if t<cZ then some (.bw t::l)else none
    |none=>none
  | .cell a t::r=>match oU P t,kS P t,wh P cZ r with
    |some dp,some n,some l=>if a<cZ then some (.im a dp n::l)else none
    |_,_,_=>none
def bW(P:Program)(f:Nat):Option bM:=
  match P.funcs[f]? with
  | some fn=>if fn.name== "runtime.NumGoroutine" then none else match fn.body with
    | some c=>match qD P fn.ntmps c,wh P fn.ntmps fn.results.toList with
      |some b,some cy=>some ⟨fn.ntmps,cy,b⟩
      |_,_=>none
    |none=>none
  |none=>none
noncomputable def jV(P:Program):Nat->Callee
  |0,_,_,_=>none
  | n+1,f,args,m=>match bW P f with
    | some u=>if args.length<=u.cZ then
        (match eu (jV P n) n u.body (jI args) m with
        |some (.a7 _,_,_)=>none
        |some (_,ak,aq)=>if k7 aq ak u.jA then some (lu aq ak u.jA,aq)else none
        |none=>none)
      else none
    |none=>none
open Go Go.RowKit
structure tb where
  c:Nat
  o:Nat
  n:Nat
abbrev eJ:=Nat->Option tb
inductive dF(an:eJ):Value->Value->Prop
  |cH {v:Value} (h:dZ v=true):dF an v v
  |cw {b off:Nat} {l:tb} (h:an b=some l):dF an (.pointer (some ⟨b,off,none⟩)) (.pointer (some ⟨l.c,l.o+off,none⟩))
  | slice {b off len J cap:Nat} {dG:Addr} {l:tb} (h:an b=some l) (az:(cap=0/\len=0)\/(dG=⟨l.c,l.o+off,none⟩/\off+cap*J<=l.n)) (aB:len<=cap) (ax:cap<=maxLen):
      dF an (.slice (some ⟨b,off,none⟩) len J) (.slice (some dG) len cap)
  |agg {xs ys:Array Value} (K:xs.size=ys.size) (h: ∀(i:Nat) (x y:Value),xs[i]?=some x->ys[i]?=some y->dF an x y) (E: ∀x∈xs.toList,S x=true):dF an (.agg xs) (.agg ys)
  |tuple {xs ys:Array Value} (K:xs.size=ys.size) (h: ∀(i:Nat) (x y:Value),xs[i]?=some x->ys[i]?=some y->dF an x y):dF an (.tuple xs) (.tuple ys)
  | func {fn:Fn} {xs ys cs ds:Array Value} (K:xs.size=ys.size) (h: ∀(i:Nat) (x y:Value),xs[i]?=some x->ys[i]?=some y->dF an x y)
      (iP:cs.size=ds.size) (I: ∀(i:Nat) (x y:Value),cs[i]?=some x->ds[i]?=some y->dF an x y):dF an (.func fn xs cs) (.func fn ys ds)
  |iface {t:TypeId} {v bx:Value} (h:dF an v bx):dF an (.iface t v) (.iface t bx)
  |map {b:Nat} {l:tb} (h:an b=some l):dF an (.map (some b)) (.map (some l.c))
def gl(an cM:eJ):Prop:= ∀b l,an b=some l->cM b=some l
theorem gl.refl(an:eJ):gl an an:= λ_ _ h=>h
theorem gl.trans{a b c:eJ}(h:gl a b)(bS:gl b c):gl a c:= λx l G=>bS x l (h x l G)
theorem dF.b8{an cM:eJ}(fR:gl an cM){v bx:Value}(h:dF an v bx):dF cM v bx:=by
  induction h with
  |cH h=>exact .cH h
  |cw h=>exact .cw (fR _ _ h)
  |slice h az aB ax=>exact .slice (fR _ _ h) az aB ax
  |agg K _ E cx=>exact .agg K cx E
  |tuple K _ cx=>exact .tuple K cx
  |func K _ iP _ cx RG=>exact .func K cx iP RG
  |iface _ cx=>exact .iface cx
  |map h=>exact .map (fR _ _ h)
def c5(an:eJ)(xs ys:List Value):Prop:=xs.length=ys.length/\ ∀(i:Nat) (x y:Value),xs[i]?=some x->ys[i]?=some y->dF an x y
theorem c5.nil(an:eJ):c5 an [] []:=⟨rfl,by intro i x y h;simp at h⟩
theorem c5.cons{an:eJ}{x y:Value}{xs ys:List Value}(h:dF an x y)(K:c5 an xs ys):c5 an (x::xs) (y::ys):=by
  refine⟨by simp[K.1],λi a b aA hb=> ?_⟩;cases i with
  |zero=>simp at aA hb;subst aA;subst hb;exact h
  |succ i=>exact K.2 i a b (by simpa using aA) (by simpa using hb)
theorem c5.b8{an cM:eJ}(fR:gl an cM){xs ys:List Value}(h:c5 an xs ys):c5 cM xs ys:=⟨h.1,λi x y G af=>(h.2 i x y G af).b8 fR⟩
theorem c5.agg{an:eJ}{xs ys:List Value}(h:c5 an xs ys)(E: ∀x∈xs,S x=true):dF an (.agg xs.toArray) (.agg ys.toArray):= .agg (by simpa using h.1) (by simpa using h.2) (by simpa using E)
theorem c5.tuple{an:eJ}{xs ys:List Value}(h:c5 an xs ys):dF an (.tuple xs.toArray) (.tuple ys.toArray):= .tuple (by simpa using h.1) (by simpa using h.2)
theorem c5.o6{an:eJ}{a b c d:List Value}(h:c5 an a b)(bS:c5 an c d):c5 an (a++c) (b++d):=by
  refine⟨by simp[h.1,bS.1],λi x y G af=> ?_⟩;rw[xI]at G af;rw[<-h.1]at af;split at G
  · rename_i ai;rw[if_pos ai]at af;exact h.2 _ _ _ G af
  · rename_i ai;rw[if_neg ai]at af;exact bS.2 _ _ _ G af
theorem c5.drop{an:eJ}{a b:List Value}(h:c5 an a b)(n:Nat):c5 an (a.drop n) (b.drop n):=
  ⟨by simp[h.1],λi x y G af=>h.2 (n+i) x y (by simpa using G) (by simpa using af)⟩
theorem c5.take{an:eJ}{a b:List Value}(h:c5 an a b)(n:Nat):c5 an (a.take n) (b.take n):=by
  refine⟨by simp[h.1],λi x y G af=> ?_⟩;rw[vT]at G af;split at G
  · rename_i ai;rw[if_pos ai]at af;exact h.2 _ _ _ G af
  · cases G
theorem c5.set{an:eJ}{a b:List Value}(h:c5 an a b)(n:Nat){x y:Value}(ad:dF an x y):c5 an (a.set n x) (b.set n y):=by
  refine⟨by simp[h.1],λi bt v G af=> ?_⟩;rw[s5]at G af;rw[<-h.1]at af;split at G
  · rename_i ai;rw[if_pos ai]at af;split at G
    · rename_i I;rw[if_pos I]at af;simp at G af;subst G;subst af;exact ad
    · cases G
  · rename_i ai;rw[if_neg ai]at af;exact h.2 _ _ _ G af
theorem c5.gL{an:eJ}: ∀{cz fb:List Value} {a b:List Value} (off:Nat),c5 an a b->c5 an cz fb->c5 an (gL a off cz) (gL b off fb)
  |[],[],_,_,_,h,_=>h
  |[],bt::fb,_,_,_,_,I=>by simp[c5]at I
  |v::cz,[],_,_,_,_,I=>by simp[c5]at I
  | v::cz,bt::fb,a,b,off,h,I=>by simp only[Go.DI.gL];exact c5.gL (off+1) (h.set off (I.2 0 v bt rfl rfl)) ⟨by simpa using I.1,λi x y G af=>I.2 (i+1) x y (by simpa using G) (by simpa using af)⟩
theorem c5.X{an:eJ}{a b:List Value}(h:c5 an a b){i:Nat}{x:Value}(G:a[i]?=some x): ∃y,b[i]?=some y/\dF an x y:=by have ai:i<a.length:=(dO.1 G).1;rw[h.1]at ai;exact⟨b[i],cD ai,h.2 i x _ G (cD ai)⟩
theorem c5.D9{an:eJ}{c4:Type}(f g:c4->Value): ∀(l:List c4),(∀x∈l,dF an (f x) (g x))->c5 an (l.map f) (l.map g)
  |[],_=>c5.nil an
  |x::l,h=>c5.cons (h x (by simp)) (c5.D9 f g l λy af=>h y (by simp[af]))
theorem c5.cH(an:eJ){cs:List Value}(h:cs.all dZ=true):c5 an cs cs:=by refine⟨rfl,λi x y G af=> ?_⟩;rw[G]at af;cases af;exact .cH (eQ.1 h x (gJ G))
theorem wA{v:Value}(h:dZ v=true):S v=true:=by cases v<;>simp_all [dZ,Go.DI.S]
theorem dF.mV(an:eJ){v:Value}(h:mV v=true):dF an v v:=by
  unfold Go.DI.mV at h;split at h
  · rename_i cs;have:=c5.agg (c5.cH an h) (λv ad=>wA (eQ.1 h v ad));simpa using this
  · rename_i cs;have:=c5.tuple (c5.cH an h);simpa using this
  · exact .cH h
theorem dF.undef(an:eJ):dF an undef undef:=c5.tuple (c5.nil an)
theorem dF.S{an:eJ}{v bx:Value}(h:dF an v bx):S bx=S v:=by cases h<;>simp[Go.DI.S]
theorem V8{an:eJ}{v bx:Value}(h:dF an v bx):c5 an (O v) bx.cells.toList:=by
  cases h with
  |agg K h _=>exact⟨by simpa[O,Value.cells]using K,by simpa[O,Value.cells]using h⟩
  | cH h=>cases v<;>simp[dZ]at h<;>exact c5.cons (.cH (by simp[dZ,h])) (c5.nil an)
  |cw h=>exact c5.cons (.cw h) (c5.nil an)
  |slice h az aB ax=>exact c5.cons (.slice h az aB ax) (c5.nil an)
  |tuple K h=>exact c5.cons (.tuple K h) (c5.nil an)
  |func K h iP I=>exact c5.cons (.func K h iP I) (c5.nil an)
  |iface h=>exact c5.cons (.iface h) (c5.nil an)
  |map h=>exact c5.cons (.map h) (c5.nil an)
theorem V7{an:eJ}{v bx:Value}(h:dF an v bx)(az:U v=true): ∀x∈O v,S x=true:=by
  intro x G;cases h with
  |agg K h E=>exact E x G
  |cH h=>cases v<;>simp[dZ,O]at h G<;>subst G<;>rfl
  |cw h=>simp[O]at G;subst G;rfl
  |slice h az aB ax=>simp[O]at G;subst G;rfl
  |tuple K h=>simp[U]at az
  |func K h iP I=>simp[O]at G;subst G;rfl
  |iface h=>simp[O]at G;subst G;rfl
  |map h=>simp[O]at G;subst G;rfl
theorem dF.ajD{an:eJ}{xs:Array Value}{v:Value}(h:dF an (.agg xs) v): ∀x∈xs.toList,Go.DI.S x=true:=by
  cases h with
  |cH h=>simp[dZ]at h
  |agg K h E=>exact E
theorem dF.qU{an:eJ}{k:IntKind}{n:Int}{v:Value}(h:dF an (.int k n) v):v= .int k n:=by cases h;rfl
theorem dF.qT{an:eJ}{b:Bool}{v:Value}(h:dF an (.bool b) v):v= .bool b:=by cases h;rfl
theorem dF.wN{an:eJ}{s:ByteArray}{v:Value}(h:dF an (.string s) v):v= .string s:=by cases h;rfl
theorem dF.p9{an:eJ}{a:Addr}{v:Value}(h:dF an (.pointer (some a)) v): ∃l,an a.block=some l/\a.spot=none/\v= .pointer (some ⟨l.c,l.o+a.off,none⟩):=by
  cases h with
  |cH h=>simp[dZ]at h
  |cw h=>exact⟨_,h,rfl,rfl⟩
theorem dF.m1{an:eJ}{a:Addr}{len J:Nat}{v:Value}(h:dF an (.slice (some a) len J) v):
    ∃l dG cap,an a.block=some l/\a.spot=none/\v= .slice (some dG) len cap/\((cap=0/\len=0)\/(dG=⟨l.c,l.o+a.off,none⟩/\a.off+cap*J<=l.n))/\len<=cap/\cap<=maxLen:=by
  cases h with
  |cH h=>simp[dZ]at h
  |slice h az aB ax=>exact⟨_,_,_,h,rfl,rfl,az,aB,ax⟩
theorem dF.rN{an:eJ}{xs:Array Value}{v:Value}(h:dF an (.agg xs) v): ∃ys,v= .agg ys/\c5 an xs.toList ys.toList:=by
  cases h with
  |cH h=>simp[dZ]at h
  |agg K h _=>exact⟨_,rfl,by simpa using K,by simpa using h⟩
theorem dF.Ax{an:eJ}{xs:Array Value}{v:Value}(h:dF an (.tuple xs) v): ∃ys,v= .tuple ys/\c5 an xs.toList ys.toList:=by
  cases h with
  |cH h=>simp[dZ]at h
  |tuple K h=>exact⟨_,rfl,by simpa using K,by simpa using h⟩
theorem dF.Aw{an:eJ}{fn:Fn}{xs cs:Array Value}{v:Value}(h:dF an (.func fn xs cs) v): ∃ys ds,v= .func fn ys ds/\c5 an xs.toList ys.toList/\c5 an cs.toList ds.toList:=by
  cases h with
  |cH h=>simp[dZ]at h
  |func K h iP I=>exact⟨_,_,rfl,⟨by simpa using K,by simpa using h⟩,by simpa using iP,by simpa using I⟩
theorem dF.Gy{an:eJ}{t:TypeId}{x v:Value}(h:dF an (.iface t x) v): ∃y,v= .iface t y/\dF an x y:=by
  cases h with
  |cH h=>simp[dZ]at h
  |iface h=>exact⟨_,rfl,h⟩
theorem dF.Gz{an:eJ}{b:Nat}{v:Value}(h:dF an (.map (some b)) v): ∃l,an b=some l/\v= .map (some l.c):=by
  cases h with
  |cH h=>simp[dZ]at h
  |map h=>exact⟨_,h,rfl⟩
theorem dF.h7{an:eJ}{v bx:Value}(h:dF an v bx)(aT:dZ v=true):bx=v:=by cases h<;>first|rfl|simp[dZ]at aT
structure gK(an:eJ)(cZ:Nat)(A:aR)(a:Act):Prop where
  size:a.tmps.size=cZ
  defers:a.defers=[]
  mL: ∀t,dF an (A t) (a.tmps.getD t undef)
theorem gK.b8{an cM:eJ}(fR:gl an cM){cZ:Nat}{A:aR}{a:Act}(h:gK an cZ A a):gK cM cZ A a:=⟨h.size,h.defers,λt=>(h.mL t).b8 fR⟩
theorem gK.Z{an:eJ}{cZ:Nat}{A:aR}{a:Act}(h:gK an cZ A a){x:Operand}(G:cX x=true):dF an (Z A x) (a.eval x):=by
  cases x with
  |tmp t=>exact h.mL t
  |const v=>exact dF.mV an G
  |func f=>exact .func rfl (by intro i x y h;simp at h) rfl (by intro i x y h;simp at h)
  |global g=>simp[cX]at G
theorem gK.a0{an:eJ}{cZ:Nat}{A:aR}{a:Act}(h:gK an cZ A a){d:Option Nat}(aD:d.all (λd=>decide (d<cZ))=true){v bx:Value}(ad:dF an v bx):gK an cZ (dc A d v) (a.put d bx):=by
  cases d with
  |none=>exact h
  | some d=>
    have pZ:d<cZ:=(by simpa using aD);refine⟨by simp[Act.put,h.size],h.defers,λt=> ?_⟩;simp only[dc,qt,Act.put];by_cases e:t=d
    · subst e;have:t<a.tmps.size:=(by rw[h.size];exact pZ);simpa[this]using ad
    · have:=h.mL t;simp only[Array.getD_eq_getD_getElem?]at this⊢;rw[Array.getElem?_setIfInBounds_ne (Ne.symm e)];simpa[e]using this
def xR(an:eJ)(bc:List (Value×Value))(de:List MapEntry):Prop:=bc.length=de.length/\ ∀(i:Nat) e et,bc[i]?=some e->de[i]?=some et->dZ e.1=true/\et.key=e.1/\S e.2=true/\dF an e.2 et.val
theorem xR.b8{an cM:eJ}(fR:gl an cM){bc:List (Value×Value)}{de:List MapEntry}(h:xR an bc de):xR cM bc de:=
  ⟨h.1,λi e et E I=>by obtain⟨a,b,c,d⟩:=h.2 i e et E I;exact⟨a,b,c,d.b8 fR⟩⟩
theorem W.uU{m:W}{b:Nat}{bc:List (Value×Value)}(h:m.eS b=some bc):m.X b=some ⟨[],true⟩/\m.mp b=some bc:=by
  unfold W.eS at h;split at h
  · rename_i aP;exact⟨aP,h⟩
  · cases h
theorem W.kq{m:W}{b:Nat}{bc:List (Value×Value)}(E:m.X b=some ⟨[],true⟩)(I:m.mp b=some bc):m.eS b=some bc:=by unfold W.eS;rw[E];exact I
structure dB(aV:Nat)(an:eJ)(m:W)(w:World):Prop where
  mf: ∀b l,an b=some l->b<m.next
  mi: ∀b l,an b=some l->l.c<w.heap.size
  mn: ∀b x,m.X b=some x-> ∃l,an b=some l/\x.cells.length<=l.n/\(∀i v,x.cells[i]?=some v->S v=true/\ ∃bx,w.cell? ⟨l.c,l.o+i,none⟩=some bx/\dF an v bx)/\
    (x.own=true->aV<=l.c/\ ∀i,i<l.n->(w.cell? ⟨l.c,l.o+i,none⟩).isSome=true/\w.frozen? ⟨l.c,l.o+i,none⟩=false)
  rA: ∀b x cd ic l dh,m.X b=some x->x.own=true->m.X cd=some ic->b≠cd->an b=some l->an cd=some dh->l.c≠dh.c
  ua: ∀b bc,m.mp b=some bc-> ∃l,an b=some l
  maps: ∀b bc,m.eS b=some bc-> ∃l de aks,an b=some l/\aV<=l.c/\w.heap[l.c]?=some (.map de aks)/\xR an bc de.toList
theorem W.a6{m:W}{b:Nat}{x:fB}(h:m.X b=some x):b<m.next:=by
  unfold W.X at h;split at h
  · assumption
  · cases h
theorem W.nv(m:W)(b cd:Nat)(x:Option fB):(m.a0 b x).X cd=if cd=b then(if b<m.next then x else none)else m.X cd:=by
  unfold W.X W.a0;by_cases h:cd=b
  · subst h;simp
  · simp[h]
theorem W.e0(m:W)(k b:Nat):(m.cf k).X b=m.X b:=by
  unfold W.X W.cf;by_cases h:b<m.next
  · simp[h,pH h (Nat.le_add_right _ _)]
  · simp[h]
theorem W.ahe(m:W)(b:Nat)(x:Option fB):(m.a0 b x).next=m.next:=rfl
theorem W.ti(m:W)(k:Nat):(m.cf k).next=m.next+k:=rfl
theorem dB.cf{aV:Nat}{an:eJ}{m:W}{w:World}(h:dB aV an m w)(k:Nat):dB aV an (m.cf k) w:=
  ⟨λb l hb=>pH (h.mf b l hb) (by simp[W.ti]),h.mi,λb x G=>h.mn b x (by rwa [W.e0]at G),
   λb x cd ic l dh E I av=>h.rA b x cd ic l dh (by rwa [W.e0]at E) I (by rwa [W.e0]at av),
   h.ua,λb bc hb=>by obtain⟨aK,bb⟩:=W.uU hb;rw[W.e0]at aK;exact h.maps b bc (W.kq aK bb)⟩
theorem dB.aiw{aV:Nat}{an:eJ}{m:W}{w c3:World}(h:dB aV an m w)(aQ:c3.heap=w.heap):dB aV an m c3:=by
  have ar: ∀a,c3.cell? a=w.cell? a:= λa=>by simp[World.cell?,aQ]
  have aT: ∀a,c3.frozen? a=w.frozen? a:= λa=>by simp[World.frozen?,aQ]
  exact⟨h.mf,by rw[aQ];exact h.mi,λb x G=>by simpa only[ar,aT]using h.mn b x G,h.rA,h.ua,λb bc hb=>by rw[aQ];exact h.maps b bc hb⟩
def jd(P:Program)(o:Oper)(a:Act)(w:World)(v:Value)(c3:World):Prop:=
  (execOp a.eval o).run P w= .ok (.value v) c3\/((execOp a.eval o).run P w= .ok .skip c3/\v=undef)
section
variable {P:Program} {o:Oper} {a:Act} {w:World}
theorem aFm{x:Operand}(bB:o.op= .move x):jd P o a w (a.eval x) w:= .inl (by simp[execOp,bB])
theorem aE5{x:Operand}(bB:o.op= .assign x):jd P o a w (a.eval x) w:= .inl (by simp[execOp,bB])
theorem aFo{c x y:Operand}{b:Bool}(bB:o.op= .pick c x y)(ar:a.eval c= .bool b):jd P o a w (if b then a.eval x else a.eval y) w:=
  .inl (by simp[execOp,bB,ar,asBool])
theorem aFn{x:Operand}(bB:o.op= .nilCheck x)(G:AW (a.eval x)=true):jd P o a w (a.eval x) w:=by
  refine .inl ?_;simp only[execOp,bB];generalize a.eval x=v at G;cases v<;>simp_all [AW]
  · rename_i p;cases p<;>simp_all
  · rename_i fn _ _;cases fn<;>simp_all
theorem Jo{op:BinOp}{t zz:TypeId}{x y:Operand}{v:Value}(bB:o.op= .binOp op t x y zz)(aP:(eqGuard op t x y (a.eval x) (a.eval y)).run P w= .ok () w)
    (h:(binOp op t (a.eval x) (a.eval y)).run P w= .ok v w):jd P o a w v w:=
  .inl (by simp[execOp,bB,aP,h])
theorem aFr{op:UnOp}{t:TypeId}{x:Operand}(bB:o.op= .unOp op t x)(G:xA op (a.eval x)=true):jd P o a w (BY op (a.eval x)) w:=by refine .inl ?_;simp only[execOp,bB];generalize a.eval x=v at G;cases op<;>cases v<;>simp_all [xA,BY,Op.unary,Op.intArith]
theorem aFd{x:Operand}{i:Nat}{cz:Array Value}(bB:o.op= .extract x i)(G:a.eval x= .tuple cz)(ai:i<cz.size):jd P o a w (BW (a.eval x) i) w:=by refine .inl ?_;simp[execOp,bB,G,Instr.extract,ai,BW]
theorem aFa{s d:TypeId}{k TT en:IntKind}{n:Int}{x:Operand}(bB:o.op= .convert s d x)(K:P.underlying s=some (.int TT))(aD:P.underlying d=some (.int k))(G:a.eval x= .int en n):
    jd P o a w (.int k (k.wrap n)) w:=by
  refine .inl ?_;simp[execOp,bB,G,convert,underlying,K,aD,Conv.intToInt]
theorem aFb{s d:TypeId}{b:ByteArray}{x:Operand}(bB:o.op= .convert s d x)(K:P.underlying s=some .string)(aD:P.underlying d=some .string)(G:a.eval x= .string b):
    jd P o a w (.string b) w:=by
  refine .inl ?_;simp[execOp,bB,G,convert,underlying,K,aD]
theorem aFl{fn:Fn}{x y:Array Operand}(bB:o.op= .makeFunc fn x y):jd P o a w (.func fn (x.map a.eval) (y.map a.eval)) w:=
  .inl (by simp[execOp,bB,Instr.makeFunc])
theorem aFe{s:TypeId}{x:Operand}{i:Nat}{fG:Array Field}{f:Field}{bG:TypeInfo}{c off:Nat}(bB:o.op= .fieldAddr s x i)(K:P.underlying s=some (.struct fG))(aT:fG[i]?=some f)
    (ai:P.info? f.type=some bG) (az:0<bG.size) (G:a.eval x= .pointer (some ⟨c,off,none⟩)):jd P o a w (.pointer (some ⟨c,off+f.offset,none⟩)) w:=by
  refine .inl ?_;have:bG.size≠0:=by omega
  simp[execOp,bB,G,Instr.fieldAt,underlying,K,aT,Instr.sureAddr,fieldPlace,sizeOf,typeInfo,ai,this,Addr.add]
theorem aFg{t e:TypeId}{x i:Operand}{bG:TypeInfo}{c off len cap:Nat}{k:IntKind}{n:Int}(bB:o.op= .indexAddr t x i)(bA:P.underlying t=some (.slice e))
    (ai:P.info? e=some bG) (G:a.eval x= .slice (some ⟨c,off,none⟩) len cap) (az:a.eval i= .int k n) (dk:0<=n) (E:n<(len:Int)):
    jd P o a w (.pointer (some ⟨c,off+n.toNat*bG.size,none⟩)) w:=by
  refine .inl ?_;simp[execOp,bB,G,az,Instr.indexAt,asIntOf,underlying,bA,sizeOf,typeInfo,ai,dk,E,Addr.add]
theorem aFh{t e:TypeId}{x i:Operand}{bG:TypeInfo}{c off len:Nat}{k:IntKind}{n:Int}(bB:o.op= .indexAddr t x i)(bA:P.underlying t=some (.array len e))
    (ai:P.info? e=some bG) (G:a.eval x= .pointer (some ⟨c,off,none⟩)) (az:a.eval i= .int k n) (dk:0<=n) (E:n<(len:Int)):
    jd P o a w (.pointer (some ⟨c,off+n.toNat*bG.size,none⟩)) w:=by
  refine .inl ?_;simp[execOp,bB,G,az,Instr.indexAt,asIntOf,underlying,bA,sizeOf,typeInfo,ai,dk,E,Addr.add,Instr.sureAddr]
theorem aFi{t:TypeId}{x i:Operand}{s:ByteArray}{k:IntKind}{n:Int}(bB:o.op= .index t x i)(bA:P.underlying t=some .string)
    (G:a.eval x= .string s) (az:a.eval i= .int k n) (dk:0<=n) (E:n<(s.size:Int)):
    jd P o a w (.int .u8 ((s.data.toList.getD n.toNat 0).toNat:Nat)) w:=by
  refine .inl ?_;have I:n.toNat<s.size:=by omega
  have av:s[n.toNat]?=some (s.data.toList.getD n.toNat 0):=by rw[getElem?_pos s n.toNat I];have:n.toNat<s.data.size:=I;simp only[la,EW,zA this,zG];rfl
  simp[execOp,bB,G,az,Instr.index,asIntOf,underlying,bA,dk,av]
theorem aFj{c:Call}{x:Operand}{t:TypeId}{s:ByteArray}(bB:o.op= .call c)(ar:c.callee= .builtin .len)(aA:c.args.toList=[x])(dr:c.argTypes.toList=[t])
    (bA:P.underlying t=some .string) (G:a.eval x= .string s):jd P o a w (.int .i64 s.size) w:=by
  refine .inl ?_;have nw:c.args= #[x]:=by rw[<-qw (xs:=c.args),aA]
  have wD:c.argTypes= #[t]:=by rw[<-qw (xs:=c.argTypes),dr]
  simp[execOp,bB,resolve,ar,nw,wD,invoke,builtin,Builtin.len_,underlying,bA,G,goInt]
theorem aFk{c:Call}{x:Operand}{t e:TypeId}{p:Option Addr}{l cap:Nat}(bB:o.op= .call c)(ar:c.callee= .builtin .len)(aA:c.args.toList=[x])(dr:c.argTypes.toList=[t])
    (bA:P.underlying t=some (.slice e)) (G:a.eval x= .slice p l cap):jd P o a w (.int .i64 l) w:=by
  refine .inl ?_;have nw:c.args= #[x]:=by rw[<-qw (xs:=c.args),aA]
  have wD:c.argTypes= #[t]:=by rw[<-qw (xs:=c.argTypes),dr]
  simp[execOp,bB,resolve,ar,nw,wD,invoke,builtin,Builtin.len_,underlying,bA,G,goInt]
theorem aE9{c:Call}{x:Operand}{t e:TypeId}{p:Option Addr}{l cap:Nat}(bB:o.op= .call c)(ar:c.callee= .builtin .cap)(aA:c.args.toList=[x])(dr:c.argTypes.toList=[t])
    (bA:P.underlying t=some (.slice e)) (G:a.eval x= .slice p l cap):jd P o a w (.int .i64 cap) w:=by
  refine .inl ?_;have nw:c.args= #[x]:=by rw[<-qw (xs:=c.args),aA]
  have wD:c.argTypes= #[t]:=by rw[<-qw (xs:=c.argTypes),dr]
  simp[execOp,bB,resolve,ar,nw,wD,invoke,builtin,Builtin.cap_,underlying,bA,G,goInt]
end
section
variable {P:Program} {w:World}
theorem aCI{t:TypeId}(d:Nat)(h:P.underlying t=some .bool)(a b:Bool):(Op.equalIn (d+1) t (.bool a) (.bool b)).run P w= .ok (a==b) w:=by simp[Op.equalIn,run_underlying h]
theorem aCK{t e:TypeId}(d:Nat)(h:P.underlying t=some (.pointer e))(p q:Option Addr)(p6:p=none\/q=none):(Op.equalIn (d+1) t (.pointer p) (.pointer q)).run P w= .ok (p.isNone&&q.isNone) w:=by
  rcases p6 with rfl|rfl
  · simp[Op.equalIn,run_underlying h]
  · cases p<;>simp[Op.equalIn,run_underlying h]
theorem aCL{t e:TypeId}(d:Nat)(h:P.underlying t=some (.slice e))(p q:Option Addr)(l c dh km:Nat)(p6:p=none\/q=none):(Op.equalIn (d+1) t (.slice p l c) (.slice q dh km)).run P w= .ok (p.isNone&&q.isNone) w:=by
  rcases p6 with rfl|rfl
  · simp[Op.equalIn,run_underlying h]
  · cases p<;>simp[Op.equalIn,run_underlying h]
theorem aCJ{t:TypeId}{bY bs:Array TypeId}{V9:Bool}(d:Nat)(h:P.underlying t=some (.func bY bs V9))(x y:Value)
    (tI:(x= .nilFunc/\y= .nilFunc)\/(x= .nilFunc/\ ∃a b c,y= .func a b c)\/(y= .nilFunc/\ ∃a b c,x= .func a b c)):(Op.equalIn (d+1) t x y).run P w= .ok (qb x&&qb y) w:=by
  rcases tI with⟨rfl,rfl⟩|⟨rfl,_,_,_,rfl⟩|⟨rfl,_,_,_,rfl⟩<;>simp[Op.equalIn,run_underlying h,qb]
theorem aCM{t:TypeId}(h:P.underlying t=some .bool)(a b:Bool):(Op.equal t (.bool a) (.bool b)).run P w= .ok (a==b) w:=aCI 9999 h a b
theorem ahw{t e:TypeId}(h:P.underlying t=some (.pointer e))(p q:Option Addr)(p6:p=none\/q=none):(Op.equal t (.pointer p) (.pointer q)).run P w= .ok (p.isNone&&q.isNone) w:=aCK 9999 h p q p6
theorem ahx{t e:TypeId}(h:P.underlying t=some (.slice e))(p q:Option Addr)(l c dh km:Nat)(p6:p=none\/q=none):(Op.equal t (.slice p l c) (.slice q dh km)).run P w= .ok (p.isNone&&q.isNone) w:=aCL 9999 h p q l c dh km p6
theorem UX{t:TypeId}{bY bs:Array TypeId}{V9:Bool}(h:P.underlying t=some (.func bY bs V9))(x y:Value)
    (tI:(x= .nilFunc/\y= .nilFunc)\/(x= .nilFunc/\ ∃a b c,y= .func a b c)\/(y= .nilFunc/\ ∃a b c,x= .func a b c)):(Op.equal t x y).run P w= .ok (qb x&&qb y) w:=aCJ 9999 h x y tI
theorem aEt{t:TypeId}(h:oV P t= .bool):P.underlying t=some .bool:=by unfold oV at h;split at h<;>first|assumption|cases h
theorem aid{t:TypeId}(h:oV P t= .cw): ∃e,P.underlying t=some (.pointer e):=by unfold oV at h;split at h<;>first|exact⟨_,by assumption⟩|cases h
theorem aie{t:TypeId}(h:oV P t= .slice): ∃e,P.underlying t=some (.slice e):=by unfold oV at h;split at h<;>first|exact⟨_,by assumption⟩|cases h
theorem V1{t:TypeId}(h:oV P t= .fn): ∃a b c,P.underlying t=some (.func a b c):=by unfold oV at h;split at h<;>first|exact⟨_,_,_,by assumption⟩|cases h
theorem N8{op:BinOp}{t:TypeId}{x y:Operand}{bt v:Value}(E:bt≠ .nilIface)(I:sJ bt=false):(eqGuard op t x y bt v).run P w= .ok () w:=by
  unfold eqGuard;by_cases bB:op= .eql\/op= .neq
  · rcases bB with rfl|rfl<;>simp<;>cases bt<;>simp_all [sJ]
  · cases op<;>simp_all
theorem aCN{op:BinOp}{t:TypeId}{k gg:IntKind}{a b:Int}(h:Lc op k gg a b=true):(binOp op t (.int k a) (.int gg b)).run P w= .ok (CU op k a b) w:=by cases op<;>simp_all [Lc,binOp,CU,Op.intArith,Op.intDiv,Op.intBits,Op.intCmp,Op.shift]<;>first|rfl|(intro bS;omega)
theorem toList_beq(a b:ByteArray):(a.toList==b.toList)=decide (a=b):=by
  rw[Bool.eq_iff_iff];simp only[ByteArray.toList_eq,beq_iff_eq,e2];constructor
  · intro h;cases a;cases b;simpa using h
  · rintro rfl;rfl
theorem aCQ{op:BinOp}{t:TypeId}{a b:ByteArray}(h:I9 op a b=true):(binOp op t (.string a) (.string b)).run P w= .ok (zp op a b) w:=by have e:=toList_beq a b;cases op<;>simp_all [I9,binOp,zp,Op.stringOp];omega
theorem xV{op:BinOp}(mZ:op= .eql\/op= .neq){t:TypeId}{bt v:Value}(a2:e4 bt=false)(K:lo bt=false)(K4:yP bt=true->e4 v=false){r:Bool}(aT:(∀k a b,bt≠ .complex k a b)/\ ∀k a,bt≠ .float k a)
    (h:(Op.equal t bt v).run P w= .ok r w):(binOp op t bt v).run P w= .ok (.bool (if op= .eql then r else !r)) w:=by
  rcases mZ with rfl|rfl<;>cases bt<;>simp_all [e4,lo,binOp]
theorem ahv{op:BinOp}{t:TypeId}{an:eJ}{bt v zt bx:Value}(mZ:op= .eql\/op= .neq)(au:tu (oV P t) bt v=true)(a2:dF an bt zt)(ad:dF an v bx):
    (binOp op t zt bx).run P w= .ok (lg op bt v) w/\zt≠ .nilIface/\sJ zt=false:=by
  unfold tu at au;split at au
  · rename_i dr;have:=a2.qT;subst this;have:=ad.qT;subst this;refine⟨?_,by simp,rfl⟩;rw[xV mZ rfl rfl (by simp[yP]) (by simp) (aCM (aEt dr) _ _)];rcases mZ with rfl|rfl<;>simp[lg,oz]
  · rename_i p dr;obtain⟨e,bn⟩:=aid dr;have:=a2.h7 rfl;subst this;have yq: ∃q,bx= .pointer q/\q.isNone=p.isNone:=by
      cases p with
      |none=>exact⟨none,ad.h7 rfl,rfl⟩
      |some a=>obtain⟨l,_,_,h⟩:=ad.p9;exact⟨_,h,rfl⟩
    obtain⟨q,rfl,bd⟩:=yq;refine⟨?_,by simp,rfl⟩;rw[xV mZ rfl rfl (by simp[yP]) (by simp) (ahw bn _ _ (.inl rfl))];cases p<;>rcases mZ with rfl|rfl<;>simp_all [lg,oz,qb]
  · rename_i p _ dr;obtain⟨e,bn⟩:=aid dr;have:=ad.h7 rfl;subst this;have yq: ∃q,zt= .pointer q/\q.isNone=p.isNone:=by
      cases p with
      |none=>exact⟨none,a2.h7 rfl,rfl⟩
      |some a=>obtain⟨l,_,_,h⟩:=a2.p9;exact⟨_,h,rfl⟩
    obtain⟨q,rfl,bd⟩:=yq;refine⟨?_,by simp,rfl⟩;rw[xV mZ rfl rfl (by simp[e4]) (by simp) (ahw bn _ _ (.inr rfl))];cases p<;>rcases mZ with rfl|rfl<;>simp_all [lg,oz,qb]
  · rename_i gu bO p ga cA dr;obtain⟨e,bn⟩:=aie dr;have K4:zt= .slice none gu bO:=(by cases a2 with|cH h=>rfl);subst K4;have yq: ∃q l c,bx= .slice q l c/\q.isNone=p.isNone:=by
      cases p with
      |none=>cases ad with|cH h=>exact⟨_,_,_,rfl,rfl⟩
      |some a=>obtain⟨l,dG,cap,_,_,h,_⟩:=ad.m1;exact⟨_,_,_,h,rfl⟩
    obtain⟨q,l,c,rfl,bd⟩:=yq;refine⟨?_,by simp,rfl⟩;rw[xV mZ rfl rfl (by simp[yP]) (by simp) (ahx bn _ _ _ _ _ _ (.inl rfl))];cases p<;>rcases mZ with rfl|rfl<;>simp_all [lg,oz,qb]
  · rename_i p gu bO ga cA _ dr;obtain⟨e,bn⟩:=aie dr;have yq:bx= .slice none ga cA:=(by cases ad with|cH h=>rfl);subst yq;have K4: ∃q l c,zt= .slice q l c/\q.isNone=p.isNone:=by
      cases p with
      |none=>cases a2 with|cH h=>exact⟨_,_,_,rfl,rfl⟩
      |some a=>obtain⟨l,dG,cap,_,_,h,_⟩:=a2.m1;exact⟨_,_,_,h,rfl⟩
    obtain⟨q,l,c,rfl,bd⟩:=K4;refine⟨?_,by simp,rfl⟩;rw[xV mZ rfl rfl (by simp[yP]) (by simp) (ahx bn _ _ _ _ _ _ (.inr rfl))];cases p<;>rcases mZ with rfl|rfl<;>simp_all [lg,oz,qb]
  · rename_i dr;obtain⟨a,b,c,bn⟩:=V1 dr;have:=a2.h7 rfl;subst this;have:=ad.h7 rfl;subst this;refine⟨?_,by simp,rfl⟩;rw[xV mZ rfl rfl (by simp[yP]) (by simp) (UX bn _ _ (.inl ⟨rfl,rfl⟩))];rcases mZ with rfl|rfl<;>simp[lg,oz,qb]
  · rename_i dr;obtain⟨a,b,c,bn⟩:=V1 dr;have:=a2.h7 rfl;subst this;obtain⟨ys,ds,rfl,_⟩:=ad.Aw;refine⟨?_,by simp,rfl⟩;rw[xV mZ rfl rfl (by simp[yP]) (by simp) (UX bn _ _ (.inr (.inl ⟨rfl,_,_,_,rfl⟩)))];rcases mZ with rfl|rfl<;>simp[lg,oz,qb]
  · rename_i dr;obtain⟨a,b,c,bn⟩:=V1 dr;have:=ad.h7 rfl;subst this;obtain⟨ys,ds,rfl,_⟩:=a2.Aw;refine⟨?_,by simp,rfl⟩;rw[xV mZ rfl rfl (by simp[yP]) (by simp) (UX bn _ _ (.inr (.inr ⟨rfl,_,_,_,rfl⟩)))];rcases mZ with rfl|rfl<;>simp[lg,oz,qb]
  · cases au
theorem aE6{o:Oper}{a:Act}{op:BinOp}{t zz:TypeId}{x y:Operand}{an:eJ}{bt v:Value}(bB:o.op= .binOp op t x y zz)(G:dF an bt (a.eval x))(af:dF an v (a.eval y))
    (au:ru op (oV P t) bt v=true): ∃bx,jd P o a w bx w/\dF an (lg op bt v) bx:=by
  generalize hQ:a.eval x=zt at G;generalize tJ:a.eval y=bx at af;cases bt with
  | int k n=>
    cases v<;>simp only[ru]at au
    case int gg ho=>have:=G.qU;subst this;have:=af.qU;subst this;refine⟨CU op k n ho,Jo bB (N8 (by simp[hQ]) (by simp[hQ,sJ])) (by rw[hQ,tJ];exact aCN au),?_⟩;simp only[lg];exact .cH (by cases op<;>rfl)
    all_goals(cases op<;>first|cases au|(cases ar:oV P t<;>simp[ar,tu]at au))
  | string s=>
    cases v<;>simp only[ru]at au
    case string ki=>have:=G.wN;subst this;have:=af.wN;subst this;refine⟨zp op s ki,Jo bB (N8 (by simp[hQ]) (by simp[hQ,sJ])) (by rw[hQ,tJ];exact aCQ au),?_⟩;simp only[lg];exact .cH (by cases op<;>simp_all [zp,I9,dZ])
    all_goals(cases op<;>first|cases au|(cases ar:oV P t<;>simp[ar,tu]at au))
  | _=>
    simp only[ru]at au;have mZ:op= .eql\/op= .neq:=(by cases op<;>first|exact .inl rfl|exact .inr rfl|cases au);have Gg:=au;rcases mZ with rfl|rfl
    · obtain⟨E,I,av⟩:=ahv (w:=w) (.inl rfl) Gg G af;exact⟨_,Jo bB (N8 (by rw[hQ];exact I) (by rw[hQ];exact av)) (by rw[hQ,tJ];exact E),.cH (by simp[lg,dZ])⟩
    · obtain⟨E,I,av⟩:=ahv (w:=w) (.inr rfl) Gg G af;exact⟨_,Jo bB (N8 (by rw[hQ];exact I) (by rw[hQ];exact av)) (by rw[hQ,tJ];exact E),.cH (by simp[lg,dZ])⟩
end
section
variable {P:Program} {w:World} {o:Oper} {a:Act}
def vY(x:Option Value)(PU:Nat)(n:Nat):Prop:=(x=none/\n=PU)\/ ∃(k:IntKind) (i:Int),x=some (.int k i)/\0<=i/\i.toNat=n
theorem xo{k:IntKind}{i:Int}{y n:Nat}{c:BoundsCode}(dk:0<=i)(E:i.toNat=n)(I:n<=y):(Instr.sliceBound (.int k i) y c).run P w= .ok n w:=by
  have:i<=(y:Int):=by omega
  simp[Instr.sliceBound,asIntOf,dk,this,E]
theorem UU{Nm:Bool}{len cap l h:Nat}{cB ai:Option Value}(aB:vY cB 0 l)(aQ:vY ai len h)(E:l<=h)(I:h<=cap):
    (Instr.sliceBounds Nm len cap cB ai none).run P w= .ok (l,h,cap) w:=by
  rcases aB with⟨rfl,rfl⟩|⟨k,i,rfl,CI,p1⟩<;>rcases aQ with⟨rfl,rfl⟩|⟨gg,cU,rfl,F7,nx⟩
  · simp[Instr.sliceBounds]
  · simp[Instr.sliceBounds,xo F7 nx I]
  · simp[Instr.sliceBounds,xo CI p1 E]
  · simp[Instr.sliceBounds,xo F7 nx I,xo CI p1 E]
theorem aFq{t:TypeId}{x:Operand}{cB ai:Option Operand}{s:ByteArray}{l h:Nat}(bB:o.op= .slice t x cB ai none)(bA:P.underlying t=some .string)(G:a.eval x= .string s)
    (aB:vY (cB.map a.eval) 0 l) (aQ:vY (ai.map a.eval) s.size h) (E:l<=h) (I:h<=s.size):jd P o a w (.string (s.extract l h)) w:=by
  refine .inl ?_;simp[execOp,bB,G,Instr.sliceAt,Instr.slice,run_underlying bA,UU aB aQ E I]
theorem aiI{t e:TypeId}{x:Operand}{cB ai:Option Operand}{p:Option Addr}{len cap:Nat}{bG:TypeInfo}{l h:Nat}(bB:o.op= .slice t x cB ai none)(bA:P.underlying t=some (.slice e))(gW:P.info? e=some bG)
    (G:a.eval x= .slice p len cap) (aB:vY (cB.map a.eval) 0 l) (aQ:vY (ai.map a.eval) len h) (E:l<=h) (I:h<=cap):
    jd P o a w (.slice (if cap=l then p else p.map (·.add (l*bG.size))) (h-l) (cap-l)) w:=by
  refine .inl ?_;simp[execOp,bB,G,Instr.sliceAt,Instr.slice,run_underlying bA,UU aB aQ E I,sizeOf,typeInfo,gW]
theorem aFp{t e:TypeId}{x:Operand}{ef:Addr}{n:Nat}{bG:TypeInfo}(bB:o.op= .slice t x none none none)(aA:P.underlying t=some (.array n e))(gW:P.info? e=some bG)
    (G:a.eval x= .pointer (some ef)):jd P o a w (.slice (some (if n=0 then ef else ef.add (0*bG.size))) (n-0) (n-0)) w:=by
  refine .inl ?_;have hb:=UU (P:=P) (w:=w) (Nm:=false) (len:=n) (cap:=n) (l:=0) (h:=n) (cB:=none) (ai:=none) (.inl ⟨rfl,rfl⟩) (.inl ⟨rfl,rfl⟩) (ht _) (ey _);simp[execOp,bB,G,Instr.sliceAt,Instr.sureAddr,run_underlying aA,hb,sizeOf,typeInfo,gW]
theorem aCH{Nm:Bool}{len cap l h m:Nat}{cB:Option Value}{ai fr:Value}(aB:vY cB 0 l)(aQ: ∃(k:IntKind) (i:Int),ai= .int k i/\0<=i/\i.toNat=h)(ax: ∃(k:IntKind) (i:Int),fr= .int k i/\0<=i/\i.toNat=m)(E:l<=h)(I:h<=m)(av:m<=cap):
    (Instr.sliceBounds Nm len cap cB (some ai) (some fr)).run P w= .ok (l,h,m) w:=by
  obtain⟨gg,cU,rfl,F7,nx⟩:=aQ;obtain⟨hd,ks,rfl,yj,lJ⟩:=ax;rcases aB with⟨rfl,rfl⟩|⟨k,i,rfl,CI,p1⟩
  · simp[Instr.sliceBounds,xo yj lJ av,xo F7 nx I]
  · simp[Instr.sliceBounds,xo yj lJ av,xo F7 nx I,xo CI p1 E]
theorem aiH{t e:TypeId}{x ai fr:Operand}{cB:Option Operand}{p:Option Addr}{len cap:Nat}{bG:TypeInfo}{l h m:Nat}(bB:o.op= .slice t x cB (some ai) (some fr))(bA:P.underlying t=some (.slice e))(gW:P.info? e=some bG)
    (G:a.eval x= .slice p len cap) (aB:vY (cB.map a.eval) 0 l) (aQ: ∃(k:IntKind) (i:Int),a.eval ai= .int k i/\0<=i/\i.toNat=h) (ax: ∃(k:IntKind) (i:Int),a.eval fr= .int k i/\0<=i/\i.toNat=m) (E:l<=h) (I:h<=m) (av:m<=cap):
    jd P o a w (.slice (if m=l then p else p.map (·.add (l*bG.size))) (h-l) (m-l)) w:=by
  refine .inl ?_;simp[execOp,bB,G,Instr.sliceAt,Instr.slice,run_underlying bA,aCH aB aQ ax E I av,sizeOf,typeInfo,gW]
theorem zO{an:eJ}{cZ:Nat}{A:aR}(K:gK an cZ A a){x:Option Operand}(G:Eg x=true)(au:nK A x=true)(d:Nat)(dk:0<=g1 A x d):vY (x.map a.eval) d (g1 A x d).toNat:=by
  cases x with
  |none=>exact .inl ⟨rfl,by simp[g1]⟩
  | some x=>
    have aw:=K.Z (x:=x) G;simp only[nK]at au;simp only[g1]at dk⊢;cases ad:Z A x<;>simp[ad,e4]at au;rw[ad]at aw;refine .inr ⟨_,_,by simp[aw.qU];exact⟨rfl,rfl⟩,?_,?_⟩
    · simpa[ad,eZ]using dk
    · simp[eZ]
theorem Yj(off:Nat): ∀(cz:List Value) (j:Nat) (cs:Array Value),((cz.zipIdx j).foldl (λcs (c,j)=>cs.setIfInBounds (off+j) c) cs).toList=gL cs.toList (off+j) cz
  |[],_,_=>rfl
  | v::cz,j,cs=>by simp only[List.zipIdx_cons,xL,gL];rw[Yj off cz (j+1)];simp[pJ]
theorem ak9(off:Nat)(v:Value)(cs:Array Value):(v.cells.zipIdx.foldl (λcs (c,j)=>cs.setIfInBounds (off+j) c) cs).toList=gL cs.toList off v.cells.toList:=by have:=Yj off v.cells.toList 0 cs;simp only[Nat.add_zero]at this;rw[<-this,<-Array.foldl_toList];simp[Array.toList_zipIdx]
theorem Fl: ∀(cz:List Value) (off:Nat) (cs:List Value),(gL cs off cz).length=cs.length
  |[],_,_=>rfl
  |v::cz,off,cs=>by simp only[gL];rw[Fl cz];simp
theorem Xs(p:Value->Prop): ∀(cz:List Value) (off:Nat) (cs:List Value),(∀x∈cs,p x)->(∀x∈cz,p x)-> ∀x∈gL cs off cz,p x
  |[],_,_,h,_=>h
  | v::cz,off,cs,h,I=>by
    simp only[gL];refine Xs p cz _ _ (λx G=> ?_) (λx G=>I x (by simp[G]));rcases Ju G with av|av
    · exact h x av
    · subst av;exact I _ (by simp)
theorem Kt{an:eJ}{cZ:Nat}{A:aR}(K:gK an cZ A a)(vA:Nat->Option (Nat×Nat)): ∀(ps:List (Nat×Operand)) (h2:List (Nat×Nat×Operand)) (cs:List Value) (ds:Array Value),
    (ps.length=h2.length/\ ∀(i:Nat) p q,ps[i]?=some p->h2[i]?=some q->p.2=q.2.2/\cX p.2=true/\vA p.1=some (q.1,q.2.1))->
    c5 an cs ds.toList->(∀x∈cs,S x=true)->qh cs A h2=true-> ∃fL:Array Value,Instr.fill vA ds (ps.map λp=>(p.1,a.eval p.2))=some fL/\c5 an (l5 cs A h2) fL.toList/\(∀x∈l5 cs A h2,S x=true)
  |[],[],cs,ds,_,aw,aE,_=>⟨ds,rfl,aw,aE⟩
  |[],_::_,_,_,p6,_,_,_=>by simp at p6
  |_::_,[],_,_,p6,_,_,_=>by simp at p6
  | p::ps,(a8,bE,b7)::h2,cs,ds,p6,aw,aE,au=>by obtain⟨aJ,aU,cu⟩:=p6.2 0 p (a8,bE,b7) rfl rfl;dsimp only at aJ cu;simp only[qh,nm,a1,e2]at au;have ad:=K.Z (x:=p.2) aU;rw[aJ]at ad;have ar:=V8 ad;have aB:(a.eval b7).cells.size=bE:=(by have:=ar.1;simp only[Array.length_toList]at this;rw[<-this];exact au.1.1.2);have aD:ds.size=cs.length:=(by have:=aw.1;simp at this;exact this.symm);have u4:c5 an (gL cs a8 (O (Z A b7))) ((a.eval b7).cells.zipIdx.foldl (λcs (c,j)=>cs.setIfInBounds (a8+j) c) ds).toList:=(by rw[ak9];exact aw.gL _ ar);have Ge: ∀x∈gL cs a8 (O (Z A b7)),S x=true:=Xs (λx=>S x=true) _ _ _ aE (V7 ad au.1.1.1);obtain⟨fL,E,I,av⟩:=Kt K vA ps h2 _ _ ⟨by simpa using p6.1,λi x y G af=>p6.2 (i+1) x y (by simpa using G) (by simpa using af)⟩ u4 Ge (by have av:=au.2;simp only[qh,Fl]at av⊢;exact av);refine⟨fL,?_,by simpa only[l5]using I,by simpa only[l5]using av⟩;simp only[mO,Instr.fill,aJ,cu,aB,ne_eq,not_true_eq_false,decide_false,Bool.false_or];rw[if_neg (by simp;omega)];exact E
theorem Yg{fG:Array Field}: ∀(ps:List (Nat×Operand)) (h2:List (Nat×Nat×Operand)),FG P fG ps=some h2->
    ps.length=h2.length/\ ∀(i:Nat) p q,ps[i]?=some p->h2[i]?=some q->p.2=q.2.2/\cX p.2=true/\ ∃f bG,fG[p.1]?=some f/\P.info? f.type=some bG/\q.1=f.offset/\q.2.1=bG.size
  |[],h2,h=>by simp[FG]at h;subst h;simp
  | (j,x)::ps,h2,h=>by
    simp only[FG]at h;split at h
    · rename_i f aT;split at h
      · rename_i n cy az Rg;split at h
        · rename_i G;cases h;obtain⟨E,I⟩:=Yg ps cy Rg;refine⟨by simp[E],λi p q ab bd=> ?_⟩;cases i with
          | zero=>
            simp at ab bd;subst ab;subst bd;unfold kS at az;cases ai:P.info? f.type with
            |none=>simp[ai]at az
            |some bG=>exact⟨rfl,G,f,bG,aT,ai,rfl,by simpa[ai]using az.symm⟩
          |succ i=>exact I i p q (by simpa using ab) (by simpa using bd)
        · cases h
      · cases h
    · cases h
theorem P2{J:Nat}: ∀(ps:List (Nat×Operand)) (h2:List (Nat×Nat×Operand)),zT J ps=some h2->
    ps.length=h2.length/\ ∀(i:Nat) p q,ps[i]?=some p->h2[i]?=some q->p.2=q.2.2/\cX p.2=true/\q.1=p.1*J/\q.2.1=J
  |[],h2,h=>by simp[zT]at h;subst h;simp
  | (j,x)::ps,h2,h=>by
    simp only[zT]at h;split at h
    · rename_i cy Rg;split at h
      · rename_i G;cases h;obtain⟨E,I⟩:=P2 ps cy Rg;refine⟨by simp[E],λi p q ab bd=> ?_⟩;cases i with
        |zero=>simp at ab bd;subst ab;subst bd;exact⟨rfl,G,rfl,rfl⟩
        |succ i=>exact I i p q (by simpa using ab) (by simpa using bd)
      · cases h
    · cases h
theorem zs{t:TypeId}{J:List Value}(h:pF P t=some J): ∃bG hO,P.info? t=some bG/\bG.zero=some hO/\hO.cells.toList=J/\J.all dZ=true/\J.length=bG.size:=by
  unfold pF at h;split at h
  · rename_i bG ai;split at h
    · rename_i hO bK;simp only at h;split at h
      · rename_i ar;cases h;simp only[a1,e2]at ar;exact⟨bG,hO,ai,bK,rfl,ar.1,ar.2⟩
      · cases h
    · cases h
  · cases h
theorem sb{t:TypeId}{n:Nat}(h:kS P t=some n): ∃bG,P.info? t=some bG/\bG.size=n:=by
  unfold kS at h;cases ai:P.info? t with
  |none=>simp[ai]at h
  |some bG=>exact⟨bG,rfl,by simpa[ai]using h⟩
theorem V0{t:TypeId}{b:Bool}(h:oU P t=some b):(isAgg t).run P w= .ok b w:=by
  unfold oU at h;unfold isAgg;split at h<;>first|cases h|skip
  · rename_i a2;simp[run_underlying a2]
  · rename_i a2;simp[run_underlying a2]
  · rename_i d E I a2;simp only[Sem.run_bind,run_underlying a2,Result.andThen_ok];rfl
theorem aAy(fG:List Field)(h:fG.all (λf=>(kS P f.type).isSome)=true):
    ∃vz:List (Nat×Nat),(fG.mapM (m:=Sem) λ(f:Field)=>do pure (f.offset,<-sizeOf f.type)).run P w= .ok vz w/\ ∀i:Nat,vz[i]?=(fG[i]?).bind λ(f:Field)=>(P.info? f.type).map λbG=>(f.offset,bG.size):=by
  induction fG with
  |nil=>exact⟨[],by simp,by simp⟩
  | cons f fG cx=>
    simp only[nm,a1]at h;obtain⟨vz,E,I⟩:=cx h.2;obtain⟨n,az⟩:=Jv.1 h.1;obtain⟨bG,ai,_⟩:=sb az;refine⟨(f.offset,bG.size)::vz,?_,λi=> ?_⟩
    · simp[List.mapM_cons,sizeOf,typeInfo,ai]at E⊢;simp[E]
    · cases i with
      |zero=>simp[ai]
      |succ i=>simpa using I i
end
end Go.DI
