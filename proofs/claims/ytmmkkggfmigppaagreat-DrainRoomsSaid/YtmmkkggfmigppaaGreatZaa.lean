/-
  A part of the proof of the statement, in texts that tools of ours (wip/shrink.py, irpack.py, relax.py, minify.py, join.py, lay.py) have shortened.
-/
import Derived.WalkKit
set_option linter.all false
set_option maxRecDepth 8000
set_option maxHeartbeats 16000000
namespace Go
abbrev aY:= @Bool.and_eq_true
abbrev dD:= @List.getElem?_eq_getElem
abbrev eB:= @List.getElem?_eq_some_iff
abbrev eO:= @decide_eq_true_eq
abbrev eQ:= @List.all_eq_true
abbrev dW:= @Nat.le_refl
abbrev hF:= @List.mem_of_getElem?
abbrev jh:= @List.take_of_length_le
abbrev gT:= @List.mem_cons
abbrev k1:= @Int.eq_ofNat_of_zero_le
abbrev jv:= @Bool.false_eq_true
abbrev g4:= @List.mem_map
abbrev jI:= @List.length_append
abbrev iP:= @List.not_mem_nil
abbrev mV:= @List.getD_eq_getElem?_getD
abbrev lG:= @List.mem_append_right
abbrev jg:= @List.length_map
abbrev hx:= @Nat.zero_le
abbrev kj:= @List.take_length
abbrev mo:= @List.mem_append_left
abbrev ll:= @Option.some.injEq
abbrev mq:= @List.getElem_of_mem
abbrev kE:= @List.mem_append
abbrev pO:= @List.length_eq_zero_iff
abbrev pP:= @List.getElem?_eq_none
abbrev ln:= @List.map_cons
abbrev nv:= @List.getElem_mem
abbrev pQ:= @Array.toArray_toList
abbrev kZ:= @Nat.le_trans
abbrev oX:= @List.mem_singleton
abbrev oY:= @Nat.lt_of_lt_of_le
abbrev tG:= @Array.getElem?_eq_some_iff
abbrev rn:= @Option.map_eq_some_iff
abbrev tH:= @List.getElem?_append_left
abbrev k0:= @Nat.add_mul
abbrev mW:= @List.all_cons
abbrev u0:= @List.getElem?_append_right
abbrev oZ:= @List.length_take
abbrev pR:= @Int.toNat_natCast
abbrev jw:= @Eq.trans
abbrev pS:= @List.length_cons
abbrev sn:= @Nat.mul_le_mul_right
abbrev qy:= @List.getElem?_map
abbrev yE:= @List.eq_nil_of_length_eq_zero
abbrev rp:= @List.flatten_cons
abbrev o0:= @Nat.add_assoc
abbrev yF:= @Array.getElem?_eq_getElem
abbrev yG:= @Option.isNone_iff_eq_none
abbrev tI:= @List.getElem?_take
abbrev tJ:= @List.mem_filterMap
abbrev j5:= @Iff.rfl
abbrev qz:= @List.mem_range
abbrev rq:= @Bool.or_eq_true
abbrev rr:= @List.all_append
abbrev so:= @List.cons.injEq
abbrev tK:= @List.mem_flatMap
abbrev A7:= @List.pairwise_iff_getElem
abbrev u1:= @Bool.not_eq_true'
abbrev u2:= @List.getElem?_set
abbrev u3:= @List.take_add_one
abbrev ru:= @Bool.true_and
abbrev tL:= @List.map_append
abbrev tM:= @List.nil_append
abbrev wP:= @List.getElem?_drop
abbrev wQ:= @List.nodup_append
abbrev yH:= @List.map_congr_left
abbrev u4:= @List.append_nil
abbrev A8:= @Bool.and_eq_false_iff
abbrev wR:= @List.cons_append
abbrev A9:= @List.getElem?_append
abbrev Ba:= @List.mem_cons_of_mem
abbrev Bb:= @List.mem_of_mem_drop
abbrev Bc:= @List.mem_of_mem_take
abbrev DY:= @List.getElem?_cons_succ
abbrev wS:= @List.foldl_cons
abbrev wT:= @List.length_nil
abbrev IH:= @Array.getElem?_append_left
abbrev DZ:= @Array.getElem?_toList
abbrev N5:= @List.isEmpty_iff_length_eq_zero
abbrev II:= @Option.isSome_iff_exists
abbrev yI:= @decide_eq_false
abbrev Bd:= @List.all_eq_false
abbrev Be:= @List.ext_getElem?
abbrev wU:= @Prod.mk.injEq
abbrev Bf:= @Array.toList_inj
abbrev yJ:= @Bool.and_assoc
abbrev yK:= @List.drop_drop
abbrev Bg:= @Option.getD_some
abbrev wV:= @List.map_nil
abbrev D0:= @List.append_assoc
abbrev IJ:= @Array.getElem?_push
abbrev IK:= @List.replicate_succ
end Go
namespace Go.DI
open Go
abbrev aM:=Nat->Value
structure fq where
  cells:List Value
  own:Bool
structure W where
  next:Nat
  ix:Nat->Option fq
  mp:Nat->Option (List (Value×Value))
def W.X(m:W)(b:Nat):Option fq:=if b<m.next then m.ix b else none
def W.a0(m:W)(b:Nat)(x:Option fq):W:=⟨m.next,λi=>if i=b then x else m.ix i,m.mp⟩
def W.dp(m:W)(k:Nat):W:=⟨m.next+k,λi=>if i<m.next then m.ix i else none,m.mp⟩
def W.eK(m:W)(b:Nat):Option (List (Value×Value)):=match m.X b with
  |some ⟨[],true⟩=>m.mp b
  |_=>none
def W.gL(m:W)(b:Nat)(a9:List (Value×Value)):W:=⟨m.next,λi=>if i=b then some ⟨[],true⟩else m.ix i,λi=>if i=b then some a9 else m.mp i⟩
def mm(z:aM)(d:Nat)(v:Value):aM:= λt=>if t=d then v else z t
def c0(z:aM)(d:Option Nat)(v:Value):aM:=match d with|some d=>mm z d v|none=>z
def Y(z:aM):Operand->Value
  | .tmp t=>z t
  | .const v=>v
  | .func f=> .func (.func f) #[] #[]
  | .global _=>undef
def tU:Value->Bool| .bool b=>b|_=>false
def rX:Value->Bool| .bool _=>true|_=>false
def eG:Value->Int| .int _ n=>n|_=>0
def eT:Value->Bool| .int _ _=>true|_=>false
def pZ:Value->ByteArray| .string s=>s|_=> .empty
def O:Value->List Value| .agg cs=>cs.toList|v=>[v]
def gy:List Value->Nat->List Value->List Value
  |cs,_,[]=>cs
  |cs,off,v::cj=>gy (cs.set off v) (off+1) cj
def N:Value->Option Nat
  | .pointer (some a)=>some a.block
  | .slice (some a) _ _=>some a.block
  | .map (some b)=>some b
  |_=>none
def dQ:Value->Bool
  | .bool _| .int _ _| .float _ _| .complex _ _ _| .string _| .pointer none| .map none| .chan none| .nilFunc| .nilIface=>true
  | .slice none l c=>l==0&&c==0
  |_=>false
def my:Value->Bool
  | .agg cs=>cs.toList.all dQ
  | .tuple cs=>cs.toList.all dQ
  |v=>dQ v
def S:Value->Bool
  | .agg _| .tuple _=>false
  |_=>true
def U:Value->Bool
  | .tuple _=>false
  |_=>true
inductive su where
  |bool|cF|slice|fn|iface|agg|gl
  deriving DecidableEq
inductive o1 where
  |int|str|bool
  deriving DecidableEq
inductive j8 where
  |int (k:IntKind)|str
  deriving DecidableEq
inductive af where
  |nf (x:Operand)
  |pE (c a b:Operand)
  |ti (x:Operand)
  |dz (zero:List Value)
  |l0 (x:Operand)
  |eY (zero:List Value) (avZ:List (Nat×Nat×Operand))
  |fR (I n:Nat) (zero:List Value) (avZ:List (Nat×Nat×Operand))
  |kx (dd:Bool) (n:Nat) (x:Operand)
  |store (n:Nat) (x v:Operand)
  |fg (op:BinOp) (c:su) (x y:Operand)
  |vr (jR:Bool) (gz:List o1) (x y:Operand)
  |qv (op:UnOp) (x:Operand)
  |rz (k:IntKind) (x:Operand)
  |Bx (x:Operand)
  |mw (x:Operand)
  |ny (x:Operand)
  |jY (I bytes:Nat) (zero:List Value) (l c:Operand)
  |AW (x:Operand) (cp ak:Option Operand)
  |mQ (I:Nat) (x:Operand) (cp ak:Option Operand)
  |uS (I:Nat) (x:Operand) (cp:Option Operand) (ak fk:Operand)
  |oT (I n:Nat) (x:Operand)
  |rF (off:Nat) (x:Operand)
  |field (dd:Bool) (off n:Nat) (x:Operand)
  |qc (I:Nat) (x i:Operand)
  |oD (I len:Nat) (x i:Operand)
  |sW (x i:Operand)
  |ext (i:Nat) (x:Operand)
  |r1 (x:Operand)
  |r2 (x:Operand)
  |app (I bytes:Nat) (x y:Operand)
  |vl (x:Operand)
  |lZ (I bytes:Nat) (zero:List Value) (x n:Operand)
  |hl (zero:List Value) (x:Operand)
  |oJ (fk:Bool) (x:Operand) (xs:List Operand)
  |td (fn:Fn) (first l3:List Operand)
  |dm (f:Nat) (args:List Operand)
  |iy (x:Operand) (args:List Operand)
  |wc (t:TypeId) (x:Operand)
  |DP (t:TypeId) (x:Operand)
  |kv (a8:List (TypeId×Nat×Option (Bool×Nat))) (x:Operand) (args:List Operand)
  |nc
  |nd (a4:j8) (zero:Value) (ok:Bool) (x k:Operand)
  |lR (a4:j8) (x k v:Operand)
structure bp where
  aN:Nat
  d:Option Nat
  g:Option (Nat×Bool)
  k:af
  a4:List (Operand×Operand)
inductive k3 where
  |bL (t:Nat)
  |hZ (t:Nat) (dd:Bool) (n:Nat)
inductive J where
  |skip
  |F (ops:List bp)
  |qh (bP:List bp) (o:bp) (bR:List bp)
  |B (a b:J)
  |aV (c:Operand) (a b:J)
  |block (id:Nat) (c:J)
  |loop (c:J)
  |bh (id:Nat)
  |aI
structure bU where
  cQ:Nat
  jc:List k3
  body:J
inductive du where
  |er
  |bh (id:Nat)
  |aI
  deriving DecidableEq
def gn(m:W)(v:Value)(n:Nat):Bool:=
  match v with
  | .pointer (some a)=>a.spot.isNone&&(match m.X a.block with|some x=>decide (a.off+n<=x.cells.length)|none=>false)
  |_=>false
def o9(m:W)(v:Value):Bool:=
  match v with
  | .pointer (some a)=>(match m.X a.block with|some x=>x.own|none=>false)
  |_=>false
def hk(m:W)(b off n:Nat):List Value:=
  match m.X b with
  |some x=>(x.cells.drop off).take n
  |none=>[]
def kg(m:W)(dd:Bool)(n:Nat)(v:Value):Value:=
  match v with
  | .pointer (some a)=>if dd then .agg (hk m a.block a.off n).toArray else(hk m a.block a.off 1).headD undef
  |_=>undef
def nq(m:W)(v:Value)(cs:List Value):W:=
  match v with
  | .pointer (some a)=>(match m.X a.block with|some x=>m.a0 a.block (some ⟨gy x.cells a.off cs,x.own⟩)|none=>m)
  |_=>m
def fP(m:W)(I:Nat)(v:Value):Bool:=
  match v with
  | .slice none l c=>l==0&&c==0
  | .slice (some a) l c=>a.spot.isNone&&c==I&&(match m.X a.block with|some x=>decide (a.off+l*I<=x.cells.length)|none=>false)
  |_=>false
def jS(m:W)(v:Value):Bool:=
  match v with
  | .slice none _ _=>true
  | .slice (some a) _ _=>(match m.X a.block with|some x=>x.own|none=>false)
  |_=>false
def gv:Value->Nat
  | .slice _ l _=>l
  |_=>0
def fZ(m:W)(I:Nat)(v:Value):List Value:=
  match v with
  | .slice (some a) l _=>hk m a.block a.off (l*I)
  |_=>[]
def xW:Value->Bool
  | .slice none l c=>l==0&&c==0
  |_=>false
theorem Mc{v:Value}(h:xW v=true):v= .slice none 0 0:=by
  unfold xW at h;split at h
  · simp only[aY,beq_iff_eq]at h;rw[h.1,h.2]
  · cases h
def mv(m:W)(zero:List Value)(v:Value):W:=
  match v with
  | .slice (some a) l _=>(match m.X a.block with|some x=>m.a0 a.block (some ⟨gy x.cells a.off (List.replicate l zero).flatten,x.own⟩)|none=>m)
  |_=>m
def kf(m:W)(v:Value):W:=
  match v with
  | .slice (some a) _ _=>m.a0 a.block none
  |_=>m
def B1(op:BinOp)(k:IntKind)(a b:Int):Value:=
  match op with
  | .add=> .int k (k.wrap (a+b))
  | .sub=> .int k (k.wrap (a-b))
  | .mul=> .int k (k.wrap (a*b))
  | .quo=> .int k (k.wrap (a.tdiv b))
  | .rem=> .int k (a.tmod b)
  | .and=> .int k (k.wrap (BitVec.ofInt k.bits a&&&BitVec.ofInt k.bits b).toNat)
  | .or=> .int k (k.wrap (BitVec.ofInt k.bits a|||BitVec.ofInt k.bits b).toNat)
  | .xor=> .int k (k.wrap (BitVec.ofInt k.bits a^^^BitVec.ofInt k.bits b).toNat)
  | .andNot=> .int k (k.wrap (BitVec.ofInt k.bits a&&& ~~~(BitVec.ofInt k.bits b)).toNat)
  | .shl=> .int k (k.wrap (a*2^(min b.toNat k.bits)))
  | .shr=> .int k (a.fdiv (2^(min b.toNat k.bits)))
  | .eql=> .bool (decide (a=b))
  | .neq=> .bool (!decide (a=b))
  | .lss=> .bool (decide (a<b))
  | .leq=> .bool (decide (a<=b))
  | .gtr=> .bool (decide (a>b))
  | .geq=> .bool (decide (a>=b))
def Kk(op:BinOp)(k eX:IntKind)(_a b:Int):Bool:=
  match op with
  | .shl| .shr=>decide (0<=b)
  | .quo| .rem=>decide (k=eX)&&decide (b≠0)
  |_=>decide (k=eX)
def yu(op:BinOp)(a b:ByteArray):Value:=
  match op with
  | .add=> .string (a++b)
  | .eql=> .bool (decide (a=b))
  | .neq=> .bool (!decide (a=b))
  | .lss=> .bool (Op.bytesLess a.toList b.toList)
  | .leq=> .bool (Op.bytesLess a.toList b.toList||decide (a=b))
  | .gtr=> .bool (!(Op.bytesLess a.toList b.toList||decide (a=b)))
  | .geq=> .bool (!Op.bytesLess a.toList b.toList)
  |_=>undef
def Im(op:BinOp)(a b:ByteArray):Bool:=
  match op with
  | .add=>decide (a.size+b.size<=9223372036854775807)
  | .eql| .neq| .lss| .leq| .gtr| .geq=>true
  |_=>false
def px:Value->Bool
  | .pointer none=>true
  | .slice none _ _=>true
  | .nilFunc=>true
  | .nilIface=>true
  |_=>false
def nV(x y:Value):Bool:=
  match x,y with
  | .bool a,.bool b=>a==b
  |x,y=>px x&&px y
def sF(c:su)(x y:Value):Bool:=
  match c,x,y with
  | .bool,.bool _,.bool _=>true
  | .cF,.pointer none,.pointer _=>true
  | .cF,.pointer _,.pointer none=>true
  | .slice,.slice none _ _,.slice _ _ _=>true
  | .slice,.slice _ _ _,.slice none _ _=>true
  | .fn,.nilFunc,.nilFunc=>true
  | .fn,.nilFunc,.func _ _ _=>true
  | .fn,.func _ _ _,.nilFunc=>true
  |_,_,_=>false
def kI(op:BinOp)(x y:Value):Value:=
  match x,y with
  | .int k a,.int _ b=>B1 op k a b
  | .string a,.string b=>yu op a b
  | x,y=>match op with
    | .eql=> .bool (nV x y)
    | .neq=> .bool (!nV x y)
    |_=>undef
def qG(op:BinOp)(c:su)(x y:Value):Bool:=
  match x,y with
  | .int k a,.int eX b=>Kk op k eX a b
  | .string a,.string b=>Im op a b
  | x,y=>match op with
    | .eql| .neq=>sF c x y
    |_=>false
def nx:Value->Value->Bool
  | .int _ a,.int _ b=>decide (a=b)
  | .string a,.string b=>decide (a=b)
  | .bool a,.bool b=>a==b
  |_,_=>false
def w8:o1->Value->Value->Bool
  | .int,.int k _,.int eX _=>decide (k=eX)
  | .str,.string _,.string _=>true
  | .bool,.bool _,.bool _=>true
  |_,_,_=>false
def lL:List Value->List Value->Bool
  |[],[]=>true
  |a::bz,b::bs=>nx a b&&lL bz bs
  |_,_=>false
def h0:List o1->List Value->List Value->Bool
  |[],[],[]=>true
  |k::gz,a::bz,b::bs=>w8 k a b&&h0 gz bz bs
  |_,_,_=>false
def rW:Value->Bool| .agg _=>true|_=>false
def A3(op:UnOp)(x:Value):Value:=
  match op,x with
  | .neg,.int k n=> .int k (k.wrap (0-n))
  | .not,.bool b=> .bool (!b)
  |_,_=>undef
def wL(op:UnOp)(x:Value):Bool:=
  match op,x with
  | .neg,.int _ _=>true
  | .not,.bool _=>true
  |_,_=>false
def byteOf:Value->UInt8| .int _ n=>UInt8.ofNat n.toNat|_=>0
def z4:Value->Bool| .int .u8 _=>true|_=>false
def wh(s:ByteArray):List Value:=s.data.toList.map λb=> .int .u8 b.toNat
def toBytes(cs:List Value):ByteArray:=⟨(cs.map byteOf).toArray⟩
def gK(z:aM)(x:Option Operand)(OC:Int):Int:=match x with|some o=>eG (Y z o)|none=>OC
def nj(z:aM)(x:Option Operand):Bool:=match x with|some o=>eT (Y z o)|none=>true
def kN:Value->Bool| .string _=>true|_=>false
def xY:Value->Bool| .slice _ _ _=>true|_=>false
def xX:Value->Bool| .pointer (some _)=>true|_=>false
def wm(v:Value)(n:Nat):Value:=
  match v with
  | .pointer (some a)=> .pointer (some ⟨a.block,a.off+n,none⟩)
  |_=>undef
def qk:Value->Bool| .pointer (some a)=>a.spot.isNone|_=>false
def oS(v:Value)(I l h:Nat):Value:=
  match v with
  | .slice (some a) _ c=> .slice (some ⟨a.block,a.off+l*I,none⟩) (h-l) c
  |_=> .slice none 0 0
def mP(I:Nat):Value->Bool
  | .slice none l c=>l==0&&c==0
  | .slice (some a) _ c=>a.spot.isNone&&c==I
  |_=>false
def Ej(v:Value)(I n:Nat):Value:=
  match v with
  | .pointer (some a)=> .slice (some ⟨a.block,a.off,none⟩) n I
  |_=> .slice none 0 0
def wG(v:Value)(I:Nat)(i:Int):Value:=
  match v with
  | .slice (some a) _ _=> .pointer (some ⟨a.block,a.off+i.toNat*I,none⟩)
  |_=>undef
def z2:Value->Bool
  | .pointer none| .nilIface| .nilFunc=>false
  | .func (.method _) _ _=>false
  |_=>true
def A1(v:Value)(i:Nat):Value:=match v with| .tuple cj=>cj.toList.getD i undef|_=>undef
def DQ(v:Value)(i:Nat):Bool:=match v with| .tuple cj=>decide (i<cj.toList.length)|_=>false
def JF(dd:Bool)(off n:Nat)(v:Value):Value:=
  match v with
  | .agg cs=>if dd then .agg ((cs.toList.drop off).take n).toArray else cs.toList.getD off undef
  |_=>undef
def EM(off n:Nat)(v:Value):Bool:=match v with| .agg cs=>decide (off+n<=cs.toList.length)|_=>false
def nH(a b:Value):Value:=match a,b with| .int k x,.int _ y=> .int k (if y<x then y else x)|_,_=>undef
def nG(a b:Value):Value:=match a,b with| .int k x,.int _ y=> .int k (if y>x then y else x)|_,_=>undef
def pD(cs:List Value)(z:aM)(ps:List (Nat×Nat×Operand)):Bool:=
  ps.all λ(off,n,x)=>U (Y z x)&&decide ((O (Y z x)).length=n)&&decide (off+n<=cs.length)
def lE(cs:List Value)(z:aM):List (Nat×Nat×Operand)->List Value
  |[]=>cs
  |(off,_,x)::r=>lE (gy cs off (O (Y z x))) z r
def FE(t:TypeId):Value->Bool
  | .iface aJ _=>decide (aJ=t)
  |_=>false
def XW:Value->Value
  | .iface _ v=>v
  |_=>undef
def jX(m:W):Value->Option (List (Value×Value))
  | .map none=>some []
  | .map (some b)=>m.eK b
  |_=>none
def nb:j8->Value->Bool
  | .int k,.int eX _=>decide (eX=k)
  | .str,.string _=>true
  |_,_=>false
def kR(a4:j8)(k:Value)(a9:List (Value×Value)):Bool:=nb a4 k&&a9.all λe=>nb a4 e.1
def hE(k:Value):List (Value×Value)->Option Value
  |[]=>none
  |e::r=>if nx k e.1 then some e.2 else hE k r
def iZ(k v:Value):List (Value×Value)->List (Value×Value)
  |[]=>[(k,v)]
  |e::r=>if nx k e.1 then(k,v)::r else e::iZ k v r
def uC:Value->Nat
  | .map (some b)=>b
  |_=>0
def h2:Value->Int
  | .string s=>s.size
  | .slice _ l _=>l
  |_=>0
def af.ok(k:af)(z:aM)(m:W):Bool:=
  match k with
  | .nf _=>true
  | .pE c _ _=>rX (Y z c)
  | .ti x=>z2 (Y z x)
  | .dz _=>true
  | .l0 x=>U (Y z x)
  | .eY I ps=>pD I z ps
  | .fR _ _ I ps=>pD I z ps
  | .kx dd n x=>gn m (Y z x) n&&(dd||decide (n=1))
  | .store n x v=>gn m (Y z x) n&&o9 m (Y z x)&&U (Y z v)&&decide ((O (Y z v)).length=n)
  | .fg op c x y=>qG op c (Y z x) (Y z y)
  | .vr _ gz x y=>rW (Y z x)&&rW (Y z y)&&h0 gz (O (Y z x)) (O (Y z y))
  | .qv op x=>wL op (Y z x)
  | .rz _ x=>eT (Y z x)
  | .Bx x=>kN (Y z x)
  | .mw x=>fP m 1 (Y z x)&&(fZ m 1 (Y z x)).all z4
  | .ny x=>kN (Y z x)&&decide ((pZ (Y z x)).size<=9223372036854775807)
  | .jY I bytes _ l c=>eT (Y z l)&&eT (Y z c)&&decide (0<=eG (Y z l))&&decide (eG (Y z l)<=eG (Y z c))&&decide (eG (Y z c)*(bytes:Int)<=140737488355328)&&decide (eG (Y z c)<=9223372036854775807)&&decide (0<I)
  | .AW x cp ak=>kN (Y z x)&&nj z cp&&nj z ak&&decide (0<=gK z cp 0)&&decide (gK z cp 0<=gK z ak (h2 (Y z x)))&&decide (gK z ak (h2 (Y z x))<=h2 (Y z x))
  | .mQ I x cp ak=>mP I (Y z x)&&nj z cp&&nj z ak&&decide (0<=gK z cp 0)&&decide (gK z cp 0<=gK z ak (h2 (Y z x)))&&decide (gK z ak (h2 (Y z x))<=h2 (Y z x))
  | .uS I x cp ak fk=>mP I (Y z x)&&nj z cp&&eT (Y z ak)&&eT (Y z fk)&&decide (0<=gK z cp 0)&&decide (gK z cp 0<=eG (Y z ak))&&decide (eG (Y z ak)<=eG (Y z fk))&&decide (eG (Y z fk)<=h2 (Y z x))
  | .oT I n x=>gn m (Y z x) (n*I)&&decide (n<=maxLen)
  | .rF _ x=>qk (Y z x)
  | .field dd off n x=>EM off n (Y z x)&&(dd||decide (n=1))
  | .qc I x i=>mP I (Y z x)&&eT (Y z i)&&decide (0<=eG (Y z i))&&decide (eG (Y z i)<h2 (Y z x))
  | .oD _ len x i=>qk (Y z x)&&eT (Y z i)&&decide (0<=eG (Y z i))&&decide (eG (Y z i)<(len:Int))
  | .sW x i=>kN (Y z x)&&eT (Y z i)&&decide (0<=eG (Y z i))&&decide (eG (Y z i)<h2 (Y z x))
  | .ext i x=>DQ (Y z x) i
  | .r1 x=>kN (Y z x)
  | .r2 x=>xY (Y z x)
  | .app I bytes x y=>fP m I (Y z x)&&jS m (Y z x)&&fP m I (Y z y)&&decide (0<I)&&decide ((gv (Y z x)+gv (Y z y))*bytes<=140737488355328)&&decide (gv (Y z x)+gv (Y z y)<=9223372036854775807)
  | .vl x=>xW (Y z x)
  | .lZ I bytes _ x n=>xW (Y z x)&&eT (Y z n)&&decide (0<eG (Y z n))&&decide (eG (Y z n)*(bytes:Int)<=140737488355328)&&decide (eG (Y z n)<=9223372036854775807)&&decide (0<I)
  | .hl zero x=>fP m zero.length (Y z x)&&jS m (Y z x)&&decide (0<zero.length)
  | .oJ _ x xs=>eT (Y z x)&&xs.all λy=>eT (Y z y)
  | .td _ _ _=>true
  | .dm _ _=>false
  | .iy _ _=>false
  | .wc _ _=>true
  | .DP t x=>FE t (Y z x)
  | .kv _ _ _=>false
  | .nc=>true
  | .nd a4 _ _ x k=>match jX m (Y z x)with
    |some a9=>kR a4 (Y z k) a9
    |none=>false
  | .lR a4 x k v=>match Y z x with
    | .map (some b)=>(match m.eK b with
      |some a9=>kR a4 (Y z k) a9&&S (Y z v)
      |none=>false)
    |_=>false
def af.val(k:af)(id:Nat)(z:aM)(m:W):Value:=
  match k with
  | .nf x=>Y z x
  | .pE c a b=>if tU (Y z c)then Y z a else Y z b
  | .ti x=>Y z x
  | .dz _=> .pointer (some ⟨id,0,none⟩)
  | .l0 _=> .pointer (some ⟨id,0,none⟩)
  | .eY I ps=> .agg (lE I z ps).toArray
  | .fR I n _ _=> .slice (some ⟨id,0,none⟩) n I
  | .kx dd n x=>kg m dd n (Y z x)
  | .store _ _ _=>undef
  | .fg op _ x y=>kI op (Y z x) (Y z y)
  | .vr jR _ x y=> .bool (if jR then !lL (O (Y z x)) (O (Y z y))else lL (O (Y z x)) (O (Y z y)))
  | .qv op x=>A3 op (Y z x)
  | .rz k x=> .int k (k.wrap (eG (Y z x)))
  | .Bx x=>Y z x
  | .mw x=> .string (toBytes (fZ m 1 (Y z x)))
  | .ny x=> .slice (some ⟨id,0,none⟩) (pZ (Y z x)).size 1
  | .jY I _ _ l _=> .slice (some ⟨id,0,none⟩) (eG (Y z l)).toNat I
  | .AW x cp ak=> .string ((pZ (Y z x)).extract (gK z cp 0).toNat (gK z ak (h2 (Y z x))).toNat)
  | .mQ I x cp ak=>oS (Y z x) I (gK z cp 0).toNat (gK z ak (h2 (Y z x))).toNat
  | .uS I x cp ak _=>oS (Y z x) I (gK z cp 0).toNat (eG (Y z ak)).toNat
  | .oT I n x=>Ej (Y z x) I n
  | .rF off x=>wm (Y z x) off
  | .field dd off n x=>JF dd off n (Y z x)
  | .qc I x i=>wG (Y z x) I (eG (Y z i))
  | .oD I _ x i=>wm (Y z x) ((eG (Y z i)).toNat*I)
  | .sW x i=> .int .u8 (((pZ (Y z x)).data.toList.getD (eG (Y z i)).toNat 0).toNat:Nat)
  | .ext i x=>A1 (Y z x) i
  | .r1 x=> .int .i64 (h2 (Y z x))
  | .r2 x=> .int .i64 (h2 (Y z x))
  | .app I _ x y=>if gv (Y z y)=0 then Y z x else .slice (some ⟨id,0,none⟩) (gv (Y z x)+gv (Y z y)) I
  | .vl _=> .int .i64 0
  | .lZ I _ _ _ n=> .slice (some ⟨id,0,none⟩) (eG (Y z n)).toNat I
  | .hl _ _=>undef
  | .oJ fk x xs=>xs.foldl (λdC y=>if fk then nG dC (Y z y)else nH dC (Y z y)) (Y z x)
  | .td fn first l3=> .func fn (first.map (Y z)).toArray (l3.map (Y z)).toArray
  | .dm _ _=>undef
  | .iy _ _=>undef
  | .wc t x=> .iface t (Y z x)
  | .DP _ x=>XW (Y z x)
  | .kv _ _ _=>undef
  | .nc=> .map (some id)
  | .nd _ zero ok x k=>
    let r:=(jX m (Y z x)).bind (hE (Y z k))
    if ok then .tuple #[r.getD zero,.bool r.isSome]else r.getD zero
  | .lR _ _ _ _=>undef
def af.gu(k:af)(id:Nat)(z:aM)(m:W):W:=
  match k with
  | .dz I=>m.a0 id (some ⟨I,true⟩)
  | .l0 x=>m.a0 id (some ⟨O (Y z x),true⟩)
  | .fR _ _ I ps=>m.a0 id (some ⟨lE I z ps,true⟩)
  | .store _ x v=>nq m (Y z x) (O (Y z v))
  | .ny x=>m.a0 id (some ⟨wh (pZ (Y z x)),true⟩)
  | .jY _ _ zero l _=>m.a0 id (some ⟨(List.replicate (eG (Y z l)).toNat zero).flatten,true⟩)
  | .app I _ x y=>if gv (Y z y)=0 then m else(kf m (Y z x)).a0 id (some ⟨fZ m I (Y z x)++fZ m I (Y z y),true⟩)
  | .lZ _ _ zero _ n=>m.a0 id (some ⟨(List.replicate (eG (Y z n)).toNat zero).flatten,true⟩)
  | .hl zero x=>mv m zero (Y z x)
  | .nc=>m.gL id []
  | .lR _ x k v=>m.gL (uC (Y z x)) (iZ (Y z k) (Y z v) ((m.eK (uC (Y z x))).getD []))
  |_=>m
def pd(z:aM)(a4:List (Operand×Operand)):Bool:=
  a4.all λ(x,y)=>match N (Y z x),N (Y z y)with
    |some a,some b=>a !=b
    |_,_=>true
def qg(z:aM)(a4:List (Operand×Operand))(m an:W):Prop:=
  ∀p∈a4,∀b,N (Y z p.1)=some b->an.X b=m.X b
abbrev Callee:=Nat->List Value->W->Option (Value×W)
def af.fb(k:af)(z:aM)(m:W):Option (Nat×List Value):=
  match k with
  | .kv a8 x args=>match Y z x with
    | .iface t v=>match a8.find? (λr=>r.1==t)with
      |some (_,f,none)=>some (f,v::args.map (Y z))
      |some (_,f,some (dd,n))=>if gn m v n&&(dd||decide (n=1))then some (f,kg m dd n v::args.map (Y z))else none
      |none=>none
    |_=>none
  | .dm f args=>some (f,args.map (Y z))
  | .iy x args=>match Y z x with
    | .func (.func f) first l3=>some (f,first.toList++args.map (Y z)++l3.toList)
    |_=>none
  |_=>none
def eA(z:aM):Option (Nat×Bool)->Bool
  |none=>true
  |some (t,b)=>match z t with| .bool c=>c==b|_=>false
noncomputable def g9(bG:Callee)(base:Nat)(o:bp)(z:aM)(m:W):Option (aM×W):=
  if eA z o.g then
    match o.k.fb z m with
    | some (f,args)=>match bG f args m with
      |some (v,an)=>some (c0 z o.d v,an)
      |none=>none
    |none=>if o.k.ok z m then some (c0 z o.d (o.k.val (base+o.aN) z m),o.k.gu (base+o.aN) z m)else none
  else some (c0 z o.d undef,m)
def nU(o:bp)(z:aM)(m an:W):Prop:=
  eA z o.g=true->match o.k.fb z m with
    |some _=>qg z o.a4 m an
    |none=>pd z o.a4=true
open Classical in
noncomputable def jG(bG:Callee)(base:Nat):List bp->aM->W->Option (aM×W)
  |[],z,m=>some (z,m)
  | o::bR,z,m=>match g9 bG base o z m with
    |some (ae,an)=>if nU o z m an then jG bG base bR ae an else none
    |none=>none
def af.eW:af->Bool
  | .dz _| .l0 _| .fR _ _ _ _| .ny _| .jY _ _ _ _ _| .app _ _ _ _| .lZ _ _ _ _ _| .nc=>true
  |_=>false
def af.uv:af->Bool
  | .hl _ _| .nc| .nd _ _ _ _ _| .lR _ _ _ _=>true
  |_=>false
def gW(ops:List bp)(m:W):W:=if ops.any (λo=>o.k.eW)then m.dp ops.length else m
def pN(I:Nat)(m:W):Value->Bool
  | .slice (some a) l _=>(match m.X a.block with|some b=>decide (b.cells.length=a.off+l*I)|none=>false)
  |_=>true
def mI(o:bp)(z:aM)(m:W):Bool:=o.g.isNone&&(match o.k with| .app I _ x _=>pN I m (Y z x)|_=>false)&&o.k.ok z m
def BY(x:fq):fq:=⟨x.cells,false⟩
def m8(m:W):W:=⟨m.next,λb=>(m.ix b).map BY,λ_=>none⟩
def jm(f:aM->W->Option (du×aM×W)):Nat->aM->W->Option (du×aM×W)
  |0,_,_=>none
  | n+1,z,m=>match f z m with
    |some (.er,ae,an)=>jm f n ae an
    |r=>r
noncomputable def ei(bG:Callee)(n:Nat):J->aM->W->Option (du×aM×W)
  | .skip,z,m=>some (.er,z,m)
  | .F ops,z,m=>match jG bG m.next ops z (gW ops m)with
    |some (ae,an)=>some (.er,ae,an)
    |none=>none
  | .qh bP o bR,z,m=>match jG bG m.next bP z (m.dp (bP.length+(bR.length+1)))with
    | some (bI,bg)=>if mI o bI bg then
        (match jG bG m.next bR (c0 bI o.d (o.k.val (m.next+o.aN) bI bg)) (m8 bg)with
        |some (dj,dH)=>some (.er,dj,(o.k.gu (m.next+o.aN) bI bg).dp (dH.next-bg.next))
        |none=>none)
      else none
    |none=>none
  | .B a b,z,m=>match ei bG n a z m with
    |some (.er,ae,an)=>ei bG n b ae an
    |r=>r
  | .aV c a b,z,m=>if rX (Y z c)then(if tU (Y z c)then ei bG n a z m else ei bG n b z m)else none
  | .block id c,z,m=>match ei bG n c z m with
    |some (.bh iB,ae,an)=>if iB=id then some (.er,ae,an)else some (.bh iB,ae,an)
    |r=>r
  | .loop c,z,m=>jm (ei bG n c) n z m
  | .bh id,z,m=>some (.bh id,z,m)
  | .aI,z,m=>some (.aI,z,m)
def oQ(m:W)(z:aM):k3->Bool
  | .bL _=>true
  | .hZ t dd n=>gn m (z t) n&&(dd||decide (n=1))
def pG(m:W)(z:aM):k3->Value
  | .bL t=>z t
  | .hZ t dd n=>kg m dd n (z t)
def kU(m:W)(z:aM)(cl:List k3):Bool:=cl.all (oQ m z)
def lj(m:W)(z:aM):List k3->Value
  |[r]=>pG m z r
  |cl=> .tuple (cl.map (pG m z)).toArray
def jl(args:List Value):aM:= λt=>args.getD t undef
def ki(P:Program)(t:TypeId):Option Nat:=(P.info? t).map (·.size)
def oW(P:Program)(t:TypeId):Option (List Value):=
  match P.info? t with
  | some i=>match i.zero with
    | some I=>let cs:=I.cells.toList
      if cs.all dQ&&decide (cs.length=i.size)then some cs else none
    |none=>none
  |none=>none
def oc(P:Program)(t:TypeId):Option Bool:=
  match P.underlying t with
  |some (.struct _)=>some true
  |some (.array _ _)=>some true
  |some _=>some false
  |none=>none
def od(P:Program)(t:TypeId):su:=
  match P.underlying t with
  |some .bool=> .bool
  |some (.pointer _)=> .cF
  |some (.slice _)=> .slice
  |some (.func _ _ _)=> .fn
  |some (.interface _)=> .iface
  |some (.struct _)=> .agg
  |some (.array _ _)=> .agg
  |_=> .gl
def cO:Operand->Bool
  | .tmp _=>true
  | .const v=>my v
  | .func _=>true
  | .global _=>false
def Dj:Option Operand->Bool
  |some x=>cO x
  |none=>true
def EJ(e:TypeId->Option (List o1)):List Field->Nat->Option (List o1)
  |[],_=>some []
  | f ::r,off=>if f.name != "_" &&f.offset==off then
      (match e f.type with
       | some gz=>match EJ e r (off+gz.length)with
         |some bR=>if gz.length=0 then none else some (gz++bR)
         |none=>none
       |none=>none)
    else none
def sE(P:Program):Nat->TypeId->Option (List o1)
  |0,_=>none
  | d+1,t=>match P.underlying t,ki P t with
    |some .bool,some n=>if n=1 then some [.bool]else none
    |some (.int _),some n=>if n=1 then some [.int]else none
    |some .string,some n=>if n=1 then some [.str]else none
    | some (.struct eo),some n=>match EJ (sE P d) eo.toList 0 with
      |some gz=>if decide (n=gz.length)&& !P.stoodInHeld t then some gz else none
      |none=>none
    | some (.array k e),some n=>match sE P d e with
      |some gz=>if decide (n=k*gz.length)&&decide (0<gz.length)then some (List.replicate k gz).flatten else none
      |none=>none
    |_,_=>none
def guard(b:Bool):Option Unit:=if b then some ()else none
def EN(P:Program)(eo:Array Field):List (Nat×Operand)->Option (List (Nat×Nat×Operand))
  |[]=>some []
  | (i,x)::r=>match eo[i]? with
    | some f=>match ki P f.type,EN P eo r with
      |some n,some ps=>if cO x then some ((f.offset,n,x)::ps)else none
      |_,_=>none
    |none=>none
def yT(I:Nat):List (Nat×Operand)->Option (List (Nat×Nat×Operand))
  |[]=>some []
  | (i,x)::r=>match yT I r with
    |some ps=>if cO x then some ((i*I,I,x)::ps)else none
    |none=>none
def Ak(P:Program)(name:String)(t:TypeId):Option (TypeId×Nat×Option (Bool×Nat)):=
  match P.info? t with
  | some i=>match i.methods.find? (·.name==name)with
    | some An=>if An.path.isEmpty then(match An.func with
      | some (f,awa)=>match P.underlying t,awa with
        |some (.pointer _),true=>some (t,f,none)
        | some (.pointer e),false=>match oc P e,ki P e with
          |some dd,some n=>some (t,f,some (dd,n))
          |_,_=>none
        |_,_=>none
      |none=>none)else none
    |none=>none
  |none=>none
def St(P:Program)(name:String):List (TypeId×Nat×Option (Bool×Nat)):=(List.range P.types.size).filterMap (Ak P name)
def NJ(P:Program)(t:TypeId):Option Value:=
  match P.info? t with
  | some i=>match i.zero with
    |some I=>if dQ I then some I else none
    |none=>none
  |none=>none
def Jq(P:Program)(t:TypeId):Option j8:=
  match P.underlying t with
  |some (.int k)=>some (.int k)
  |some .string=>some .str
  |_=>none
def Ev(P:Program)(c:Call):Option af:=
  match c.callee with
  | .invoke (.tmp t) name=>if c.args.toList.all cO then some (.kv (St P name) (.tmp t) c.args.toList)else none
  | .value (.func f)=>match P.funcs[f]? with
    |some fn=>if fn.body.isSome&& !(fn.name== "runtime.NumGoroutine")&&c.args.toList.all cO then some (.dm f c.args.toList)else none
    |none=>none
  | .value (.tmp t)=>if c.args.toList.all cO then some (.iy (.tmp t) c.args.toList)else none
  | .builtin .len=>match c.args.toList,c.argTypes.toList with
    | [x],[t]=>match P.underlying t with
      |some .string=>if cO x then some (.r1 x)else none
      |some (.slice _)=>if cO x then some (.r2 x)else none
      |_=>none
    |_,_=>none
  | .builtin .append=>match c.args.toList,c.argTypes.toList with
    | [x,y],[t,bo]=>match P.underlying t with
      | some (.slice e)=>match P.info? e with
        | some i=>if t=bo then(if cO x&&cO y&&(oW P e).isSome then some (.app i.size i.bytes x y)else none)
          else(match P.underlying bo,oW P e with
          |some (.int _),some D1=>if cO x&&cO y then some (.lZ D1.length i.bytes D1 x y)else none
          |_,_=>none)
        |none=>none
      |_=>none
    |_,_=>none
  | .builtin .min=>match c.args.toList with
    |x::xs=>if cO x&&xs.all cO then some (.oJ false x xs)else none
    |[]=>none
  | .builtin .max=>match c.args.toList with
    |x::xs=>if cO x&&xs.all cO then some (.oJ true x xs)else none
    |[]=>none
  | .builtin .cap=>match c.args.toList,c.argTypes.toList with
    | [x],[t]=>match P.underlying t with
      |some (.slice _)=>if cO x then some (.vl x)else none
      |_=>none
    |_,_=>none
  | .builtin .clear=>match c.args.toList,c.argTypes.toList with
    | [x],[t]=>match P.underlying t with
      | some (.slice e)=>match oW P e with
        |some D1=>if cO x then some (.hl D1 x)else none
        |none=>none
      |_=>none
    |_,_=>none
  |_=>none
def Bt(P:Program)(o:Oper):Option af:=
  match o.op with
  | .move x=>if cO x then some (.nf x)else none
  | .assign x=>if cO x then some (.nf x)else none
  | .pick c a b=>if cO c&&cO a&&cO b then some (.pE c a b)else none
  | .nilCheck x=>if cO x then some (.ti x)else none
  | .alloc e=>match oW P e with
    |some I=>some (.dz I)
    |none=>none
  | .box _ x=>if cO x then some (.l0 x)else none
  | .build t ps=>match P.underlying t,oW P t with
    | some (.struct eo),some I=>match EN P eo ps.toList with
      |some hv=>if(eo.toList.all λf=>(ki P f.type).isSome)then some (.eY I hv)else none
      |none=>none
    | some (.array _ e),some I=>match ki P e with
      | some n=>match yT n ps.toList with
        |some hv=>some (.eY I hv)
        |none=>none
      |none=>none
    |_,_=>none
  | .buildSlice t n ps=>match P.underlying t with
    | some (.slice e)=>match oW P e with
      | some I=>match yT I.length ps.toList with
        |some hv=>if 0<I.length&&n*I.length<=16777216 then some (.fR I.length n (List.replicate n I).flatten hv)else none
        |none=>none
      |none=>none
    |_=>none
  | .load t x=>match oc P t,ki P t with
    |some a,some n=>if cO x then some (.kx a n x)else none
    |_,_=>none
  | .store t x v=>match ki P t with
    |some n=>if cO x&&cO v then some (.store n x v)else none
    |none=>none
  | .binOp op t x y _=>
    if cO x&&cO y then
      (if od P t= .agg then
        (match op,sE P 8 t with
         | .eql,some gz=>if !P.eqGuardType P.depth t then some (.vr false gz x y)else none
         | .neq,some gz=>if !P.eqGuardType P.depth t then some (.vr true gz x y)else none
         |_,_=>none)
      else some (.fg op (od P t) x y))
    else none
  | .unOp op _ x=>if cO x then some (.qv op x)else none
  | .convert s d x=>match P.underlying s,P.underlying d with
    |some (.int _),some (.int k)=>if cO x then some (.rz k x)else none
    |some .string,some .string=>if cO x then some (.Bx x)else none
    | some (.slice e),some .string=>match P.underlying e with
      |some (.int .u8)=>if cO x then some (.mw x)else none
      |_=>none
    | some .string,some (.slice e)=>match P.underlying e with
      |some (.int .u8)=>if cO x then some (.ny x)else none
      |_=>none
    |_,_=>none
  | .makeSlice t l c=>match P.underlying t with
    | some (.slice e)=>match oW P e,P.info? e with
      |some I,some i=>if cO l&&cO c then some (.jY I.length i.bytes I l c)else none
      |_,_=>none
    |_=>none
  | .slice t x cp ak fk=>match P.underlying t with
    |some .string=>if cO x&&Dj cp&&Dj ak&&fk.isNone then some (.AW x cp ak)else none
    | some (.slice e)=>match ki P e with
      | some I=>match fk with
        |none=>if cO x&&Dj cp&&Dj ak then some (.mQ I x cp ak)else none
        | some hJ=>match ak with
          |some aC=>if cO x&&Dj cp&&cO aC&&cO hJ then some (.uS I x cp aC hJ)else none
          |none=>none
      |none=>none
    | some (.array n e)=>match ki P e with
      |some I=>if cO x&&cp.isNone&&ak.isNone&&fk.isNone then some (.oT I n x)else none
      |none=>none
    |_=>none
  | .fieldAddr s x i=>match P.underlying s with
    | some (.struct eo)=>match eo[i]? with
      | some f=>match ki P f.type with
        |some n=>if cO x&&0<n then some (.rF f.offset x)else none
        |none=>none
      |none=>none
    |_=>none
  | .field t x i=>match P.underlying t with
    | some (.struct eo)=>match eo[i]? with
      | some f=>match oc P f.type,ki P f.type with
        |some a,some n=>if cO x then some (.field a f.offset n x)else none
        |_,_=>none
      |none=>none
    |_=>none
  | .indexAddr t x i=>match P.underlying t with
    | some (.slice e)=>match ki P e with
      |some I=>if cO x&&cO i then some (.qc I x i)else none
      |none=>none
    | some (.array len e)=>match ki P e with
      |some I=>if cO x&&cO i then some (.oD I len x i)else none
      |none=>none
    |_=>none
  | .index t x i=>match P.underlying t with
    |some .string=>if cO x&&cO i then some (.sW x i)else none
    |_=>none
  | .extract x i=>if cO x then some (.ext i x)else none
  | .makeInterface t x=>match P.underlying t with
    |some (.interface _)=>none
    |some _=>if cO x then some (.wc t x)else none
    |none=>none
  | .typeAssert x _ t ok=>match P.underlying t with
    |some (.interface _)=>none
    |some _=>if cO x&& !ok then some (.DP t x)else none
    |none=>none
  | .makeMap t r=>match P.underlying t,r with
    |some (.map _ _),none=>some .nc
    |_,_=>none
  | .lookup t x i ok=>match P.underlying t with
    | some (.map k e)=>match Jq P k,NJ P e with
      |some a4,some I=>if cO x&&cO i then some (.nd a4 I ok x i)else none
      |_,_=>none
    |_=>none
  | .mapUpdate t x k v=>match P.underlying t with
    | some (.map s7 _)=>match Jq P s7 with
      |some a4=>if cO x&&cO k&&cO v then some (.lR a4 x k v)else none
      |none=>none
    |_=>none
  | .makeFunc fn first l3=>if first.toList.all cO&&l3.toList.all cO then some (.td fn first.toList l3.toList)else none
  | .call c=>Ev P c
  |_=>none
def Ud:af:= .ti (.const (.pointer none))
def w3(P:Program)(o:Oper):Option af:=match Bt P o with
  |some k=>some k
  |none=>some Ud
theorem afC{z:aM}{m:W}:Ud.ok z m=false:=rfl
theorem Jh{P:Program}{o:Oper}{k:af}(h:w3 P o=some k):Bt P o=some k\/k=Ud:=by
  unfold w3 at h;split at h
  · next eX D=>cases h;exact .inl D
  · cases h;exact .inr rfl
def Jg(ops:Array Oper)(o:Oper):Option (Option (Nat×Bool)):=
  match o.guard with
  |none=>some none
  | some (j,b)=>match(ops[j]?).bind (·.dst)with
    |some t=>some (some (t,b))
    |none=>none
def Ji(P:Program)(ops:Array Oper)(cQ:Nat)(aN:Nat):Option bp:=
  match ops[aN]? with
  | some o=>match w3 P o,Jg ops o with
    |some k,some g=>if(o.dst.all λd=>decide (d<cQ))then some ⟨aN,o.dst,g,k,[]⟩else none
    |_,_=>none
  |none=>none
def Bu(P:Program)(ops:Array Oper)(cQ:Nat):List Nat->Option (List bp)
  |[]=>some []
  | aN::r=>match Ji P ops cQ aN,Bu P ops cQ r with
    |some o,some bR=>some (o::bR)
    |_,_=>none
def af.lh:af->List Operand
  | .kx _ _ x=>[x]
  | .oT _ _ x=>[x]
  | .store _ x _=>[x]
  | .mw x=>[x]
  | .hl _ x=>[x]
  | .app _ _ x y=>[x,y]
  |_=>[]
def af.mn:af->List Operand
  | .hl _ x=>[x]
  | .store _ x _=>[x]
  | .app _ _ x _=>[x]
  |_=>[]
def af.jO:af->Bool
  | .dm _ _| .iy _ _| .kv _ _ _=>true
  |_=>false
def af.gR:af->List Operand
  | .nf x| .ti x| .l0 x| .kx _ _ x| .qv _ x| .rz _ x| .Bx x| .mw x| .ny x| .rF _ x| .field _ _ _ x| .ext _ x| .r1 x| .r2 x| .vl x| .hl _ x| .oT _ _ x=>[x]
  | .pE c a b=>[c,a,b]
  | .dz _=>[]
  | .eY _ ps| .fR _ _ _ ps=>ps.map λp=>p.2.2
  | .store _ x v=>[x,v]
  | .fg _ _ x y| .vr _ _ x y| .jY _ _ _ x y| .qc _ x y| .oD _ _ x y| .sW x y| .app _ _ x y| .lZ _ _ _ x y=>[x,y]
  | .AW x l h| .mQ _ x l h=>x::(l.toList++h.toList)
  | .uS _ x l h fk=>x::h::fk::l.toList
  | .oJ _ x xs=>x::xs
  | .td _ a b=>a++b
  | .dm _ bz=>bz
  | .iy x bz=>x::bz
  | .wc _ x| .DP _ x=>[x]
  | .kv _ x bz=>x::bz
  | .nc=>[]
  | .nd _ _ _ x k=>[x,k]
  | .lR _ x k v=>[x,k,v]
def DF(l:List Operand):List Nat:=l.filterMap fun| .tmp t=>some t|_=>none
def bp.uN(o:bp):List Nat:=DF o.k.gR++(match o.g with|some (t,_)=>[t]|none=>[])
def bp.VY(o:bp):List Nat:=DF (o.a4.map (·.1))++DF (o.a4.map (·.2))
def q6(l:List Nat)(d:Option Nat):Bool:=match d with|some d=> !l.contains d|none=>true
def Jz:Option Nat->List Operand
  |some d=>[.tmp d]
  |none=>[]
def oN(k i:bp):List (Operand×Operand):=
  if i.k.jO then k.k.lh.map λx=>(x,x)
  else if k.k.jO then[]
  else
    ((k.k.mn++(if k.k.eW then Jz k.d else[])).flatMap λx=>(i.k.lh++i.k.mn).map λy=>(x,y))
      ++k.k.lh.flatMap λx=>i.k.mn.map λy=>(x,y)
def pe(k i:bp)(qH:List Nat):Bool:=
  !k.k.uv&& !i.k.uv&&q6 (k.uN++k.VY) i.d&&q6 i.uN k.d&&(match k.d,i.d with|some a,some b=>a !=b|_,_=>true)&&
  (if i.k.jO then !k.k.jO&& !k.k.eW&&k.k.mn.isEmpty&&(DF k.k.lh).all λt=> !qH.contains t&&k.d !=some t
   else if k.k.jO then i.k.lh.isEmpty&&i.k.mn.isEmpty
   else(!k.k.eW||(k.d.isSome&&q6 qH k.d))&&(DF (k.k.lh++k.k.mn)).all λt=> !qH.contains t&&k.d !=some t)
def MA(ha:List Nat)(o:Oper):Nat:=
  o.after.toList.foldl (λs e=>if Region.binds .any e then s|||2^e.on|||ha.getD e.on 0 else s) 0
def x7:List Oper->List Nat->List Nat
  |[],dC=>dC
  |o::r,dC=>x7 r (dC++[MA dC o])
def sB(ha:List Nat)(i:bp):List bp->List (Operand×Operand)
  |[]=>[]
  |k::r=>(if(ha.getD i.aN 0).testBit k.aN then[]else oN k i)++sB ha i r
def Jp(ha:List Nat)(i:bp):List bp->List Nat->Bool
  |[],_=>true
  |k::r,qH=>((ha.getD i.aN 0).testBit k.aN||pe k i qH)&&Jp ha i r (qH++k.d.toList)
def afA(ops:Array Oper)(aN:Nat)(lg:List bp):Bool:=
  match ops[aN]? with
  |some op=>op.after.toList.all λe=> !Region.binds .any e||lg.any λk=>k.aN==e.on
  |none=>false
def Ew(P:Program)(ops:Array Oper)(cQ:Nat)(ha:List Nat):List Nat->List bp->Option (List bp)
  |[],_=>some []
  | aN::r,lg=>match Ji P ops cQ aN with
    | some o=>
      let o':bp:=⟨o.aN,o.d,o.g,o.k,sB ha o lg⟩
      if Jp ha o' lg []&&afA ops aN lg then
        match Ew P ops cQ ha r (o'::lg)with
        |some bR=>some (o'::bR)
        |none=>none
      else none
    |none=>none
def aer(o:Oper):Nat:=
  match o.op with
  | .alloc _| .box _ _| .buildSlice _ _ _| .makeSlice _ _ _| .makeMap _ _=>2
  | .store _ _ _=>1
  | .convert _ _ _=>0
  | .call {callee:= .builtin .len,..}| .call {callee:= .builtin .cap,..}| .call {callee:= .builtin .min,..}| .call {callee:= .builtin .max,..}=>0
  | .call _=>1
  |_=>0
def afd(ops:Array Oper):Nat->List Nat->List Nat->List Nat
  |0,_,dC=>dC.reverse
  | n+1,left,dC=>
    let S4:=left.filter λi=>((ops[i]?).map λo=>o.after.all λe=> !Region.binds .any e||dC.contains e.on).getD false
    match(S4.find? λi=>((ops[i]?).map aer).getD 0==0).or ((S4.find? λi=>((ops[i]?).map aer).getD 0==1).or S4.head?)with
    |some i=>afd ops n (left.filter (· !=i)) (i::dC)
    |none=>dC.reverse
def uE:List Nat->Bool
  |[]=>true
  |x::l=> !l.contains x&&uE l
def SV(n:Nat)(l:List Nat):Bool:=decide (l.length=n)&&uE l&&(l.all λi=>decide (i<n))&&(List.range n).all λi=>l.contains i
def ayh:Operand->Operand->Bool
  | .tmp a,.tmp b=>a==b
  |_,_=>false
def afi(l:List Oper)(x:Operand):Operand:=
  match x with
  | .tmp t=>(match l.find? (λo=>o.dst==some t)with
    | some o=>(match o.op with
      | .move y=>y
      | .assign y=>y
      |_=>x)
    |none=>x)
  |_=>x
def adu(l:List Oper):List Oper->Bool
  |[]=>false
  | o ::r=>(match o.op with
      | .call c=>(match c.callee,c.args.toList with
        | .builtin .append,x::_=>r.any λp=>match p.op with
          | .call l1=>(match l1.callee with
            | .builtin _=>false
            |_=>l1.args.toList.any λy=>ayh (afi l x) (afi l y))
          |_=>false
        |_,_=>false)
      |_=>false)||adu l r
def EE:List bp->Option (List bp×bp×List bp)
  |[]=>none
  | o::r=>match o.k with
    | .app _ _ _ _=>some ([],o,r)
    |_=>(EE r).map λ(a,b,c)=>(o::a,b,c)
def VR(ha:List Nat)(n:Nat):Bool:=(List.range n).all λj=>(List.range j).all λi=>(ha.getD j 0).testBit i
def afu(ops:Array Oper):Bool:=(List.range ops.size).all λj=>match ops[j]? with
  |some o=>o.after.toList.all λe=> !Region.binds .any e||decide (e.on<j)
  |none=>false
def Ol(P:Program)(cQ:Nat)(ops:Array Oper)(qJ:Bool):Option J:=
  if adu ops.toList ops.toList&&(!qJ||(afu ops&&VR (x7 ops.toList []) ops.size))then
    (match Bu P ops cQ (List.range ops.size)with
    |some L=>(EE L).map λ(a,b,c)=> .qh a b c
    |none=>none)
  else none
def Jj(P:Program)(cQ:Nat)(ops:Array Oper):Bool->Option J
  | false=>match Bu P ops cQ (List.range ops.size)with
    |some l=>some (.F l)
    |none=>none
  | true=>
    let order:=afd ops ops.size (List.range ops.size) []
    if SV ops.size order then
      match Ew P ops cQ (x7 ops.toList []) order []with
      |some l=>some (.F l)
      |none=>none
    else none
def p1(P:Program)(cQ:Nat):Code->Option J
  | .skip=>some .skip
  | .region _ ops qJ=>match Ol P cQ ops qJ with
    |some c=>some c
    |none=>Jj P cQ ops qJ
  | .seq a b=>match p1 P cQ a,p1 P cQ b with
    |some x,some y=>some (.B x y)
    |_,_=>none
  | .cond c a b=>match p1 P cQ a,p1 P cQ b with
    |some x,some y=>if cO c then some (.aV c x y)else none
    |_,_=>none
  | .block id c=>match p1 P cQ c with
    |some x=>some (.block id x)
    |none=>none
  | .loop c=>match p1 P cQ c with
    |some x=>some (.loop x)
    |none=>none
  | .exit id=>some (.bh id)
  | .ret=>some .aI
  |_=>none
def vj(P:Program)(cQ:Nat):List ResultVar->Option (List k3)
  |[]=>some []
  | .tmp t::r=>match vj P cQ r with
    |some l=>if t<cQ then some (.bL t::l)else none
    |none=>none
  | .cell a t::r=>match oc P t,ki P t,vj P cQ r with
    |some dd,some n,some l=>if a<cQ then some (.hZ a dd n::l)else none
    |_,_,_=>none
def b3(P:Program)(f:Nat):Option bU:=
  match P.funcs[f]? with
  | some fn=>if fn.name== "runtime.NumGoroutine" then none else match fn.body with
    | some c=>match p1 P fn.ntmps c,vj P fn.ntmps fn.results.toList with
      |some b,some cl=>some ⟨fn.ntmps,cl,b⟩
      |_,_=>none
    |none=>none
  |none=>none
noncomputable def jy(P:Program):Nat->Callee
  |0,_,_,_=>none
  | n+1,f,args,m=>match b3 P f with
    | some u=>if args.length<=u.cQ then
        (match ei (jy P n) n u.body (jl args) m with
        |some (.bh _,_,_)=>none
        |some (_,ae,an)=>if kU an ae u.jc then some (lj an ae u.jc,an)else none
        |none=>none)
      else none
    |none=>none
open Go Go.RowKit
structure ss where
  c:Nat
  o:Nat
  n:Nat
abbrev eE:=Nat->Option ss
inductive dB(aj:eE):Value->Value->Prop
  |cy {v:Value} (h:dQ v=true):dB aj v v
  |cF {b off:Nat} {l:ss} (h:aj b=some l):dB aj (.pointer (some ⟨b,off,none⟩)) (.pointer (some ⟨l.c,l.o+off,none⟩))
  | slice {b off len I cap:Nat} {dF:Addr} {l:ss} (h:aj b=some l) (au:(cap=0/\len=0)\/(dF=⟨l.c,l.o+off,none⟩/\off+cap*I<=l.n)) (aD:len<=cap) (av:cap<=maxLen):
      dB aj (.slice (some ⟨b,off,none⟩) len I) (.slice (some dF) len cap)
  |agg {xs ys:Array Value} (M:xs.size=ys.size) (h: ∀(i:Nat) (x y:Value),xs[i]?=some x->ys[i]?=some y->dB aj x y) (D: ∀x∈xs.toList,S x=true):dB aj (.agg xs) (.agg ys)
  |tuple {xs ys:Array Value} (M:xs.size=ys.size) (h: ∀(i:Nat) (x y:Value),xs[i]?=some x->ys[i]?=some y->dB aj x y):dB aj (.tuple xs) (.tuple ys)
  | func {fn:Fn} {xs ys cs ds:Array Value} (M:xs.size=ys.size) (h: ∀(i:Nat) (x y:Value),xs[i]?=some x->ys[i]?=some y->dB aj x y)
      (hB:cs.size=ds.size) (H: ∀(i:Nat) (x y:Value),cs[i]?=some x->ds[i]?=some y->dB aj x y):dB aj (.func fn xs cs) (.func fn ys ds)
  |iface {t:TypeId} {v bu:Value} (h:dB aj v bu):dB aj (.iface t v) (.iface t bu)
  |map {b:Nat} {l:ss} (h:aj b=some l):dB aj (.map (some b)) (.map (some l.c))
def ga(aj cC:eE):Prop:= ∀b l,aj b=some l->cC b=some l
theorem ga.refl(aj:eE):ga aj aj:= λ_ _ h=>h
theorem ga.trans{a b c:eE}(h:ga a b)(bN:ga b c):ga a c:= λx l G=>bN x l (h x l G)
theorem dB.b6{aj cC:eE}(e7:ga aj cC){v bu:Value}(h:dB aj v bu):dB cC v bu:=by
  induction h with
  |cy h=>exact .cy h
  |cF h=>exact .cF (e7 _ _ h)
  |slice h au aD av=>exact .slice (e7 _ _ h) au aD av
  |agg M _ D cc=>exact .agg M cc D
  |tuple M _ cc=>exact .tuple M cc
  |func M _ hB _ cc P8=>exact .func M cc hB P8
  |iface _ cc=>exact .iface cc
  |map h=>exact .map (e7 _ _ h)
def cV(aj:eE)(xs ys:List Value):Prop:=xs.length=ys.length/\ ∀(i:Nat) (x y:Value),xs[i]?=some x->ys[i]?=some y->dB aj x y
theorem cV.nil(aj:eE):cV aj [] []:=⟨rfl,by intro i x y h;simp at h⟩
theorem cV.cons{aj:eE}{x y:Value}{xs ys:List Value}(h:dB aj x y)(M:cV aj xs ys):cV aj (x::xs) (y::ys):=by
  refine⟨by simp[M.1],λi a b ax hb=> ?_⟩;cases i with
  |zero=>simp at ax hb;subst ax;subst hb;exact h
  |succ i=>exact M.2 i a b (by simpa using ax) (by simpa using hb)
theorem cV.b6{aj cC:eE}(e7:ga aj cC){xs ys:List Value}(h:cV aj xs ys):cV cC xs ys:=⟨h.1,λi x y G ag=>(h.2 i x y G ag).b6 e7⟩
theorem cV.agg{aj:eE}{xs ys:List Value}(h:cV aj xs ys)(D: ∀x∈xs,S x=true):dB aj (.agg xs.toArray) (.agg ys.toArray):= .agg (by simpa using h.1) (by simpa using h.2) (by simpa using D)
theorem cV.tuple{aj:eE}{xs ys:List Value}(h:cV aj xs ys):dB aj (.tuple xs.toArray) (.tuple ys.toArray):= .tuple (by simpa using h.1) (by simpa using h.2)
theorem cV.oq{aj:eE}{a b c d:List Value}(h:cV aj a b)(bN:cV aj c d):cV aj (a++c) (b++d):=by
  refine⟨by simp[h.1,bN.1],λi x y G ag=> ?_⟩;rw[A9]at G ag;rw[<-h.1]at ag;split at G
  · rename_i ak;rw[if_pos ak]at ag;exact h.2 _ _ _ G ag
  · rename_i ak;rw[if_neg ak]at ag;exact bN.2 _ _ _ G ag
theorem cV.drop{aj:eE}{a b:List Value}(h:cV aj a b)(n:Nat):cV aj (a.drop n) (b.drop n):=
  ⟨by simp[h.1],λi x y G ag=>h.2 (n+i) x y (by simpa using G) (by simpa using ag)⟩
theorem cV.take{aj:eE}{a b:List Value}(h:cV aj a b)(n:Nat):cV aj (a.take n) (b.take n):=by
  refine⟨by simp[h.1],λi x y G ag=> ?_⟩;rw[tI]at G ag;split at G
  · rename_i ak;rw[if_pos ak]at ag;exact h.2 _ _ _ G ag
  · cases G
theorem cV.set{aj:eE}{a b:List Value}(h:cV aj a b)(n:Nat){x y:Value}(ad:dB aj x y):cV aj (a.set n x) (b.set n y):=by
  refine⟨by simp[h.1],λi bo v G ag=> ?_⟩;rw[u2]at G ag;rw[<-h.1]at ag;split at G
  · rename_i ak;rw[if_pos ak]at ag;split at G
    · rename_i H;rw[if_pos H]at ag;simp at G ag;subst G;subst ag;exact ad
    · cases G
  · rename_i ak;rw[if_neg ak]at ag;exact h.2 _ _ _ G ag
theorem cV.gy{aj:eE}: ∀{cj e2:List Value} {a b:List Value} (off:Nat),cV aj a b->cV aj cj e2->cV aj (gy a off cj) (gy b off e2)
  |[],[],_,_,_,h,_=>h
  |[],bo::e2,_,_,_,_,H=>by simp[cV]at H
  |v::cj,[],_,_,_,_,H=>by simp[cV]at H
  | v::cj,bo::e2,a,b,off,h,H=>by simp only[Go.DI.gy];exact cV.gy (off+1) (h.set off (H.2 0 v bo rfl rfl)) ⟨by simpa using H.1,λi x y G ag=>H.2 (i+1) x y (by simpa using G) (by simpa using ag)⟩
theorem cV.X{aj:eE}{a b:List Value}(h:cV aj a b){i:Nat}{x:Value}(G:a[i]?=some x): ∃y,b[i]?=some y/\dB aj x y:=by have ak:i<a.length:=(eB.1 G).1;rw[h.1]at ak;exact⟨b[i],dD ak,h.2 i x _ G (dD ak)⟩
theorem cV.Db{aj:eE}{c4:Type}(f g:c4->Value): ∀(l:List c4),(∀x∈l,dB aj (f x) (g x))->cV aj (l.map f) (l.map g)
  |[],_=>cV.nil aj
  |x::l,h=>cV.cons (h x (by simp)) (cV.Db f g l λy ag=>h y (by simp[ag]))
theorem cV.cy(aj:eE){cs:List Value}(h:cs.all dQ=true):cV aj cs cs:=by refine⟨rfl,λi x y G ag=> ?_⟩;rw[G]at ag;cases ag;exact .cy (eQ.1 h x (hF G))
theorem vt{v:Value}(h:dQ v=true):S v=true:=by cases v<;>simp_all [dQ,Go.DI.S]
theorem dB.my(aj:eE){v:Value}(h:my v=true):dB aj v v:=by
  unfold Go.DI.my at h;split at h
  · rename_i cs;have:=cV.agg (cV.cy aj h) (λv ad=>vt (eQ.1 h v ad));simpa using this
  · rename_i cs;have:=cV.tuple (cV.cy aj h);simpa using this
  · exact .cy h
theorem dB.undef(aj:eE):dB aj undef undef:=cV.tuple (cV.nil aj)
theorem dB.S{aj:eE}{v bu:Value}(h:dB aj v bu):S bu=S v:=by cases h<;>simp[Go.DI.S]
theorem Un{aj:eE}{v bu:Value}(h:dB aj v bu):cV aj (O v) bu.cells.toList:=by
  cases h with
  |agg M h _=>exact⟨by simpa[O,Value.cells]using M,by simpa[O,Value.cells]using h⟩
  | cy h=>cases v<;>simp[dQ]at h<;>exact cV.cons (.cy (by simp[dQ,h])) (cV.nil aj)
  |cF h=>exact cV.cons (.cF h) (cV.nil aj)
  |slice h au aD av=>exact cV.cons (.slice h au aD av) (cV.nil aj)
  |tuple M h=>exact cV.cons (.tuple M h) (cV.nil aj)
  |func M h hB H=>exact cV.cons (.func M h hB H) (cV.nil aj)
  |iface h=>exact cV.cons (.iface h) (cV.nil aj)
  |map h=>exact cV.cons (.map h) (cV.nil aj)
theorem Um{aj:eE}{v bu:Value}(h:dB aj v bu)(au:U v=true): ∀x∈O v,S x=true:=by
  intro x G;cases h with
  |agg M h D=>exact D x G
  |cy h=>cases v<;>simp[dQ,O]at h G<;>subst G<;>rfl
  |cF h=>simp[O]at G;subst G;rfl
  |slice h au aD av=>simp[O]at G;subst G;rfl
  |tuple M h=>simp[U]at au
  |func M h hB H=>simp[O]at G;subst G;rfl
  |iface h=>simp[O]at G;subst G;rfl
  |map h=>simp[O]at G;subst G;rfl
theorem dB.ag1{aj:eE}{xs:Array Value}{v:Value}(h:dB aj (.agg xs) v): ∀x∈xs.toList,Go.DI.S x=true:=by
  cases h with
  |cy h=>simp[dQ]at h
  |agg M h D=>exact D
theorem dB.qe{aj:eE}{k:IntKind}{n:Int}{v:Value}(h:dB aj (.int k n) v):v= .int k n:=by cases h;rfl
theorem dB.qd{aj:eE}{b:Bool}{v:Value}(h:dB aj (.bool b) v):v= .bool b:=by cases h;rfl
theorem dB.vJ{aj:eE}{s:ByteArray}{v:Value}(h:dB aj (.string s) v):v= .string s:=by cases h;rfl
theorem dB.pv{aj:eE}{a:Addr}{v:Value}(h:dB aj (.pointer (some a)) v): ∃l,aj a.block=some l/\a.spot=none/\v= .pointer (some ⟨l.c,l.o+a.off,none⟩):=by
  cases h with
  |cy h=>simp[dQ]at h
  |cF h=>exact⟨_,h,rfl,rfl⟩
theorem dB.mc{aj:eE}{a:Addr}{len I:Nat}{v:Value}(h:dB aj (.slice (some a) len I) v):
    ∃l dF cap,aj a.block=some l/\a.spot=none/\v= .slice (some dF) len cap/\((cap=0/\len=0)\/(dF=⟨l.c,l.o+a.off,none⟩/\a.off+cap*I<=l.n))/\len<=cap/\cap<=maxLen:=by
  cases h with
  |cy h=>simp[dQ]at h
  |slice h au aD av=>exact⟨_,_,_,h,rfl,rfl,au,aD,av⟩
theorem dB.q0{aj:eE}{xs:Array Value}{v:Value}(h:dB aj (.agg xs) v): ∃ys,v= .agg ys/\cV aj xs.toList ys.toList:=by
  cases h with
  |cy h=>simp[dQ]at h
  |agg M h _=>exact⟨_,rfl,by simpa using M,by simpa using h⟩
theorem dB.zA{aj:eE}{xs:Array Value}{v:Value}(h:dB aj (.tuple xs) v): ∃ys,v= .tuple ys/\cV aj xs.toList ys.toList:=by
  cases h with
  |cy h=>simp[dQ]at h
  |tuple M h=>exact⟨_,rfl,by simpa using M,by simpa using h⟩
theorem dB.zz{aj:eE}{fn:Fn}{xs cs:Array Value}{v:Value}(h:dB aj (.func fn xs cs) v): ∃ys ds,v= .func fn ys ds/\cV aj xs.toList ys.toList/\cV aj cs.toList ds.toList:=by
  cases h with
  |cy h=>simp[dQ]at h
  |func M h hB H=>exact⟨_,_,rfl,⟨by simpa using M,by simpa using h⟩,by simpa using hB,by simpa using H⟩
theorem dB.FG{aj:eE}{t:TypeId}{x v:Value}(h:dB aj (.iface t x) v): ∃y,v= .iface t y/\dB aj x y:=by
  cases h with
  |cy h=>simp[dQ]at h
  |iface h=>exact⟨_,rfl,h⟩
theorem dB.FH{aj:eE}{b:Nat}{v:Value}(h:dB aj (.map (some b)) v): ∃l,aj b=some l/\v= .map (some l.c):=by
  cases h with
  |cy h=>simp[dQ]at h
  |map h=>exact⟨_,h,rfl⟩
theorem dB.hC{aj:eE}{v bu:Value}(h:dB aj v bu)(a6:dQ v=true):bu=v:=by cases h<;>first|rfl|simp[dQ]at a6
structure gx(aj:eE)(cQ:Nat)(z:aM)(a:Act):Prop where
  size:a.tmps.size=cQ
  defers:a.defers=[]
  ml: ∀t,dB aj (z t) (a.tmps.getD t undef)
theorem gx.b6{aj cC:eE}(e7:ga aj cC){cQ:Nat}{z:aM}{a:Act}(h:gx aj cQ z a):gx cC cQ z a:=⟨h.size,h.defers,λt=>(h.ml t).b6 e7⟩
theorem gx.Y{aj:eE}{cQ:Nat}{z:aM}{a:Act}(h:gx aj cQ z a){x:Operand}(G:cO x=true):dB aj (Y z x) (a.eval x):=by
  cases x with
  |tmp t=>exact h.ml t
  |const v=>exact dB.my aj G
  |func f=>exact .func rfl (by intro i x y h;simp at h) rfl (by intro i x y h;simp at h)
  |global g=>simp[cO]at G
theorem gx.a0{aj:eE}{cQ:Nat}{z:aM}{a:Act}(h:gx aj cQ z a){d:Option Nat}(ay:d.all (λd=>decide (d<cQ))=true){v bu:Value}(ad:dB aj v bu):gx aj cQ (c0 z d v) (a.put d bu):=by
  cases d with
  |none=>exact h
  | some d=>
    have y9:d<cQ:=(by simpa using ay);refine⟨by simp[Act.put,h.size],h.defers,λt=> ?_⟩;simp only[c0,mm,Act.put];by_cases e:t=d
    · subst e;have:t<a.tmps.size:=(by rw[h.size];exact y9);simpa[this]using ad
    · have:=h.ml t;simp only[Array.getD_eq_getD_getElem?]at this⊢;rw[Array.getElem?_setIfInBounds_ne (Ne.symm e)];simpa[e]using this
def wX(aj:eE)(a9:List (Value×Value))(c1:List MapEntry):Prop:=a9.length=c1.length/\ ∀(i:Nat) e dX,a9[i]?=some e->c1[i]?=some dX->dQ e.1=true/\dX.key=e.1/\S e.2=true/\dB aj e.2 dX.val
theorem wX.b6{aj cC:eE}(e7:ga aj cC){a9:List (Value×Value)}{c1:List MapEntry}(h:wX aj a9 c1):wX cC a9 c1:=
  ⟨h.1,λi e dX D H=>by obtain⟨a,b,c,d⟩:=h.2 i e dX D H;exact⟨a,b,c,d.b6 e7⟩⟩
theorem W.ua{m:W}{b:Nat}{a9:List (Value×Value)}(h:m.eK b=some a9):m.X b=some ⟨[],true⟩/\m.mp b=some a9:=by
  unfold W.eK at h;split at h
  · rename_i aF;exact⟨aF,h⟩
  · cases h
theorem W.jM{m:W}{b:Nat}{a9:List (Value×Value)}(D:m.X b=some ⟨[],true⟩)(H:m.mp b=some a9):m.eK b=some a9:=by unfold W.eK;rw[D];exact H
structure dy(aX:Nat)(aj:eE)(m:W)(w:World):Prop where
  kn: ∀b l,aj b=some l->b<m.next
  lN: ∀b l,aj b=some l->l.c<w.heap.size
  lQ: ∀b x,m.X b=some x-> ∃l,aj b=some l/\x.cells.length<=l.n/\(∀i v,x.cells[i]?=some v->S v=true/\ ∃bu,w.cell? ⟨l.c,l.o+i,none⟩=some bu/\dB aj v bu)/\
    (x.own=true->aX<=l.c/\ ∀i,i<l.n->(w.cell? ⟨l.c,l.o+i,none⟩).isSome=true/\w.frozen? ⟨l.c,l.o+i,none⟩=false)
  qL: ∀b x ca hM l de,m.X b=some x->x.own=true->m.X ca=some hM->b≠ca->aj b=some l->aj ca=some de->l.c≠de.c
  tc: ∀b a9,m.mp b=some a9-> ∃l,aj b=some l
  maps: ∀b a9,m.eK b=some a9-> ∃l c1 ahI,aj b=some l/\aX<=l.c/\w.heap[l.c]?=some (.map c1 ahI)/\wX aj a9 c1.toList
theorem W.bn{m:W}{b:Nat}{x:fq}(h:m.X b=some x):b<m.next:=by
  unfold W.X at h;split at h
  · assumption
  · cases h
theorem W.m2(m:W)(b ca:Nat)(x:Option fq):(m.a0 b x).X ca=if ca=b then(if b<m.next then x else none)else m.X ca:=by
  unfold W.X W.a0;by_cases h:ca=b
  · subst h;simp
  · simp[h]
theorem W.e6(m:W)(k b:Nat):(m.dp k).X b=m.X b:=by
  unfold W.X W.dp;by_cases h:b<m.next
  · simp[h,oY h (Nat.le_add_right _ _)]
  · simp[h]
theorem W.aeA(m:W)(b:Nat)(x:Option fq):(m.a0 b x).next=m.next:=rfl
theorem W.sy(m:W)(k:Nat):(m.dp k).next=m.next+k:=rfl
theorem dy.dp{aX:Nat}{aj:eE}{m:W}{w:World}(h:dy aX aj m w)(k:Nat):dy aX aj (m.dp k) w:=
  ⟨λb l hb=>oY (h.kn b l hb) (by simp[W.sy]),h.lN,λb x G=>h.lQ b x (by rwa [W.e6]at G),
   λb x ca hM l de D H aq=>h.qL b x ca hM l de (by rwa [W.e6]at D) H (by rwa [W.e6]at aq),
   h.tc,λb a9 hb=>by obtain⟨aQ,a7⟩:=W.ua hb;rw[W.e6]at aQ;exact h.maps b a9 (W.jM aQ a7)⟩
theorem dy.afV{aX:Nat}{aj:eE}{m:W}{w cN:World}(h:dy aX aj m w)(aH:cN.heap=w.heap):dy aX aj m cN:=by
  have ar: ∀a,cN.cell? a=w.cell? a:= λa=>by simp[World.cell?,aH]
  have a6: ∀a,cN.frozen? a=w.frozen? a:= λa=>by simp[World.frozen?,aH]
  exact⟨h.kn,by rw[aH];exact h.lN,λb x G=>by simpa only[ar,a6]using h.lQ b x G,h.qL,h.tc,λb a9 hb=>by rw[aH];exact h.maps b a9 hb⟩
def iw(P:Program)(o:Oper)(a:Act)(w:World)(v:Value)(cN:World):Prop:=
  (execOp a.eval o).run P w= .ok (.value v) cN\/((execOp a.eval o).run P w= .ok .skip cN/\v=undef)
section
variable {P:Program} {o:Oper} {a:Act} {w:World}
theorem azP{x:Operand}(bx:o.op= .move x):iw P o a w (a.eval x) w:= .inl (by simp[execOp,bx])
theorem azy{x:Operand}(bx:o.op= .assign x):iw P o a w (a.eval x) w:= .inl (by simp[execOp,bx])
theorem azR{c x y:Operand}{b:Bool}(bx:o.op= .pick c x y)(ar:a.eval c= .bool b):iw P o a w (if b then a.eval x else a.eval y) w:=
  .inl (by simp[execOp,bx,ar,asBool])
theorem azQ{x:Operand}(bx:o.op= .nilCheck x)(G:z2 (a.eval x)=true):iw P o a w (a.eval x) w:=by
  refine .inl ?_;simp only[execOp,bx];generalize a.eval x=v at G;cases v<;>simp_all [z2]
  · rename_i p;cases p<;>simp_all
  · rename_i fn _ _;cases fn<;>simp_all
theorem IC{op:BinOp}{t yD:TypeId}{x y:Operand}{v:Value}(bx:o.op= .binOp op t x y yD)(aF:(eqGuard op t x y (a.eval x) (a.eval y)).run P w= .ok () w)
    (h:(binOp op t (a.eval x) (a.eval y)).run P w= .ok v w):iw P o a w v w:=
  .inl (by simp[execOp,bx,aF,h])
theorem azU{op:UnOp}{t:TypeId}{x:Operand}(bx:o.op= .unOp op t x)(G:wL op (a.eval x)=true):iw P o a w (A3 op (a.eval x)) w:=by refine .inl ?_;simp only[execOp,bx];generalize a.eval x=v at G;cases op<;>cases v<;>simp_all [wL,A3,Op.unary,Op.intArith]
theorem azG{x:Operand}{i:Nat}{cj:Array Value}(bx:o.op= .extract x i)(G:a.eval x= .tuple cj)(ak:i<cj.size):iw P o a w (A1 (a.eval x) i) w:=by refine .inl ?_;simp[execOp,bx,G,Instr.extract,ak,A1]
theorem azD{s d:TypeId}{k Sg ec:IntKind}{n:Int}{x:Operand}(bx:o.op= .convert s d x)(M:P.underlying s=some (.int Sg))(ay:P.underlying d=some (.int k))(G:a.eval x= .int ec n):
    iw P o a w (.int k (k.wrap n)) w:=by
  refine .inl ?_;simp[execOp,bx,G,convert,underlying,M,ay,Conv.intToInt]
theorem azE{s d:TypeId}{b:ByteArray}{x:Operand}(bx:o.op= .convert s d x)(M:P.underlying s=some .string)(ay:P.underlying d=some .string)(G:a.eval x= .string b):
    iw P o a w (.string b) w:=by
  refine .inl ?_;simp[execOp,bx,G,convert,underlying,M,ay]
theorem azO{fn:Fn}{x y:Array Operand}(bx:o.op= .makeFunc fn x y):iw P o a w (.func fn (x.map a.eval) (y.map a.eval)) w:=
  .inl (by simp[execOp,bx,Instr.makeFunc])
theorem azH{s:TypeId}{x:Operand}{i:Nat}{eo:Array Field}{f:Field}{bC:TypeInfo}{c off:Nat}(bx:o.op= .fieldAddr s x i)(M:P.underlying s=some (.struct eo))(a6:eo[i]?=some f)
    (ak:P.info? f.type=some bC) (au:0<bC.size) (G:a.eval x= .pointer (some ⟨c,off,none⟩)):iw P o a w (.pointer (some ⟨c,off+f.offset,none⟩)) w:=by
  refine .inl ?_;have:bC.size≠0:=by omega
  simp[execOp,bx,G,Instr.fieldAt,underlying,M,a6,Instr.sureAddr,fieldPlace,sizeOf,typeInfo,ak,this,Addr.add]
theorem azJ{t e:TypeId}{x i:Operand}{bC:TypeInfo}{c off len cap:Nat}{k:IntKind}{n:Int}(bx:o.op= .indexAddr t x i)(bt:P.underlying t=some (.slice e))
    (ak:P.info? e=some bC) (G:a.eval x= .slice (some ⟨c,off,none⟩) len cap) (au:a.eval i= .int k n) (cR:0<=n) (D:n<(len:Int)):
    iw P o a w (.pointer (some ⟨c,off+n.toNat*bC.size,none⟩)) w:=by
  refine .inl ?_;simp[execOp,bx,G,au,Instr.indexAt,asIntOf,underlying,bt,sizeOf,typeInfo,ak,cR,D,Addr.add]
theorem azK{t e:TypeId}{x i:Operand}{bC:TypeInfo}{c off len:Nat}{k:IntKind}{n:Int}(bx:o.op= .indexAddr t x i)(bt:P.underlying t=some (.array len e))
    (ak:P.info? e=some bC) (G:a.eval x= .pointer (some ⟨c,off,none⟩)) (au:a.eval i= .int k n) (cR:0<=n) (D:n<(len:Int)):
    iw P o a w (.pointer (some ⟨c,off+n.toNat*bC.size,none⟩)) w:=by
  refine .inl ?_;simp[execOp,bx,G,au,Instr.indexAt,asIntOf,underlying,bt,sizeOf,typeInfo,ak,cR,D,Addr.add,Instr.sureAddr]
theorem azL{t:TypeId}{x i:Operand}{s:ByteArray}{k:IntKind}{n:Int}(bx:o.op= .index t x i)(bt:P.underlying t=some .string)
    (G:a.eval x= .string s) (au:a.eval i= .int k n) (cR:0<=n) (D:n<(s.size:Int)):
    iw P o a w (.int .u8 ((s.data.toList.getD n.toNat 0).toNat:Nat)) w:=by
  refine .inl ?_;have H:n.toNat<s.size:=by omega
  have aq:s[n.toNat]?=some (s.data.toList.getD n.toNat 0):=by rw[getElem?_pos s n.toNat H];have:n.toNat<s.data.size:=H;simp only[mV,DZ,yF this,Bg];rfl
  simp[execOp,bx,G,au,Instr.index,asIntOf,underlying,bt,cR,aq]
theorem azM{c:Call}{x:Operand}{t:TypeId}{s:ByteArray}(bx:o.op= .call c)(ar:c.callee= .builtin .len)(ax:c.args.toList=[x])(dh:c.argTypes.toList=[t])
    (bt:P.underlying t=some .string) (G:a.eval x= .string s):iw P o a w (.int .i64 s.size) w:=by
  refine .inl ?_;have m3:c.args= #[x]:=by rw[<-pQ (xs:=c.args),ax]
  have vw:c.argTypes= #[t]:=by rw[<-pQ (xs:=c.argTypes),dh]
  simp[execOp,bx,resolve,ar,m3,vw,invoke,builtin,Builtin.len_,underlying,bt,G,goInt]
theorem azN{c:Call}{x:Operand}{t e:TypeId}{p:Option Addr}{l cap:Nat}(bx:o.op= .call c)(ar:c.callee= .builtin .len)(ax:c.args.toList=[x])(dh:c.argTypes.toList=[t])
    (bt:P.underlying t=some (.slice e)) (G:a.eval x= .slice p l cap):iw P o a w (.int .i64 l) w:=by
  refine .inl ?_;have m3:c.args= #[x]:=by rw[<-pQ (xs:=c.args),ax]
  have vw:c.argTypes= #[t]:=by rw[<-pQ (xs:=c.argTypes),dh]
  simp[execOp,bx,resolve,ar,m3,vw,invoke,builtin,Builtin.len_,underlying,bt,G,goInt]
theorem azC{c:Call}{x:Operand}{t e:TypeId}{p:Option Addr}{l cap:Nat}(bx:o.op= .call c)(ar:c.callee= .builtin .cap)(ax:c.args.toList=[x])(dh:c.argTypes.toList=[t])
    (bt:P.underlying t=some (.slice e)) (G:a.eval x= .slice p l cap):iw P o a w (.int .i64 cap) w:=by
  refine .inl ?_;have m3:c.args= #[x]:=by rw[<-pQ (xs:=c.args),ax]
  have vw:c.argTypes= #[t]:=by rw[<-pQ (xs:=c.argTypes),dh]
  simp[execOp,bx,resolve,ar,m3,vw,invoke,builtin,Builtin.cap_,underlying,bt,G,goInt]
end
section
variable {P:Program} {w:World}
theorem aw9{t:TypeId}(d:Nat)(h:P.underlying t=some .bool)(a b:Bool):(Op.equalIn (d+1) t (.bool a) (.bool b)).run P w= .ok (a==b) w:=by simp[Op.equalIn,run_underlying h]
theorem axb{t e:TypeId}(d:Nat)(h:P.underlying t=some (.pointer e))(p q:Option Addr)(pq:p=none\/q=none):(Op.equalIn (d+1) t (.pointer p) (.pointer q)).run P w= .ok (p.isNone&&q.isNone) w:=by
  rcases pq with rfl|rfl
  · simp[Op.equalIn,run_underlying h]
  · cases p<;>simp[Op.equalIn,run_underlying h]
theorem axc{t e:TypeId}(d:Nat)(h:P.underlying t=some (.slice e))(p q:Option Addr)(l c de l1:Nat)(pq:p=none\/q=none):(Op.equalIn (d+1) t (.slice p l c) (.slice q de l1)).run P w= .ok (p.isNone&&q.isNone) w:=by
  rcases pq with rfl|rfl
  · simp[Op.equalIn,run_underlying h]
  · cases p<;>simp[Op.equalIn,run_underlying h]
theorem axa{t:TypeId}{bz bs:Array TypeId}{Uo:Bool}(d:Nat)(h:P.underlying t=some (.func bz bs Uo))(x y:Value)
    (sT:(x= .nilFunc/\y= .nilFunc)\/(x= .nilFunc/\ ∃a b c,y= .func a b c)\/(y= .nilFunc/\ ∃a b c,x= .func a b c)):(Op.equalIn (d+1) t x y).run P w= .ok (px x&&px y) w:=by
  rcases sT with⟨rfl,rfl⟩|⟨rfl,_,_,_,rfl⟩|⟨rfl,_,_,_,rfl⟩<;>simp[Op.equalIn,run_underlying h,px]
theorem axd{t:TypeId}(h:P.underlying t=some .bool)(a b:Bool):(Op.equal t (.bool a) (.bool b)).run P w= .ok (a==b) w:=aw9 9999 h a b
theorem aeR{t e:TypeId}(h:P.underlying t=some (.pointer e))(p q:Option Addr)(pq:p=none\/q=none):(Op.equal t (.pointer p) (.pointer q)).run P w= .ok (p.isNone&&q.isNone) w:=axb 9999 h p q pq
theorem aeS{t e:TypeId}(h:P.underlying t=some (.slice e))(p q:Option Addr)(l c de l1:Nat)(pq:p=none\/q=none):(Op.equal t (.slice p l c) (.slice q de l1)).run P w= .ok (p.isNone&&q.isNone) w:=axc 9999 h p q l c de l1 pq
theorem Tm{t:TypeId}{bz bs:Array TypeId}{Uo:Bool}(h:P.underlying t=some (.func bz bs Uo))(x y:Value)
    (sT:(x= .nilFunc/\y= .nilFunc)\/(x= .nilFunc/\ ∃a b c,y= .func a b c)\/(y= .nilFunc/\ ∃a b c,x= .func a b c)):(Op.equal t x y).run P w= .ok (px x&&px y) w:=axa 9999 h x y sT
theorem ayP{t:TypeId}(h:od P t= .bool):P.underlying t=some .bool:=by unfold od at h;split at h<;>first|assumption|cases h
theorem afD{t:TypeId}(h:od P t= .cF): ∃e,P.underlying t=some (.pointer e):=by unfold od at h;split at h<;>first|exact⟨_,by assumption⟩|cases h
theorem afE{t:TypeId}(h:od P t= .slice): ∃e,P.underlying t=some (.slice e):=by unfold od at h;split at h<;>first|exact⟨_,by assumption⟩|cases h
theorem Uf{t:TypeId}(h:od P t= .fn): ∃a b c,P.underlying t=some (.func a b c):=by unfold od at h;split at h<;>first|exact⟨_,_,_,by assumption⟩|cases h
theorem MZ{op:BinOp}{t:TypeId}{x y:Operand}{bo v:Value}(D:bo≠ .nilIface)(H:rW bo=false):(eqGuard op t x y bo v).run P w= .ok () w:=by
  unfold eqGuard;by_cases bx:op= .eql\/op= .neq
  · rcases bx with rfl|rfl<;>simp<;>cases bo<;>simp_all [rW]
  · cases op<;>simp_all
theorem axe{op:BinOp}{t:TypeId}{k eX:IntKind}{a b:Int}(h:Kk op k eX a b=true):(binOp op t (.int k a) (.int eX b)).run P w= .ok (B1 op k a b) w:=by cases op<;>simp_all [Kk,binOp,B1,Op.intArith,Op.intDiv,Op.intBits,Op.intCmp,Op.shift]<;>first|rfl|(intro bN;omega)
theorem toList_beq(a b:ByteArray):(a.toList==b.toList)=decide (a=b):=by
  rw[Bool.eq_iff_iff];simp only[ByteArray.toList_eq,beq_iff_eq,eO];constructor
  · intro h;cases a;cases b;simpa using h
  · rintro rfl;rfl
theorem axh{op:BinOp}{t:TypeId}{a b:ByteArray}(h:Im op a b=true):(binOp op t (.string a) (.string b)).run P w= .ok (yu op a b) w:=by have e:=toList_beq a b;cases op<;>simp_all [Im,binOp,yu,Op.stringOp];omega
theorem w2{op:BinOp}(mE:op= .eql\/op= .neq){t:TypeId}{bo v:Value}(aS:eT bo=false)(M:kN bo=false)(Kf:xX bo=true->eT v=false){r:Bool}(a6:(∀k a b,bo≠ .complex k a b)/\ ∀k a,bo≠ .float k a)
    (h:(Op.equal t bo v).run P w= .ok r w):(binOp op t bo v).run P w= .ok (.bool (if op= .eql then r else !r)) w:=by
  rcases mE with rfl|rfl<;>cases bo<;>simp_all [eT,kN,binOp]
theorem aeQ{op:BinOp}{t:TypeId}{aj:eE}{bo v yw bu:Value}(mE:op= .eql\/op= .neq)(ao:sF (od P t) bo v=true)(aS:dB aj bo yw)(ad:dB aj v bu):
    (binOp op t yw bu).run P w= .ok (kI op bo v) w/\yw≠ .nilIface/\rW yw=false:=by
  unfold sF at ao;split at ao
  · rename_i dh;have:=aS.qd;subst this;have:=ad.qd;subst this;refine⟨?_,by simp,rfl⟩;rw[w2 mE rfl rfl (by simp[xX]) (by simp) (axd (ayP dh) _ _)];rcases mE with rfl|rfl<;>simp[kI,nV]
  · rename_i p dh;obtain⟨e,bb⟩:=afD dh;have:=aS.hC rfl;subst this;have zv: ∃q,bu= .pointer q/\q.isNone=p.isNone:=by
      cases p with
      |none=>exact⟨none,ad.hC rfl,rfl⟩
      |some a=>obtain⟨l,_,_,h⟩:=ad.pv;exact⟨_,h,rfl⟩
    obtain⟨q,rfl,bc⟩:=zv;refine⟨?_,by simp,rfl⟩;rw[w2 mE rfl rfl (by simp[xX]) (by simp) (aeR bb _ _ (.inl rfl))];cases p<;>rcases mE with rfl|rfl<;>simp_all [kI,nV,px]
  · rename_i p _ dh;obtain⟨e,bb⟩:=afD dh;have:=ad.hC rfl;subst this;have zv: ∃q,yw= .pointer q/\q.isNone=p.isNone:=by
      cases p with
      |none=>exact⟨none,aS.hC rfl,rfl⟩
      |some a=>obtain⟨l,_,_,h⟩:=aS.pv;exact⟨_,h,rfl⟩
    obtain⟨q,rfl,bc⟩:=zv;refine⟨?_,by simp,rfl⟩;rw[w2 mE rfl rfl (by simp[eT]) (by simp) (aeR bb _ _ (.inr rfl))];cases p<;>rcases mE with rfl|rfl<;>simp_all [kI,nV,px]
  · rename_i jo ch p jq c6 dh;obtain⟨e,bb⟩:=afE dh;have Kf:yw= .slice none jo ch:=(by cases aS with|cy h=>rfl);subst Kf;have zv: ∃q l c,bu= .slice q l c/\q.isNone=p.isNone:=by
      cases p with
      |none=>cases ad with|cy h=>exact⟨_,_,_,rfl,rfl⟩
      |some a=>obtain⟨l,dF,cap,_,_,h,_⟩:=ad.mc;exact⟨_,_,_,h,rfl⟩
    obtain⟨q,l,c,rfl,bc⟩:=zv;refine⟨?_,by simp,rfl⟩;rw[w2 mE rfl rfl (by simp[xX]) (by simp) (aeS bb _ _ _ _ _ _ (.inl rfl))];cases p<;>rcases mE with rfl|rfl<;>simp_all [kI,nV,px]
  · rename_i p jo ch jq c6 _ dh;obtain⟨e,bb⟩:=afE dh;have zv:bu= .slice none jq c6:=(by cases ad with|cy h=>rfl);subst zv;have Kf: ∃q l c,yw= .slice q l c/\q.isNone=p.isNone:=by
      cases p with
      |none=>cases aS with|cy h=>exact⟨_,_,_,rfl,rfl⟩
      |some a=>obtain⟨l,dF,cap,_,_,h,_⟩:=aS.mc;exact⟨_,_,_,h,rfl⟩
    obtain⟨q,l,c,rfl,bc⟩:=Kf;refine⟨?_,by simp,rfl⟩;rw[w2 mE rfl rfl (by simp[xX]) (by simp) (aeS bb _ _ _ _ _ _ (.inr rfl))];cases p<;>rcases mE with rfl|rfl<;>simp_all [kI,nV,px]
  · rename_i dh;obtain⟨a,b,c,bb⟩:=Uf dh;have:=aS.hC rfl;subst this;have:=ad.hC rfl;subst this;refine⟨?_,by simp,rfl⟩;rw[w2 mE rfl rfl (by simp[xX]) (by simp) (Tm bb _ _ (.inl ⟨rfl,rfl⟩))];rcases mE with rfl|rfl<;>simp[kI,nV,px]
  · rename_i dh;obtain⟨a,b,c,bb⟩:=Uf dh;have:=aS.hC rfl;subst this;obtain⟨ys,ds,rfl,_⟩:=ad.zz;refine⟨?_,by simp,rfl⟩;rw[w2 mE rfl rfl (by simp[xX]) (by simp) (Tm bb _ _ (.inr (.inl ⟨rfl,_,_,_,rfl⟩)))];rcases mE with rfl|rfl<;>simp[kI,nV,px]
  · rename_i dh;obtain⟨a,b,c,bb⟩:=Uf dh;have:=ad.hC rfl;subst this;obtain⟨ys,ds,rfl,_⟩:=aS.zz;refine⟨?_,by simp,rfl⟩;rw[w2 mE rfl rfl (by simp[xX]) (by simp) (Tm bb _ _ (.inr (.inr ⟨rfl,_,_,_,rfl⟩)))];rcases mE with rfl|rfl<;>simp[kI,nV,px]
  · cases ao
theorem azz{o:Oper}{a:Act}{op:BinOp}{t yD:TypeId}{x y:Operand}{aj:eE}{bo v:Value}(bx:o.op= .binOp op t x y yD)(G:dB aj bo (a.eval x))(ag:dB aj v (a.eval y))
    (ao:qG op (od P t) bo v=true): ∃bu,iw P o a w bu w/\dB aj (kI op bo v) bu:=by
  generalize jk:a.eval x=yw at G;generalize sU:a.eval y=bu at ag;cases bo with
  | int k n=>
    cases v<;>simp only[qG]at ao
    case int eX g0=>have:=G.qe;subst this;have:=ag.qe;subst this;refine⟨B1 op k n g0,IC bx (MZ (by simp[jk]) (by simp[jk,rW])) (by rw[jk,sU];exact axe ao),?_⟩;simp only[kI];exact .cy (by cases op<;>rfl)
    all_goals(cases op<;>first|cases ao|(cases ar:od P t<;>simp[ar,sF]at ao))
  | string s=>
    cases v<;>simp only[qG]at ao
    case string kV=>have:=G.vJ;subst this;have:=ag.vJ;subst this;refine⟨yu op s kV,IC bx (MZ (by simp[jk]) (by simp[jk,rW])) (by rw[jk,sU];exact axh ao),?_⟩;simp only[kI];exact .cy (by cases op<;>simp_all [yu,Im,dQ])
    all_goals(cases op<;>first|cases ao|(cases ar:od P t<;>simp[ar,sF]at ao))
  | _=>
    simp only[qG]at ao;have mE:op= .eql\/op= .neq:=(by cases op<;>first|exact .inl rfl|exact .inr rfl|cases ao);have Fp:=ao;rcases mE with rfl|rfl
    · obtain⟨D,H,aq⟩:=aeQ (w:=w) (.inl rfl) Fp G ag;exact⟨_,IC bx (MZ (by rw[jk];exact H) (by rw[jk];exact aq)) (by rw[jk,sU];exact D),.cy (by simp[kI,dQ])⟩
    · obtain⟨D,H,aq⟩:=aeQ (w:=w) (.inr rfl) Fp G ag;exact⟨_,IC bx (MZ (by rw[jk];exact H) (by rw[jk];exact aq)) (by rw[jk,sU];exact D),.cy (by simp[kI,dQ])⟩
end
section
variable {P:Program} {w:World} {o:Oper} {a:Act}
def u9(x:Option Value)(OC:Nat)(n:Nat):Prop:=(x=none/\n=OC)\/ ∃(k:IntKind) (i:Int),x=some (.int k i)/\0<=i/\i.toNat=n
theorem wy{k:IntKind}{i:Int}{y n:Nat}{c:BoundsCode}(cR:0<=i)(D:i.toNat=n)(H:n<=y):(Instr.sliceBound (.int k i) y c).run P w= .ok n w:=by
  have:i<=(y:Int):=by omega
  simp[Instr.sliceBound,asIntOf,cR,this,D]
theorem Tk{Md:Bool}{len cap l h:Nat}{cp ak:Option Value}(aD:u9 cp 0 l)(aH:u9 ak len h)(D:l<=h)(H:h<=cap):
    (Instr.sliceBounds Md len cap cp ak none).run P w= .ok (l,h,cap) w:=by
  rcases aD with⟨rfl,rfl⟩|⟨k,i,rfl,BO,n1⟩<;>rcases aH with⟨rfl,rfl⟩|⟨eX,dc,rfl,Ff,m4⟩
  · simp[Instr.sliceBounds]
  · simp[Instr.sliceBounds,wy Ff m4 H]
  · simp[Instr.sliceBounds,wy BO n1 D]
  · simp[Instr.sliceBounds,wy Ff m4 H,wy BO n1 D]
theorem azT{t:TypeId}{x:Operand}{cp ak:Option Operand}{s:ByteArray}{l h:Nat}(bx:o.op= .slice t x cp ak none)(bt:P.underlying t=some .string)(G:a.eval x= .string s)
    (aD:u9 (cp.map a.eval) 0 l) (aH:u9 (ak.map a.eval) s.size h) (D:l<=h) (H:h<=s.size):iw P o a w (.string (s.extract l h)) w:=by
  refine .inl ?_;simp[execOp,bx,G,Instr.sliceAt,Instr.slice,run_underlying bt,Tk aD aH D H]
theorem af9{t e:TypeId}{x:Operand}{cp ak:Option Operand}{p:Option Addr}{len cap:Nat}{bC:TypeInfo}{l h:Nat}(bx:o.op= .slice t x cp ak none)(bt:P.underlying t=some (.slice e))(hH:P.info? e=some bC)
    (G:a.eval x= .slice p len cap) (aD:u9 (cp.map a.eval) 0 l) (aH:u9 (ak.map a.eval) len h) (D:l<=h) (H:h<=cap):
    iw P o a w (.slice (if cap=l then p else p.map (·.add (l*bC.size))) (h-l) (cap-l)) w:=by
  refine .inl ?_;simp[execOp,bx,G,Instr.sliceAt,Instr.slice,run_underlying bt,Tk aD aH D H,sizeOf,typeInfo,hH]
theorem azS{t e:TypeId}{x:Operand}{dU:Addr}{n:Nat}{bC:TypeInfo}(bx:o.op= .slice t x none none none)(ax:P.underlying t=some (.array n e))(hH:P.info? e=some bC)
    (G:a.eval x= .pointer (some dU)):iw P o a w (.slice (some (if n=0 then dU else dU.add (0*bC.size))) (n-0) (n-0)) w:=by
  refine .inl ?_;have hb:=Tk (P:=P) (w:=w) (Md:=false) (len:=n) (cap:=n) (l:=0) (h:=n) (cp:=none) (ak:=none) (.inl ⟨rfl,rfl⟩) (.inl ⟨rfl,rfl⟩) (hx _) (dW _);simp[execOp,bx,G,Instr.sliceAt,Instr.sureAddr,run_underlying ax,hb,sizeOf,typeInfo,hH]
theorem aw8{Md:Bool}{len cap l h m:Nat}{cp:Option Value}{ak fk:Value}(aD:u9 cp 0 l)(aH: ∃(k:IntKind) (i:Int),ak= .int k i/\0<=i/\i.toNat=h)(av: ∃(k:IntKind) (i:Int),fk= .int k i/\0<=i/\i.toNat=m)(D:l<=h)(H:h<=m)(aq:m<=cap):
    (Instr.sliceBounds Md len cap cp (some ak) (some fk)).run P w= .ok (l,h,m) w:=by
  obtain⟨eX,dc,rfl,Ff,m4⟩:=aH;obtain⟨gY,lx,rfl,xr,k8⟩:=av;rcases aD with⟨rfl,rfl⟩|⟨k,i,rfl,BO,n1⟩
  · simp[Instr.sliceBounds,wy xr k8 aq,wy Ff m4 H]
  · simp[Instr.sliceBounds,wy xr k8 aq,wy Ff m4 H,wy BO n1 D]
theorem af8{t e:TypeId}{x ak fk:Operand}{cp:Option Operand}{p:Option Addr}{len cap:Nat}{bC:TypeInfo}{l h m:Nat}(bx:o.op= .slice t x cp (some ak) (some fk))(bt:P.underlying t=some (.slice e))(hH:P.info? e=some bC)
    (G:a.eval x= .slice p len cap) (aD:u9 (cp.map a.eval) 0 l) (aH: ∃(k:IntKind) (i:Int),a.eval ak= .int k i/\0<=i/\i.toNat=h) (av: ∃(k:IntKind) (i:Int),a.eval fk= .int k i/\0<=i/\i.toNat=m) (D:l<=h) (H:h<=m) (aq:m<=cap):
    iw P o a w (.slice (if m=l then p else p.map (·.add (l*bC.size))) (h-l) (m-l)) w:=by
  refine .inl ?_;simp[execOp,bx,G,Instr.sliceAt,Instr.slice,run_underlying bt,aw8 aD aH av D H aq,sizeOf,typeInfo,hH]
theorem yO{aj:eE}{cQ:Nat}{z:aM}(M:gx aj cQ z a){x:Option Operand}(G:Dj x=true)(ao:nj z x=true)(d:Nat)(cR:0<=gK z x d):u9 (x.map a.eval) d (gK z x d).toNat:=by
  cases x with
  |none=>exact .inl ⟨rfl,by simp[gK]⟩
  | some x=>
    have az:=M.Y (x:=x) G;simp only[nj]at ao;simp only[gK]at cR⊢;cases ad:Y z x<;>simp[ad,eT]at ao;rw[ad]at az;refine .inr ⟨_,_,by simp[az.qe];exact⟨rfl,rfl⟩,?_,?_⟩
    · simpa[ad,eG]using cR
    · simp[eG]
theorem Wt(off:Nat): ∀(cj:List Value) (j:Nat) (cs:Array Value),((cj.zipIdx j).foldl (λcs (c,j)=>cs.setIfInBounds (off+j) c) cs).toList=gy cs.toList (off+j) cj
  |[],_,_=>rfl
  | v::cj,j,cs=>by simp only[List.zipIdx_cons,wS,gy];rw[Wt off cj (j+1)];simp[o0]
theorem aiv(off:Nat)(v:Value)(cs:Array Value):(v.cells.zipIdx.foldl (λcs (c,j)=>cs.setIfInBounds (off+j) c) cs).toList=gy cs.toList off v.cells.toList:=by have:=Wt off v.cells.toList 0 cs;simp only[Nat.add_zero]at this;rw[<-this,<-Array.foldl_toList];simp[Array.toList_zipIdx]
theorem Er: ∀(cj:List Value) (off:Nat) (cs:List Value),(gy cs off cj).length=cs.length
  |[],_,_=>rfl
  |v::cj,off,cs=>by simp only[gy];rw[Er cj];simp
theorem VE(p:Value->Prop): ∀(cj:List Value) (off:Nat) (cs:List Value),(∀x∈cs,p x)->(∀x∈cj,p x)-> ∀x∈gy cs off cj,p x
  |[],_,_,h,_=>h
  | v::cj,off,cs,h,H=>by
    simp only[gy];refine VE p cj _ _ (λx G=> ?_) (λx G=>H x (by simp[G]));rcases List.mem_or_eq_of_mem_set G with aq|aq
    · exact h x aq
    · subst aq;exact H _ (by simp)
theorem JG{aj:eE}{cQ:Nat}{z:aM}(M:gx aj cQ z a)(uJ:Nat->Option (Nat×Nat)): ∀(ps:List (Nat×Operand)) (hv:List (Nat×Nat×Operand)) (cs:List Value) (ds:Array Value),
    (ps.length=hv.length/\ ∀(i:Nat) p q,ps[i]?=some p->hv[i]?=some q->p.2=q.2.2/\cO p.2=true/\uJ p.1=some (q.1,q.2.1))->
    cV aj cs ds.toList->(∀x∈cs,S x=true)->pD cs z hv=true-> ∃fH:Array Value,Instr.fill uJ ds (ps.map λp=>(p.1,a.eval p.2))=some fH/\cV aj (lE cs z hv) fH.toList/\(∀x∈lE cs z hv,S x=true)
  |[],[],cs,ds,_,az,aC,_=>⟨ds,rfl,az,aC⟩
  |[],_::_,_,_,pq,_,_,_=>by simp at pq
  |_::_,[],_,_,pq,_,_,_=>by simp at pq
  | p::ps,(a3,br,bX)::hv,cs,ds,pq,az,aC,ao=>by obtain⟨aK,aR,cB⟩:=pq.2 0 p (a3,br,bX) rfl rfl;dsimp only at aK cB;simp only[pD,mW,aY,eO]at ao;have ad:=M.Y (x:=p.2) aR;rw[aK]at ad;have ar:=Un ad;have aD:(a.eval bX).cells.size=br:=(by have:=ar.1;simp only[Array.length_toList]at this;rw[<-this];exact ao.1.1.2);have ay:ds.size=cs.length:=(by have:=az.1;simp at this;exact this.symm);have Kb:cV aj (gy cs a3 (O (Y z bX))) ((a.eval bX).cells.zipIdx.foldl (λcs (c,j)=>cs.setIfInBounds (a3+j) c) ds).toList:=(by rw[aiv];exact az.gy _ ar);have Fm: ∀x∈gy cs a3 (O (Y z bX)),S x=true:=VE (λx=>S x=true) _ _ _ aC (Um ad ao.1.1.1);obtain⟨fH,D,H,aq⟩:=JG M uJ ps hv _ _ ⟨by simpa using pq.1,λi x y G ag=>pq.2 (i+1) x y (by simpa using G) (by simpa using ag)⟩ Kb Fm (by have aq:=ao.2;simp only[pD,Er]at aq⊢;exact aq);refine⟨fH,?_,by simpa only[lE]using H,by simpa only[lE]using aq⟩;simp only[ln,Instr.fill,aK,cB,aD,ne_eq,not_true_eq_false,decide_false,Bool.false_or];rw[if_neg (by simp;omega)];exact D
theorem Wp{eo:Array Field}: ∀(ps:List (Nat×Operand)) (hv:List (Nat×Nat×Operand)),EN P eo ps=some hv->
    ps.length=hv.length/\ ∀(i:Nat) p q,ps[i]?=some p->hv[i]?=some q->p.2=q.2.2/\cO p.2=true/\ ∃f bC,eo[p.1]?=some f/\P.info? f.type=some bC/\q.1=f.offset/\q.2.1=bC.size
  |[],hv,h=>by simp[EN]at h;subst h;simp
  | (j,x)::ps,hv,h=>by
    simp only[EN]at h;split at h
    · rename_i f a6;split at h
      · rename_i n cl au PN;split at h
        · rename_i G;cases h;obtain⟨D,H⟩:=Wp ps cl PN;refine⟨by simp[D],λi p q ai bc=> ?_⟩;cases i with
          | zero=>
            simp at ai bc;subst ai;subst bc;unfold ki at au;cases ak:P.info? f.type with
            |none=>simp[ak]at au
            |some bC=>exact⟨rfl,G,f,bC,a6,ak,rfl,by simpa[ak]using au.symm⟩
          |succ i=>exact H i p q (by simpa using ai) (by simpa using bc)
        · cases h
      · cases h
    · cases h
theorem OJ{I:Nat}: ∀(ps:List (Nat×Operand)) (hv:List (Nat×Nat×Operand)),yT I ps=some hv->
    ps.length=hv.length/\ ∀(i:Nat) p q,ps[i]?=some p->hv[i]?=some q->p.2=q.2.2/\cO p.2=true/\q.1=p.1*I/\q.2.1=I
  |[],hv,h=>by simp[yT]at h;subst h;simp
  | (j,x)::ps,hv,h=>by
    simp only[yT]at h;split at h
    · rename_i cl PN;split at h
      · rename_i G;cases h;obtain⟨D,H⟩:=OJ ps cl PN;refine⟨by simp[D],λi p q ai bc=> ?_⟩;cases i with
        |zero=>simp at ai bc;subst ai;subst bc;exact⟨rfl,G,rfl,rfl⟩
        |succ i=>exact H i p q (by simpa using ai) (by simpa using bc)
      · cases h
    · cases h
theorem yv{t:TypeId}{I:List Value}(h:oW P t=some I): ∃bC hj,P.info? t=some bC/\bC.zero=some hj/\hj.cells.toList=I/\I.all dQ=true/\I.length=bC.size:=by
  unfold oW at h;split at h
  · rename_i bC ak;split at h
    · rename_i hj bD;simp only at h;split at h
      · rename_i ar;cases h;simp only[aY,eO]at ar;exact⟨bC,hj,ak,bD,rfl,ar.1,ar.2⟩
      · cases h
    · cases h
  · cases h
theorem rk{t:TypeId}{n:Nat}(h:ki P t=some n): ∃bC,P.info? t=some bC/\bC.size=n:=by
  unfold ki at h;cases ak:P.info? t with
  |none=>simp[ak]at h
  |some bC=>exact⟨bC,rfl,by simpa[ak]using h⟩
theorem Ue{t:TypeId}{b:Bool}(h:oc P t=some b):(isAgg t).run P w= .ok b w:=by
  unfold oc at h;unfold isAgg;split at h<;>first|cases h|skip
  · rename_i aS;simp[run_underlying aS]
  · rename_i aS;simp[run_underlying aS]
  · rename_i d D H aS;simp only[Sem.run_bind,run_underlying aS,Result.andThen_ok];rfl
theorem au6(eo:List Field)(h:eo.all (λf=>(ki P f.type).isSome)=true):
    ∃uI:List (Nat×Nat),(eo.mapM (m:=Sem) λ(f:Field)=>do pure (f.offset,<-sizeOf f.type)).run P w= .ok uI w/\ ∀i:Nat,uI[i]?=(eo[i]?).bind λ(f:Field)=>(P.info? f.type).map λbC=>(f.offset,bC.size):=by
  induction eo with
  |nil=>exact⟨[],by simp,by simp⟩
  | cons f eo cc=>
    simp only[mW,aY]at h;obtain⟨uI,D,H⟩:=cc h.2;obtain⟨n,au⟩:=II.1 h.1;obtain⟨bC,ak,_⟩:=rk au;refine⟨(f.offset,bC.size)::uI,?_,λi=> ?_⟩
    · simp[List.mapM_cons,sizeOf,typeInfo,ak]at D⊢;simp[D]
    · cases i with
      |zero=>simp[ak]
      |succ i=>simpa using H i
end
end Go.DI
