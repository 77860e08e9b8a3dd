/-
  A part of the proof of the statement, in texts that tools of ours (wip/shrink.py, irpack.py, relax.py, minify.py, join.py, lay.py) have shortened.
-/
import Derived.WalkKit
set_option linter.all false
set_option maxRecDepth 8000
set_option maxHeartbeats 16000000
namespace Go.DI
open Go
abbrev aL:=Nat->Value
structure fO where
  cells:List Value
  own:Bool
structure B where
  next:Nat
  mV:Nat->Option fO
  mp:Nat->Option (List (Value×Value))
def B.M(m:B)(b:Nat):Option fO:=if b<m.next then m.mV b else none
def B.au(m:B)(b:Nat)(x:Option fO):B:=⟨m.next,λi=>if i=b then x else m.mV i,m.mp⟩
def B.bs(m:B)(k:Nat):B:=⟨m.next+k,λi=>if i<m.next then m.mV i else none,m.mp⟩
def B.c6(m:B)(b:Nat):Option (List (Value×Value)):=match m.M b with
  |some ⟨[],true⟩=>m.mp b
  |_=>none
def B.hq(m:B)(b:Nat)(bg:List (Value×Value)):B:=⟨m.next,λi=>if i=b then some ⟨[],true⟩else m.mV i,λi=>if i=b then some bg else m.mp i⟩
def qc(u:aL)(d:Nat)(v:Value):aL:= λt=>if t=d then v else u t
def dA(u:aL)(d:Option Nat)(v:Value):aL:=match d with|some d=>qc u d v|none=>u
def ab(u:aL):Operand->Value
  | .tmp t=>u t
  | .const v=>v
  | .func f=> .func (.func f) #[] #[]
  | .global _=>undef
def xR:Value->Bool| .bool b=>b|_=>false
def vT:Value->Bool| .bool _=>true|_=>false
def gd:Value->Int| .int _ n=>n|_=>0
def fU:Value->Bool| .int _ _=>true|_=>false
def ui:Value->ByteArray| .string s=>s|_=> .empty
def al:Value->List Value| .agg cs=>cs.toList|v=>[v]
def kE:List Value->Nat->List Value->List Value
  |cs,_,[]=>cs
  |cs,off,v::c2=>kE (cs.set off v) (off+1) c2
def ai:Value->Option Nat
  | .pointer (some a)=>some a.block
  | .slice (some a) _ _=>some a.block
  | .map (some b)=>some b
  |_=>none
def fg:Value->Bool
  | .bool _| .int _ _| .float _ _| .complex _ _ _| .string _| .pointer none| .map none| .chan none| .nilFunc| .nilIface=>true
  | .slice none l c=>l==0&&c==0
  |_=>false
def pb:Value->Bool
  | .agg cs=>cs.toList.all fg
  | .tuple cs=>cs.toList.all fg
  |v=>fg v
def ao:Value->Bool
  | .agg _| .tuple _=>false
  |_=>true
def ar:Value->Bool
  | .tuple _=>false
  |_=>true
inductive wG where
  |bool|bZ|slice|fn|iface|agg|hM
  deriving DecidableEq
inductive rE where
  |int|str|bool
  deriving DecidableEq
inductive mx where
  |int (k:IntKind)|str
  deriving DecidableEq
inductive av where
  |pk (x:Operand)
  |s4 (c a b:Operand)
  |Az (x:Operand)
  |eR (zero:List Value)
  |o7 (x:Operand)
  |gT (zero:List Value) (aAC:List (Nat×Nat×Operand))
  |iT (O n:Nat) (zero:List Value) (aAC:List (Nat×Nat×Operand))
  |fj (ep:Bool) (n:Nat) (x:Operand)
  |store (n:Nat) (x v:Operand)
  |gz (op:BinOp) (c:wG) (x y:Operand)
  |rQ (bV:Bool) (gG:List rE) (x y:Operand)
  |nv (op:UnOp) (x:Operand)
  |xV (k:IntKind) (x:Operand)
  |Ft (x:Operand)
  |qk (x:Operand)
  |rN (x:Operand)
  |nk (O bytes:Nat) (zero:List Value) (l c:Operand)
  |EZ (x:Operand) (cZ aa:Option Operand)
  |pv (O:Nat) (x:Operand) (cZ aa:Option Operand)
  |wq (O:Nat) (x:Operand) (cZ:Option Operand) (aa fC:Operand)
  |sq (O n:Nat) (x:Operand)
  |ur (off:Nat) (x:Operand)
  |field (ep:Bool) (off n:Nat) (x:Operand)
  |pg (O:Nat) (x i:Operand)
  |ph (O len:Nat) (x i:Operand)
  |xh (x i:Operand)
  |ext (i:Nat) (x:Operand)
  |v8 (x:Operand)
  |uX (x:Operand)
  |app (O bytes:Nat) (x y:Operand)
  |xy (fC:Bool) (x:Operand) (xs:List Operand)
  |tP (fn:Fn) (first lT:List Operand)
  |eI (f:Nat) (args:List Operand)
  |lZ (x:Operand) (args:List Operand)
  |Hn (t:TypeId) (x:Operand)
  |HU (t:TypeId) (x:Operand)
  |qB (bR:List (TypeId×Nat×Option (Bool×Nat))) (x:Operand) (args:List Operand)
  |oS
  |pY (bx:mx) (zero:Value) (ok:Bool) (x k:Operand)
  |pl (bx:mx) (x k v:Operand)
structure b6 where
  bc:Nat
  d:Option Nat
  g:Option (Nat×Bool)
  k:av
  bx:List (Operand×Operand)
inductive nw where
  |bA (t:Nat)
  |h7 (t:Nat) (ep:Bool) (n:Nat)
inductive U where
  |skip
  |I (ops:List b6)
  |E (a b:U)
  |bj (c:Operand) (a b:U)
  |block (id:Nat) (c:U)
  |loop (c:U)
  |bI (id:Nat)
  |a7
structure dn where
  ek:Nat
  qP:List nw
  body:U
inductive dr where
  |gv
  |bI (id:Nat)
  |a7
  deriving DecidableEq
def gZ(m:B)(v:Value)(n:Nat):Bool:=
  match v with
  | .pointer (some a)=>a.spot.isNone&&(match m.M a.block with|some x=>decide (a.off+n<=x.cells.length)|none=>false)
  |_=>false
def rH(m:B)(v:Value):Bool:=
  match v with
  | .pointer (some a)=>(match m.M a.block with|some x=>x.own|none=>false)
  |_=>false
def ka(m:B)(b off n:Nat):List Value:=
  match m.M b with
  |some x=>(x.cells.drop off).take n
  |none=>[]
def lq(m:B)(ep:Bool)(n:Nat)(v:Value):Value:=
  match v with
  | .pointer (some a)=>if ep then .agg (ka m a.block a.off n).toArray else(ka m a.block a.off 1).headD undef
  |_=>undef
def qR(m:B)(v:Value)(cs:List Value):B:=
  match v with
  | .pointer (some a)=>(match m.M a.block with|some x=>m.au a.block (some ⟨kE x.cells a.off cs,x.own⟩)|none=>m)
  |_=>m
def ik(m:B)(O:Nat)(v:Value):Bool:=
  match v with
  | .slice none l c=>l==0&&c==0
  | .slice (some a) l c=>a.spot.isNone&&c==O&&(match m.M a.block with|some x=>decide (a.off+l*O<=x.cells.length)|none=>false)
  |_=>false
def nK(m:B)(v:Value):Bool:=
  match v with
  | .slice none _ _=>true
  | .slice (some a) _ _=>(match m.M a.block with|some x=>x.own|none=>false)
  |_=>false
def hA:Value->Nat
  | .slice _ l _=>l
  |_=>0
def hO(m:B)(O:Nat)(v:Value):List Value:=
  match v with
  | .slice (some a) l _=>ka m a.block a.off (l*O)
  |_=>[]
def n0(m:B)(v:Value):B:=
  match v with
  | .slice (some a) _ _=>m.au a.block none
  |_=>m
def Gh(op:BinOp)(k:IntKind)(a b:Int):Value:=
  match op with
  | .add=> .int k (k.wrap (a+b))
  | .sub=> .int k (k.wrap (a-b))
  | .mul=> .int k (k.wrap (a*b))
  | .quo=> .int k (k.wrap (a.tdiv b))
  | .rem=> .int k (a.tmod b)
  | .and=> .int k (k.wrap (BitVec.ofInt k.bits a&&&BitVec.ofInt k.bits b).toNat)
  | .or=> .int k (k.wrap (BitVec.ofInt k.bits a|||BitVec.ofInt k.bits b).toNat)
  | .xor=> .int k (k.wrap (BitVec.ofInt k.bits a^^^BitVec.ofInt k.bits b).toNat)
  | .andNot=> .int k (k.wrap (BitVec.ofInt k.bits a&&& ~~~(BitVec.ofInt k.bits b)).toNat)
  | .shl=> .int k (k.wrap (a*2^(min b.toNat k.bits)))
  | .shr=> .int k (a.fdiv (2^(min b.toNat k.bits)))
  | .eql=> .bool (decide (a=b))
  | .neq=> .bool (!decide (a=b))
  | .lss=> .bool (decide (a<b))
  | .leq=> .bool (decide (a<=b))
  | .gtr=> .bool (decide (a>b))
  | .geq=> .bool (decide (a>=b))
def ON(op:BinOp)(k gN:IntKind)(_a b:Int):Bool:=
  match op with
  | .shl| .shr=>decide (0<=b)
  | .quo| .rem=>decide (k=gN)&&decide (b≠0)
  |_=>decide (k=gN)
def CG(op:BinOp)(a b:ByteArray):Value:=
  match op with
  | .add=> .string (a++b)
  | .eql=> .bool (decide (a=b))
  | .neq=> .bool (!decide (a=b))
  | .lss=> .bool (Op.bytesLess a.toList b.toList)
  | .leq=> .bool (Op.bytesLess a.toList b.toList||decide (a=b))
  | .gtr=> .bool (!(Op.bytesLess a.toList b.toList||decide (a=b)))
  | .geq=> .bool (!Op.bytesLess a.toList b.toList)
  |_=>undef
def Mx(op:BinOp)(a b:ByteArray):Bool:=
  match op with
  | .add=>decide (a.size+b.size<=9223372036854775807)
  | .eql| .neq| .lss| .leq| .gtr| .geq=>true
  |_=>false
def sR:Value->Bool
  | .pointer none=>true
  | .slice none _ _=>true
  | .nilFunc=>true
  | .nilIface=>true
  |_=>false
def q4(x y:Value):Bool:=
  match x,y with
  | .bool a,.bool b=>a==b
  |x,y=>sR x&&sR y
def wO(c:wG)(x y:Value):Bool:=
  match c,x,y with
  | .bool,.bool _,.bool _=>true
  | .bZ,.pointer none,.pointer _=>true
  | .bZ,.pointer _,.pointer none=>true
  | .slice,.slice none _ _,.slice _ _ _=>true
  | .slice,.slice _ _ _,.slice none _ _=>true
  | .fn,.nilFunc,.nilFunc=>true
  | .fn,.nilFunc,.func _ _ _=>true
  | .fn,.func _ _ _,.nilFunc=>true
  |_,_,_=>false
def nc(op:BinOp)(x y:Value):Value:=
  match x,y with
  | .int k a,.int _ b=>Gh op k a b
  | .string a,.string b=>CG op a b
  | x,y=>match op with
    | .eql=> .bool (q4 x y)
    | .neq=> .bool (!q4 x y)
    |_=>undef
def uj(op:BinOp)(c:wG)(x y:Value):Bool:=
  match x,y with
  | .int k a,.int gN b=>ON op k gN a b
  | .string a,.string b=>Mx op a b
  | x,y=>match op with
    | .eql| .neq=>wO c x y
    |_=>false
def o8:Value->Value->Bool
  | .int _ a,.int _ b=>decide (a=b)
  | .string a,.string b=>decide (a=b)
  | .bool a,.bool b=>a==b
  |_,_=>false
def Bc:rE->Value->Value->Bool
  | .int,.int k _,.int gN _=>decide (k=gN)
  | .str,.string _,.string _=>true
  | .bool,.bool _,.bool _=>true
  |_,_,_=>false
def ny:List Value->List Value->Bool
  |[],[]=>true
  |a::as,b::lY=>o8 a b&&ny as lY
  |_,_=>false
def kb:List rE->List Value->List Value->Bool
  |[],[],[]=>true
  |k::gG,a::as,b::lY=>Bc k a b&&kb gG as lY
  |_,_,_=>false
def tK:Value->Bool| .agg _=>true|_=>false
def E6(op:UnOp)(x:Value):Value:=
  match op,x with
  | .neg,.int k n=> .int k (k.wrap (0-n))
  | .not,.bool b=> .bool (!b)
  |_,_=>undef
def AV(op:UnOp)(x:Value):Bool:=
  match op,x with
  | .neg,.int _ _=>true
  | .not,.bool _=>true
  |_,_=>false
def TQ:Value->UInt8| .int _ n=>UInt8.ofNat n.toNat|_=>0
def Hb:Value->Bool| .int .u8 _=>true|_=>false
def Cj(s:ByteArray):List Value:=s.data.toList.map λb=> .int .u8 b.toNat
def toBytes(cs:List Value):ByteArray:=⟨(cs.map TQ).toArray⟩
def hJ(u:aL)(x:Option Operand)(Ub:Int):Int:=match x with|some o=>gd (ab u o)|none=>Ub
def p5(u:aL)(x:Option Operand):Bool:=match x with|some o=>fU (ab u o)|none=>true
def nh:Value->Bool| .string _=>true|_=>false
def yy:Value->Bool| .slice _ _ _=>true|_=>false
def B7:Value->Bool| .pointer (some _)=>true|_=>false
def yS(v:Value)(n:Nat):Value:=
  match v with
  | .pointer (some a)=> .pointer (some ⟨a.block,a.off+n,none⟩)
  |_=>undef
def s5:Value->Bool| .pointer (some a)=>a.spot.isNone|_=>false
def n8(v:Value)(O l h:Nat):Value:=
  match v with
  | .slice (some a) _ c=> .slice (some ⟨a.block,a.off+l*O,none⟩) (h-l) c
  |_=> .slice none 0 0
def kA(O:Nat):Value->Bool
  | .slice none l c=>l==0&&c==0
  | .slice (some a) _ c=>a.spot.isNone&&c==O
  |_=>false
def Ih(v:Value)(O n:Nat):Value:=
  match v with
  | .pointer (some a)=> .slice (some ⟨a.block,a.off,none⟩) n O
  |_=> .slice none 0 0
def mP(v:Value)(O:Nat)(i:Int):Value:=
  match v with
  | .slice (some a) _ _=> .pointer (some ⟨a.block,a.off+i.toNat*O,none⟩)
  |_=>undef
def Eo:Value->Bool
  | .pointer none| .nilIface| .nilFunc=>false
  | .func (.method _) _ _=>false
  |_=>true
def CJ(v:Value)(i:Nat):Value:=match v with| .tuple c2=>c2.toList.getD i undef|_=>undef
def E4(v:Value)(i:Nat):Bool:=match v with| .tuple c2=>decide (i<c2.toList.length)|_=>false
def NF(ep:Bool)(off n:Nat)(v:Value):Value:=
  match v with
  | .agg cs=>if ep then .agg ((cs.toList.drop off).take n).toArray else cs.toList.getD off undef
  |_=>undef
def IX(off n:Nat)(v:Value):Bool:=match v with| .agg cs=>decide (off+n<=cs.toList.length)|_=>false
def qM(a b:Value):Value:=match a,b with| .int k x,.int _ y=> .int k (if y<x then y else x)|_,_=>undef
def qL(a b:Value):Value:=match a,b with| .int k x,.int _ y=> .int k (if y>x then y else x)|_,_=>undef
def sh(cs:List Value)(u:aL)(dX:List (Nat×Nat×Operand)):Bool:=
  dX.all λ(off,n,x)=>ar (ab u x)&&decide ((al (ab u x)).length=n)&&decide (off+n<=cs.length)
def n3(cs:List Value)(u:aL):List (Nat×Nat×Operand)->List Value
  |[]=>cs
  |(off,_,x)::r=>n3 (kE cs off (al (ab u x))) u r
def JW(t:TypeId):Value->Bool
  | .iface aN _=>decide (aN=t)
  |_=>false
def afN:Value->Value
  | .iface _ v=>v
  |_=>undef
def mv(m:B):Value->Option (List (Value×Value))
  | .map none=>some []
  | .map (some b)=>m.c6 b
  |_=>none
def pj:mx->Value->Bool
  | .int k,.int gN _=>decide (gN=k)
  | .str,.string _=>true
  |_,_=>false
def eh(bx:mx)(k:Value)(bg:List (Value×Value)):Bool:=pj bx k&&bg.all λe=>pj bx e.1
def cF(k:Value):List (Value×Value)->Option Value
  |[]=>none
  |e::r=>if o8 k e.1 then some e.2 else cF k r
def dW(k v:Value):List (Value×Value)->List (Value×Value)
  |[]=>[(k,v)]
  |e::r=>if o8 k e.1 then(k,v)::r else e::dW k v r
def Cd:Value->Nat
  | .map (some b)=>b
  |_=>0
def ic:Value->Int
  | .string s=>s.size
  | .slice _ l _=>l
  |_=>0
def av.ok(k:av)(u:aL)(m:B):Bool:=
  match k with
  | .pk _=>true
  | .s4 c _ _=>vT (ab u c)
  | .Az x=>Eo (ab u x)
  | .eR _=>true
  | .o7 x=>ar (ab u x)
  | .gT O dX=>sh O u dX
  | .iT _ _ O dX=>sh O u dX
  | .fj ep n x=>gZ m (ab u x) n&&(ep||decide (n=1))
  | .store n x v=>gZ m (ab u x) n&&rH m (ab u x)&&ar (ab u v)&&decide ((al (ab u v)).length=n)
  | .gz op c x y=>uj op c (ab u x) (ab u y)
  | .rQ _ gG x y=>tK (ab u x)&&tK (ab u y)&&kb gG (al (ab u x)) (al (ab u y))
  | .nv op x=>AV op (ab u x)
  | .xV _ x=>fU (ab u x)
  | .Ft x=>nh (ab u x)
  | .qk x=>ik m 1 (ab u x)&&(hO m 1 (ab u x)).all Hb
  | .rN x=>nh (ab u x)&&decide ((ui (ab u x)).size<=9223372036854775807)
  | .nk O bytes _ l c=>fU (ab u l)&&fU (ab u c)&&decide (0<=gd (ab u l))&&decide (gd (ab u l)<=gd (ab u c))&&decide (gd (ab u c)*(bytes:Int)<=140737488355328)&&decide (gd (ab u c)<=9223372036854775807)&&decide (0<O)
  | .EZ x cZ aa=>nh (ab u x)&&p5 u cZ&&p5 u aa&&decide (0<=hJ u cZ 0)&&decide (hJ u cZ 0<=hJ u aa (ic (ab u x)))&&decide (hJ u aa (ic (ab u x))<=ic (ab u x))
  | .pv O x cZ aa=>kA O (ab u x)&&p5 u cZ&&p5 u aa&&decide (0<=hJ u cZ 0)&&decide (hJ u cZ 0<=hJ u aa (ic (ab u x)))&&decide (hJ u aa (ic (ab u x))<=ic (ab u x))
  | .wq O x cZ aa fC=>kA O (ab u x)&&p5 u cZ&&fU (ab u aa)&&fU (ab u fC)&&decide (0<=hJ u cZ 0)&&decide (hJ u cZ 0<=gd (ab u aa))&&decide (gd (ab u aa)<=gd (ab u fC))&&decide (gd (ab u fC)<=ic (ab u x))
  | .sq O n x=>gZ m (ab u x) (n*O)&&decide (n<=maxLen)
  | .ur _ x=>s5 (ab u x)
  | .field ep off n x=>IX off n (ab u x)&&(ep||decide (n=1))
  | .pg O x i=>kA O (ab u x)&&fU (ab u i)&&decide (0<=gd (ab u i))&&decide (gd (ab u i)<ic (ab u x))
  | .ph _ len x i=>s5 (ab u x)&&fU (ab u i)&&decide (0<=gd (ab u i))&&decide (gd (ab u i)<(len:Int))
  | .xh x i=>nh (ab u x)&&fU (ab u i)&&decide (0<=gd (ab u i))&&decide (gd (ab u i)<ic (ab u x))
  | .ext i x=>E4 (ab u x) i
  | .v8 x=>nh (ab u x)
  | .uX x=>yy (ab u x)
  | .app O bytes x y=>ik m O (ab u x)&&nK m (ab u x)&&ik m O (ab u y)&&decide (0<O)&&decide ((hA (ab u x)+hA (ab u y))*bytes<=140737488355328)&&decide (hA (ab u x)+hA (ab u y)<=9223372036854775807)
  | .xy _ x xs=>fU (ab u x)&&xs.all λy=>fU (ab u y)
  | .tP _ _ _=>true
  | .eI _ _=>false
  | .lZ _ _=>false
  | .Hn _ _=>true
  | .HU t x=>JW t (ab u x)
  | .qB _ _ _=>false
  | .oS=>true
  | .pY bx _ _ x k=>match mv m (ab u x)with
    |some bg=>eh bx (ab u k) bg
    |none=>false
  | .pl bx x k v=>match ab u x with
    | .map (some b)=>(match m.c6 b with
      |some bg=>eh bx (ab u k) bg&&ao (ab u v)
      |none=>false)
    |_=>false
def av.val(k:av)(id:Nat)(u:aL)(m:B):Value:=
  match k with
  | .pk x=>ab u x
  | .s4 c a b=>if xR (ab u c)then ab u a else ab u b
  | .Az x=>ab u x
  | .eR _=> .pointer (some ⟨id,0,none⟩)
  | .o7 _=> .pointer (some ⟨id,0,none⟩)
  | .gT O dX=> .agg (n3 O u dX).toArray
  | .iT O n _ _=> .slice (some ⟨id,0,none⟩) n O
  | .fj ep n x=>lq m ep n (ab u x)
  | .store _ _ _=>undef
  | .gz op _ x y=>nc op (ab u x) (ab u y)
  | .rQ bV _ x y=> .bool (if bV then !ny (al (ab u x)) (al (ab u y))else ny (al (ab u x)) (al (ab u y)))
  | .nv op x=>E6 op (ab u x)
  | .xV k x=> .int k (k.wrap (gd (ab u x)))
  | .Ft x=>ab u x
  | .qk x=> .string (toBytes (hO m 1 (ab u x)))
  | .rN x=> .slice (some ⟨id,0,none⟩) (ui (ab u x)).size 1
  | .nk O _ _ l _=> .slice (some ⟨id,0,none⟩) (gd (ab u l)).toNat O
  | .EZ x cZ aa=> .string ((ui (ab u x)).extract (hJ u cZ 0).toNat (hJ u aa (ic (ab u x))).toNat)
  | .pv O x cZ aa=>n8 (ab u x) O (hJ u cZ 0).toNat (hJ u aa (ic (ab u x))).toNat
  | .wq O x cZ aa _=>n8 (ab u x) O (hJ u cZ 0).toNat (gd (ab u aa)).toNat
  | .sq O n x=>Ih (ab u x) O n
  | .ur off x=>yS (ab u x) off
  | .field ep off n x=>NF ep off n (ab u x)
  | .pg O x i=>mP (ab u x) O (gd (ab u i))
  | .ph O _ x i=>yS (ab u x) ((gd (ab u i)).toNat*O)
  | .xh x i=> .int .u8 (((ui (ab u x)).data.toList.getD (gd (ab u i)).toNat 0).toNat:Nat)
  | .ext i x=>CJ (ab u x) i
  | .v8 x=> .int .i64 (ic (ab u x))
  | .uX x=> .int .i64 (ic (ab u x))
  | .app O _ x y=>if hA (ab u y)=0 then ab u x else .slice (some ⟨id,0,none⟩) (hA (ab u x)+hA (ab u y)) O
  | .xy fC x xs=>xs.foldl (λef y=>if fC then qL ef (ab u y)else qM ef (ab u y)) (ab u x)
  | .tP fn first lT=> .func fn (first.map (ab u)).toArray (lT.map (ab u)).toArray
  | .eI _ _=>undef
  | .lZ _ _=>undef
  | .Hn t x=> .iface t (ab u x)
  | .HU _ x=>afN (ab u x)
  | .qB _ _ _=>undef
  | .oS=> .map (some id)
  | .pY _ zero ok x k=>
    let r:=(mv m (ab u x)).bind (cF (ab u k))
    if ok then .tuple #[r.getD zero,.bool r.isSome]else r.getD zero
  | .pl _ _ _ _=>undef
def av.kk(k:av)(id:Nat)(u:aL)(m:B):B:=
  match k with
  | .eR O=>m.au id (some ⟨O,true⟩)
  | .o7 x=>m.au id (some ⟨al (ab u x),true⟩)
  | .iT _ _ O dX=>m.au id (some ⟨n3 O u dX,true⟩)
  | .store _ x v=>qR m (ab u x) (al (ab u v))
  | .rN x=>m.au id (some ⟨Cj (ui (ab u x)),true⟩)
  | .nk _ _ zero l _=>m.au id (some ⟨(List.replicate (gd (ab u l)).toNat zero).flatten,true⟩)
  | .app O _ x y=>if hA (ab u y)=0 then m else(n0 m (ab u x)).au id (some ⟨hO m O (ab u x)++hO m O (ab u y),true⟩)
  | .oS=>m.hq id []
  | .pl _ x k v=>m.hq (Cd (ab u x)) (dW (ab u k) (ab u v) ((m.c6 (Cd (ab u x))).getD []))
  |_=>m
def mh(u:aL)(bx:List (Operand×Operand)):Bool:=
  bx.all λ(x,y)=>match ai (ab u x),ai (ab u y)with
    |some a,some b=>a !=b
    |_,_=>true
def xt(u:aL)(bx:List (Operand×Operand))(m N:B):Prop:=
  ∀p∈bx,∀b,ai (ab u p.1)=some b->N.M b=m.M b
abbrev Callee:=Nat->List Value->B->Option (Value×B)
def av.gE(k:av)(u:aL)(m:B):Option (Nat×List Value):=
  match k with
  | .qB bR x args=>match ab u x with
    | .iface t v=>match bR.find? (λr=>r.1==t)with
      |some (_,f,none)=>some (f,v::args.map (ab u))
      |some (_,f,some (ep,n))=>if gZ m v n&&(ep||decide (n=1))then some (f,lq m ep n v::args.map (ab u))else none
      |none=>none
    |_=>none
  | .eI f args=>some (f,args.map (ab u))
  | .lZ x args=>match ab u x with
    | .func (.func f) first lT=>some (f,first.toList++args.map (ab u)++lT.toList)
    |_=>none
  |_=>none
def fN(u:aL):Option (Nat×Bool)->Bool
  |none=>true
  |some (t,b)=>match u t with| .bool c=>c==b|_=>false
noncomputable def jb(df:Callee)(base:Nat)(o:b6)(u:aL)(m:B):Option (aL×B):=
  if fN u o.g then
    match o.k.gE u m with
    | some (f,args)=>match df f args m with
      |some (v,N)=>some (dA u o.d v,N)
      |none=>none
    |none=>if o.k.ok u m then some (dA u o.d (o.k.val (base+o.bc) u m),o.k.kk (base+o.bc) u m)else none
  else some (dA u o.d undef,m)
def q1(o:b6)(u:aL)(m N:B):Prop:=
  fN u o.g=true->match o.k.gE u m with
    |some _=>xt u o.bx m N
    |none=>mh u o.bx=true
open Classical in
noncomputable def mN(df:Callee)(base:Nat):List b6->aL->B->Option (aL×B)
  |[],u,m=>some (u,m)
  | o::b0,u,m=>match jb df base o u m with
    |some (ag,N)=>if q1 o u m N then mN df base b0 ag N else none
    |none=>none
def av.gF:av->Bool
  | .eR _| .o7 _| .iT _ _ _ _| .rN _| .nk _ _ _ _ _| .app _ _ _ _| .oS=>true
  |_=>false
def av.yx:av->Bool
  | .oS| .pY _ _ _ _ _| .pl _ _ _ _=>true
  |_=>false
def k2(ops:List b6)(m:B):B:=if ops.any (λo=>o.k.gF)then m.bs ops.length else m
def lL(f:aL->B->Option (dr×aL×B)):Nat->aL->B->Option (dr×aL×B)
  |0,_,_=>none
  | n+1,u,m=>match f u m with
    |some (.gv,ag,N)=>lL f n ag N
    |r=>r
noncomputable def fK(df:Callee)(n:Nat):U->aL->B->Option (dr×aL×B)
  | .skip,u,m=>some (.gv,u,m)
  | .I ops,u,m=>match mN df m.next ops u (k2 ops m)with
    |some (ag,N)=>some (.gv,ag,N)
    |none=>none
  | .E a b,u,m=>match fK df n a u m with
    |some (.gv,ag,N)=>fK df n b ag N
    |r=>r
  | .bj c a b,u,m=>if vT (ab u c)then(if xR (ab u c)then fK df n a u m else fK df n b u m)else none
  | .block id c,u,m=>match fK df n c u m with
    |some (.bI l1,ag,N)=>if l1=id then some (.gv,ag,N)else some (.bI l1,ag,N)
    |r=>r
  | .loop c,u,m=>lL (fK df n c) n u m
  | .bI id,u,m=>some (.bI id,u,m)
  | .a7,u,m=>some (.a7,u,m)
def sk(m:B)(u:aL):nw->Bool
  | .bA _=>true
  | .h7 t ep n=>gZ m (u t) n&&(ep||decide (n=1))
def s6(m:B)(u:aL):nw->Value
  | .bA t=>u t
  | .h7 t ep n=>lq m ep n (u t)
def nI(m:B)(u:aL)(bb:List nw):Bool:=bb.all (sk m u)
def n4(m:B)(u:aL):List nw->Value
  |[r]=>s6 m u r
  |bb=> .tuple (bb.map (s6 m u)).toArray
def eu(args:List Value):aL:= λt=>args.getD t undef
def mQ(P:Program)(t:TypeId):Option Nat:=(P.info? t).map (·.size)
def xJ(P:Program)(t:TypeId):Option (List Value):=
  match P.info? t with
  | some i=>match i.zero with
    | some O=>let cs:=O.cells.toList
      if cs.all fg&&decide (cs.length=i.size)then some cs else none
    |none=>none
  |none=>none
def rA(P:Program)(t:TypeId):Option Bool:=
  match P.underlying t with
  |some (.struct _)=>some true
  |some (.array _ _)=>some true
  |some _=>some false
  |none=>none
def rB(P:Program)(t:TypeId):wG:=
  match P.underlying t with
  |some .bool=> .bool
  |some (.pointer _)=> .bZ
  |some (.slice _)=> .slice
  |some (.func _ _ _)=> .fn
  |some (.interface _)=> .iface
  |some (.struct _)=> .agg
  |some (.array _ _)=> .agg
  |_=> .hM
def dZ:Operand->Bool
  | .tmp _=>true
  | .const v=>pb v
  | .func _=>true
  | .global _=>false
def Hz:Option Operand->Bool
  |some x=>dZ x
  |none=>true
def IS(e:TypeId->Option (List rE)):List Field->Nat->Option (List rE)
  |[],_=>some []
  | f ::r,off=>if f.name != "_" &&f.offset==off then
      (match e f.type with
       | some gG=>match IS e r (off+gG.length)with
         |some b0=>if gG.length=0 then none else some (gG++b0)
         |none=>none
       |none=>none)
    else none
def wN(P:Program):Nat->TypeId->Option (List rE)
  |0,_=>none
  | d+1,t=>match P.underlying t,mQ P t with
    |some .bool,some n=>if n=1 then some [.bool]else none
    |some (.int _),some n=>if n=1 then some [.int]else none
    |some .string,some n=>if n=1 then some [.str]else none
    | some (.struct gA),some n=>match IS (wN P d) gA.toList 0 with
      |some gG=>if decide (n=gG.length)&& !P.stoodInHeld t then some gG else none
      |none=>none
    | some (.array k e),some n=>match wN P d e with
      |some gG=>if decide (n=k*gG.length)&&decide (0<gG.length)then some (List.replicate k gG).flatten else none
      |none=>none
    |_,_=>none
def guard(b:Bool):Option Unit:=if b then some ()else none
def IY(P:Program)(gA:Array Field):List (Nat×Operand)->Option (List (Nat×Nat×Operand))
  |[]=>some []
  | (i,x)::r=>match gA[i]? with
    | some f=>match mQ P f.type,IY P gA r with
      |some n,some dX=>if dZ x then some ((f.offset,n,x)::dX)else none
      |_,_=>none
    |none=>none
def Dg(O:Nat):List (Nat×Operand)->Option (List (Nat×Nat×Operand))
  |[]=>some []
  | (i,x)::r=>match Dg O r with
    |some dX=>if dZ x then some ((i*O,O,x)::dX)else none
    |none=>none
def ED(P:Program)(name:String)(t:TypeId):Option (TypeId×Nat×Option (Bool×Nat)):=
  match P.info? t with
  | some i=>match i.methods.find? (·.name==name)with
    | some mt=>if mt.path.isEmpty then(match mt.func with
      | some (f,aAQ)=>match P.underlying t,aAQ with
        |some (.pointer _),true=>some (t,f,none)
        | some (.pointer e),false=>match rA P e,mQ P e with
          |some ep,some n=>some (t,f,some (ep,n))
          |_,_=>none
        |_,_=>none
      |none=>none)else none
    |none=>none
  |none=>none
def Z0(P:Program)(name:String):List (TypeId×Nat×Option (Bool×Nat)):=(List.range P.types.size).filterMap (ED P name)
def S5(P:Program)(t:TypeId):Option Value:=
  match P.info? t with
  | some i=>match i.zero with
    |some O=>if fg O then some O else none
    |none=>none
  |none=>none
def Nn(P:Program)(t:TypeId):Option mx:=
  match P.underlying t with
  |some (.int k)=>some (.int k)
  |some .string=>some .str
  |_=>none
def Nd(P:Program)(c:Call):Option av:=
  match c.callee with
  | .invoke (.tmp t) name=>if c.args.toList.all dZ then some (.qB (Z0 P name) (.tmp t) c.args.toList)else none
  | .value (.func f)=>match P.funcs[f]? with
    |some fn=>if fn.body.isSome&& !(fn.name== "runtime.NumGoroutine")&&c.args.toList.all dZ then some (.eI f c.args.toList)else none
    |none=>none
  | .value (.tmp t)=>if c.args.toList.all dZ then some (.lZ (.tmp t) c.args.toList)else none
  | .builtin .len=>match c.args.toList,c.argTypes.toList with
    | [x],[t]=>match P.underlying t with
      |some .string=>if dZ x then some (.v8 x)else none
      |some (.slice _)=>if dZ x then some (.uX x)else none
      |_=>none
    |_,_=>none
  | .builtin .append=>match c.args.toList,c.argTypes.toList with
    | [x,y],[t,aJ]=>match P.underlying t with
      | some (.slice e)=>match P.info? e with
        |some i=>if t=aJ&&dZ x&&dZ y&&(xJ P e).isSome then some (.app i.size i.bytes x y)else none
        |none=>none
      |_=>none
    |_,_=>none
  | .builtin .min=>match c.args.toList with
    |x::xs=>if dZ x&&xs.all dZ then some (.xy false x xs)else none
    |[]=>none
  | .builtin .max=>match c.args.toList with
    |x::xs=>if dZ x&&xs.all dZ then some (.xy true x xs)else none
    |[]=>none
  |_=>none
def Bb(P:Program)(o:Oper):Option av:=
  match o.op with
  | .move x=>if dZ x then some (.pk x)else none
  | .assign x=>if dZ x then some (.pk x)else none
  | .pick c a b=>if dZ c&&dZ a&&dZ b then some (.s4 c a b)else none
  | .nilCheck x=>if dZ x then some (.Az x)else none
  | .alloc e=>match xJ P e with
    |some O=>some (.eR O)
    |none=>none
  | .box _ x=>if dZ x then some (.o7 x)else none
  | .build t dX=>match P.underlying t,xJ P t with
    | some (.struct gA),some O=>match IY P gA dX.toList with
      |some jv=>if(gA.toList.all λf=>(mQ P f.type).isSome)then some (.gT O jv)else none
      |none=>none
    | some (.array _ e),some O=>match mQ P e with
      | some n=>match Dg n dX.toList with
        |some jv=>some (.gT O jv)
        |none=>none
      |none=>none
    |_,_=>none
  | .buildSlice t n dX=>match P.underlying t with
    | some (.slice e)=>match xJ P e with
      | some O=>match Dg O.length dX.toList with
        |some jv=>if 0<O.length&&n*O.length<=16777216 then some (.iT O.length n (List.replicate n O).flatten jv)else none
        |none=>none
      |none=>none
    |_=>none
  | .load t x=>match rA P t,mQ P t with
    |some a,some n=>if dZ x then some (.fj a n x)else none
    |_,_=>none
  | .store t x v=>match mQ P t with
    |some n=>if dZ x&&dZ v then some (.store n x v)else none
    |none=>none
  | .binOp op t x y _=>
    if dZ x&&dZ y then
      (if rB P t= .agg then
        (match op,wN P 8 t with
         | .eql,some gG=>if !P.eqGuardType P.depth t then some (.rQ false gG x y)else none
         | .neq,some gG=>if !P.eqGuardType P.depth t then some (.rQ true gG x y)else none
         |_,_=>none)
      else some (.gz op (rB P t) x y))
    else none
  | .unOp op _ x=>if dZ x then some (.nv op x)else none
  | .convert s d x=>match P.underlying s,P.underlying d with
    |some (.int _),some (.int k)=>if dZ x then some (.xV k x)else none
    |some .string,some .string=>if dZ x then some (.Ft x)else none
    | some (.slice e),some .string=>match P.underlying e with
      |some (.int .u8)=>if dZ x then some (.qk x)else none
      |_=>none
    | some .string,some (.slice e)=>match P.underlying e with
      |some (.int .u8)=>if dZ x then some (.rN x)else none
      |_=>none
    |_,_=>none
  | .makeSlice t l c=>match P.underlying t with
    | some (.slice e)=>match xJ P e,P.info? e with
      |some O,some i=>if dZ l&&dZ c then some (.nk O.length i.bytes O l c)else none
      |_,_=>none
    |_=>none
  | .slice t x cZ aa fC=>match P.underlying t with
    |some .string=>if dZ x&&Hz cZ&&Hz aa&&fC.isNone then some (.EZ x cZ aa)else none
    | some (.slice e)=>match mQ P e with
      | some O=>match fC with
        |none=>if dZ x&&Hz cZ&&Hz aa then some (.pv O x cZ aa)else none
        | some xz=>match aa with
          |some an=>if dZ x&&Hz cZ&&dZ an&&dZ xz then some (.wq O x cZ an xz)else none
          |none=>none
      |none=>none
    | some (.array n e)=>match mQ P e with
      |some O=>if dZ x&&cZ.isNone&&aa.isNone&&fC.isNone then some (.sq O n x)else none
      |none=>none
    |_=>none
  | .fieldAddr s x i=>match P.underlying s with
    | some (.struct gA)=>match gA[i]? with
      | some f=>match mQ P f.type with
        |some n=>if dZ x&&0<n then some (.ur f.offset x)else none
        |none=>none
      |none=>none
    |_=>none
  | .field t x i=>match P.underlying t with
    | some (.struct gA)=>match gA[i]? with
      | some f=>match rA P f.type,mQ P f.type with
        |some a,some n=>if dZ x then some (.field a f.offset n x)else none
        |_,_=>none
      |none=>none
    |_=>none
  | .indexAddr t x i=>match P.underlying t with
    | some (.slice e)=>match mQ P e with
      |some O=>if dZ x&&dZ i then some (.pg O x i)else none
      |none=>none
    | some (.array len e)=>match mQ P e with
      |some O=>if dZ x&&dZ i then some (.ph O len x i)else none
      |none=>none
    |_=>none
  | .index t x i=>match P.underlying t with
    |some .string=>if dZ x&&dZ i then some (.xh x i)else none
    |_=>none
  | .extract x i=>if dZ x then some (.ext i x)else none
  | .makeInterface t x=>match P.underlying t with
    |some (.interface _)=>none
    |some _=>if dZ x then some (.Hn t x)else none
    |none=>none
  | .typeAssert x _ t ok=>match P.underlying t with
    |some (.interface _)=>none
    |some _=>if dZ x&& !ok then some (.HU t x)else none
    |none=>none
  | .makeMap t r=>match P.underlying t,r with
    |some (.map _ _),none=>some .oS
    |_,_=>none
  | .lookup t x i ok=>match P.underlying t with
    | some (.map k e)=>match Nn P k,S5 P e with
      |some bx,some O=>if dZ x&&dZ i then some (.pY bx O ok x i)else none
      |_,_=>none
    |_=>none
  | .mapUpdate t x k v=>match P.underlying t with
    | some (.map tM _)=>match Nn P tM with
      |some bx=>if dZ x&&dZ k&&dZ v then some (.pl bx x k v)else none
      |none=>none
    |_=>none
  | .makeFunc fn first lT=>if first.toList.all dZ&&lT.toList.all dZ then some (.tP fn first.toList lT.toList)else none
  | .call c=>Nd P c
  |_=>none
def Nf(ops:Array Oper)(o:Oper):Option (Option (Nat×Bool)):=
  match o.guard with
  |none=>some none
  | some (j,b)=>match(ops[j]?).bind (·.dst)with
    |some t=>some (some (t,b))
    |none=>none
def Ng(P:Program)(ops:Array Oper)(ek:Nat)(bc:Nat):Option b6:=
  match ops[bc]? with
  | some o=>match Bb P o,Nf ops o with
    |some k,some g=>if(o.dst.all λd=>decide (d<ek))then some ⟨bc,o.dst,g,k,[]⟩else none
    |_,_=>none
  |none=>none
def Iv(P:Program)(ops:Array Oper)(ek:Nat):List Nat->Option (List b6)
  |[]=>some []
  | bc::r=>match Ng P ops ek bc,Iv P ops ek r with
    |some o,some b0=>some (o::b0)
    |_,_=>none
def av.ma:av->List Operand
  | .fj _ _ x=>[x]
  | .sq _ _ x=>[x]
  | .store _ x _=>[x]
  | .qk x=>[x]
  | .app _ _ x y=>[x,y]
  |_=>[]
def av.o2:av->List Operand
  | .store _ x _=>[x]
  | .app _ _ x _=>[x]
  |_=>[]
def av.mu:av->Bool
  | .eI _ _| .lZ _ _| .qB _ _ _=>true
  |_=>false
def av.iY:av->List Operand
  | .pk x| .Az x| .o7 x| .fj _ _ x| .nv _ x| .xV _ x| .Ft x| .qk x| .rN x| .ur _ x| .field _ _ _ x| .ext _ x| .v8 x| .uX x| .sq _ _ x=>[x]
  | .s4 c a b=>[c,a,b]
  | .eR _=>[]
  | .gT _ dX| .iT _ _ _ dX=>dX.map λp=>p.2.2
  | .store _ x v=>[x,v]
  | .gz _ _ x y| .rQ _ _ x y| .nk _ _ _ x y| .pg _ x y| .ph _ _ x y| .xh x y| .app _ _ x y=>[x,y]
  | .EZ x l h| .pv _ x l h=>x::(l.toList++h.toList)
  | .wq _ x l h fC=>x::h::fC::l.toList
  | .xy _ x xs=>x::xs
  | .tP _ a b=>a++b
  | .eI _ as=>as
  | .lZ x as=>x::as
  | .Hn _ x| .HU _ x=>[x]
  | .qB _ x as=>x::as
  | .oS=>[]
  | .pY _ _ _ x k=>[x,k]
  | .pl _ x k v=>[x,k,v]
def HN(l:List Operand):List Nat:=l.filterMap fun| .tmp t=>some t|_=>none
def b6.yV(o:b6):List Nat:=HN o.k.iY++(match o.g with|some (t,_)=>[t]|none=>[])
def b6.ac9(o:b6):List Nat:=HN (o.bx.map (·.1))++HN (o.bx.map (·.2))
def uZ(l:List Nat)(d:Option Nat):Bool:=match d with|some d=> !l.contains d|none=>true
def Nw:Option Nat->List Operand
  |some d=>[.tmp d]
  |none=>[]
def sg(k i:b6):List (Operand×Operand):=
  if i.k.mu then k.k.ma.map λx=>(x,x)
  else if k.k.mu then[]
  else
    ((k.k.o2++(if k.k.gF then Nw k.d else[])).flatMap λx=>(i.k.ma++i.k.o2).map λy=>(x,y))
      ++k.k.ma.flatMap λx=>i.k.o2.map λy=>(x,y)
def sA(k i:b6)(uk:List Nat):Bool:=
  !k.k.yx&& !i.k.yx&&uZ (k.yV++k.ac9) i.d&&uZ i.yV k.d&&(match k.d,i.d with|some a,some b=>a !=b|_,_=>true)&&
  (if i.k.mu then !k.k.mu&& !k.k.gF&&k.k.o2.isEmpty&&(HN k.k.ma).all λt=> !uk.contains t&&k.d !=some t
   else if k.k.mu then i.k.ma.isEmpty&&i.k.o2.isEmpty
   else(!k.k.gF||(k.d.isSome&&uZ uk k.d))&&(HN (k.k.ma++k.k.o2)).all λt=> !uk.contains t&&k.d !=some t)
def R5(jm:List Nat)(o:Oper):Nat:=
  o.after.toList.foldl (λs e=>if Region.binds .any e then s|||2^e.on|||jm.getD e.on 0 else s) 0
def LQ:List Oper->List Nat->List Nat
  |[],ef=>ef
  |o::r,ef=>LQ r (ef++[R5 ef o])
def wK(jm:List Nat)(i:b6):List b6->List (Operand×Operand)
  |[]=>[]
  |k::r=>(if(jm.getD i.bc 0).testBit k.bc then[]else sg k i)++wK jm i r
def Nm(jm:List Nat)(i:b6):List b6->List Nat->Bool
  |[],_=>true
  |k::r,uk=>((jm.getD i.bc 0).testBit k.bc||sA k i uk)&&Nm jm i r (uk++k.d.toList)
def anC(ops:Array Oper)(bc:Nat)(nH:List b6):Bool:=
  match ops[bc]? with
  |some op=>op.after.toList.all λe=> !Region.binds .any e||nH.any λk=>k.bc==e.on
  |none=>false
def Iu(P:Program)(ops:Array Oper)(ek:Nat)(jm:List Nat):List Nat->List b6->Option (List b6)
  |[],_=>some []
  | bc::r,nH=>match Ng P ops ek bc with
    | some o=>
      let o':b6:=⟨o.bc,o.d,o.g,o.k,wK jm o nH⟩
      if Nm jm o' nH []&&anC ops bc nH then
        match Iu P ops ek jm r (o'::nH)with
        |some b0=>some (o'::b0)
        |none=>none
      else none
    |none=>none
def al8(o:Oper):Nat:=
  match o.op with
  | .alloc _| .box _ _| .buildSlice _ _ _| .makeSlice _ _ _| .makeMap _ _=>2
  | .store _ _ _=>1
  | .convert _ _ _=>0
  | .call {callee:= .builtin .len,..}| .call {callee:= .builtin .cap,..}| .call {callee:= .builtin .min,..}| .call {callee:= .builtin .max,..}=>0
  | .call _=>1
  |_=>0
def anh(ops:Array Oper):Nat->List Nat->List Nat->List Nat
  |0,_,ef=>ef.reverse
  | n+1,left,ef=>
    let aaQ:=left.filter λi=>((ops[i]?).map λo=>o.after.all λe=> !Region.binds .any e||ef.contains e.on).getD false
    match(aaQ.find? λi=>((ops[i]?).map al8).getD 0==0).or ((aaQ.find? λi=>((ops[i]?).map al8).getD 0==1).or aaQ.head?)with
    |some i=>anh ops n (left.filter (· !=i)) (i::ef)
    |none=>ef.reverse
def AD:List Nat->Bool
  |[]=>true
  |x::l=> !l.contains x&&AD l
def aax(n:Nat)(l:List Nat):Bool:=decide (l.length=n)&&AD l&&(l.all λi=>decide (i<n))&&(List.range n).all λi=>l.contains i
def rK(P:Program)(ek:Nat):Code->Option U
  | .skip=>some .skip
  | .region _ ops false=>match Iv P ops ek (List.range ops.size)with
    |some l=>some (.I l)
    |none=>none
  | .region _ ops true=>
    let order:=anh ops ops.size (List.range ops.size) []
    if aax ops.size order then
      match Iu P ops ek (LQ ops.toList []) order []with
      |some l=>some (.I l)
      |none=>none
    else none
  | .seq a b=>match rK P ek a,rK P ek b with
    |some x,some y=>some (.E x y)
    |_,_=>none
  | .cond c a b=>match rK P ek a,rK P ek b with
    |some x,some y=>if dZ c then some (.bj c x y)else none
    |_,_=>none
  | .block id c=>match rK P ek c with
    |some x=>some (.block id x)
    |none=>none
  | .loop c=>match rK P ek c with
    |some x=>some (.loop x)
    |none=>none
  | .exit id=>some (.bI id)
  | .ret=>some .a7
  |_=>none
def zt(P:Program)(ek:Nat):List ResultVar->Option (List nw)
  |[]=>some []
  | .tmp t::r=>match zt P ek r with
    |some l=>if t<ek then some (.bA t::l)else none
    |none=>none
  | .cell a t::r=>match rA P t,mQ P t,zt P ek r with
    |some ep,some n,some l=>if a<ek then some (.h7 a ep n::l)else none
    |_,_,_=>none
def dj(P:Program)(f:Nat):Option dn:=
  match P.funcs[f]? with
  | some fn=>if fn.name== "runtime.NumGoroutine" then none else match fn.body with
    | some c=>match rK P fn.ntmps c,zt P fn.ntmps fn.results.toList with
      |some b,some bb=>some ⟨fn.ntmps,bb,b⟩
      |_,_=>none
    |none=>none
  |none=>none
noncomputable def lS(P:Program):Nat->Callee
  |0,_,_,_=>none
  | n+1,f,args,m=>match dj P f with
    | some K=>if args.length<=K.ek then
        (match fK (lS P n) n K.body (eu args) m with
        |some (.bI _,_,_)=>none
        |some (_,ag,N)=>if nI N ag K.qP then some (n4 N ag K.qP,N)else none
        |none=>none)
      else none
    |none=>none
end Go.DI
namespace Go.DI
open Go Go.RowKit
structure wE where
  c:Nat
  o:Nat
  n:Nat
abbrev fE:=Nat->Option wE
inductive eE(ax:fE):Value->Value->Prop
  |c0 {v:Value} (h:fg v=true):eE ax v v
  |bZ {b off:Nat} {l:wE} (h:ax b=some l):eE ax (.pointer (some ⟨b,off,none⟩)) (.pointer (some ⟨l.c,l.o+off,none⟩))
  | slice {b off len O cap:Nat} {er:Addr} {l:wE} (h:ax b=some l) (ak:(cap=0/\len=0)\/(er=⟨l.c,l.o+off,none⟩/\off+cap*O<=l.n)) (aG:len<=cap) (aK:cap<=maxLen):
      eE ax (.slice (some ⟨b,off,none⟩) len O) (.slice (some er) len cap)
  |agg {xs ys:Array Value} (J:xs.size=ys.size) (h: ∀(i:Nat) (x y:Value),xs[i]?=some x->ys[i]?=some y->eE ax x y) (z: ∀x∈xs.toList,ao x=true):eE ax (.agg xs) (.agg ys)
  |tuple {xs ys:Array Value} (J:xs.size=ys.size) (h: ∀(i:Nat) (x y:Value),xs[i]?=some x->ys[i]?=some y->eE ax x y):eE ax (.tuple xs) (.tuple ys)
  | func {fn:Fn} {xs ys cs b1:Array Value} (J:xs.size=ys.size) (h: ∀(i:Nat) (x y:Value),xs[i]?=some x->ys[i]?=some y->eE ax x y)
      (mE:cs.size=b1.size) (D: ∀(i:Nat) (x y:Value),cs[i]?=some x->b1[i]?=some y->eE ax x y):eE ax (.func fn xs cs) (.func fn ys b1)
  |iface {t:TypeId} {v bW:Value} (h:eE ax v bW):eE ax (.iface t v) (.iface t bW)
  |map {b:Nat} {l:wE} (h:ax b=some l):eE ax (.map (some b)) (.map (some l.c))
def im(ax en:fE):Prop:= ∀b l,ax b=some l->en b=some l
theorem im.refl(ax:fE):im ax ax:= λ_ _ h=>h
theorem im.trans{a b c:fE}(h:im a b)(ca:im b c):im a c:= λx l H=>ca x l (h x l H)
theorem eE.aD{ax en:fE}(fG:im ax en){v bW:Value}(h:eE ax v bW):eE en v bW:=by
  induction h with
  |c0 h=>exact .c0 h
  |bZ h=>exact .bZ (fG _ _ h)
  |slice h ak aG aK=>exact .slice (fG _ _ h) ak aG aK
  |agg J _ z cb=>exact .agg J cb z
  |tuple J _ cb=>exact .tuple J cb
  |func J _ mE _ cb Wf=>exact .func J cb mE Wf
  |iface _ cb=>exact .iface cb
  |map h=>exact .map (fG _ _ h)
def dy(ax:fE)(xs ys:List Value):Prop:=xs.length=ys.length/\ ∀(i:Nat) (x y:Value),xs[i]?=some x->ys[i]?=some y->eE ax x y
theorem dy.nil(ax:fE):dy ax [] []:=⟨rfl,by intro i x y h;simp at h⟩
theorem dy.cons{ax:fE}{x y:Value}{xs ys:List Value}(h:eE ax x y)(J:dy ax xs ys):dy ax (x::xs) (y::ys):=by
  refine⟨by simp[J.1],λi a b aE L=> ?_⟩;cases i with
  |zero=>simp at aE L;subst aE;subst L;exact h
  |succ i=>exact J.2 i a b (by simpa using aE) (by simpa using L)
theorem dy.aD{ax en:fE}(fG:im ax en){xs ys:List Value}(h:dy ax xs ys):dy en xs ys:=⟨h.1,λi x y H ah=>(h.2 i x y H ah).aD fG⟩
theorem dy.agg{ax:fE}{xs ys:List Value}(h:dy ax xs ys)(z: ∀x∈xs,ao x=true):eE ax (.agg xs.toArray) (.agg ys.toArray):= .agg (by simpa using h.1) (by simpa using h.2) (by simpa using z)
theorem dy.tuple{ax:fE}{xs ys:List Value}(h:dy ax xs ys):eE ax (.tuple xs.toArray) (.tuple ys.toArray):= .tuple (by simpa using h.1) (by simpa using h.2)
theorem dy.aMa{ax:fE}{xs ys:Array Value}(h:eE ax (.agg xs) (.agg ys)):dy ax xs.toList ys.toList:=by
  cases h with
  |c0 h=>simp[fg]at h
  |agg J h _=>exact⟨by simpa using J,by simpa using h⟩
theorem dy.th{ax:fE}{a b c d:List Value}(h:dy ax a b)(ca:dy ax c d):dy ax (a++c) (b++d):=by
  refine⟨by simp[h.1,ca.1],λi x y H ah=> ?_⟩;rw[List.getElem?_append]at H ah;rw[<-h.1]at ah;split at H
  · rename_i aa;rw[if_pos aa]at ah;exact h.2 _ _ _ H ah
  · rename_i aa;rw[if_neg aa]at ah;exact ca.2 _ _ _ H ah
theorem dy.drop{ax:fE}{a b:List Value}(h:dy ax a b)(n:Nat):dy ax (a.drop n) (b.drop n):=
  ⟨by simp[h.1],λi x y H ah=>h.2 (n+i) x y (by simpa using H) (by simpa using ah)⟩
theorem dy.take{ax:fE}{a b:List Value}(h:dy ax a b)(n:Nat):dy ax (a.take n) (b.take n):=by
  refine⟨by simp[h.1],λi x y H ah=> ?_⟩;rw[List.getElem?_take]at H ah;split at H
  · rename_i aa;rw[if_pos aa]at ah;exact h.2 _ _ _ H ah
  · cases H
theorem dy.set{ax:fE}{a b:List Value}(h:dy ax a b)(n:Nat){x y:Value}(X:eE ax x y):dy ax (a.set n x) (b.set n y):=by
  refine⟨by simp[h.1],λi aJ v H ah=> ?_⟩;rw[List.getElem?_set]at H ah;rw[<-h.1]at ah;split at H
  · rename_i aa;rw[if_pos aa]at ah;split at H
    · rename_i D;rw[if_pos D]at ah;simp at H ah;subst H;subst ah;exact X
    · cases H
  · rename_i aa;rw[if_neg aa]at ah;exact h.2 _ _ _ H ah
theorem dy.kE{ax:fE}: ∀{c2 fm:List Value} {a b:List Value} (off:Nat),dy ax a b->dy ax c2 fm->dy ax (kE a off c2) (kE b off fm)
  |[],[],_,_,_,h,_=>h
  |[],aJ::fm,_,_,_,_,D=>by simp[dy]at D
  |v::c2,[],_,_,_,_,D=>by simp[dy]at D
  | v::c2,aJ::fm,a,b,off,h,D=>by simp only[Go.DI.kE];exact dy.kE (off+1) (h.set off (D.2 0 v aJ rfl rfl)) ⟨by simpa using D.1,λi x y H ah=>D.2 (i+1) x y (by simpa using H) (by simpa using ah)⟩
theorem dy.M{ax:fE}{a b:List Value}(h:dy ax a b){i:Nat}{x:Value}(H:a[i]?=some x): ∃y,b[i]?=some y/\eE ax x y:=by have aa:i<a.length:=(List.getElem?_eq_some_iff.1 H).1;rw[h.1]at aa;exact⟨b[i],List.getElem?_eq_getElem aa,h.2 i x _ H (List.getElem?_eq_getElem aa)⟩
theorem dy.Hl{ax:fE}{cK:Type}(f g:cK->Value): ∀(l:List cK),(∀x∈l,eE ax (f x) (g x))->dy ax (l.map f) (l.map g)
  |[],_=>dy.nil ax
  |x::l,h=>dy.cons (h x (by simp)) (dy.Hl f g l λy ah=>h y (by simp[ah]))
theorem dy.c0(ax:fE){cs:List Value}(h:cs.all fg=true):dy ax cs cs:=by refine⟨rfl,λi x y H ah=> ?_⟩;rw[H]at ah;cases ah;exact .c0 (List.all_eq_true.1 h x (List.mem_of_getElem? H))
theorem FC{v:Value}(h:fg v=true):ao v=true:=by cases v<;>simp_all [fg,Go.DI.ao]
theorem eE.pb(ax:fE){v:Value}(h:pb v=true):eE ax v v:=by
  unfold Go.DI.pb at h;split at h
  · rename_i cs;have:=dy.agg (dy.c0 ax h) (λv X=>FC (List.all_eq_true.1 h v X));simpa using this
  · rename_i cs;have:=dy.tuple (dy.c0 ax h);simpa using this
  · exact .c0 h
theorem eE.undef(ax:fE):eE ax undef undef:=dy.tuple (dy.nil ax)
theorem eE.ao{ax:fE}{v bW:Value}(h:eE ax v bW):ao bW=ao v:=by cases h<;>simp[Go.DI.ao]
theorem ace{ax:fE}{v bW:Value}(h:eE ax v bW):dy ax (al v) bW.cells.toList:=by
  cases h with
  |agg J h _=>exact⟨by simpa[al,Value.cells]using J,by simpa[al,Value.cells]using h⟩
  | c0 h=>cases v<;>simp[fg]at h<;>exact dy.cons (.c0 (by simp[fg,h])) (dy.nil ax)
  |bZ h=>exact dy.cons (.bZ h) (dy.nil ax)
  |slice h ak aG aK=>exact dy.cons (.slice h ak aG aK) (dy.nil ax)
  |tuple J h=>exact dy.cons (.tuple J h) (dy.nil ax)
  |func J h mE D=>exact dy.cons (.func J h mE D) (dy.nil ax)
  |iface h=>exact dy.cons (.iface h) (dy.nil ax)
  |map h=>exact dy.cons (.map h) (dy.nil ax)
theorem acd{ax:fE}{v bW:Value}(h:eE ax v bW)(ak:ar v=true): ∀x∈al v,ao x=true:=by
  intro x H;cases h with
  |agg J h z=>exact z x H
  |c0 h=>cases v<;>simp[fg,al]at h H<;>subst H<;>rfl
  |bZ h=>simp[al]at H;subst H;rfl
  |slice h ak aG aK=>simp[al]at H;subst H;rfl
  |tuple J h=>simp[ar]at ak
  |func J h mE D=>simp[al]at H;subst H;rfl
  |iface h=>simp[al]at H;subst H;rfl
  |map h=>simp[al]at H;subst H;rfl
theorem eE.apd{ax:fE}{xs:Array Value}{v:Value}(h:eE ax (.agg xs) v): ∀x∈xs.toList,Go.DI.ao x=true:=by
  cases h with
  |c0 h=>simp[fg]at h
  |agg J h z=>exact z
theorem eE.rg{ax:fE}{k:IntKind}{n:Int}{v:Value}(h:eE ax (.int k n) v):v= .int k n:=by cases h;rfl
theorem eE.tJ{ax:fE}{b:Bool}{v:Value}(h:eE ax (.bool b) v):v= .bool b:=by cases h;rfl
theorem eE.z0{ax:fE}{s:ByteArray}{v:Value}(h:eE ax (.string s) v):v= .string s:=by cases h;rfl
theorem eE.vR{ax:fE}{a:Addr}{v:Value}(h:eE ax (.pointer (some a)) v): ∃l,ax a.block=some l/\a.spot=none/\v= .pointer (some ⟨l.c,l.o+a.off,none⟩):=by
  cases h with
  |c0 h=>simp[fg]at h
  |bZ h=>exact⟨_,h,rfl,rfl⟩
theorem eE.r6{ax:fE}{a:Addr}{len O:Nat}{v:Value}(h:eE ax (.slice (some a) len O) v):
    ∃l er cap,ax a.block=some l/\a.spot=none/\v= .slice (some er) len cap/\((cap=0/\len=0)\/(er=⟨l.c,l.o+a.off,none⟩/\a.off+cap*O<=l.n))/\len<=cap/\cap<=maxLen:=by
  cases h with
  |c0 h=>simp[fg]at h
  |slice h ak aG aK=>exact⟨_,_,_,h,rfl,rfl,ak,aG,aK⟩
theorem eE.vQ{ax:fE}{xs:Array Value}{v:Value}(h:eE ax (.agg xs) v): ∃ys,v= .agg ys/\dy ax xs.toList ys.toList:=by
  cases h with
  |c0 h=>simp[fg]at h
  |agg J h _=>exact⟨_,rfl,by simpa using J,by simpa using h⟩
theorem eE.Gj{ax:fE}{xs:Array Value}{v:Value}(h:eE ax (.tuple xs) v): ∃ys,v= .tuple ys/\dy ax xs.toList ys.toList:=by
  cases h with
  |c0 h=>simp[fg]at h
  |tuple J h=>exact⟨_,rfl,by simpa using J,by simpa using h⟩
theorem eE.Gi{ax:fE}{fn:Fn}{xs cs:Array Value}{v:Value}(h:eE ax (.func fn xs cs) v): ∃ys b1,v= .func fn ys b1/\dy ax xs.toList ys.toList/\dy ax cs.toList b1.toList:=by
  cases h with
  |c0 h=>simp[fg]at h
  |func J h mE D=>exact⟨_,_,rfl,⟨by simpa using J,by simpa using h⟩,by simpa using mE,by simpa using D⟩
theorem eE.OO{ax:fE}{t:TypeId}{x v:Value}(h:eE ax (.iface t x) v): ∃y,v= .iface t y/\eE ax x y:=by
  cases h with
  |c0 h=>simp[fg]at h
  |iface h=>exact⟨_,rfl,h⟩
theorem eE.JY{ax:fE}{b:Nat}{v:Value}(h:eE ax (.map (some b)) v): ∃l,ax b=some l/\v= .map (some l.c):=by
  cases h with
  |c0 h=>simp[fg]at h
  |map h=>exact⟨_,h,rfl⟩
theorem eE.lo{ax:fE}{v bW:Value}(h:eE ax v bW)(aI:fg v=true):bW=v:=by cases h<;>first|rfl|simp[fg]at aI
structure jf(ax:fE)(ek:Nat)(u:aL)(a:Act):Prop where
  size:a.tmps.size=ek
  defers:a.defers=[]
  u3: ∀t,eE ax (u t) (a.tmps.getD t undef)
theorem jf.aD{ax en:fE}(fG:im ax en){ek:Nat}{u:aL}{a:Act}(h:jf ax ek u a):jf en ek u a:=⟨h.size,h.defers,λt=>(h.u3 t).aD fG⟩
theorem jf.ab{ax:fE}{ek:Nat}{u:aL}{a:Act}(h:jf ax ek u a){x:Operand}(H:dZ x=true):eE ax (ab u x) (a.eval x):=by
  cases x with
  |tmp t=>exact h.u3 t
  |const v=>exact eE.pb ax H
  |func f=>exact .func rfl (by intro i x y h;simp at h) rfl (by intro i x y h;simp at h)
  |global g=>simp[dZ]at H
theorem jf.au{ax:fE}{ek:Nat}{u:aL}{a:Act}(h:jf ax ek u a){d:Option Nat}(aR:d.all (λd=>decide (d<ek))=true){v bW:Value}(X:eE ax v bW):jf ax ek (dA u d v) (a.put d bW):=by
  cases d with
  |none=>exact h
  | some d=>
    have ng:d<ek:=(by simpa using aR);refine⟨by simp[Act.put,h.size],h.defers,λt=> ?_⟩;simp only[dA,qc,Act.put];by_cases e:t=d
    · subst e;have:t<a.tmps.size:=(by rw[h.size];exact ng);simpa[this]using X
    · have:=h.u3 t;simp only[Array.getD_eq_getD_getElem?]at this⊢;rw[Array.getElem?_setIfInBounds_ne (Ne.symm e)];simpa[e]using this
def A3(ax:fE)(bg:List (Value×Value))(ei:List MapEntry):Prop:=bg.length=ei.length/\ ∀(i:Nat) e eW,bg[i]?=some e->ei[i]?=some eW->fg e.1=true/\eW.key=e.1/\ao e.2=true/\eE ax e.2 eW.val
theorem A3.aD{ax en:fE}(fG:im ax en){bg:List (Value×Value)}{ei:List MapEntry}(h:A3 ax bg ei):A3 en bg ei:=
  ⟨h.1,λi e eW z D=>by obtain⟨a,b,c,d⟩:=h.2 i e eW z D;exact⟨a,b,c,d.aD fG⟩⟩
theorem B.Bm{m:B}{b:Nat}{bg:List (Value×Value)}(h:m.c6 b=some bg):m.M b=some ⟨[],true⟩/\m.mp b=some bg:=by
  unfold B.c6 at h;split at h
  · rename_i aj;exact⟨aj,h⟩
  · cases h
theorem B.qv{m:B}{b:Nat}{bg:List (Value×Value)}(z:m.M b=some ⟨[],true⟩)(D:m.mp b=some bg):m.c6 b=some bg:=by unfold B.c6;rw[z];exact D
structure fc(bu:Nat)(ax:fE)(m:B)(w:World):Prop where
  ql: ∀b l,ax b=some l->b<m.next
  rf: ∀b l,ax b=some l->l.c<w.heap.size
  rk: ∀b x,m.M b=some x-> ∃l,ax b=some l/\x.cells.length<=l.n/\(∀i v,x.cells[i]?=some v->ao v=true/\ ∃bW,w.cell? ⟨l.c,l.o+i,none⟩=some bW/\eE ax v bW)/\
    (x.own=true->bu<=l.c/\ ∀i,i<l.n->(w.cell? ⟨l.c,l.o+i,none⟩).isSome=true/\w.frozen? ⟨l.c,l.o+i,none⟩=false)
  wP: ∀b x cQ kC l e5,m.M b=some x->x.own=true->m.M cQ=some kC->b≠cQ->ax b=some l->ax cQ=some e5->l.c≠e5.c
  yI: ∀b bg,m.mp b=some bg-> ∃l,ax b=some l
  kz: ∀b bg,m.c6 b=some bg-> ∃l ei aq3,ax b=some l/\bu<=l.c/\w.heap[l.c]?=some (.map ei aq3)/\A3 ax bg ei.toList
theorem B.aT{m:B}{b:Nat}{x:fO}(h:m.M b=some x):b<m.next:=by
  unfold B.M at h;split at h
  · assumption
  · cases h
theorem B.pH(m:B)(b cQ:Nat)(x:Option fO):(m.au b x).M cQ=if cQ=b then(if b<m.next then x else none)else m.M cQ:=by
  unfold B.M B.au;by_cases h:cQ=b
  · subst h;simp
  · simp[h]
theorem B.gr(m:B)(k b:Nat):(m.bs k).M b=m.M b:=by
  unfold B.M B.bs;by_cases h:b<m.next
  · simp[h,Nat.lt_of_lt_of_le h (Nat.le_add_right _ _)]
  · simp[h]
theorem B.ame(m:B)(b:Nat)(x:Option fO):(m.au b x).next=m.next:=rfl
theorem B.acO(m:B)(k:Nat):(m.bs k).next=m.next+k:=rfl
theorem fc.bs{bu:Nat}{ax:fE}{m:B}{w:World}(h:fc bu ax m w)(k:Nat):fc bu ax (m.bs k) w:=
  ⟨λb l L=>Nat.lt_of_lt_of_le (h.ql b l L) (by simp[B.acO]),h.rf,λb x H=>h.rk b x (by rwa [B.gr]at H),
   λb x cQ kC l e5 z D Z=>h.wP b x cQ kC l e5 (by rwa [B.gr]at z) D (by rwa [B.gr]at Z),
   h.yI,λb bg L=>by obtain⟨aC,a2⟩:=B.Bm L;rw[B.gr]at aC;exact h.kz b bg (B.qv aC a2)⟩
theorem fc.aD3{bu:Nat}{ax:fE}{m:B}{w e1:World}(h:fc bu ax m w)(cE:e1.heap=w.heap):fc bu ax m e1:=by
  have aB: ∀a,e1.cell? a=w.cell? a:= λa=>by simp[World.cell?,cE]
  have aI: ∀a,e1.frozen? a=w.frozen? a:= λa=>by simp[World.frozen?,cE]
  exact⟨h.ql,by rw[cE];exact h.rf,λb x H=>by simpa only[aB,aI]using h.rk b x H,h.wP,h.yI,λb bg L=>by rw[cE];exact h.kz b bg L⟩
def lH(P:Program)(o:Oper)(a:Act)(w:World)(v:Value)(e1:World):Prop:=
  (execOp a.eval o).run P w= .ok (.value v) e1\/((execOp a.eval o).run P w= .ok .skip e1/\v=undef)
section
variable {P:Program} {o:Oper} {a:Act} {w:World}
theorem aEu{x:Operand}(b7:o.op= .move x):lH P o a w (a.eval x) w:= .inl (by simp[execOp,b7])
theorem aEe{x:Operand}(b7:o.op= .assign x):lH P o a w (a.eval x) w:= .inl (by simp[execOp,b7])
theorem aEw{c x y:Operand}{b:Bool}(b7:o.op= .pick c x y)(aB:a.eval c= .bool b):lH P o a w (if b then a.eval x else a.eval y) w:=
  .inl (by simp[execOp,b7,aB,asBool])
theorem aEv{x:Operand}(b7:o.op= .nilCheck x)(H:Eo (a.eval x)=true):lH P o a w (a.eval x) w:=by
  refine .inl ?_;simp only[execOp,b7];generalize a.eval x=v at H;cases v<;>simp_all [Eo]
  · rename_i p;cases p<;>simp_all
  · rename_i fn _ _;cases fn<;>simp_all
theorem MM{op:BinOp}{t CU:TypeId}{x y:Operand}{v:Value}(b7:o.op= .binOp op t x y CU)(aj:(eqGuard op t x y (a.eval x) (a.eval y)).run P w= .ok () w)
    (h:(binOp op t (a.eval x) (a.eval y)).run P w= .ok v w):lH P o a w v w:=
  .inl (by simp[execOp,b7,aj,h])
theorem aEz{op:UnOp}{t:TypeId}{x:Operand}(b7:o.op= .unOp op t x)(H:AV op (a.eval x)=true):lH P o a w (E6 op (a.eval x)) w:=by refine .inl ?_;simp only[execOp,b7];generalize a.eval x=v at H;cases op<;>cases v<;>simp_all [AV,E6,Op.unary,Op.intArith]
theorem aEl{x:Operand}{i:Nat}{c2:Array Value}(b7:o.op= .extract x i)(H:a.eval x= .tuple c2)(aa:i<c2.size):lH P o a w (CJ (a.eval x) i) w:=by refine .inl ?_;simp[execOp,b7,H,Instr.extract,aa,CJ]
theorem aEi{s d:TypeId}{k cy bp:IntKind}{n:Int}{x:Operand}(b7:o.op= .convert s d x)(J:P.underlying s=some (.int cy))(aR:P.underlying d=some (.int k))(H:a.eval x= .int bp n):
    lH P o a w (.int k (k.wrap n)) w:=by
  refine .inl ?_;simp[execOp,b7,H,convert,underlying,J,aR,Conv.intToInt]
theorem aEj{s d:TypeId}{b:ByteArray}{x:Operand}(b7:o.op= .convert s d x)(J:P.underlying s=some .string)(aR:P.underlying d=some .string)(H:a.eval x= .string b):
    lH P o a w (.string b) w:=by
  refine .inl ?_;simp[execOp,b7,H,convert,underlying,J,aR]
theorem aEt{fn:Fn}{x y:Array Operand}(b7:o.op= .makeFunc fn x y):lH P o a w (.func fn (x.map a.eval) (y.map a.eval)) w:=
  .inl (by simp[execOp,b7,Instr.makeFunc])
theorem aEm{s:TypeId}{x:Operand}{i:Nat}{gA:Array Field}{f:Field}{b8:TypeInfo}{c off:Nat}(b7:o.op= .fieldAddr s x i)(J:P.underlying s=some (.struct gA))(aI:gA[i]?=some f)
    (aa:P.info? f.type=some b8) (ak:0<b8.size) (H:a.eval x= .pointer (some ⟨c,off,none⟩)):lH P o a w (.pointer (some ⟨c,off+f.offset,none⟩)) w:=by
  refine .inl ?_;have:b8.size≠0:=by omega
  simp[execOp,b7,H,Instr.fieldAt,underlying,J,aI,Instr.sureAddr,fieldPlace,sizeOf,typeInfo,aa,this,Addr.add]
theorem aEo{t e:TypeId}{x i:Operand}{b8:TypeInfo}{c off len cap:Nat}{k:IntKind}{n:Int}(b7:o.op= .indexAddr t x i)(bH:P.underlying t=some (.slice e))
    (aa:P.info? e=some b8) (H:a.eval x= .slice (some ⟨c,off,none⟩) len cap) (ak:a.eval i= .int k n) (bB:0<=n) (z:n<(len:Int)):
    lH P o a w (.pointer (some ⟨c,off+n.toNat*b8.size,none⟩)) w:=by
  refine .inl ?_;simp[execOp,b7,H,ak,Instr.indexAt,asIntOf,underlying,bH,sizeOf,typeInfo,aa,bB,z,Addr.add]
theorem aEp{t e:TypeId}{x i:Operand}{b8:TypeInfo}{c off len:Nat}{k:IntKind}{n:Int}(b7:o.op= .indexAddr t x i)(bH:P.underlying t=some (.array len e))
    (aa:P.info? e=some b8) (H:a.eval x= .pointer (some ⟨c,off,none⟩)) (ak:a.eval i= .int k n) (bB:0<=n) (z:n<(len:Int)):
    lH P o a w (.pointer (some ⟨c,off+n.toNat*b8.size,none⟩)) w:=by
  refine .inl ?_;simp[execOp,b7,H,ak,Instr.indexAt,asIntOf,underlying,bH,sizeOf,typeInfo,aa,bB,z,Addr.add,Instr.sureAddr]
theorem aEq{t:TypeId}{x i:Operand}{s:ByteArray}{k:IntKind}{n:Int}(b7:o.op= .index t x i)(bH:P.underlying t=some .string)
    (H:a.eval x= .string s) (ak:a.eval i= .int k n) (bB:0<=n) (z:n<(s.size:Int)):
    lH P o a w (.int .u8 ((s.data.toList.getD n.toNat 0).toNat:Nat)) w:=by
  refine .inl ?_;have D:n.toNat<s.size:=by omega
  have Z:s[n.toNat]?=some (s.data.toList.getD n.toNat 0):=by rw[getElem?_pos s n.toNat D];have:n.toNat<s.data.size:=D;simp only[List.getD_eq_getElem?_getD,Array.getElem?_toList,Array.getElem?_eq_getElem this,Option.getD_some];rfl
  simp[execOp,b7,H,ak,Instr.index,asIntOf,underlying,bH,bB,Z]
theorem aEr{c:Call}{x:Operand}{t:TypeId}{s:ByteArray}(b7:o.op= .call c)(aB:c.callee= .builtin .len)(aE:c.args.toList=[x])(iU:c.argTypes.toList=[t])
    (bH:P.underlying t=some .string) (H:a.eval x= .string s):lH P o a w (.int .i64 s.size) w:=by
  refine .inl ?_;have nR:c.args= #[x]:=by rw[<-Array.toArray_toList (xs:=c.args),aE]
  have Jn:c.argTypes= #[t]:=by rw[<-Array.toArray_toList (xs:=c.argTypes),iU]
  simp[execOp,b7,resolve,aB,nR,Jn,invoke,builtin,Builtin.len_,underlying,bH,H,goInt]
theorem aEs{c:Call}{x:Operand}{t e:TypeId}{p:Option Addr}{l cap:Nat}(b7:o.op= .call c)(aB:c.callee= .builtin .len)(aE:c.args.toList=[x])(iU:c.argTypes.toList=[t])
    (bH:P.underlying t=some (.slice e)) (H:a.eval x= .slice p l cap):lH P o a w (.int .i64 l) w:=by
  refine .inl ?_;have nR:c.args= #[x]:=by rw[<-Array.toArray_toList (xs:=c.args),aE]
  have Jn:c.argTypes= #[t]:=by rw[<-Array.toArray_toList (xs:=c.argTypes),iU]
  simp[execOp,b7,resolve,aB,nR,Jn,invoke,builtin,Builtin.len_,underlying,bH,H,goInt]
end
section
variable {P:Program} {w:World}
theorem aCb{t:TypeId}(d:Nat)(h:P.underlying t=some .bool)(a b:Bool):(Op.equalIn (d+1) t (.bool a) (.bool b)).run P w= .ok (a==b) w:=by simp[Op.equalIn,run_underlying h]
theorem aCd{t e:TypeId}(d:Nat)(h:P.underlying t=some (.pointer e))(p q:Option Addr)(sK:p=none\/q=none):(Op.equalIn (d+1) t (.pointer p) (.pointer q)).run P w= .ok (p.isNone&&q.isNone) w:=by
  rcases sK with rfl|rfl
  · simp[Op.equalIn,run_underlying h]
  · cases p<;>simp[Op.equalIn,run_underlying h]
theorem aCe{t e:TypeId}(d:Nat)(h:P.underlying t=some (.slice e))(p q:Option Addr)(l c e5 eU:Nat)(sK:p=none\/q=none):(Op.equalIn (d+1) t (.slice p l c) (.slice q e5 eU)).run P w= .ok (p.isNone&&q.isNone) w:=by
  rcases sK with rfl|rfl
  · simp[Op.equalIn,run_underlying h]
  · cases p<;>simp[Op.equalIn,run_underlying h]
theorem aCc{t:TypeId}{as lY:Array TypeId}{lF:Bool}(d:Nat)(h:P.underlying t=some (.func as lY lF))(x y:Value)
    (xf:(x= .nilFunc/\y= .nilFunc)\/(x= .nilFunc/\ ∃a b c,y= .func a b c)\/(y= .nilFunc/\ ∃a b c,x= .func a b c)):(Op.equalIn (d+1) t x y).run P w= .ok (sR x&&sR y) w:=by
  rcases xf with⟨rfl,rfl⟩|⟨rfl,_,_,_,rfl⟩|⟨rfl,_,_,_,rfl⟩<;>simp[Op.equalIn,run_underlying h,sR]
theorem aCf{t:TypeId}(h:P.underlying t=some .bool)(a b:Bool):(Op.equal t (.bool a) (.bool b)).run P w= .ok (a==b) w:=aCb 9999 h a b
theorem amR{t e:TypeId}(h:P.underlying t=some (.pointer e))(p q:Option Addr)(sK:p=none\/q=none):(Op.equal t (.pointer p) (.pointer q)).run P w= .ok (p.isNone&&q.isNone) w:=aCd 9999 h p q sK
theorem amS{t e:TypeId}(h:P.underlying t=some (.slice e))(p q:Option Addr)(l c e5 eU:Nat)(sK:p=none\/q=none):(Op.equal t (.slice p l c) (.slice q e5 eU)).run P w= .ok (p.isNone&&q.isNone) w:=aCe 9999 h p q l c e5 eU sK
theorem aa7{t:TypeId}{as lY:Array TypeId}{lF:Bool}(h:P.underlying t=some (.func as lY lF))(x y:Value)
    (xf:(x= .nilFunc/\y= .nilFunc)\/(x= .nilFunc/\ ∃a b c,y= .func a b c)\/(y= .nilFunc/\ ∃a b c,x= .func a b c)):(Op.equal t x y).run P w= .ok (sR x&&sR y) w:=aCc 9999 h x y xf
theorem aDo{t:TypeId}(h:rB P t= .bool):P.underlying t=some .bool:=by unfold rB at h;split at h<;>first|assumption|cases h
theorem anG{t:TypeId}(h:rB P t= .bZ): ∃e,P.underlying t=some (.pointer e):=by unfold rB at h;split at h<;>first|exact⟨_,by assumption⟩|cases h
theorem anH{t:TypeId}(h:rB P t= .slice): ∃e,P.underlying t=some (.slice e):=by unfold rB at h;split at h<;>first|exact⟨_,by assumption⟩|cases h
theorem ab3{t:TypeId}(h:rB P t= .fn): ∃a b c,P.underlying t=some (.func a b c):=by unfold rB at h;split at h<;>first|exact⟨_,_,_,by assumption⟩|cases h
theorem SB{op:BinOp}{t:TypeId}{x y:Operand}{aJ v:Value}(z:aJ≠ .nilIface)(D:tK aJ=false):(eqGuard op t x y aJ v).run P w= .ok () w:=by
  unfold eqGuard;by_cases b7:op= .eql\/op= .neq
  · rcases b7 with rfl|rfl<;>simp<;>cases aJ<;>simp_all [tK]
  · cases op<;>simp_all
theorem aCg{op:BinOp}{t:TypeId}{k gN:IntKind}{a b:Int}(h:ON op k gN a b=true):(binOp op t (.int k a) (.int gN b)).run P w= .ok (Gh op k a b) w:=by cases op<;>simp_all [ON,binOp,Gh,Op.intArith,Op.intDiv,Op.intBits,Op.intCmp,Op.shift]<;>first|rfl|(intro ca;omega)
theorem toList_beq(a b:ByteArray):(a.toList==b.toList)=decide (a=b):=by
  rw[Bool.eq_iff_iff];simp only[ByteArray.toList_eq,beq_iff_eq,decide_eq_true_eq];constructor
  · intro h;cases a;cases b;simpa using h
  · rintro rfl;rfl
theorem aCj{op:BinOp}{t:TypeId}{a b:ByteArray}(h:Mx op a b=true):(binOp op t (.string a) (.string b)).run P w= .ok (CG op a b) w:=by have e:=toList_beq a b;cases op<;>simp_all [Mx,binOp,CG,Op.stringOp];omega
theorem A8{op:BinOp}(pe:op= .eql\/op= .neq){t:TypeId}{aJ v:Value}(bk:fU aJ=false)(J:nh aJ=false)(xd:B7 aJ=true->fU v=false){r:Bool}(aI:(∀k a b,aJ≠ .complex k a b)/\ ∀k a,aJ≠ .float k a)
    (h:(Op.equal t aJ v).run P w= .ok r w):(binOp op t aJ v).run P w= .ok (.bool (if op= .eql then r else !r)) w:=by
  rcases pe with rfl|rfl<;>cases aJ<;>simp_all [fU,nh,binOp]
theorem amQ{op:BinOp}{t:TypeId}{ax:fE}{aJ v k9 bW:Value}(pe:op= .eql\/op= .neq)(aA:wO (rB P t) aJ v=true)(bk:eE ax aJ k9)(X:eE ax v bW):
    (binOp op t k9 bW).run P w= .ok (nc op aJ v) w/\k9≠ .nilIface/\tK k9=false:=by
  unfold wO at aA;split at aA
  · rename_i iU;have:=bk.tJ;subst this;have:=X.tJ;subst this;refine⟨?_,by simp,rfl⟩;rw[A8 pe rfl rfl (by simp[B7]) (by simp) (aCf (aDo iU) _ _)];rcases pe with rfl|rfl<;>simp[nc,q4]
  · rename_i p iU;obtain⟨e,aU⟩:=anG iU;have:=bk.lo rfl;subst this;have DR: ∃q,bW= .pointer q/\q.isNone=p.isNone:=by
      cases p with
      |none=>exact⟨none,X.lo rfl,rfl⟩
      |some a=>obtain⟨l,_,_,h⟩:=X.vR;exact⟨_,h,rfl⟩
    obtain⟨q,rfl,bt⟩:=DR;refine⟨?_,by simp,rfl⟩;rw[A8 pe rfl rfl (by simp[B7]) (by simp) (amR aU _ _ (.inl rfl))];cases p<;>rcases pe with rfl|rfl<;>simp_all [nc,q4,sR]
  · rename_i p _ iU;obtain⟨e,aU⟩:=anG iU;have:=X.lo rfl;subst this;have DR: ∃q,k9= .pointer q/\q.isNone=p.isNone:=by
      cases p with
      |none=>exact⟨none,bk.lo rfl,rfl⟩
      |some a=>obtain⟨l,_,_,h⟩:=bk.vR;exact⟨_,h,rfl⟩
    obtain⟨q,rfl,bt⟩:=DR;refine⟨?_,by simp,rfl⟩;rw[A8 pe rfl rfl (by simp[fU]) (by simp) (amR aU _ _ (.inr rfl))];cases p<;>rcases pe with rfl|rfl<;>simp_all [nc,q4,sR]
  · rename_i fM cB p dg eQ iU;obtain⟨e,aU⟩:=anH iU;have xd:k9= .slice none fM cB:=(by cases bk with|c0 h=>rfl);subst xd;have DR: ∃q l c,bW= .slice q l c/\q.isNone=p.isNone:=by
      cases p with
      |none=>cases X with|c0 h=>exact⟨_,_,_,rfl,rfl⟩
      |some a=>obtain⟨l,er,cap,_,_,h,_⟩:=X.r6;exact⟨_,_,_,h,rfl⟩
    obtain⟨q,l,c,rfl,bt⟩:=DR;refine⟨?_,by simp,rfl⟩;rw[A8 pe rfl rfl (by simp[B7]) (by simp) (amS aU _ _ _ _ _ _ (.inl rfl))];cases p<;>rcases pe with rfl|rfl<;>simp_all [nc,q4,sR]
  · rename_i p fM cB dg eQ _ iU;obtain⟨e,aU⟩:=anH iU;have DR:bW= .slice none dg eQ:=(by cases X with|c0 h=>rfl);subst DR;have xd: ∃q l c,k9= .slice q l c/\q.isNone=p.isNone:=by
      cases p with
      |none=>cases bk with|c0 h=>exact⟨_,_,_,rfl,rfl⟩
      |some a=>obtain⟨l,er,cap,_,_,h,_⟩:=bk.r6;exact⟨_,_,_,h,rfl⟩
    obtain⟨q,l,c,rfl,bt⟩:=xd;refine⟨?_,by simp,rfl⟩;rw[A8 pe rfl rfl (by simp[B7]) (by simp) (amS aU _ _ _ _ _ _ (.inr rfl))];cases p<;>rcases pe with rfl|rfl<;>simp_all [nc,q4,sR]
  · rename_i iU;obtain⟨a,b,c,aU⟩:=ab3 iU;have:=bk.lo rfl;subst this;have:=X.lo rfl;subst this;refine⟨?_,by simp,rfl⟩;rw[A8 pe rfl rfl (by simp[B7]) (by simp) (aa7 aU _ _ (.inl ⟨rfl,rfl⟩))];rcases pe with rfl|rfl<;>simp[nc,q4,sR]
  · rename_i iU;obtain⟨a,b,c,aU⟩:=ab3 iU;have:=bk.lo rfl;subst this;obtain⟨ys,b1,rfl,_⟩:=X.Gi;refine⟨?_,by simp,rfl⟩;rw[A8 pe rfl rfl (by simp[B7]) (by simp) (aa7 aU _ _ (.inr (.inl ⟨rfl,_,_,_,rfl⟩)))];rcases pe with rfl|rfl<;>simp[nc,q4,sR]
  · rename_i iU;obtain⟨a,b,c,aU⟩:=ab3 iU;have:=X.lo rfl;subst this;obtain⟨ys,b1,rfl,_⟩:=bk.Gi;refine⟨?_,by simp,rfl⟩;rw[A8 pe rfl rfl (by simp[B7]) (by simp) (aa7 aU _ _ (.inr (.inr ⟨rfl,_,_,_,rfl⟩)))];rcases pe with rfl|rfl<;>simp[nc,q4,sR]
  · cases aA
theorem aEf{o:Oper}{a:Act}{op:BinOp}{t CU:TypeId}{x y:Operand}{ax:fE}{aJ v:Value}(b7:o.op= .binOp op t x y CU)(H:eE ax aJ (a.eval x))(ah:eE ax v (a.eval y))
    (aA:uj op (rB P t) aJ v=true): ∃bW,lH P o a w bW w/\eE ax (nc op aJ v) bW:=by
  generalize hH:a.eval x=k9 at H;generalize oq:a.eval y=bW at ah;cases aJ with
  | int k n=>
    cases v<;>simp only[uj]at aA
    case int gN dM=>have:=H.rg;subst this;have:=ah.rg;subst this;refine⟨Gh op k n dM,MM b7 (SB (by simp[hH]) (by simp[hH,tK])) (by rw[hH,oq];exact aCg aA),?_⟩;simp only[nc];exact .c0 (by cases op<;>rfl)
    all_goals(cases op<;>first|cases aA|(cases aB:rB P t<;>simp[aB,wO]at aA))
  | string s=>
    cases v<;>simp only[uj]at aA
    case string oz=>have:=H.z0;subst this;have:=ah.z0;subst this;refine⟨CG op s oz,MM b7 (SB (by simp[hH]) (by simp[hH,tK])) (by rw[hH,oq];exact aCj aA),?_⟩;simp only[nc];exact .c0 (by cases op<;>simp_all [CG,Mx,fg])
    all_goals(cases op<;>first|cases aA|(cases aB:rB P t<;>simp[aB,wO]at aA))
  | _=>
    simp only[uj]at aA;have pe:op= .eql\/op= .neq:=(by cases op<;>first|exact .inl rfl|exact .inr rfl|cases aA);have JK:=aA;rcases pe with rfl|rfl
    · obtain⟨z,D,Z⟩:=amQ (w:=w) (.inl rfl) JK H ah;exact⟨_,MM b7 (SB (by rw[hH];exact D) (by rw[hH];exact Z)) (by rw[hH,oq];exact z),.c0 (by simp[nc,fg])⟩
    · obtain⟨z,D,Z⟩:=amQ (w:=w) (.inr rfl) JK H ah;exact⟨_,MM b7 (SB (by rw[hH];exact D) (by rw[hH];exact Z)) (by rw[hH,oq];exact z),.c0 (by simp[nc,fg])⟩
end
section
variable {P:Program} {w:World} {o:Oper} {a:Act}
def zk(x:Option Value)(Ub:Nat)(n:Nat):Prop:=(x=none/\n=Ub)\/ ∃(k:IntKind) (i:Int),x=some (.int k i)/\0<=i/\i.toNat=n
theorem AL{k:IntKind}{i:Int}{y n:Nat}{c:BoundsCode}(bB:0<=i)(z:i.toNat=n)(D:n<=y):(Instr.sliceBound (.int k i) y c).run P w= .ok n w:=by
  have:i<=(y:Int):=by omega
  simp[Instr.sliceBound,asIntOf,bB,this,z]
theorem aa5{RP:Bool}{len cap l h:Nat}{cZ aa:Option Value}(aG:zk cZ 0 l)(cE:zk aa len h)(z:l<=h)(D:h<=cap):
    (Instr.sliceBounds RP len cap cZ aa none).run P w= .ok (l,h,cap) w:=by
  rcases aG with⟨rfl,rfl⟩|⟨k,i,rfl,BE,w4⟩<;>rcases cE with⟨rfl,rfl⟩|⟨gN,au0,rfl,JB,JC⟩
  · simp[Instr.sliceBounds]
  · simp[Instr.sliceBounds,AL JB JC D]
  · simp[Instr.sliceBounds,AL BE w4 z]
  · simp[Instr.sliceBounds,AL JB JC D,AL BE w4 z]
theorem aEy{t:TypeId}{x:Operand}{cZ aa:Option Operand}{s:ByteArray}{l h:Nat}(b7:o.op= .slice t x cZ aa none)(bH:P.underlying t=some .string)(H:a.eval x= .string s)
    (aG:zk (cZ.map a.eval) 0 l) (cE:zk (aa.map a.eval) s.size h) (z:l<=h) (D:h<=s.size):lH P o a w (.string (s.extract l h)) w:=by
  refine .inl ?_;simp[execOp,b7,H,Instr.sliceAt,Instr.slice,run_underlying bH,aa5 aG cE z D]
theorem aoq{t e:TypeId}{x:Operand}{cZ aa:Option Operand}{p:Option Addr}{len cap:Nat}{b8:TypeInfo}{l h:Nat}(b7:o.op= .slice t x cZ aa none)(bH:P.underlying t=some (.slice e))(jE:P.info? e=some b8)
    (H:a.eval x= .slice p len cap) (aG:zk (cZ.map a.eval) 0 l) (cE:zk (aa.map a.eval) len h) (z:l<=h) (D:h<=cap):
    lH P o a w (.slice (if cap=l then p else p.map (·.add (l*b8.size))) (h-l) (cap-l)) w:=by
  refine .inl ?_;simp[execOp,b7,H,Instr.sliceAt,Instr.slice,run_underlying bH,aa5 aG cE z D,sizeOf,typeInfo,jE]
theorem aEx{t e:TypeId}{x:Operand}{fq:Addr}{n:Nat}{b8:TypeInfo}(b7:o.op= .slice t x none none none)(aE:P.underlying t=some (.array n e))(jE:P.info? e=some b8)
    (H:a.eval x= .pointer (some fq)):lH P o a w (.slice (some (if n=0 then fq else fq.add (0*b8.size))) (n-0) (n-0)) w:=by
  refine .inl ?_;have L:=aa5 (P:=P) (w:=w) (RP:=false) (len:=n) (cap:=n) (l:=0) (h:=n) (cZ:=none) (aa:=none) (.inl ⟨rfl,rfl⟩) (.inl ⟨rfl,rfl⟩) (Nat.zero_le _) (Nat.le_refl _);simp[execOp,b7,H,Instr.sliceAt,Instr.sureAddr,run_underlying aE,L,sizeOf,typeInfo,jE]
theorem aCa{RP:Bool}{len cap l h m:Nat}{cZ:Option Value}{aa fC:Value}(aG:zk cZ 0 l)(cE: ∃(k:IntKind) (i:Int),aa= .int k i/\0<=i/\i.toNat=h)(aK: ∃(k:IntKind) (i:Int),fC= .int k i/\0<=i/\i.toNat=m)(z:l<=h)(D:h<=m)(Z:m<=cap):
    (Instr.sliceBounds RP len cap cZ (some aa) (some fC)).run P w= .ok (l,h,m) w:=by
  obtain⟨gN,au0,rfl,JB,JC⟩:=cE;obtain⟨dc,sQ,rfl,yi,vJ⟩:=aK;rcases aG with⟨rfl,rfl⟩|⟨k,i,rfl,BE,w4⟩
  · simp[Instr.sliceBounds,AL yi vJ Z,AL JB JC D]
  · simp[Instr.sliceBounds,AL yi vJ Z,AL JB JC D,AL BE w4 z]
theorem aop{t e:TypeId}{x aa fC:Operand}{cZ:Option Operand}{p:Option Addr}{len cap:Nat}{b8:TypeInfo}{l h m:Nat}(b7:o.op= .slice t x cZ (some aa) (some fC))(bH:P.underlying t=some (.slice e))(jE:P.info? e=some b8)
    (H:a.eval x= .slice p len cap) (aG:zk (cZ.map a.eval) 0 l) (cE: ∃(k:IntKind) (i:Int),a.eval aa= .int k i/\0<=i/\i.toNat=h) (aK: ∃(k:IntKind) (i:Int),a.eval fC= .int k i/\0<=i/\i.toNat=m) (z:l<=h) (D:h<=m) (Z:m<=cap):
    lH P o a w (.slice (if m=l then p else p.map (·.add (l*b8.size))) (h-l) (m-l)) w:=by
  refine .inl ?_;simp[execOp,b7,H,Instr.sliceAt,Instr.slice,run_underlying bH,aCa aG cE aK z D Z,sizeOf,typeInfo,jE]
theorem C9{ax:fE}{ek:Nat}{u:aL}(J:jf ax ek u a){x:Option Operand}(H:Hz x=true)(aA:p5 u x=true)(d:Nat)(bB:0<=hJ u x d):zk (x.map a.eval) d (hJ u x d).toNat:=by
  cases x with
  |none=>exact .inl ⟨rfl,by simp[hJ]⟩
  | some x=>
    have aF:=J.ab (x:=x) H;simp only[p5]at aA;simp only[hJ]at bB⊢;cases X:ab u x<;>simp[X,fU]at aA;rw[X]at aF;refine .inr ⟨_,_,by simp[aF.rg];exact⟨rfl,rfl⟩,?_,?_⟩
    · simpa[X,gd]using bB
    · simp[gd]
theorem adV(off:Nat): ∀(c2:List Value) (j:Nat) (cs:Array Value),((c2.zipIdx j).foldl (λcs (c,j)=>cs.setIfInBounds (off+j) c) cs).toList=kE cs.toList (off+j) c2
  |[],_,_=>rfl
  | v::c2,j,cs=>by simp only[List.zipIdx_cons,List.foldl_cons,kE];rw[adV off c2 (j+1)];simp[Nat.add_assoc]
theorem asg(off:Nat)(v:Value)(cs:Array Value):(v.cells.zipIdx.foldl (λcs (c,j)=>cs.setIfInBounds (off+j) c) cs).toList=kE cs.toList off v.cells.toList:=by have:=adV off v.cells.toList 0 cs;simp only[Nat.add_zero]at this;rw[<-this,<-Array.foldl_toList];simp[Array.toList_zipIdx]
theorem Iq: ∀(c2:List Value) (off:Nat) (cs:List Value),(kE cs off c2).length=cs.length
  |[],_,_=>rfl
  |v::c2,off,cs=>by simp only[kE];rw[Iq c2];simp
theorem acL(p:Value->Prop): ∀(c2:List Value) (off:Nat) (cs:List Value),(∀x∈cs,p x)->(∀x∈c2,p x)-> ∀x∈kE cs off c2,p x
  |[],_,_,h,_=>h
  | v::c2,off,cs,h,D=>by
    simp only[kE];refine acL p c2 _ _ (λx H=> ?_) (λx H=>D x (by simp[H]));rcases List.mem_or_eq_of_mem_set H with Z|Z
    · exact h x Z
    · subst Z;exact D _ (by simp)
theorem NG{ax:fE}{ek:Nat}{u:aL}(J:jf ax ek u a)(yR:Nat->Option (Nat×Nat)): ∀(dX:List (Nat×Operand)) (jv:List (Nat×Nat×Operand)) (cs:List Value) (b1:Array Value),
    (dX.length=jv.length/\ ∀(i:Nat) p q,dX[i]?=some p->jv[i]?=some q->p.2=q.2.2/\dZ p.2=true/\yR p.1=some (q.1,q.2.1))->
    dy ax cs b1.toList->(∀x∈cs,ao x=true)->sh cs u jv=true-> ∃zB:Array Value,Instr.fill yR b1 (dX.map λp=>(p.1,a.eval p.2))=some zB/\dy ax (n3 cs u jv) zB.toList/\(∀x∈n3 cs u jv,ao x=true)
  |[],[],cs,b1,_,aF,an,_=>⟨b1,rfl,aF,an⟩
  |[],_::_,_,_,sK,_,_,_=>by simp at sK
  |_::_,[],_,_,sK,_,_,_=>by simp at sK
  | p::dX,(bm,bU,cn)::jv,cs,b1,sK,aF,an,aA=>by obtain⟨aM,a1,cI⟩:=sK.2 0 p (bm,bU,cn) rfl rfl;dsimp only at aM cI;simp only[sh,List.all_cons,Bool.and_eq_true,decide_eq_true_eq]at aA;have X:=J.ab (x:=p.2) a1;rw[aM]at X;have aB:=ace X;have aG:(a.eval cn).cells.size=bU:=(by have:=aB.1;simp only[Array.length_toList]at this;rw[<-this];exact aA.1.1.2);have aR:b1.size=cs.length:=(by have:=aF.1;simp at this;exact this.symm);have vM:dy ax (kE cs bm (al (ab u cn))) ((a.eval cn).cells.zipIdx.foldl (λcs (c,j)=>cs.setIfInBounds (bm+j) c) b1).toList:=(by rw[asg];exact aF.kE _ aB);have sI: ∀x∈kE cs bm (al (ab u cn)),ao x=true:=acL (λx=>ao x=true) _ _ _ an (acd X aA.1.1.1);obtain⟨zB,z,D,Z⟩:=NG J yR dX jv _ _ ⟨by simpa using sK.1,λi x y H ah=>sK.2 (i+1) x y (by simpa using H) (by simpa using ah)⟩ vM sI (by have Z:=aA.2;simp only[sh,Iq]at Z⊢;exact Z);refine⟨zB,?_,by simpa only[n3]using D,by simpa only[n3]using Z⟩;simp only[List.map_cons,Instr.fill,aM,cI,aG,ne_eq,not_true_eq_false,decide_false,Bool.false_or];rw[if_neg (by simp;omega)];exact z
theorem adO{gA:Array Field}: ∀(dX:List (Nat×Operand)) (jv:List (Nat×Nat×Operand)),IY P gA dX=some jv->
    dX.length=jv.length/\ ∀(i:Nat) p q,dX[i]?=some p->jv[i]?=some q->p.2=q.2.2/\dZ p.2=true/\ ∃f b8,gA[p.1]?=some f/\P.info? f.type=some b8/\q.1=f.offset/\q.2.1=b8.size
  |[],jv,h=>by simp[IY]at h;subst h;simp
  | (j,x)::dX,jv,h=>by
    simp only[IY]at h;split at h
    · rename_i f aI;split at h
      · rename_i n bb ak BL;split at h
        · rename_i H;cases h;obtain⟨z,D⟩:=adO dX bb BL;refine⟨by simp[z],λi p q aq bt=> ?_⟩;cases i with
          | zero=>
            simp at aq bt;subst aq;subst bt;unfold mQ at ak;cases aa:P.info? f.type with
            |none=>simp[aa]at ak
            |some b8=>exact⟨rfl,H,f,b8,aI,aa,rfl,by simpa[aa]using ak.symm⟩
          |succ i=>exact D i p q (by simpa using aq) (by simpa using bt)
        · cases h
      · cases h
    · cases h
theorem Ul{O:Nat}: ∀(dX:List (Nat×Operand)) (jv:List (Nat×Nat×Operand)),Dg O dX=some jv->
    dX.length=jv.length/\ ∀(i:Nat) p q,dX[i]?=some p->jv[i]?=some q->p.2=q.2.2/\dZ p.2=true/\q.1=p.1*O/\q.2.1=O
  |[],jv,h=>by simp[Dg]at h;subst h;simp
  | (j,x)::dX,jv,h=>by
    simp only[Dg]at h;split at h
    · rename_i bb BL;split at h
      · rename_i H;cases h;obtain⟨z,D⟩:=Ul dX bb BL;refine⟨by simp[z],λi p q aq bt=> ?_⟩;cases i with
        |zero=>simp at aq bt;subst aq;subst bt;exact⟨rfl,H,rfl,rfl⟩
        |succ i=>exact D i p q (by simpa using aq) (by simpa using bt)
      · cases h
    · cases h
theorem HV{t:TypeId}{O:List Value}(h:xJ P t=some O): ∃b8 lb,P.info? t=some b8/\b8.zero=some lb/\lb.cells.toList=O/\O.all fg=true/\O.length=b8.size:=by
  unfold xJ at h;split at h
  · rename_i b8 aa;split at h
    · rename_i lb bY;simp only at h;split at h
      · rename_i aB;cases h;simp only[Bool.and_eq_true,decide_eq_true_eq]at aB;exact⟨b8,lb,aa,bY,rfl,aB.1,aB.2⟩
      · cases h
    · cases h
  · cases h
theorem vi{t:TypeId}{n:Nat}(h:mQ P t=some n): ∃b8,P.info? t=some b8/\b8.size=n:=by
  unfold mQ at h;cases aa:P.info? t with
  |none=>simp[aa]at h
  |some b8=>exact⟨b8,rfl,by simpa[aa]using h⟩
theorem ab2{t:TypeId}{b:Bool}(h:rA P t=some b):(isAgg t).run P w= .ok b w:=by
  unfold rA at h;unfold isAgg;split at h<;>first|cases h|skip
  · rename_i bk;simp[run_underlying bk]
  · rename_i bk;simp[run_underlying bk]
  · rename_i d z D bk;simp only[Sem.run_bind,run_underlying bk,Result.andThen_ok];rfl
theorem azr(gA:List Field)(h:gA.all (λf=>(mQ P f.type).isSome)=true):
    ∃yQ:List (Nat×Nat),(gA.mapM (m:=Sem) λ(f:Field)=>do pure (f.offset,<-sizeOf f.type)).run P w= .ok yQ w/\ ∀i:Nat,yQ[i]?=(gA[i]?).bind λ(f:Field)=>(P.info? f.type).map λb8=>(f.offset,b8.size):=by
  induction gA with
  |nil=>exact⟨[],by simp,by simp⟩
  | cons f gA cb=>
    simp only[List.all_cons,Bool.and_eq_true]at h;obtain⟨yQ,z,D⟩:=cb h.2;obtain⟨n,ak⟩:=Option.isSome_iff_exists.1 h.1;obtain⟨b8,aa,_⟩:=vi ak;refine⟨(f.offset,b8.size)::yQ,?_,λi=> ?_⟩
    · simp[List.mapM_cons,sizeOf,typeInfo,aa]at z⊢;simp[z]
    · cases i with
      |zero=>simp[aa]
      |succ i=>simpa using D i
end
end Go.DI
