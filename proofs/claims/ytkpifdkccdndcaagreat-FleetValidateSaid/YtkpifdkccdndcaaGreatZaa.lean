/-
  A part of the proof of the statement, in texts that tools of ours (wip/shrink.py, irpack.py, relax.py, minify.py, join.py, lay.py) have shortened.
-/
import Derived.WalkKit
set_option linter.all false
set_option maxRecDepth 8000
set_option maxHeartbeats 16000000
namespace Go
abbrev c0:= @List.getElem?_eq_getElem
abbrev bK:= @Bool.and_eq_true
abbrev dg:= @List.getElem?_eq_some_iff
abbrev fw:= @List.take_of_length_le
abbrev fT:= @List.mem_of_getElem?
abbrev fU:= @decide_eq_true_eq
abbrev eB:= @Nat.le_refl
abbrev hJ:= @List.all_eq_true
abbrev mr:= @List.getD_eq_getElem?_getD
abbrev n1:= @Int.mul_le_mul_of_nonneg_right
abbrev hf:= @Nat.zero_le
abbrev jZ:= @List.length_map
abbrev iK:= @List.mem_map
abbrev kM:= @List.take_length
abbrev lv:= @Bool.false_eq_true
abbrev k9:= @List.length_take
abbrev mo:= @List.length_append
abbrev pz:= @List.length_eq_zero_iff
abbrev ow:= @List.mem_append_right
abbrev s5:= @Int.mul_le_mul_of_nonneg_left
abbrev nz:= @Nat.lt_of_lt_of_le
abbrev nA:= @Option.some.injEq
abbrev pA:= @List.mem_append_left
abbrev mM:= @List.mem_append
abbrev nB:= @List.length_cons
abbrev mq:= @Int.mul_nonneg
abbrev ox:= @List.cons.injEq
abbrev oy:= @List.map_append
abbrev p6:= @List.getElem?_map
abbrev rv:= @List.getElem?_drop
abbrev s6:= @Nat.mul_le_mul_right
abbrev m9:= @Int.mul_comm
abbrev n0:= @List.map_cons
abbrev u5:= @List.drop_of_length_le
abbrev se:= @List.getElem?_take
abbrev qM:= @List.getElem_mem
abbrev s7:= @List.getElem_of_mem
abbrev nC:= @Nat.le_trans
abbrev oz:= @List.mem_cons
abbrev mN:= @Nat.add_mul
abbrev oY:= @Bool.true_and
abbrev qN:= @List.foldl_cons
abbrev uf:= @List.map_congr_left
abbrev kN:= @Eq.trans
abbrev xp:= @Int.eq_ofNat_of_zero_le
abbrev yE:= @List.getElem?_append_left
abbrev xq:= @Option.map_eq_some_iff
abbrev Ah:= @Array.getElem?_eq_some_iff
abbrev wh:= @Array.toArray_toList
abbrev ug:= @List.append_assoc
abbrev s8:= @Nat.min_eq_left
abbrev u6:= @Int.toNat_natCast
abbrev u7:= @List.flatten_cons
abbrev Cf:= @List.getElem?_append_right
abbrev s9:= @List.drop_drop
abbrev xr:= @Int.emod_lt_of_pos
abbrev Ai:= @List.getElem?_eq_none
abbrev Eu:= @Int.tdiv_eq_ediv_of_nonneg
abbrev wi:= @List.not_mem_nil
abbrev Hj:= @List.eq_nil_of_length_eq_zero
abbrev Ev:= @Option.isNone_iff_eq_none
abbrev yF:= @List.mem_filterMap
abbrev uh:= @List.all_cons
abbrev ui:= @Prod.mk.injEq
abbrev Ew:= @decide_eq_false_iff_not
abbrev nb:= @Iff.rfl
abbrev u9:= @Nat.add_assoc
abbrev xt:= @List.all_append
abbrev xu:= @List.head?_drop
abbrev Aj:= @List.mem_singleton
abbrev xv:= @List.nil_append
abbrev Hk:= @Array.getElem?_eq_getElem
abbrev Ak:= @Bool.not_eq_true'
abbrev Ex:= @List.take_append_drop
abbrev yG:= @Bool.or_eq_true
abbrev yH:= @Int.emod_nonneg
abbrev Al:= @List.mem_flatMap
abbrev Ey:= @List.mem_of_mem_drop
abbrev Ez:= @List.mem_of_mem_take
abbrev Kq:= @Int.fdiv_eq_ediv_of_nonneg
abbrev wj:= @List.map_nil
abbrev yI:= @List.drop_zero
abbrev yJ:= @List.mem_range
abbrev yK:= @List.tail_drop
abbrev Am:= @Int.ediv_nonneg
abbrev An:= @List.append_nil
abbrev Hl:= @Bool.and_eq_false_iff
abbrev Cg:= @List.cons_append
abbrev Ao:= @Bool.false_and
abbrev Hm:= @List.getElem?_append
abbrev EA:= @List.getElem?_set
abbrev EB:= @List.nodup_append
abbrev Ch:= @Option.some.inj
abbrev Py:= @Int.tmod_eq_emod_of_nonneg
abbrev EC:= @Int.ediv_le_self
abbrev Hn:= @Int.cast_ofNat_Int
abbrev Ws:= @List.isEmpty_iff_length_eq_zero
abbrev Ap:= @List.map_map
abbrev Kr:= @List.range_eq_range'
abbrev Pz:= @Option.isSome_iff_exists
abbrev Er:= @decide_eq_false
abbrev Ps:= @List.getElem?_cons_succ
abbrev Kn:= @List.length_pos_iff
abbrev Ko:= @List.replicate_succ
abbrev Es:= @Bool.and_assoc
abbrev Et:= @Bool.and_false
abbrev Hf:= @Option.getD_some
abbrev Pt:= @List.length_eq_one_iff
abbrev Wp:= @Int.mul_lt_mul_of_pos_right
abbrev Pu:= @Array.getElem?_toList
abbrev Hg:= @Bool.decide_and
abbrev Hh:= @List.length_nil
abbrev Wq:= @Array.getElem?_append_left
abbrev Kp:= @List.all_eq_false
abbrev Wr:= @List.drop_eq_getElem_cons
abbrev Pv:= @List.mem_cons_of_mem
abbrev Hi:= @Array.mk.injEq
abbrev Pw:= @Array.getElem?_push
abbrev Px:= @List.flatten_append
end Go
namespace Go.DI
open Go
abbrev aM:=Nat->Value
structure fV where
  cells:List Value
  own:Bool
structure E where
  next:Nat
  mw:Nat->Option fV
  mp:Nat->Option (List (Value×Value))
def E.U(m:E)(b:Nat):Option fV:=if b<m.next then m.mw b else none
def E.an(m:E)(b:Nat)(x:Option fV):E:=⟨m.next,λi=>if i=b then x else m.mw i,m.mp⟩
def E.bx(m:E)(k:Nat):E:=⟨m.next+k,λi=>if i<m.next then m.mw i else none,m.mp⟩
def E.fg(m:E)(b:Nat):Option (List (Value×Value)):=match m.U b with
  |some ⟨[],true⟩=>m.mp b
  |_=>none
def E.hx(m:E)(b:Nat)(bJ:List (Value×Value)):E:=⟨m.next,λi=>if i=b then some ⟨[],true⟩else m.mw i,λi=>if i=b then some bJ else m.mp i⟩
def p4(u:aM)(d:Nat)(v:Value):aM:= λt=>if t=d then v else u t
def dO(u:aM)(d:Option Nat)(v:Value):aM:=match d with|some d=>p4 u d v|none=>u
def ad(u:aM):Operand->Value
  | .tmp t=>u t
  | .const v=>v
  | .func f=> .func (.func f) #[] #[]
  | .global _=>undef
def yT:Value->Bool| .bool b=>b|_=>false
def wU:Value->Bool| .bool _=>true|_=>false
def gy:Value->Int| .int _ n=>n|_=>0
def gi:Value->Bool| .int _ _=>true|_=>false
def ve:Value->ByteArray| .string s=>s|_=> .empty
def ao:Value->List Value| .agg cs=>cs.toList|v=>[v]
def ku:List Value->Nat->List Value->List Value
  |cs,_,[]=>cs
  |cs,off,v::dh=>ku (cs.set off v) (off+1) dh
def ai:Value->Option Nat
  | .pointer (some a)=>some a.block
  | .slice (some a) _ _=>some a.block
  | .map (some b)=>some b
  |_=>none
def fy:Value->Bool
  | .bool _| .int _ _| .float _ _| .complex _ _ _| .string _| .pointer none| .map none| .chan none| .nilFunc| .nilIface=>true
  | .slice none l c=>l==0&&c==0
  |_=>false
def o6:Value->Bool
  | .agg cs=>cs.toList.all fy
  | .tuple cs=>cs.toList.all fy
  |v=>fy v
def au:Value->Bool
  | .agg _| .tuple _=>false
  |_=>true
def aB:Value->Bool
  | .tuple _=>false
  |_=>true
inductive xB where
  |bool|cb|slice|fn|iface|agg|ir
  deriving DecidableEq
inductive sg where
  |int|str|bool
  deriving DecidableEq
inductive mu where
  |int (k:IntKind)|str
  deriving DecidableEq
inductive al where
  |pk (x:Operand)
  |tR (c a b:Operand)
  |DV (x:Operand)
  |eC (zero:List Value)
  |pK (x:Operand)
  |hg (zero:List Value) (aIo:List (Nat×Nat×Operand))
  |jx (O n:Nat) (zero:List Value) (aIo:List (Nat×Nat×Operand))
  |fu (df:Bool) (n:Nat) (x:Operand)
  |store (n:Nat) (x v:Operand)
  |gL (op:BinOp) (c:xB) (x y:Operand)
  |pL (bQ:Bool) (gQ:List sg) (x y:Operand)
  |oU (op:UnOp) (x:Operand)
  |yY (k:IntKind) (x:Operand)
  |Hv (x:Operand)
  |qR (x:Operand)
  |sn (x:Operand)
  |nN (O bytes:Nat) (zero:List Value) (l c:Operand)
  |G2 (x:Operand) (cK ag:Option Operand)
  |qI (O:Nat) (x:Operand) (cK ag:Option Operand)
  |xg (O:Nat) (x:Operand) (cK:Option Operand) (ag fQ:Operand)
  |sY (O n:Nat) (x:Operand)
  |vq (off:Nat) (x:Operand)
  |field (df:Bool) (off n:Nat) (x:Operand)
  |sC (O:Nat) (x i:Operand)
  |wN (O len:Nat) (x i:Operand)
  |x5 (x i:Operand)
  |ext (i:Nat) (x:Operand)
  |w3 (x:Operand)
  |vO (x:Operand)
  |app (O bytes:Nat) (x y:Operand)
  |yo (fQ:Bool) (x:Operand) (xs:List Operand)
  |uR (fn:Fn) (first lB:List Operand)
  |gl (f:Nat) (args:List Operand)
  |ln (x:Operand) (args:List Operand)
  |JE (t:TypeId) (x:Operand)
  |Kb (t:TypeId) (x:Operand)
  |q2 (bW:List (TypeId×Nat×Option (Bool×Nat))) (x:Operand) (args:List Operand)
  |pj
  |pY (bI:mu) (zero:Value) (ok:Bool) (x k:Operand)
  |p0 (bI:mu) (x k v:Operand)
structure cd where
  bb:Nat
  d:Option Nat
  g:Option (Nat×Bool)
  k:al
  bI:List (Operand×Operand)
inductive nD where
  |bq (t:Nat)
  |h8 (t:Nat) (df:Bool) (n:Nat)
inductive J where
  |skip
  |G (ops:List cd)
  |w1 (cj:List cd) (o:cd) (b4:List cd)
  |D (a b:J)
  |a8 (c:Operand) (a b:J)
  |block (id:Nat) (c:J)
  |loop (c:J)
  |bw (id:Nat)
  |aT
structure cR where
  eb:Nat
  rm:List nD
  body:J
inductive dp where
  |gu
  |bw (id:Nat)
  |aT
  deriving DecidableEq
def g8(m:E)(v:Value)(n:Nat):Bool:=
  match v with
  | .pointer (some a)=>a.spot.isNone&&(match m.U a.block with|some x=>decide (a.off+n<=x.cells.length)|none=>false)
  |_=>false
def sj(m:E)(v:Value):Bool:=
  match v with
  | .pointer (some a)=>(match m.U a.block with|some x=>x.own|none=>false)
  |_=>false
def jI(m:E)(b off n:Nat):List Value:=
  match m.U b with
  |some x=>(x.cells.drop off).take n
  |none=>[]
def k4(m:E)(df:Bool)(n:Nat)(v:Value):Value:=
  match v with
  | .pointer (some a)=>if df then .agg (jI m a.block a.off n).toArray else(jI m a.block a.off 1).headD undef
  |_=>undef
def rq(m:E)(v:Value)(cs:List Value):E:=
  match v with
  | .pointer (some a)=>(match m.U a.block with|some x=>m.an a.block (some ⟨ku x.cells a.off cs,x.own⟩)|none=>m)
  |_=>m
def ig(m:E)(O:Nat)(v:Value):Bool:=
  match v with
  | .slice none l c=>l==0&&c==0
  | .slice (some a) l c=>a.spot.isNone&&c==O&&(match m.U a.block with|some x=>decide (a.off+l*O<=x.cells.length)|none=>false)
  |_=>false
def nX(m:E)(v:Value):Bool:=
  match v with
  | .slice none _ _=>true
  | .slice (some a) _ _=>(match m.U a.block with|some x=>x.own|none=>false)
  |_=>false
def hL:Value->Nat
  | .slice _ l _=>l
  |_=>0
def hX(m:E)(O:Nat)(v:Value):List Value:=
  match v with
  | .slice (some a) l _=>jI m a.block a.off (l*O)
  |_=>[]
def mY(m:E)(v:Value):E:=
  match v with
  | .slice (some a) _ _=>m.an a.block none
  |_=>m
def It(op:BinOp)(k:IntKind)(a b:Int):Value:=
  match op with
  | .add=> .int k (k.wrap (a+b))
  | .sub=> .int k (k.wrap (a-b))
  | .mul=> .int k (k.wrap (a*b))
  | .quo=> .int k (k.wrap (a.tdiv b))
  | .rem=> .int k (a.tmod b)
  | .and=> .int k (k.wrap (BitVec.ofInt k.bits a&&&BitVec.ofInt k.bits b).toNat)
  | .or=> .int k (k.wrap (BitVec.ofInt k.bits a|||BitVec.ofInt k.bits b).toNat)
  | .xor=> .int k (k.wrap (BitVec.ofInt k.bits a^^^BitVec.ofInt k.bits b).toNat)
  | .andNot=> .int k (k.wrap (BitVec.ofInt k.bits a&&& ~~~(BitVec.ofInt k.bits b)).toNat)
  | .shl=> .int k (k.wrap (a*2^(min b.toNat k.bits)))
  | .shr=> .int k (a.fdiv (2^(min b.toNat k.bits)))
  | .eql=> .bool (decide (a=b))
  | .neq=> .bool (!decide (a=b))
  | .lss=> .bool (decide (a<b))
  | .leq=> .bool (decide (a<=b))
  | .gtr=> .bool (decide (a>b))
  | .geq=> .bool (decide (a>=b))
def Rt(op:BinOp)(k gI:IntKind)(_a b:Int):Bool:=
  match op with
  | .shl| .shr=>decide (0<=b)
  | .quo| .rem=>decide (k=gI)&&decide (b≠0)
  |_=>decide (k=gI)
def Eh(op:BinOp)(a b:ByteArray):Value:=
  match op with
  | .add=> .string (a++b)
  | .eql=> .bool (decide (a=b))
  | .neq=> .bool (!decide (a=b))
  | .lss=> .bool (Op.bytesLess a.toList b.toList)
  | .leq=> .bool (Op.bytesLess a.toList b.toList||decide (a=b))
  | .gtr=> .bool (!(Op.bytesLess a.toList b.toList||decide (a=b)))
  | .geq=> .bool (!Op.bytesLess a.toList b.toList)
  |_=>undef
def Pc(op:BinOp)(a b:ByteArray):Bool:=
  match op with
  | .add=>decide (a.size+b.size<=9223372036854775807)
  | .eql| .neq| .lss| .leq| .gtr| .geq=>true
  |_=>false
def tH:Value->Bool
  | .pointer none=>true
  | .slice none _ _=>true
  | .nilFunc=>true
  | .nilIface=>true
  |_=>false
def rI(x y:Value):Bool:=
  match x,y with
  | .bool a,.bool b=>a==b
  |x,y=>tH x&&tH y
def xJ(c:xB)(x y:Value):Bool:=
  match c,x,y with
  | .bool,.bool _,.bool _=>true
  | .cb,.pointer none,.pointer _=>true
  | .cb,.pointer _,.pointer none=>true
  | .slice,.slice none _ _,.slice _ _ _=>true
  | .slice,.slice _ _ _,.slice none _ _=>true
  | .fn,.nilFunc,.nilFunc=>true
  | .fn,.nilFunc,.func _ _ _=>true
  | .fn,.func _ _ _,.nilFunc=>true
  |_,_,_=>false
def ng(op:BinOp)(x y:Value):Value:=
  match x,y with
  | .int k a,.int _ b=>It op k a b
  | .string a,.string b=>Eh op a b
  | x,y=>match op with
    | .eql=> .bool (rI x y)
    | .neq=> .bool (!rI x y)
    |_=>undef
def vg(op:BinOp)(c:xB)(x y:Value):Bool:=
  match x,y with
  | .int k a,.int gI b=>Rt op k gI a b
  | .string a,.string b=>Pc op a b
  | x,y=>match op with
    | .eql| .neq=>xJ c x y
    |_=>false
def kj:Value->Value->Bool
  | .int _ a,.int _ b=>decide (a=b)
  | .string a,.string b=>decide (a=b)
  | .bool a,.bool b=>a==b
  |_,_=>false
def Cw:sg->Value->Value->Bool
  | .int,.int k _,.int gI _=>decide (k=gI)
  | .str,.string _,.string _=>true
  | .bool,.bool _,.bool _=>true
  |_,_,_=>false
def iM:List Value->List Value->Bool
  |[],[]=>true
  |a::a1i,b::lR=>kj a b&&iM a1i lR
  |_,_=>false
def g9:List sg->List Value->List Value->Bool
  |[],[],[]=>true
  |k::gQ,a::a1i,b::lR=>Cw k a b&&g9 gQ a1i lR
  |_,_,_=>false
def uO:Value->Bool| .agg _=>true|_=>false
def G9(op:UnOp)(x:Value):Value:=
  match op,x with
  | .neg,.int k n=> .int k (k.wrap (0-n))
  | .not,.bool b=> .bool (!b)
  |_,_=>undef
def Ca(op:UnOp)(x:Value):Bool:=
  match op,x with
  | .neg,.int _ _=>true
  | .not,.bool _=>true
  |_,_=>false
def WU:Value->UInt8| .int _ n=>UInt8.ofNat n.toNat|_=>0
def Jv:Value->Bool| .int .u8 _=>true|_=>false
def DY(s:ByteArray):List Value:=s.data.toList.map λb=> .int .u8 b.toNat
def toBytes(cs:List Value):ByteArray:=⟨(cs.map WU).toArray⟩
def hT(u:aM)(x:Option Operand)(Xd:Int):Int:=match x with|some o=>gy (ad u o)|none=>Xd
def qF(u:aM)(x:Option Operand):Bool:=match x with|some o=>gi (ad u o)|none=>true
def nq:Value->Bool| .string _=>true|_=>false
def zD:Value->Bool| .slice _ _ _=>true|_=>false
def DG:Value->Bool| .pointer (some _)=>true|_=>false
def z2(v:Value)(n:Nat):Value:=
  match v with
  | .pointer (some a)=> .pointer (some ⟨a.block,a.off+n,none⟩)
  |_=>undef
def tS:Value->Bool| .pointer (some a)=>a.spot.isNone|_=>false
def ou(v:Value)(O l h:Nat):Value:=
  match v with
  | .slice (some a) _ c=> .slice (some ⟨a.block,a.off+l*O,none⟩) (h-l) c
  |_=> .slice none 0 0
def kr(O:Nat):Value->Bool
  | .slice none l c=>l==0&&c==0
  | .slice (some a) _ c=>a.spot.isNone&&c==O
  |_=>false
def KJ(v:Value)(O n:Nat):Value:=
  match v with
  | .pointer (some a)=> .slice (some ⟨a.block,a.off,none⟩) n O
  |_=> .slice none 0 0
def mH(v:Value)(O:Nat)(i:Int):Value:=
  match v with
  | .slice (some a) _ _=> .pointer (some ⟨a.block,a.off+i.toNat*O,none⟩)
  |_=>undef
def Gj:Value->Bool
  | .pointer none| .nilIface| .nilFunc=>false
  | .func (.method _) _ _=>false
  |_=>true
def Ej(v:Value)(i:Nat):Value:=match v with| .tuple dh=>dh.toList.getD i undef|_=>undef
def G7(v:Value)(i:Nat):Bool:=match v with| .tuple dh=>decide (i<dh.toList.length)|_=>false
def Qw(df:Bool)(off n:Nat)(v:Value):Value:=
  match v with
  | .agg cs=>if df then .agg ((cs.toList.drop off).take n).toArray else cs.toList.getD off undef
  |_=>undef
def Lf(off n:Nat)(v:Value):Bool:=match v with| .agg cs=>decide (off+n<=cs.toList.length)|_=>false
def rb(a b:Value):Value:=match a,b with| .int k x,.int _ y=> .int k (if y<x then y else x)|_,_=>undef
def ra(a b:Value):Value:=match a,b with| .int k x,.int _ y=> .int k (if y>x then y else x)|_,_=>undef
def sP(cs:List Value)(u:aM)(en:List (Nat×Nat×Operand)):Bool:=
  en.all λ(off,n,x)=>aB (ad u x)&&decide ((ao (ad u x)).length=n)&&decide (off+n<=cs.length)
def oo(cs:List Value)(u:aM):List (Nat×Nat×Operand)->List Value
  |[]=>cs
  |(off,_,x)::r=>oo (ku cs off (ao (ad u x))) u r
def Mr(t:TypeId):Value->Bool
  | .iface bu _=>decide (bu=t)
  |_=>false
def akx:Value->Value
  | .iface _ v=>v
  |_=>undef
def ml(m:E):Value->Option (List (Value×Value))
  | .map none=>some []
  | .map (some b)=>m.fg b
  |_=>none
def q4:mu->Value->Bool
  | .int k,.int gI _=>decide (gI=k)
  | .str,.string _=>true
  |_,_=>false
def mD(bI:mu)(k:Value)(bJ:List (Value×Value)):Bool:=q4 bI k&&bJ.all λe=>q4 bI e.1
def jY(k:Value):List (Value×Value)->Option Value
  |[]=>none
  |e::r=>if kj k e.1 then some e.2 else jY k r
def m2(k v:Value):List (Value×Value)->List (Value×Value)
  |[]=>[(k,v)]
  |e::r=>if kj k e.1 then(k,v)::r else e::m2 k v r
def DN:Value->Nat
  | .map (some b)=>b
  |_=>0
def ib:Value->Int
  | .string s=>s.size
  | .slice _ l _=>l
  |_=>0
def al.ok(k:al)(u:aM)(m:E):Bool:=
  match k with
  | .pk _=>true
  | .tR c _ _=>wU (ad u c)
  | .DV x=>Gj (ad u x)
  | .eC _=>true
  | .pK x=>aB (ad u x)
  | .hg O en=>sP O u en
  | .jx _ _ O en=>sP O u en
  | .fu df n x=>g8 m (ad u x) n&&(df||decide (n=1))
  | .store n x v=>g8 m (ad u x) n&&sj m (ad u x)&&aB (ad u v)&&decide ((ao (ad u v)).length=n)
  | .gL op c x y=>vg op c (ad u x) (ad u y)
  | .pL _ gQ x y=>uO (ad u x)&&uO (ad u y)&&g9 gQ (ao (ad u x)) (ao (ad u y))
  | .oU op x=>Ca op (ad u x)
  | .yY _ x=>gi (ad u x)
  | .Hv x=>nq (ad u x)
  | .qR x=>ig m 1 (ad u x)&&(hX m 1 (ad u x)).all Jv
  | .sn x=>nq (ad u x)&&decide ((ve (ad u x)).size<=9223372036854775807)
  | .nN O bytes _ l c=>gi (ad u l)&&gi (ad u c)&&decide (0<=gy (ad u l))&&decide (gy (ad u l)<=gy (ad u c))&&decide (gy (ad u c)*(bytes:Int)<=140737488355328)&&decide (gy (ad u c)<=9223372036854775807)&&decide (0<O)
  | .G2 x cK ag=>nq (ad u x)&&qF u cK&&qF u ag&&decide (0<=hT u cK 0)&&decide (hT u cK 0<=hT u ag (ib (ad u x)))&&decide (hT u ag (ib (ad u x))<=ib (ad u x))
  | .qI O x cK ag=>kr O (ad u x)&&qF u cK&&qF u ag&&decide (0<=hT u cK 0)&&decide (hT u cK 0<=hT u ag (ib (ad u x)))&&decide (hT u ag (ib (ad u x))<=ib (ad u x))
  | .xg O x cK ag fQ=>kr O (ad u x)&&qF u cK&&gi (ad u ag)&&gi (ad u fQ)&&decide (0<=hT u cK 0)&&decide (hT u cK 0<=gy (ad u ag))&&decide (gy (ad u ag)<=gy (ad u fQ))&&decide (gy (ad u fQ)<=ib (ad u x))
  | .sY O n x=>g8 m (ad u x) (n*O)&&decide (n<=maxLen)
  | .vq _ x=>tS (ad u x)
  | .field df off n x=>Lf off n (ad u x)&&(df||decide (n=1))
  | .sC O x i=>kr O (ad u x)&&gi (ad u i)&&decide (0<=gy (ad u i))&&decide (gy (ad u i)<ib (ad u x))
  | .wN _ len x i=>tS (ad u x)&&gi (ad u i)&&decide (0<=gy (ad u i))&&decide (gy (ad u i)<(len:Int))
  | .x5 x i=>nq (ad u x)&&gi (ad u i)&&decide (0<=gy (ad u i))&&decide (gy (ad u i)<ib (ad u x))
  | .ext i x=>G7 (ad u x) i
  | .w3 x=>nq (ad u x)
  | .vO x=>zD (ad u x)
  | .app O bytes x y=>ig m O (ad u x)&&nX m (ad u x)&&ig m O (ad u y)&&decide (0<O)&&decide ((hL (ad u x)+hL (ad u y))*bytes<=140737488355328)&&decide (hL (ad u x)+hL (ad u y)<=9223372036854775807)
  | .yo _ x xs=>gi (ad u x)&&xs.all λy=>gi (ad u y)
  | .uR _ _ _=>true
  | .gl _ _=>false
  | .ln _ _=>false
  | .JE _ _=>true
  | .Kb t x=>Mr t (ad u x)
  | .q2 _ _ _=>false
  | .pj=>true
  | .pY bI _ _ x k=>match ml m (ad u x)with
    |some bJ=>mD bI (ad u k) bJ
    |none=>false
  | .p0 bI x k v=>match ad u x with
    | .map (some b)=>(match m.fg b with
      |some bJ=>mD bI (ad u k) bJ&&au (ad u v)
      |none=>false)
    |_=>false
def al.val(k:al)(id:Nat)(u:aM)(m:E):Value:=
  match k with
  | .pk x=>ad u x
  | .tR c a b=>if yT (ad u c)then ad u a else ad u b
  | .DV x=>ad u x
  | .eC _=> .pointer (some ⟨id,0,none⟩)
  | .pK _=> .pointer (some ⟨id,0,none⟩)
  | .hg O en=> .agg (oo O u en).toArray
  | .jx O n _ _=> .slice (some ⟨id,0,none⟩) n O
  | .fu df n x=>k4 m df n (ad u x)
  | .store _ _ _=>undef
  | .gL op _ x y=>ng op (ad u x) (ad u y)
  | .pL bQ _ x y=> .bool (if bQ then !iM (ao (ad u x)) (ao (ad u y))else iM (ao (ad u x)) (ao (ad u y)))
  | .oU op x=>G9 op (ad u x)
  | .yY k x=> .int k (k.wrap (gy (ad u x)))
  | .Hv x=>ad u x
  | .qR x=> .string (toBytes (hX m 1 (ad u x)))
  | .sn x=> .slice (some ⟨id,0,none⟩) (ve (ad u x)).size 1
  | .nN O _ _ l _=> .slice (some ⟨id,0,none⟩) (gy (ad u l)).toNat O
  | .G2 x cK ag=> .string ((ve (ad u x)).extract (hT u cK 0).toNat (hT u ag (ib (ad u x))).toNat)
  | .qI O x cK ag=>ou (ad u x) O (hT u cK 0).toNat (hT u ag (ib (ad u x))).toNat
  | .xg O x cK ag _=>ou (ad u x) O (hT u cK 0).toNat (gy (ad u ag)).toNat
  | .sY O n x=>KJ (ad u x) O n
  | .vq off x=>z2 (ad u x) off
  | .field df off n x=>Qw df off n (ad u x)
  | .sC O x i=>mH (ad u x) O (gy (ad u i))
  | .wN O _ x i=>z2 (ad u x) ((gy (ad u i)).toNat*O)
  | .x5 x i=> .int .u8 (((ve (ad u x)).data.toList.getD (gy (ad u i)).toNat 0).toNat:Nat)
  | .ext i x=>Ej (ad u x) i
  | .w3 x=> .int .i64 (ib (ad u x))
  | .vO x=> .int .i64 (ib (ad u x))
  | .app O _ x y=>if hL (ad u y)=0 then ad u x else .slice (some ⟨id,0,none⟩) (hL (ad u x)+hL (ad u y)) O
  | .yo fQ x xs=>xs.foldl (λeF y=>if fQ then ra eF (ad u y)else rb eF (ad u y)) (ad u x)
  | .uR fn first lB=> .func fn (first.map (ad u)).toArray (lB.map (ad u)).toArray
  | .gl _ _=>undef
  | .ln _ _=>undef
  | .JE t x=> .iface t (ad u x)
  | .Kb _ x=>akx (ad u x)
  | .q2 _ _ _=>undef
  | .pj=> .map (some id)
  | .pY _ zero ok x k=>
    let r:=(ml m (ad u x)).bind (jY (ad u k))
    if ok then .tuple #[r.getD zero,.bool r.isSome]else r.getD zero
  | .p0 _ _ _ _=>undef
def al.iH(k:al)(id:Nat)(u:aM)(m:E):E:=
  match k with
  | .eC O=>m.an id (some ⟨O,true⟩)
  | .pK x=>m.an id (some ⟨ao (ad u x),true⟩)
  | .jx _ _ O en=>m.an id (some ⟨oo O u en,true⟩)
  | .store _ x v=>rq m (ad u x) (ao (ad u v))
  | .sn x=>m.an id (some ⟨DY (ve (ad u x)),true⟩)
  | .nN _ _ zero l _=>m.an id (some ⟨(List.replicate (gy (ad u l)).toNat zero).flatten,true⟩)
  | .app O _ x y=>if hL (ad u y)=0 then m else(mY m (ad u x)).an id (some ⟨hX m O (ad u x)++hX m O (ad u y),true⟩)
  | .pj=>m.hx id []
  | .p0 _ x k v=>m.hx (DN (ad u x)) (m2 (ad u k) (ad u v) ((m.fg (DN (ad u x))).getD []))
  |_=>m
def mb(u:aM)(bI:List (Operand×Operand)):Bool:=
  bI.all λ(x,y)=>match ai (ad u x),ai (ad u y)with
    |some a,some b=>a !=b
    |_,_=>true
def yk(u:aM)(bI:List (Operand×Operand))(m N:E):Prop:=
  ∀p∈bI,∀b,ai (ad u p.1)=some b->N.U b=m.U b
abbrev Callee:=Nat->List Value->E->Option (Value×E)
def al.gM(k:al)(u:aM)(m:E):Option (Nat×List Value):=
  match k with
  | .q2 bW x args=>match ad u x with
    | .iface t v=>match bW.find? (λr=>r.1==t)with
      |some (_,f,none)=>some (f,v::args.map (ad u))
      |some (_,f,some (df,n))=>if g8 m v n&&(df||decide (n=1))then some (f,k4 m df n v::args.map (ad u))else none
      |none=>none
    |_=>none
  | .gl f args=>some (f,args.map (ad u))
  | .ln x args=>match ad u x with
    | .func (.func f) first lB=>some (f,first.toList++args.map (ad u)++lB.toList)
    |_=>none
  |_=>none
def fY(u:aM):Option (Nat×Bool)->Bool
  |none=>true
  |some (t,b)=>match u t with| .bool c=>c==b|_=>false
noncomputable def iX(dj:Callee)(base:Nat)(o:cd)(u:aM)(m:E):Option (aM×E):=
  if fY u o.g then
    match o.k.gM u m with
    | some (f,args)=>match dj f args m with
      |some (v,N)=>some (dO u o.d v,N)
      |none=>none
    |none=>if o.k.ok u m then some (dO u o.d (o.k.val (base+o.bb) u m),o.k.iH (base+o.bb) u m)else none
  else some (dO u o.d undef,m)
def rF(o:cd)(u:aM)(m N:E):Prop:=
  fY u o.g=true->match o.k.gM u m with
    |some _=>yk u o.bI m N
    |none=>mb u o.bI=true
open Classical in
noncomputable def lL(dj:Callee)(base:Nat):List cd->aM->E->Option (aM×E)
  |[],u,m=>some (u,m)
  | o::b4,u,m=>match iX dj base o u m with
    |some (ae,N)=>if rF o u m N then lL dj base b4 ae N else none
    |none=>none
def al.gF:al->Bool
  | .eC _| .pK _| .jx _ _ _ _| .sn _| .nN _ _ _ _ _| .app _ _ _ _| .pj=>true
  |_=>false
def al.zC:al->Bool
  | .pj| .pY _ _ _ _ _| .p0 _ _ _ _=>true
  |_=>false
def kK(ops:List cd)(m:E):E:=if ops.any (λo=>o.k.gF)then m.bx ops.length else m
def tZ(O:Nat)(m:E):Value->Bool
  | .slice (some a) l _=>(match m.U a.block with|some b=>decide (b.cells.length=a.off+l*O)|none=>false)
  |_=>true
def pX(o:cd)(u:aM)(m:E):Bool:=o.g.isNone&&(match o.k with| .app O _ x _=>tZ O m (ad u x)|_=>false)&&o.k.ok u m
def Iq(x:fV):fV:=⟨x.cells,false⟩
def qq(m:E):E:=⟨m.next,λb=>(m.mw b).map Iq,λ_=>none⟩
def lq(f:aM->E->Option (dp×aM×E)):Nat->aM->E->Option (dp×aM×E)
  |0,_,_=>none
  | n+1,u,m=>match f u m with
    |some (.gu,ae,N)=>lq f n ae N
    |r=>r
noncomputable def fx(dj:Callee)(n:Nat):J->aM->E->Option (dp×aM×E)
  | .skip,u,m=>some (.gu,u,m)
  | .G ops,u,m=>match lL dj m.next ops u (kK ops m)with
    |some (ae,N)=>some (.gu,ae,N)
    |none=>none
  | .w1 cj o b4,u,m=>match lL dj m.next cj u (m.bx (cj.length+(b4.length+1)))with
    | some (cC,bo)=>if pX o cC bo then
        (match lL dj m.next b4 (dO cC o.d (o.k.val (m.next+o.bb) cC bo)) (qq bo)with
        |some (ev,cc)=>some (.gu,ev,(o.k.iH (m.next+o.bb) cC bo).bx (cc.next-bo.next))
        |none=>none)
      else none
    |none=>none
  | .D a b,u,m=>match fx dj n a u m with
    |some (.gu,ae,N)=>fx dj n b ae N
    |r=>r
  | .a8 c a b,u,m=>if wU (ad u c)then(if yT (ad u c)then fx dj n a u m else fx dj n b u m)else none
  | .block id c,u,m=>match fx dj n c u m with
    |some (.bw lV,ae,N)=>if lV=id then some (.gu,ae,N)else some (.bw lV,ae,N)
    |r=>r
  | .loop c,u,m=>lq (fx dj n c) n u m
  | .bw id,u,m=>some (.bw id,u,m)
  | .aT,u,m=>some (.aT,u,m)
def sT(m:E)(u:aM):nD->Bool
  | .bq _=>true
  | .h8 t df n=>g8 m (u t) n&&(df||decide (n=1))
def tU(m:E)(u:aM):nD->Value
  | .bq t=>u t
  | .h8 t df n=>k4 m df n (u t)
def nU(m:E)(u:aM)(bf:List nD):Bool:=bf.all (sT m u)
def oq(m:E)(u:aM):List nD->Value
  |[r]=>tU m u r
  |bf=> .tuple (bf.map (tU m u)).toArray
def eX(args:List Value):aM:= λt=>args.getD t undef
def mK(P:Program)(t:TypeId):Option Nat:=(P.info? t).map (·.size)
def xi(P:Program)(t:TypeId):Option (List Value):=
  match P.info? t with
  | some i=>match i.zero with
    | some O=>let cs:=O.cells.toList
      if cs.all fy&&decide (cs.length=i.size)then some cs else none
    |none=>none
  |none=>none
def sa(P:Program)(t:TypeId):Option Bool:=
  match P.underlying t with
  |some (.struct _)=>some true
  |some (.array _ _)=>some true
  |some _=>some false
  |none=>none
def sb(P:Program)(t:TypeId):xB:=
  match P.underlying t with
  |some .bool=> .bool
  |some (.pointer _)=> .cb
  |some (.slice _)=> .slice
  |some (.func _ _ _)=> .fn
  |some (.interface _)=> .iface
  |some (.struct _)=> .agg
  |some (.array _ _)=> .agg
  |_=> .ir
def er:Operand->Bool
  | .tmp _=>true
  | .const v=>o6 v
  | .func _=>true
  | .global _=>false
def JO:Option Operand->Bool
  |some x=>er x
  |none=>true
def Lc(e:TypeId->Option (List sg)):List Field->Nat->Option (List sg)
  |[],_=>some []
  | f ::r,off=>if f.name != "_" &&f.offset==off then
      (match e f.type with
       | some gQ=>match Lc e r (off+gQ.length)with
         |some b4=>if gQ.length=0 then none else some (gQ++b4)
         |none=>none
       |none=>none)
    else none
def xI(P:Program):Nat->TypeId->Option (List sg)
  |0,_=>none
  | d+1,t=>match P.underlying t,mK P t with
    |some .bool,some n=>if n=1 then some [.bool]else none
    |some (.int _),some n=>if n=1 then some [.int]else none
    |some .string,some n=>if n=1 then some [.str]else none
    | some (.struct gH),some n=>match Lc (xI P d) gH.toList 0 with
      |some gQ=>if decide (n=gQ.length)&& !P.stoodInHeld t then some gQ else none
      |none=>none
    | some (.array k e),some n=>match xI P d e with
      |some gQ=>if decide (n=k*gQ.length)&&decide (0<gQ.length)then some (List.replicate k gQ).flatten else none
      |none=>none
    |_,_=>none
def guard(b:Bool):Option Unit:=if b then some ()else none
def Lg(P:Program)(gH:Array Field):List (Nat×Operand)->Option (List (Nat×Nat×Operand))
  |[]=>some []
  | (i,x)::r=>match gH[i]? with
    | some f=>match mK P f.type,Lg P gH r with
      |some n,some en=>if er x then some ((f.offset,n,x)::en)else none
      |_,_=>none
    |none=>none
def EZ(O:Nat):List (Nat×Operand)->Option (List (Nat×Nat×Operand))
  |[]=>some []
  | (i,x)::r=>match EZ O r with
    |some en=>if er x then some ((i*O,O,x)::en)else none
    |none=>none
def GC(P:Program)(name:String)(t:TypeId):Option (TypeId×Nat×Option (Bool×Nat)):=
  match P.info? t with
  | some i=>match i.methods.find? (·.name==name)with
    | some mt=>if mt.path.isEmpty then(match mt.func with
      | some (f,aIC)=>match P.underlying t,aIC with
        |some (.pointer _),true=>some (t,f,none)
        | some (.pointer e),false=>match sa P e,mK P e with
          |some df,some n=>some (t,f,some (df,n))
          |_,_=>none
        |_,_=>none
      |none=>none)else none
    |none=>none
  |none=>none
def aee(P:Program)(name:String):List (TypeId×Nat×Option (Bool×Nat)):=(List.range P.types.size).filterMap (GC P name)
def V2(P:Program)(t:TypeId):Option Value:=
  match P.info? t with
  | some i=>match i.zero with
    |some O=>if fy O then some O else none
    |none=>none
  |none=>none
def Qe(P:Program)(t:TypeId):Option mu:=
  match P.underlying t with
  |some (.int k)=>some (.int k)
  |some .string=>some .str
  |_=>none
def KR(P:Program)(c:Call):Option al:=
  match c.callee with
  | .invoke (.tmp t) name=>if c.args.toList.all er then some (.q2 (aee P name) (.tmp t) c.args.toList)else none
  | .value (.func f)=>match P.funcs[f]? with
    |some fn=>if fn.body.isSome&& !(fn.name== "runtime.NumGoroutine")&&c.args.toList.all er then some (.gl f c.args.toList)else none
    |none=>none
  | .value (.tmp t)=>if c.args.toList.all er then some (.ln (.tmp t) c.args.toList)else none
  | .builtin .len=>match c.args.toList,c.argTypes.toList with
    | [x],[t]=>match P.underlying t with
      |some .string=>if er x then some (.w3 x)else none
      |some (.slice _)=>if er x then some (.vO x)else none
      |_=>none
    |_,_=>none
  | .builtin .append=>match c.args.toList,c.argTypes.toList with
    | [x,y],[t,aG]=>match P.underlying t with
      | some (.slice e)=>match P.info? e with
        |some i=>if t=aG&&er x&&er y&&(xi P e).isSome then some (.app i.size i.bytes x y)else none
        |none=>none
      |_=>none
    |_,_=>none
  | .builtin .min=>match c.args.toList with
    |x::xs=>if er x&&xs.all er then some (.yo false x xs)else none
    |[]=>none
  | .builtin .max=>match c.args.toList with
    |x::xs=>if er x&&xs.all er then some (.yo true x xs)else none
    |[]=>none
  |_=>none
def yV(P:Program)(o:Oper):Option al:=
  match o.op with
  | .move x=>if er x then some (.pk x)else none
  | .assign x=>if er x then some (.pk x)else none
  | .pick c a b=>if er c&&er a&&er b then some (.tR c a b)else none
  | .nilCheck x=>if er x then some (.DV x)else none
  | .alloc e=>match xi P e with
    |some O=>some (.eC O)
    |none=>none
  | .box _ x=>if er x then some (.pK x)else none
  | .build t en=>match P.underlying t,xi P t with
    | some (.struct gH),some O=>match Lg P gH en.toList with
      |some jD=>if(gH.toList.all λf=>(mK P f.type).isSome)then some (.hg O jD)else none
      |none=>none
    | some (.array _ e),some O=>match mK P e with
      | some n=>match EZ n en.toList with
        |some jD=>some (.hg O jD)
        |none=>none
      |none=>none
    |_,_=>none
  | .buildSlice t n en=>match P.underlying t with
    | some (.slice e)=>match xi P e with
      | some O=>match EZ O.length en.toList with
        |some jD=>if 0<O.length&&n*O.length<=16777216 then some (.jx O.length n (List.replicate n O).flatten jD)else none
        |none=>none
      |none=>none
    |_=>none
  | .load t x=>match sa P t,mK P t with
    |some a,some n=>if er x then some (.fu a n x)else none
    |_,_=>none
  | .store t x v=>match mK P t with
    |some n=>if er x&&er v then some (.store n x v)else none
    |none=>none
  | .binOp op t x y _=>
    if er x&&er y then
      (if sb P t= .agg then
        (match op,xI P 8 t with
         | .eql,some gQ=>if !P.eqGuardType P.depth t then some (.pL false gQ x y)else none
         | .neq,some gQ=>if !P.eqGuardType P.depth t then some (.pL true gQ x y)else none
         |_,_=>none)
      else some (.gL op (sb P t) x y))
    else none
  | .unOp op _ x=>if er x then some (.oU op x)else none
  | .convert s d x=>match P.underlying s,P.underlying d with
    |some (.int _),some (.int k)=>if er x then some (.yY k x)else none
    |some .string,some .string=>if er x then some (.Hv x)else none
    | some (.slice e),some .string=>match P.underlying e with
      |some (.int .u8)=>if er x then some (.qR x)else none
      |_=>none
    | some .string,some (.slice e)=>match P.underlying e with
      |some (.int .u8)=>if er x then some (.sn x)else none
      |_=>none
    |_,_=>none
  | .makeSlice t l c=>match P.underlying t with
    | some (.slice e)=>match xi P e,P.info? e with
      |some O,some i=>if er l&&er c then some (.nN O.length i.bytes O l c)else none
      |_,_=>none
    |_=>none
  | .slice t x cK ag fQ=>match P.underlying t with
    |some .string=>if er x&&JO cK&&JO ag&&fQ.isNone then some (.G2 x cK ag)else none
    | some (.slice e)=>match mK P e with
      | some O=>match fQ with
        |none=>if er x&&JO cK&&JO ag then some (.qI O x cK ag)else none
        | some yp=>match ag with
          |some ah=>if er x&&JO cK&&er ah&&er yp then some (.xg O x cK ah yp)else none
          |none=>none
      |none=>none
    | some (.array n e)=>match mK P e with
      |some O=>if er x&&cK.isNone&&ag.isNone&&fQ.isNone then some (.sY O n x)else none
      |none=>none
    |_=>none
  | .fieldAddr s x i=>match P.underlying s with
    | some (.struct gH)=>match gH[i]? with
      | some f=>match mK P f.type with
        |some n=>if er x&&0<n then some (.vq f.offset x)else none
        |none=>none
      |none=>none
    |_=>none
  | .field t x i=>match P.underlying t with
    | some (.struct gH)=>match gH[i]? with
      | some f=>match sa P f.type,mK P f.type with
        |some a,some n=>if er x then some (.field a f.offset n x)else none
        |_,_=>none
      |none=>none
    |_=>none
  | .indexAddr t x i=>match P.underlying t with
    | some (.slice e)=>match mK P e with
      |some O=>if er x&&er i then some (.sC O x i)else none
      |none=>none
    | some (.array len e)=>match mK P e with
      |some O=>if er x&&er i then some (.wN O len x i)else none
      |none=>none
    |_=>none
  | .index t x i=>match P.underlying t with
    |some .string=>if er x&&er i then some (.x5 x i)else none
    |_=>none
  | .extract x i=>if er x then some (.ext i x)else none
  | .makeInterface t x=>match P.underlying t with
    |some (.interface _)=>none
    |some _=>if er x then some (.JE t x)else none
    |none=>none
  | .typeAssert x _ t ok=>match P.underlying t with
    |some (.interface _)=>none
    |some _=>if er x&& !ok then some (.Kb t x)else none
    |none=>none
  | .makeMap t r=>match P.underlying t,r with
    |some (.map _ _),none=>some .pj
    |_,_=>none
  | .lookup t x i ok=>match P.underlying t with
    | some (.map k e)=>match Qe P k,V2 P e with
      |some bI,some O=>if er x&&er i then some (.pY bI O ok x i)else none
      |_,_=>none
    |_=>none
  | .mapUpdate t x k v=>match P.underlying t with
    | some (.map yl _)=>match Qe P yl with
      |some bI=>if er x&&er k&&er v then some (.p0 bI x k v)else none
      |none=>none
    |_=>none
  | .makeFunc fn first lB=>if first.toList.all er&&lB.toList.all er then some (.uR fn first.toList lB.toList)else none
  | .call c=>KR P c
  |_=>none
def P4(ops:Array Oper)(o:Oper):Option (Option (Nat×Bool)):=
  match o.guard with
  |none=>some none
  | some (j,b)=>match(ops[j]?).bind (·.dst)with
    |some t=>some (some (t,b))
    |none=>none
def P5(P:Program)(ops:Array Oper)(eb:Nat)(bb:Nat):Option cd:=
  match ops[bb]? with
  | some o=>match yV P o,P4 ops o with
    |some k,some g=>if(o.dst.all λd=>decide (d<eb))then some ⟨bb,o.dst,g,k,[]⟩else none
    |_,_=>none
  |none=>none
def Ht(P:Program)(ops:Array Oper)(eb:Nat):List Nat->Option (List cd)
  |[]=>some []
  | bb::r=>match P5 P ops eb bb,Ht P ops eb r with
    |some o,some b4=>some (o::b4)
    |_,_=>none
def al.l3:al->List Operand
  | .fu _ _ x=>[x]
  | .sY _ _ x=>[x]
  | .store _ x _=>[x]
  | .qR x=>[x]
  | .app _ _ x y=>[x,y]
  |_=>[]
def al.pv:al->List Operand
  | .store _ x _=>[x]
  | .app _ _ x _=>[x]
  |_=>[]
def al.mj:al->Bool
  | .gl _ _| .ln _ _| .q2 _ _ _=>true
  |_=>false
def al.jg:al->List Operand
  | .pk x| .DV x| .pK x| .fu _ _ x| .oU _ x| .yY _ x| .Hv x| .qR x| .sn x| .vq _ x| .field _ _ _ x| .ext _ x| .w3 x| .vO x| .sY _ _ x=>[x]
  | .tR c a b=>[c,a,b]
  | .eC _=>[]
  | .hg _ en| .jx _ _ _ en=>en.map λp=>p.2.2
  | .store _ x v=>[x,v]
  | .gL _ _ x y| .pL _ _ x y| .nN _ _ _ x y| .sC _ x y| .wN _ _ x y| .x5 x y| .app _ _ x y=>[x,y]
  | .G2 x l h| .qI _ x l h=>x::(l.toList++h.toList)
  | .xg _ x l h fQ=>x::h::fQ::l.toList
  | .yo _ x xs=>x::xs
  | .uR _ a b=>a++b
  | .gl _ a1i=>a1i
  | .ln x a1i=>x::a1i
  | .JE _ x| .Kb _ x=>[x]
  | .q2 _ x a1i=>x::a1i
  | .pj=>[]
  | .pY _ _ _ x k=>[x,k]
  | .p0 _ x k v=>[x,k,v]
def J2(l:List Operand):List Nat:=l.filterMap fun| .tmp t=>some t|_=>none
def cd.z5(o:cd):List Nat:=J2 o.k.jg++(match o.g with|some (t,_)=>[t]|none=>[])
def cd.ah7(o:cd):List Nat:=J2 (o.bI.map (·.1))++J2 (o.bI.map (·.2))
def vR(l:List Nat)(d:Option Nat):Bool:=match d with|some d=> !l.contains d|none=>true
def Ql:Option Nat->List Operand
  |some d=>[.tmp d]
  |none=>[]
def sN(k i:cd):List (Operand×Operand):=
  if i.k.mj then k.k.l3.map λx=>(x,x)
  else if k.k.mj then[]
  else
    ((k.k.pv++(if k.k.gF then Ql k.d else[])).flatMap λx=>(i.k.l3++i.k.pv).map λy=>(x,y))
      ++k.k.l3.flatMap λx=>i.k.pv.map λy=>(x,y)
def tm(k i:cd)(vh:List Nat):Bool:=
  !k.k.zC&& !i.k.zC&&vR (k.z5++k.ah7) i.d&&vR i.z5 k.d&&(match k.d,i.d with|some a,some b=>a !=b|_,_=>true)&&
  (if i.k.mj then !k.k.mj&& !k.k.gF&&k.k.pv.isEmpty&&(J2 k.k.l3).all λt=> !vh.contains t&&k.d !=some t
   else if k.k.mj then i.k.l3.isEmpty&&i.k.pv.isEmpty
   else(!k.k.gF||(k.d.isSome&&vR vh k.d))&&(J2 (k.k.l3++k.k.pv)).all λt=> !vh.contains t&&k.d !=some t)
def US(iY:List Nat)(o:Oper):Nat:=
  o.after.toList.foldl (λs e=>if Region.binds .any e then s|||2^e.on|||iY.getD e.on 0 else s) 0
def DO:List Oper->List Nat->List Nat
  |[],eF=>eF
  |o::r,eF=>DO r (eF++[US eF o])
def xG(iY:List Nat)(i:cd):List cd->List (Operand×Operand)
  |[]=>[]
  |k::r=>(if(iY.getD i.bb 0).testBit k.bb then[]else sN k i)++xG iY i r
def Qd(iY:List Nat)(i:cd):List cd->List Nat->Bool
  |[],_=>true
  |k::r,vh=>((iY.getD i.bb 0).testBit k.bb||tm k i vh)&&Qd iY i r (vh++k.d.toList)
def asq(ops:Array Oper)(bb:Nat)(nT:List cd):Bool:=
  match ops[bb]? with
  |some op=>op.after.toList.all λe=> !Region.binds .any e||nT.any λk=>k.bb==e.on
  |none=>false
def KS(P:Program)(ops:Array Oper)(eb:Nat)(iY:List Nat):List Nat->List cd->Option (List cd)
  |[],_=>some []
  | bb::r,nT=>match P5 P ops eb bb with
    | some o=>
      let o':cd:=⟨o.bb,o.d,o.g,o.k,xG iY o nT⟩
      if Qd iY o' nT []&&asq ops bb nT then
        match KS P ops eb iY r (o'::nT)with
        |some b4=>some (o'::b4)
        |none=>none
      else none
    |none=>none
def aqU(o:Oper):Nat:=
  match o.op with
  | .alloc _| .box _ _| .buildSlice _ _ _| .makeSlice _ _ _| .makeMap _ _=>2
  | .store _ _ _=>1
  | .convert _ _ _=>0
  | .call {callee:= .builtin .len,..}| .call {callee:= .builtin .cap,..}| .call {callee:= .builtin .min,..}| .call {callee:= .builtin .max,..}=>0
  | .call _=>1
  |_=>0
def ar3(ops:Array Oper):Nat->List Nat->List Nat->List Nat
  |0,_,eF=>eF.reverse
  | n+1,left,eF=>
    let ae6:=left.filter λi=>((ops[i]?).map λo=>o.after.all λe=> !Region.binds .any e||eF.contains e.on).getD false
    match(ae6.find? λi=>((ops[i]?).map aqU).getD 0==0).or ((ae6.find? λi=>((ops[i]?).map aqU).getD 0==1).or ae6.head?)with
    |some i=>ar3 ops n (left.filter (· !=i)) (i::eF)
    |none=>eF.reverse
def BO:List Nat->Bool
  |[]=>true
  |x::l=> !l.contains x&&BO l
def aeO(n:Nat)(l:List Nat):Bool:=decide (l.length=n)&&BO l&&(l.all λi=>decide (i<n))&&(List.range n).all λi=>l.contains i
def aLg:Operand->Operand->Bool
  | .tmp a,.tmp b=>a==b
  |_,_=>false
def ar7(l:List Oper)(x:Operand):Operand:=
  match x with
  | .tmp t=>(match l.find? (λo=>o.dst==some t)with
    | some o=>(match o.op with
      | .move y=>y
      | .assign y=>y
      |_=>x)
    |none=>x)
  |_=>x
def apK(l:List Oper):List Oper->Bool
  |[]=>false
  | o ::r=>(match o.op with
      | .call c=>(match c.callee,c.args.toList with
        | .builtin .append,x::_=>r.any λp=>match p.op with
          | .call eH=>(match eH.callee with
            | .builtin _=>false
            |_=>eH.args.toList.any λy=>aLg (ar7 l x) (ar7 l y))
          |_=>false
        |_,_=>false)
      |_=>false)||apK l r
def K4:List cd->Option (List cd×cd×List cd)
  |[]=>none
  | o::r=>match o.k with
    | .app _ _ _ _=>some ([],o,r)
    |_=>(K4 r).map λ(a,b,c)=>(o::a,b,c)
def ah1(iY:List Nat)(n:Nat):Bool:=(List.range n).all λj=>(List.range j).all λi=>(iY.getD j 0).testBit i
def asj(ops:Array Oper):Bool:=(List.range ops.size).all λj=>match ops[j]? with
  |some o=>o.after.toList.all λe=> !Region.binds .any e||decide (e.on<j)
  |none=>false
def WY(P:Program)(eb:Nat)(ops:Array Oper)(vm:Bool):Option J:=
  if apK ops.toList ops.toList&&(!vm||(asj ops&&ah1 (DO ops.toList []) ops.size))then
    (match Ht P ops eb (List.range ops.size)with
    |some L=>(K4 L).map λ(a,b,c)=> .w1 a b c
    |none=>none)
  else none
def P6(P:Program)(eb:Nat)(ops:Array Oper):Bool->Option J
  | false=>match Ht P ops eb (List.range ops.size)with
    |some l=>some (.G l)
    |none=>none
  | true=>
    let order:=ar3 ops ops.size (List.range ops.size) []
    if aeO ops.size order then
      match KS P ops eb (DO ops.toList []) order []with
      |some l=>some (.G l)
      |none=>none
    else none
def uv(P:Program)(eb:Nat):Code->Option J
  | .skip=>some .skip
  | .region _ ops vm=>match WY P eb ops vm with
    |some c=>some c
    |none=>P6 P eb ops vm
  | .seq a b=>match uv P eb a,uv P eb b with
    |some x,some y=>some (.D x y)
    |_,_=>none
  | .cond c a b=>match uv P eb a,uv P eb b with
    |some x,some y=>if er c then some (.a8 c x y)else none
    |_,_=>none
  | .block id c=>match uv P eb c with
    |some x=>some (.block id x)
    |none=>none
  | .loop c=>match uv P eb c with
    |some x=>some (.loop x)
    |none=>none
  | .exit id=>some (.bw id)
  | .ret=>some .aT
  |_=>none
def AD(P:Program)(eb:Nat):List ResultVar->Option (List nD)
  |[]=>some []
  | .tmp t::r=>match AD P eb r with
    |some l=>if t<eb then some (.bq t::l)else none
    |none=>none
  | .cell a t::r=>match sa P t,mK P t,AD P eb r with
    |some df,some n,some l=>if a<eb then some (.h8 a df n::l)else none
    |_,_,_=>none
def cO(P:Program)(f:Nat):Option cR:=
  match P.funcs[f]? with
  | some fn=>if fn.name== "runtime.NumGoroutine" then none else match fn.body with
    | some c=>match uv P fn.ntmps c,AD P fn.ntmps fn.results.toList with
      |some b,some bf=>some ⟨fn.ntmps,bf,b⟩
      |_,_=>none
    |none=>none
  |none=>none
noncomputable def lA(P:Program):Nat->Callee
  |0,_,_,_=>none
  | n+1,f,args,m=>match cO P f with
    | some z=>if args.length<=z.eb then
        (match fx (lA P n) n z.body (eX args) m with
        |some (.bw _,_,_)=>none
        |some (_,ae,N)=>if nU N ae z.rm then some (oq N ae z.rm,N)else none
        |none=>none)
      else none
    |none=>none
open Go Go.RowKit
structure xA where
  c:Nat
  o:Nat
  n:Nat
abbrev fC:=Nat->Option xA
inductive eY(ak:fC):Value->Value->Prop
  |dc {v:Value} (h:fy v=true):eY ak v v
  |cb {b off:Nat} {l:xA} (h:ak b=some l):eY ak (.pointer (some ⟨b,off,none⟩)) (.pointer (some ⟨l.c,l.o+off,none⟩))
  | slice {b off len O cap:Nat} {cI:Addr} {l:xA} (h:ak b=some l) (av:(cap=0/\len=0)\/(cI=⟨l.c,l.o+off,none⟩/\off+cap*O<=l.n)) (aE:len<=cap) (aN:cap<=maxLen):
      eY ak (.slice (some ⟨b,off,none⟩) len O) (.slice (some cI) len cap)
  |agg {xs ys:Array Value} (M:xs.size=ys.size) (h: ∀(i:Nat) (x y:Value),xs[i]?=some x->ys[i]?=some y->eY ak x y) (B: ∀x∈xs.toList,au x=true):eY ak (.agg xs) (.agg ys)
  |tuple {xs ys:Array Value} (M:xs.size=ys.size) (h: ∀(i:Nat) (x y:Value),xs[i]?=some x->ys[i]?=some y->eY ak x y):eY ak (.tuple xs) (.tuple ys)
  | func {fn:Fn} {xs ys cs ds:Array Value} (M:xs.size=ys.size) (h: ∀(i:Nat) (x y:Value),xs[i]?=some x->ys[i]?=some y->eY ak x y)
      (mV:cs.size=ds.size) (H: ∀(i:Nat) (x y:Value),cs[i]?=some x->ds[i]?=some y->eY ak x y):eY ak (.func fn xs cs) (.func fn ys ds)
  |iface {t:TypeId} {v b2:Value} (h:eY ak v b2):eY ak (.iface t v) (.iface t b2)
  |map {b:Nat} {l:xA} (h:ak b=some l):eY ak (.map (some b)) (.map (some l.c))
def hM(ak dw:fC):Prop:= ∀b l,ak b=some l->dw b=some l
theorem hM.refl(ak:fC):hM ak ak:= λ_ _ h=>h
theorem hM.trans{a b c:fC}(h:hM a b)(b6:hM b c):hM a c:= λx l F=>b6 x l (h x l F)
theorem eY.aD{ak dw:fC}(fM:hM ak dw){v b2:Value}(h:eY ak v b2):eY dw v b2:=by
  induction h with
  |dc h=>exact .dc h
  |cb h=>exact .cb (fM _ _ h)
  |slice h av aE aN=>exact .slice (fM _ _ h) av aE aN
  |agg M _ B cB=>exact .agg M cB B
  |tuple M _ cB=>exact .tuple M cB
  |func M _ mV _ cB Zj=>exact .func M cB mV Zj
  |iface _ cB=>exact .iface cB
  |map h=>exact .map (fM _ _ h)
def dW(ak:fC)(xs ys:List Value):Prop:=xs.length=ys.length/\ ∀(i:Nat) (x y:Value),xs[i]?=some x->ys[i]?=some y->eY ak x y
theorem dW.nil(ak:fC):dW ak [] []:=⟨rfl,by intro i x y h;simp at h⟩
theorem dW.cons{ak:fC}{x y:Value}{xs ys:List Value}(h:eY ak x y)(M:dW ak xs ys):dW ak (x::xs) (y::ys):=by
  refine⟨by simp[M.1],λi a b aC K=> ?_⟩;cases i with
  |zero=>simp at aC K;subst aC;subst K;exact h
  |succ i=>exact M.2 i a b (by simpa using aC) (by simpa using K)
theorem dW.aD{ak dw:fC}(fM:hM ak dw){xs ys:List Value}(h:dW ak xs ys):dW dw xs ys:=⟨h.1,λi x y F ab=>(h.2 i x y F ab).aD fM⟩
theorem dW.agg{ak:fC}{xs ys:List Value}(h:dW ak xs ys)(B: ∀x∈xs,au x=true):eY ak (.agg xs.toArray) (.agg ys.toArray):= .agg (by simpa using h.1) (by simpa using h.2) (by simpa using B)
theorem dW.tuple{ak:fC}{xs ys:List Value}(h:dW ak xs ys):eY ak (.tuple xs.toArray) (.tuple ys.toArray):= .tuple (by simpa using h.1) (by simpa using h.2)
theorem dW.aUL{ak:fC}{xs ys:Array Value}(h:eY ak (.agg xs) (.agg ys)):dW ak xs.toList ys.toList:=by
  cases h with
  |dc h=>simp[fy]at h
  |agg M h _=>exact⟨by simpa using M,by simpa using h⟩
theorem dW.uq{ak:fC}{a b c d:List Value}(h:dW ak a b)(b6:dW ak c d):dW ak (a++c) (b++d):=by
  refine⟨by simp[h.1,b6.1],λi x y F ab=> ?_⟩;rw[Hm]at F ab;rw[<-h.1]at ab;split at F
  · rename_i ag;rw[if_pos ag]at ab;exact h.2 _ _ _ F ab
  · rename_i ag;rw[if_neg ag]at ab;exact b6.2 _ _ _ F ab
theorem dW.drop{ak:fC}{a b:List Value}(h:dW ak a b)(n:Nat):dW ak (a.drop n) (b.drop n):=
  ⟨by simp[h.1],λi x y F ab=>h.2 (n+i) x y (by simpa using F) (by simpa using ab)⟩
theorem dW.take{ak:fC}{a b:List Value}(h:dW ak a b)(n:Nat):dW ak (a.take n) (b.take n):=by
  refine⟨by simp[h.1],λi x y F ab=> ?_⟩;rw[se]at F ab;split at F
  · rename_i ag;rw[if_pos ag]at ab;exact h.2 _ _ _ F ab
  · cases F
theorem dW.set{ak:fC}{a b:List Value}(h:dW ak a b)(n:Nat){x y:Value}(S:eY ak x y):dW ak (a.set n x) (b.set n y):=by
  refine⟨by simp[h.1],λi aG v F ab=> ?_⟩;rw[EA]at F ab;rw[<-h.1]at ab;split at F
  · rename_i ag;rw[if_pos ag]at ab;split at F
    · rename_i H;rw[if_pos H]at ab;simp at F ab;subst F;subst ab;exact S
    · cases F
  · rename_i ag;rw[if_neg ag]at ab;exact h.2 _ _ _ F ab
theorem dW.ku{ak:fC}: ∀{dh fl:List Value} {a b:List Value} (off:Nat),dW ak a b->dW ak dh fl->dW ak (ku a off dh) (ku b off fl)
  |[],[],_,_,_,h,_=>h
  |[],aG::fl,_,_,_,_,H=>by simp[dW]at H
  |v::dh,[],_,_,_,_,H=>by simp[dW]at H
  | v::dh,aG::fl,a,b,off,h,H=>by simp only[Go.DI.ku];exact dW.ku (off+1) (h.set off (H.2 0 v aG rfl rfl)) ⟨by simpa using H.1,λi x y F ab=>H.2 (i+1) x y (by simpa using F) (by simpa using ab)⟩
theorem dW.U{ak:fC}{a b:List Value}(h:dW ak a b){i:Nat}{x:Value}(F:a[i]?=some x): ∃y,b[i]?=some y/\eY ak x y:=by have ag:i<a.length:=(dg.1 F).1;rw[h.1]at ag;exact⟨b[i],c0 ag,h.2 i x _ F (c0 ag)⟩
theorem dW.JD{ak:fC}{α:Type}(f g:α->Value): ∀(l:List α),(∀x∈l,eY ak (f x) (g x))->dW ak (l.map f) (l.map g)
  |[],_=>dW.nil ak
  |x::l,h=>dW.cons (h x (by simp)) (dW.JD f g l λy ab=>h y (by simp[ab]))
theorem dW.dc(ak:fC){cs:List Value}(h:cs.all fy=true):dW ak cs cs:=by refine⟨rfl,λi x y F ab=> ?_⟩;rw[F]at ab;cases ab;exact .dc (hJ.1 h x (fT F))
theorem HI{v:Value}(h:fy v=true):au v=true:=by cases v<;>simp_all [fy,Go.DI.au]
theorem eY.o6(ak:fC){v:Value}(h:o6 v=true):eY ak v v:=by
  unfold Go.DI.o6 at h;split at h
  · rename_i cs;have:=dW.agg (dW.dc ak h) (λv S=>HI (hJ.1 h v S));simpa using this
  · rename_i cs;have:=dW.tuple (dW.dc ak h);simpa using this
  · exact .dc h
theorem eY.undef(ak:fC):eY ak undef undef:=dW.tuple (dW.nil ak)
theorem eY.au{ak:fC}{v b2:Value}(h:eY ak v b2):au b2=au v:=by cases h<;>simp[Go.DI.au]
theorem ag8{ak:fC}{v b2:Value}(h:eY ak v b2):dW ak (ao v) b2.cells.toList:=by
  cases h with
  |agg M h _=>exact⟨by simpa[ao,Value.cells]using M,by simpa[ao,Value.cells]using h⟩
  | dc h=>cases v<;>simp[fy]at h<;>exact dW.cons (.dc (by simp[fy,h])) (dW.nil ak)
  |cb h=>exact dW.cons (.cb h) (dW.nil ak)
  |slice h av aE aN=>exact dW.cons (.slice h av aE aN) (dW.nil ak)
  |tuple M h=>exact dW.cons (.tuple M h) (dW.nil ak)
  |func M h mV H=>exact dW.cons (.func M h mV H) (dW.nil ak)
  |iface h=>exact dW.cons (.iface h) (dW.nil ak)
  |map h=>exact dW.cons (.map h) (dW.nil ak)
theorem ag7{ak:fC}{v b2:Value}(h:eY ak v b2)(av:aB v=true): ∀x∈ao v,au x=true:=by
  intro x F;cases h with
  |agg M h B=>exact B x F
  |dc h=>cases v<;>simp[fy,ao]at h F<;>subst F<;>rfl
  |cb h=>simp[ao]at F;subst F;rfl
  |slice h av aE aN=>simp[ao]at F;subst F;rfl
  |tuple M h=>simp[aB]at av
  |func M h mV H=>simp[ao]at F;subst F;rfl
  |iface h=>simp[ao]at F;subst F;rfl
  |map h=>simp[ao]at F;subst F;rfl
theorem eY.auj{ak:fC}{xs:Array Value}{v:Value}(h:eY ak (.agg xs) v): ∀x∈xs.toList,Go.DI.au x=true:=by
  cases h with
  |dc h=>simp[fy]at h
  |agg M h B=>exact B
theorem eY.qs{ak:fC}{k:IntKind}{n:Int}{v:Value}(h:eY ak (.int k n) v):v= .int k n:=by cases h;rfl
theorem eY.uN{ak:fC}{b:Bool}{v:Value}(h:eY ak (.bool b) v):v= .bool b:=by cases h;rfl
theorem eY.zp{ak:fC}{s:ByteArray}{v:Value}(h:eY ak (.string s) v):v= .string s:=by cases h;rfl
theorem eY.wQ{ak:fC}{a:Addr}{v:Value}(h:eY ak (.pointer (some a)) v): ∃l,ak a.block=some l/\a.spot=none/\v= .pointer (some ⟨l.c,l.o+a.off,none⟩):=by
  cases h with
  |dc h=>simp[fy]at h
  |cb h=>exact⟨_,h,rfl,rfl⟩
theorem eY.rU{ak:fC}{a:Addr}{len O:Nat}{v:Value}(h:eY ak (.slice (some a) len O) v):
    ∃l cI cap,ak a.block=some l/\a.spot=none/\v= .slice (some cI) len cap/\((cap=0/\len=0)\/(cI=⟨l.c,l.o+a.off,none⟩/\a.off+cap*O<=l.n))/\len<=cap/\cap<=maxLen:=by
  cases h with
  |dc h=>simp[fy]at h
  |slice h av aE aN=>exact⟨_,_,_,h,rfl,rfl,av,aE,aN⟩
theorem eY.wP{ak:fC}{xs:Array Value}{v:Value}(h:eY ak (.agg xs) v): ∃ys,v= .agg ys/\dW ak xs.toList ys.toList:=by
  cases h with
  |dc h=>simp[fy]at h
  |agg M h _=>exact⟨_,rfl,by simpa using M,by simpa using h⟩
theorem eY.Iv{ak:fC}{xs:Array Value}{v:Value}(h:eY ak (.tuple xs) v): ∃ys,v= .tuple ys/\dW ak xs.toList ys.toList:=by
  cases h with
  |dc h=>simp[fy]at h
  |tuple M h=>exact⟨_,rfl,by simpa using M,by simpa using h⟩
theorem eY.Iu{ak:fC}{fn:Fn}{xs cs:Array Value}{v:Value}(h:eY ak (.func fn xs cs) v): ∃ys ds,v= .func fn ys ds/\dW ak xs.toList ys.toList/\dW ak cs.toList ds.toList:=by
  cases h with
  |dc h=>simp[fy]at h
  |func M h mV H=>exact⟨_,_,rfl,⟨by simpa using M,by simpa using h⟩,by simpa using mV,by simpa using H⟩
theorem eY.Ru{ak:fC}{t:TypeId}{x v:Value}(h:eY ak (.iface t x) v): ∃y,v= .iface t y/\eY ak x y:=by
  cases h with
  |dc h=>simp[fy]at h
  |iface h=>exact⟨_,rfl,h⟩
theorem eY.Mu{ak:fC}{b:Nat}{v:Value}(h:eY ak (.map (some b)) v): ∃l,ak b=some l/\v= .map (some l.c):=by
  cases h with
  |dc h=>simp[fy]at h
  |map h=>exact⟨_,h,rfl⟩
theorem eY.kx{ak:fC}{v b2:Value}(h:eY ak v b2)(bs:fy v=true):b2=v:=by cases h<;>first|rfl|simp[fy]at bs
structure h2(ak:fC)(eb:Nat)(u:aM)(a:Act):Prop where
  size:a.tmps.size=eb
  defers:a.defers=[]
  vV: ∀t,eY ak (u t) (a.tmps.getD t undef)
theorem h2.aD{ak dw:fC}(fM:hM ak dw){eb:Nat}{u:aM}{a:Act}(h:h2 ak eb u a):h2 dw eb u a:=⟨h.size,h.defers,λt=>(h.vV t).aD fM⟩
theorem h2.ad{ak:fC}{eb:Nat}{u:aM}{a:Act}(h:h2 ak eb u a){x:Operand}(F:er x=true):eY ak (ad u x) (a.eval x):=by
  cases x with
  |tmp t=>exact h.vV t
  |const v=>exact eY.o6 ak F
  |func f=>exact .func rfl (by intro i x y h;simp at h) rfl (by intro i x y h;simp at h)
  |global g=>simp[er]at F
theorem h2.an{ak:fC}{eb:Nat}{u:aM}{a:Act}(h:h2 ak eb u a){d:Option Nat}(ay:d.all (λd=>decide (d<eb))=true){v b2:Value}(S:eY ak v b2):h2 ak eb (dO u d v) (a.put d b2):=by
  cases d with
  |none=>exact h
  | some d=>
    have nm:d<eb:=(by simpa using ay);refine⟨by simp[Act.put,h.size],h.defers,λt=> ?_⟩;simp only[dO,p4,Act.put];by_cases e:t=d
    · subst e;have:t<a.tmps.size:=(by rw[h.size];exact nm);simpa[this]using S
    · have:=h.vV t;simp only[Array.getD_eq_getD_getElem?]at this⊢;rw[Array.getElem?_setIfInBounds_ne (Ne.symm e)];simpa[e]using this
def Cl(ak:fC)(bJ:List (Value×Value))(eE:List MapEntry):Prop:=bJ.length=eE.length/\ ∀(i:Nat) e eD,bJ[i]?=some e->eE[i]?=some eD->fy e.1=true/\eD.key=e.1/\au e.2=true/\eY ak e.2 eD.val
theorem Cl.aD{ak dw:fC}(fM:hM ak dw){bJ:List (Value×Value)}{eE:List MapEntry}(h:Cl ak bJ eE):Cl dw bJ eE:=
  ⟨h.1,λi e eD B H=>by obtain⟨a,b,c,d⟩:=h.2 i e eD B H;exact⟨a,b,c,d.aD fM⟩⟩
theorem E.y8{m:E}{b:Nat}{bJ:List (Value×Value)}(h:m.fg b=some bJ):m.U b=some ⟨[],true⟩/\m.mp b=some bJ:=by
  unfold E.fg at h;split at h
  · rename_i aq;exact⟨aq,h⟩
  · cases h
theorem E.o7{m:E}{b:Nat}{bJ:List (Value×Value)}(B:m.U b=some ⟨[],true⟩)(H:m.mp b=some bJ):m.fg b=some bJ:=by unfold E.fg;rw[B];exact H
structure eW(a9:Nat)(ak:fC)(m:E)(w:World):Prop where
  qU: ∀b l,ak b=some l->b<m.next
  oO: ∀b l,ak b=some l->l.c<w.heap.size
  ph: ∀b x,m.U b=some x-> ∃l,ak b=some l/\x.cells.length<=l.n/\(∀i v,x.cells[i]?=some v->au v=true/\ ∃b2,w.cell? ⟨l.c,l.o+i,none⟩=some b2/\eY ak v b2)/\
    (x.own=true->a9<=l.c/\ ∀i,i<l.n->(w.cell? ⟨l.c,l.o+i,none⟩).isSome=true/\w.frozen? ⟨l.c,l.o+i,none⟩=false)
  vp: ∀b x b7 hY l eZ,m.U b=some x->x.own=true->m.U b7=some hY->b≠b7->ak b=some l->ak b7=some eZ->l.c≠eZ.c
  yn: ∀b bJ,m.mp b=some bJ-> ∃l,ak b=some l
  jB: ∀b bJ,m.fg b=some bJ-> ∃l eE awe,ak b=some l/\a9<=l.c/\w.heap[l.c]?=some (.map eE awe)/\Cl ak bJ eE.toList
theorem E.aO{m:E}{b:Nat}{x:fV}(h:m.U b=some x):b<m.next:=by
  unfold E.U at h;split at h
  · assumption
  · cases h
theorem E.qg(m:E)(b b7:Nat)(x:Option fV):(m.an b x).U b7=if b7=b then(if b<m.next then x else none)else m.U b7:=by
  unfold E.U E.an;by_cases h:b7=b
  · subst h;simp
  · simp[h]
theorem E.gm(m:E)(k b:Nat):(m.bx k).U b=m.U b:=by
  unfold E.U E.bx;by_cases h:b<m.next
  · simp[h,nz h (Nat.le_add_right _ _)]
  · simp[h]
theorem E.aq1(m:E)(b:Nat)(x:Option fV):(m.an b x).next=m.next:=rfl
theorem E.xD(m:E)(k:Nat):(m.bx k).next=m.next+k:=rfl
theorem eW.bx{a9:Nat}{ak:fC}{m:E}{w:World}(h:eW a9 ak m w)(k:Nat):eW a9 ak (m.bx k) w:=
  ⟨λb l K=>nz (h.qU b l K) (by simp[E.xD]),h.oO,λb x F=>h.ph b x (by rwa [E.gm]at F),
   λb x b7 hY l eZ B H af=>h.vp b x b7 hY l eZ (by rwa [E.gm]at B) H (by rwa [E.gm]at af),
   h.yn,λb bJ K=>by obtain⟨aj,ba⟩:=E.y8 K;rw[E.gm]at aj;exact h.jB b bJ (E.o7 aj ba)⟩
theorem eW.asU{a9:Nat}{ak:fC}{m:E}{w ee:World}(h:eW a9 ak m w)(a6:ee.heap=w.heap):eW a9 ak m ee:=by
  have aK: ∀a,ee.cell? a=w.cell? a:= λa=>by simp[World.cell?,a6]
  have bs: ∀a,ee.frozen? a=w.frozen? a:= λa=>by simp[World.frozen?,a6]
  exact⟨h.qU,by rw[a6];exact h.oO,λb x F=>by simpa only[aK,bs]using h.ph b x F,h.vp,h.yn,λb bJ K=>by rw[a6];exact h.jB b bJ K⟩
def ld(P:Program)(o:Oper)(a:Act)(w:World)(v:Value)(ee:World):Prop:=
  (execOp a.eval o).run P w= .ok (.value v) ee\/((execOp a.eval o).run P w= .ok .skip ee/\v=undef)
section
variable {P:Program} {o:Oper} {a:Act} {w:World}
theorem aMW{x:Operand}(cw:o.op= .move x):ld P o a w (a.eval x) w:= .inl (by simp[execOp,cw])
theorem aMG{x:Operand}(cw:o.op= .assign x):ld P o a w (a.eval x) w:= .inl (by simp[execOp,cw])
theorem aMY{c x y:Operand}{b:Bool}(cw:o.op= .pick c x y)(aK:a.eval c= .bool b):ld P o a w (if b then a.eval x else a.eval y) w:=
  .inl (by simp[execOp,cw,aK,asBool])
theorem aMX{x:Operand}(cw:o.op= .nilCheck x)(F:Gj (a.eval x)=true):ld P o a w (a.eval x) w:=by
  refine .inl ?_;simp only[execOp,cw];generalize a.eval x=v at F;cases v<;>simp_all [Gj]
  · rename_i p;cases p<;>simp_all
  · rename_i fn _ _;cases fn<;>simp_all
theorem Pr{op:BinOp}{t Ep:TypeId}{x y:Operand}{v:Value}(cw:o.op= .binOp op t x y Ep)(aq:(eqGuard op t x y (a.eval x) (a.eval y)).run P w= .ok () w)
    (h:(binOp op t (a.eval x) (a.eval y)).run P w= .ok v w):ld P o a w v w:=
  .inl (by simp[execOp,cw,aq,h])
theorem aM1{op:UnOp}{t:TypeId}{x:Operand}(cw:o.op= .unOp op t x)(F:Ca op (a.eval x)=true):ld P o a w (G9 op (a.eval x)) w:=by refine .inl ?_;simp only[execOp,cw];generalize a.eval x=v at F;cases op<;>cases v<;>simp_all [Ca,G9,Op.unary,Op.intArith]
theorem aMN{x:Operand}{i:Nat}{dh:Array Value}(cw:o.op= .extract x i)(F:a.eval x= .tuple dh)(ag:i<dh.size):ld P o a w (Ej (a.eval x) i) w:=by refine .inl ?_;simp[execOp,cw,F,Instr.extract,ag,Ej]
theorem aMK{s d:TypeId}{k eK bM:IntKind}{n:Int}{x:Operand}(cw:o.op= .convert s d x)(M:P.underlying s=some (.int eK))(ay:P.underlying d=some (.int k))(F:a.eval x= .int bM n):
    ld P o a w (.int k (k.wrap n)) w:=by
  refine .inl ?_;simp[execOp,cw,F,convert,underlying,M,ay,Conv.intToInt]
theorem aML{s d:TypeId}{b:ByteArray}{x:Operand}(cw:o.op= .convert s d x)(M:P.underlying s=some .string)(ay:P.underlying d=some .string)(F:a.eval x= .string b):
    ld P o a w (.string b) w:=by
  refine .inl ?_;simp[execOp,cw,F,convert,underlying,M,ay]
theorem aMV{fn:Fn}{x y:Array Operand}(cw:o.op= .makeFunc fn x y):ld P o a w (.func fn (x.map a.eval) (y.map a.eval)) w:=
  .inl (by simp[execOp,cw,Instr.makeFunc])
theorem aMO{s:TypeId}{x:Operand}{i:Nat}{gH:Array Field}{f:Field}{cu:TypeInfo}{c off:Nat}(cw:o.op= .fieldAddr s x i)(M:P.underlying s=some (.struct gH))(bs:gH[i]?=some f)
    (ag:P.info? f.type=some cu) (av:0<cu.size) (F:a.eval x= .pointer (some ⟨c,off,none⟩)):ld P o a w (.pointer (some ⟨c,off+f.offset,none⟩)) w:=by
  refine .inl ?_;have:cu.size≠0:=by omega
  simp[execOp,cw,F,Instr.fieldAt,underlying,M,bs,Instr.sureAddr,fieldPlace,sizeOf,typeInfo,ag,this,Addr.add]
theorem aMQ{t e:TypeId}{x i:Operand}{cu:TypeInfo}{c off len cap:Nat}{k:IntKind}{n:Int}(cw:o.op= .indexAddr t x i)(bm:P.underlying t=some (.slice e))
    (ag:P.info? e=some cu) (F:a.eval x= .slice (some ⟨c,off,none⟩) len cap) (av:a.eval i= .int k n) (bH:0<=n) (B:n<(len:Int)):
    ld P o a w (.pointer (some ⟨c,off+n.toNat*cu.size,none⟩)) w:=by
  refine .inl ?_;simp[execOp,cw,F,av,Instr.indexAt,asIntOf,underlying,bm,sizeOf,typeInfo,ag,bH,B,Addr.add]
theorem aMR{t e:TypeId}{x i:Operand}{cu:TypeInfo}{c off len:Nat}{k:IntKind}{n:Int}(cw:o.op= .indexAddr t x i)(bm:P.underlying t=some (.array len e))
    (ag:P.info? e=some cu) (F:a.eval x= .pointer (some ⟨c,off,none⟩)) (av:a.eval i= .int k n) (bH:0<=n) (B:n<(len:Int)):
    ld P o a w (.pointer (some ⟨c,off+n.toNat*cu.size,none⟩)) w:=by
  refine .inl ?_;simp[execOp,cw,F,av,Instr.indexAt,asIntOf,underlying,bm,sizeOf,typeInfo,ag,bH,B,Addr.add,Instr.sureAddr]
theorem aMS{t:TypeId}{x i:Operand}{s:ByteArray}{k:IntKind}{n:Int}(cw:o.op= .index t x i)(bm:P.underlying t=some .string)
    (F:a.eval x= .string s) (av:a.eval i= .int k n) (bH:0<=n) (B:n<(s.size:Int)):
    ld P o a w (.int .u8 ((s.data.toList.getD n.toNat 0).toNat:Nat)) w:=by
  refine .inl ?_;have H:n.toNat<s.size:=by omega
  have af:s[n.toNat]?=some (s.data.toList.getD n.toNat 0):=by rw[getElem?_pos s n.toNat H];have:n.toNat<s.data.size:=H;simp only[mr,Pu,Hk this,Hf];rfl
  simp[execOp,cw,F,av,Instr.index,asIntOf,underlying,bm,bH,af]
theorem aMT{c:Call}{x:Operand}{t:TypeId}{s:ByteArray}(cw:o.op= .call c)(aK:c.callee= .builtin .len)(aC:c.args.toList=[x])(e6:c.argTypes.toList=[t])
    (bm:P.underlying t=some .string) (F:a.eval x= .string s):ld P o a w (.int .i64 s.size) w:=by
  refine .inl ?_;have n8:c.args= #[x]:=by rw[<-wh (xs:=c.args),aC]
  have LP:c.argTypes= #[t]:=by rw[<-wh (xs:=c.argTypes),e6]
  simp[execOp,cw,resolve,aK,n8,LP,invoke,builtin,Builtin.len_,underlying,bm,F,goInt]
theorem aMU{c:Call}{x:Operand}{t e:TypeId}{p:Option Addr}{l cap:Nat}(cw:o.op= .call c)(aK:c.callee= .builtin .len)(aC:c.args.toList=[x])(e6:c.argTypes.toList=[t])
    (bm:P.underlying t=some (.slice e)) (F:a.eval x= .slice p l cap):ld P o a w (.int .i64 l) w:=by
  refine .inl ?_;have n8:c.args= #[x]:=by rw[<-wh (xs:=c.args),aC]
  have LP:c.argTypes= #[t]:=by rw[<-wh (xs:=c.argTypes),e6]
  simp[execOp,cw,resolve,aK,n8,LP,invoke,builtin,Builtin.len_,underlying,bm,F,goInt]
end
section
variable {P:Program} {w:World}
theorem aKm{t:TypeId}(d:Nat)(h:P.underlying t=some .bool)(a b:Bool):(Op.equalIn (d+1) t (.bool a) (.bool b)).run P w= .ok (a==b) w:=by simp[Op.equalIn,run_underlying h]
theorem aKo{t e:TypeId}(d:Nat)(h:P.underlying t=some (.pointer e))(p q:Option Addr)(tB:p=none\/q=none):(Op.equalIn (d+1) t (.pointer p) (.pointer q)).run P w= .ok (p.isNone&&q.isNone) w:=by
  rcases tB with rfl|rfl
  · simp[Op.equalIn,run_underlying h]
  · cases p<;>simp[Op.equalIn,run_underlying h]
theorem aKp{t e:TypeId}(d:Nat)(h:P.underlying t=some (.slice e))(p q:Option Addr)(l c eZ eH:Nat)(tB:p=none\/q=none):(Op.equalIn (d+1) t (.slice p l c) (.slice q eZ eH)).run P w= .ok (p.isNone&&q.isNone) w:=by
  rcases tB with rfl|rfl
  · simp[Op.equalIn,run_underlying h]
  · cases p<;>simp[Op.equalIn,run_underlying h]
theorem aKn{t:TypeId}{a1i lR:Array TypeId}{Ce:Bool}(d:Nat)(h:P.underlying t=some (.func a1i lR Ce))(x y:Value)
    (x4:(x= .nilFunc/\y= .nilFunc)\/(x= .nilFunc/\ ∃a b c,y= .func a b c)\/(y= .nilFunc/\ ∃a b c,x= .func a b c)):(Op.equalIn (d+1) t x y).run P w= .ok (tH x&&tH y) w:=by
  rcases x4 with⟨rfl,rfl⟩|⟨rfl,_,_,_,rfl⟩|⟨rfl,_,_,_,rfl⟩<;>simp[Op.equalIn,run_underlying h,tH]
theorem aKq{t:TypeId}(h:P.underlying t=some .bool)(a b:Bool):(Op.equal t (.bool a) (.bool b)).run P w= .ok (a==b) w:=aKm 9999 h a b
theorem arC{t e:TypeId}(h:P.underlying t=some (.pointer e))(p q:Option Addr)(tB:p=none\/q=none):(Op.equal t (.pointer p) (.pointer q)).run P w= .ok (p.isNone&&q.isNone) w:=aKo 9999 h p q tB
theorem arD{t e:TypeId}(h:P.underlying t=some (.slice e))(p q:Option Addr)(l c eZ eH:Nat)(tB:p=none\/q=none):(Op.equal t (.slice p l c) (.slice q eZ eH)).run P w= .ok (p.isNone&&q.isNone) w:=aKp 9999 h p q l c eZ eH tB
theorem afq{t:TypeId}{a1i lR:Array TypeId}{Ce:Bool}(h:P.underlying t=some (.func a1i lR Ce))(x y:Value)
    (x4:(x= .nilFunc/\y= .nilFunc)\/(x= .nilFunc/\ ∃a b c,y= .func a b c)\/(y= .nilFunc/\ ∃a b c,x= .func a b c)):(Op.equal t x y).run P w= .ok (tH x&&tH y) w:=aKn 9999 h x y x4
theorem aLZ{t:TypeId}(h:sb P t= .bool):P.underlying t=some .bool:=by unfold sb at h;split at h<;>first|assumption|cases h
theorem asv{t:TypeId}(h:sb P t= .cb): ∃e,P.underlying t=some (.pointer e):=by unfold sb at h;split at h<;>first|exact⟨_,by assumption⟩|cases h
theorem asw{t:TypeId}(h:sb P t= .slice): ∃e,P.underlying t=some (.slice e):=by unfold sb at h;split at h<;>first|exact⟨_,by assumption⟩|cases h
theorem agY{t:TypeId}(h:sb P t= .fn): ∃a b c,P.underlying t=some (.func a b c):=by unfold sb at h;split at h<;>first|exact⟨_,_,_,by assumption⟩|cases h
theorem Vw{op:BinOp}{t:TypeId}{x y:Operand}{aG v:Value}(B:aG≠ .nilIface)(H:uO aG=false):(eqGuard op t x y aG v).run P w= .ok () w:=by
  unfold eqGuard;by_cases cw:op= .eql\/op= .neq
  · rcases cw with rfl|rfl<;>simp<;>cases aG<;>simp_all [uO]
  · cases op<;>simp_all
theorem aKr{op:BinOp}{t:TypeId}{k gI:IntKind}{a b:Int}(h:Rt op k gI a b=true):(binOp op t (.int k a) (.int gI b)).run P w= .ok (It op k a b) w:=by cases op<;>simp_all [Rt,binOp,It,Op.intArith,Op.intDiv,Op.intBits,Op.intCmp,Op.shift]<;>first|rfl|(intro b6;omega)
theorem toList_beq(a b:ByteArray):(a.toList==b.toList)=decide (a=b):=by
  rw[Bool.eq_iff_iff];simp only[ByteArray.toList_eq,beq_iff_eq,fU];constructor
  · intro h;cases a;cases b;simpa using h
  · rintro rfl;rfl
theorem aKu{op:BinOp}{t:TypeId}{a b:ByteArray}(h:Pc op a b=true):(binOp op t (.string a) (.string b)).run P w= .ok (Eh op a b) w:=by have e:=toList_beq a b;cases op<;>simp_all [Pc,binOp,Eh,Op.stringOp];omega
theorem Cs{op:BinOp}(pR:op= .eql\/op= .neq){t:TypeId}{aG v:Value}(ar:gi aG=false)(M:nq aG=false)(x2:DG aG=true->gi v=false){r:Bool}(bs:(∀k a b,aG≠ .complex k a b)/\ ∀k a,aG≠ .float k a)
    (h:(Op.equal t aG v).run P w= .ok r w):(binOp op t aG v).run P w= .ok (.bool (if op= .eql then r else !r)) w:=by
  rcases pR with rfl|rfl<;>cases aG<;>simp_all [gi,nq,binOp]
theorem arB{op:BinOp}{t:TypeId}{ak:fC}{aG v kB b2:Value}(pR:op= .eql\/op= .neq)(aA:xJ (sb P t) aG v=true)(ar:eY ak aG kB)(S:eY ak v b2):
    (binOp op t kB b2).run P w= .ok (ng op aG v) w/\kB≠ .nilIface/\uO kB=false:=by
  unfold xJ at aA;split at aA
  · rename_i e6;have:=ar.uN;subst this;have:=S.uN;subst this;refine⟨?_,by simp,rfl⟩;rw[Cs pR rfl rfl (by simp[DG]) (by simp) (aKq (aLZ e6) _ _)];rcases pR with rfl|rfl<;>simp[ng,rI]
  · rename_i p e6;obtain⟨e,a2⟩:=asv e6;have:=ar.kx rfl;subst this;have FG: ∃q,b2= .pointer q/\q.isNone=p.isNone:=by
      cases p with
      |none=>exact⟨none,S.kx rfl,rfl⟩
      |some a=>obtain⟨l,_,_,h⟩:=S.wQ;exact⟨_,h,rfl⟩
    obtain⟨q,rfl,bz⟩:=FG;refine⟨?_,by simp,rfl⟩;rw[Cs pR rfl rfl (by simp[DG]) (by simp) (arC a2 _ _ (.inl rfl))];cases p<;>rcases pR with rfl|rfl<;>simp_all [ng,rI,tH]
  · rename_i p _ e6;obtain⟨e,a2⟩:=asv e6;have:=S.kx rfl;subst this;have FG: ∃q,kB= .pointer q/\q.isNone=p.isNone:=by
      cases p with
      |none=>exact⟨none,ar.kx rfl,rfl⟩
      |some a=>obtain⟨l,_,_,h⟩:=ar.wQ;exact⟨_,h,rfl⟩
    obtain⟨q,rfl,bz⟩:=FG;refine⟨?_,by simp,rfl⟩;rw[Cs pR rfl rfl (by simp[gi]) (by simp) (arC a2 _ _ (.inr rfl))];cases p<;>rcases pR with rfl|rfl<;>simp_all [ng,rI,tH]
  · rename_i fP bY p dX cN e6;obtain⟨e,a2⟩:=asw e6;have x2:kB= .slice none fP bY:=(by cases ar with|dc h=>rfl);subst x2;have FG: ∃q l c,b2= .slice q l c/\q.isNone=p.isNone:=by
      cases p with
      |none=>cases S with|dc h=>exact⟨_,_,_,rfl,rfl⟩
      |some a=>obtain⟨l,cI,cap,_,_,h,_⟩:=S.rU;exact⟨_,_,_,h,rfl⟩
    obtain⟨q,l,c,rfl,bz⟩:=FG;refine⟨?_,by simp,rfl⟩;rw[Cs pR rfl rfl (by simp[DG]) (by simp) (arD a2 _ _ _ _ _ _ (.inl rfl))];cases p<;>rcases pR with rfl|rfl<;>simp_all [ng,rI,tH]
  · rename_i p fP bY dX cN _ e6;obtain⟨e,a2⟩:=asw e6;have FG:b2= .slice none dX cN:=(by cases S with|dc h=>rfl);subst FG;have x2: ∃q l c,kB= .slice q l c/\q.isNone=p.isNone:=by
      cases p with
      |none=>cases ar with|dc h=>exact⟨_,_,_,rfl,rfl⟩
      |some a=>obtain⟨l,cI,cap,_,_,h,_⟩:=ar.rU;exact⟨_,_,_,h,rfl⟩
    obtain⟨q,l,c,rfl,bz⟩:=x2;refine⟨?_,by simp,rfl⟩;rw[Cs pR rfl rfl (by simp[DG]) (by simp) (arD a2 _ _ _ _ _ _ (.inr rfl))];cases p<;>rcases pR with rfl|rfl<;>simp_all [ng,rI,tH]
  · rename_i e6;obtain⟨a,b,c,a2⟩:=agY e6;have:=ar.kx rfl;subst this;have:=S.kx rfl;subst this;refine⟨?_,by simp,rfl⟩;rw[Cs pR rfl rfl (by simp[DG]) (by simp) (afq a2 _ _ (.inl ⟨rfl,rfl⟩))];rcases pR with rfl|rfl<;>simp[ng,rI,tH]
  · rename_i e6;obtain⟨a,b,c,a2⟩:=agY e6;have:=ar.kx rfl;subst this;obtain⟨ys,ds,rfl,_⟩:=S.Iu;refine⟨?_,by simp,rfl⟩;rw[Cs pR rfl rfl (by simp[DG]) (by simp) (afq a2 _ _ (.inr (.inl ⟨rfl,_,_,_,rfl⟩)))];rcases pR with rfl|rfl<;>simp[ng,rI,tH]
  · rename_i e6;obtain⟨a,b,c,a2⟩:=agY e6;have:=S.kx rfl;subst this;obtain⟨ys,ds,rfl,_⟩:=ar.Iu;refine⟨?_,by simp,rfl⟩;rw[Cs pR rfl rfl (by simp[DG]) (by simp) (afq a2 _ _ (.inr (.inr ⟨rfl,_,_,_,rfl⟩)))];rcases pR with rfl|rfl<;>simp[ng,rI,tH]
  · cases aA
theorem aMH{o:Oper}{a:Act}{op:BinOp}{t Ep:TypeId}{x y:Operand}{ak:fC}{aG v:Value}(cw:o.op= .binOp op t x y Ep)(F:eY ak aG (a.eval x))(ab:eY ak v (a.eval y))
    (aA:vg op (sb P t) aG v=true): ∃b2,ld P o a w b2 w/\eY ak (ng op aG v) b2:=by
  generalize kn:a.eval x=kB at F;generalize qo:a.eval y=b2 at ab;cases aG with
  | int k n=>
    cases v<;>simp only[vg]at aA
    case int gI cz=>have:=F.qs;subst this;have:=ab.qs;subst this;refine⟨It op k n cz,Pr cw (Vw (by simp[kn]) (by simp[kn,uO])) (by rw[kn,qo];exact aKr aA),?_⟩;simp only[ng];exact .dc (by cases op<;>rfl)
    all_goals(cases op<;>first|cases aA|(cases aK:sb P t<;>simp[aK,xJ]at aA))
  | string s=>
    cases v<;>simp only[vg]at aA
    case string iu=>have:=F.zp;subst this;have:=ab.zp;subst this;refine⟨Eh op s iu,Pr cw (Vw (by simp[kn]) (by simp[kn,uO])) (by rw[kn,qo];exact aKu aA),?_⟩;simp only[ng];exact .dc (by cases op<;>simp_all [Eh,Pc,fy])
    all_goals(cases op<;>first|cases aA|(cases aK:sb P t<;>simp[aK,xJ]at aA))
  | _=>
    simp only[vg]at aA;have pR:op= .eql\/op= .neq:=(by cases op<;>first|exact .inl rfl|exact .inr rfl|cases aA);have Mb:=aA;rcases pR with rfl|rfl
    · obtain⟨B,H,af⟩:=arB (w:=w) (.inl rfl) Mb F ab;exact⟨_,Pr cw (Vw (by rw[kn];exact H) (by rw[kn];exact af)) (by rw[kn,qo];exact B),.dc (by simp[ng,fy])⟩
    · obtain⟨B,H,af⟩:=arB (w:=w) (.inr rfl) Mb F ab;exact⟨_,Pr cw (Vw (by rw[kn];exact H) (by rw[kn];exact af)) (by rw[kn,qo];exact B),.dc (by simp[ng,fy])⟩
end
section
variable {P:Program} {w:World} {o:Oper} {a:Act}
def Ar(x:Option Value)(Xd:Nat)(n:Nat):Prop:=(x=none/\n=Xd)\/ ∃(k:IntKind) (i:Int),x=some (.int k i)/\0<=i/\i.toNat=n
theorem BZ{k:IntKind}{i:Int}{y n:Nat}{c:BoundsCode}(bH:0<=i)(B:i.toNat=n)(H:n<=y):(Instr.sliceBound (.int k i) y c).run P w= .ok n w:=by
  have:i<=(y:Int):=by omega
  simp[Instr.sliceBound,asIntOf,bH,this,B]
theorem afo{UB:Bool}{len cap l h:Nat}{cK ag:Option Value}(aE:Ar cK 0 l)(a6:Ar ag len h)(B:l<=h)(H:h<=cap):
    (Instr.sliceBounds UB len cap cK ag none).run P w= .ok (l,h,cap) w:=by
  rcases aE with⟨rfl,rfl⟩|⟨k,i,rfl,CZ,Q5⟩<;>rcases a6 with⟨rfl,rfl⟩|⟨gI,aAj,rfl,L0,L1⟩
  · simp[Instr.sliceBounds]
  · simp[Instr.sliceBounds,BZ L0 L1 H]
  · simp[Instr.sliceBounds,BZ CZ Q5 B]
  · simp[Instr.sliceBounds,BZ L0 L1 H,BZ CZ Q5 B]
theorem aM0{t:TypeId}{x:Operand}{cK ag:Option Operand}{s:ByteArray}{l h:Nat}(cw:o.op= .slice t x cK ag none)(bm:P.underlying t=some .string)(F:a.eval x= .string s)
    (aE:Ar (cK.map a.eval) 0 l) (a6:Ar (ag.map a.eval) s.size h) (B:l<=h) (H:h<=s.size):ld P o a w (.string (s.extract l h)) w:=by
  refine .inl ?_;simp[execOp,cw,F,Instr.sliceAt,Instr.slice,run_underlying bm,afo aE a6 B H]
theorem atj{t e:TypeId}{x:Operand}{cK ag:Option Operand}{p:Option Addr}{len cap:Nat}{cu:TypeInfo}{l h:Nat}(cw:o.op= .slice t x cK ag none)(bm:P.underlying t=some (.slice e))(jJ:P.info? e=some cu)
    (F:a.eval x= .slice p len cap) (aE:Ar (cK.map a.eval) 0 l) (a6:Ar (ag.map a.eval) len h) (B:l<=h) (H:h<=cap):
    ld P o a w (.slice (if cap=l then p else p.map (·.add (l*cu.size))) (h-l) (cap-l)) w:=by
  refine .inl ?_;simp[execOp,cw,F,Instr.sliceAt,Instr.slice,run_underlying bm,afo aE a6 B H,sizeOf,typeInfo,jJ]
theorem aMZ{t e:TypeId}{x:Operand}{fr:Addr}{n:Nat}{cu:TypeInfo}(cw:o.op= .slice t x none none none)(aC:P.underlying t=some (.array n e))(jJ:P.info? e=some cu)
    (F:a.eval x= .pointer (some fr)):ld P o a w (.slice (some (if n=0 then fr else fr.add (0*cu.size))) (n-0) (n-0)) w:=by
  refine .inl ?_;have K:=afo (P:=P) (w:=w) (UB:=false) (len:=n) (cap:=n) (l:=0) (h:=n) (cK:=none) (ag:=none) (.inl ⟨rfl,rfl⟩) (.inl ⟨rfl,rfl⟩) (hf _) (eB _);simp[execOp,cw,F,Instr.sliceAt,Instr.sureAddr,run_underlying aC,K,sizeOf,typeInfo,jJ]
theorem aKl{UB:Bool}{len cap l h m:Nat}{cK:Option Value}{ag fQ:Value}(aE:Ar cK 0 l)(a6: ∃(k:IntKind) (i:Int),ag= .int k i/\0<=i/\i.toNat=h)(aN: ∃(k:IntKind) (i:Int),fQ= .int k i/\0<=i/\i.toNat=m)(B:l<=h)(H:h<=m)(af:m<=cap):
    (Instr.sliceBounds UB len cap cK (some ag) (some fQ)).run P w= .ok (l,h,m) w:=by
  obtain⟨gI,aAj,rfl,L0,L1⟩:=a6;obtain⟨dL,tF,rfl,C1,zj⟩:=aN;rcases aE with⟨rfl,rfl⟩|⟨k,i,rfl,CZ,Q5⟩
  · simp[Instr.sliceBounds,BZ C1 zj af,BZ L0 L1 H]
  · simp[Instr.sliceBounds,BZ C1 zj af,BZ L0 L1 H,BZ CZ Q5 B]
theorem ati{t e:TypeId}{x ag fQ:Operand}{cK:Option Operand}{p:Option Addr}{len cap:Nat}{cu:TypeInfo}{l h m:Nat}(cw:o.op= .slice t x cK (some ag) (some fQ))(bm:P.underlying t=some (.slice e))(jJ:P.info? e=some cu)
    (F:a.eval x= .slice p len cap) (aE:Ar (cK.map a.eval) 0 l) (a6: ∃(k:IntKind) (i:Int),a.eval ag= .int k i/\0<=i/\i.toNat=h) (aN: ∃(k:IntKind) (i:Int),a.eval fQ= .int k i/\0<=i/\i.toNat=m) (B:l<=h) (H:h<=m) (af:m<=cap):
    ld P o a w (.slice (if m=l then p else p.map (·.add (l*cu.size))) (h-l) (m-l)) w:=by
  refine .inl ?_;simp[execOp,cw,F,Instr.sliceAt,Instr.slice,run_underlying bm,aKl aE a6 aN B H af,sizeOf,typeInfo,jJ]
theorem ES{ak:fC}{eb:Nat}{u:aM}(M:h2 ak eb u a){x:Option Operand}(F:JO x=true)(aA:qF u x=true)(d:Nat)(bH:0<=hT u x d):Ar (x.map a.eval) d (hT u x d).toNat:=by
  cases x with
  |none=>exact .inl ⟨rfl,by simp[hT]⟩
  | some x=>
    have aH:=M.ad (x:=x) F;simp only[qF]at aA;simp only[hT]at bH⊢;cases S:ad u x<;>simp[S,gi]at aA;rw[S]at aH;refine .inr ⟨_,_,by simp[aH.qs];exact⟨rfl,rfl⟩,?_,?_⟩
    · simpa[S,gy]using bH
    · simp[gy]
theorem aiN(off:Nat): ∀(dh:List Value) (j:Nat) (cs:Array Value),((dh.zipIdx j).foldl (λcs (c,j)=>cs.setIfInBounds (off+j) c) cs).toList=ku cs.toList (off+j) dh
  |[],_,_=>rfl
  | v::dh,j,cs=>by simp only[List.zipIdx_cons,qN,ku];rw[aiN off dh (j+1)];simp[u9]
theorem axz(off:Nat)(v:Value)(cs:Array Value):(v.cells.zipIdx.foldl (λcs (c,j)=>cs.setIfInBounds (off+j) c) cs).toList=ku cs.toList off v.cells.toList:=by have:=aiN off v.cells.toList 0 cs;simp only[Nat.add_zero]at this;rw[<-this,<-Array.foldl_toList];simp[Array.toList_zipIdx]
theorem KN: ∀(dh:List Value) (off:Nat) (cs:List Value),(ku cs off dh).length=cs.length
  |[],_,_=>rfl
  |v::dh,off,cs=>by simp only[ku];rw[KN dh];simp
theorem ahJ(p:Value->Prop): ∀(dh:List Value) (off:Nat) (cs:List Value),(∀x∈cs,p x)->(∀x∈dh,p x)-> ∀x∈ku cs off dh,p x
  |[],_,_,h,_=>h
  | v::dh,off,cs,h,H=>by
    simp only[ku];refine ahJ p dh _ _ (λx F=> ?_) (λx F=>H x (by simp[F]));rcases List.mem_or_eq_of_mem_set F with af|af
    · exact h x af
    · subst af;exact H _ (by simp)
theorem Qx{ak:fC}{eb:Nat}{u:aM}(M:h2 ak eb u a)(z1:Nat->Option (Nat×Nat)): ∀(en:List (Nat×Operand)) (jD:List (Nat×Nat×Operand)) (cs:List Value) (ds:Array Value),
    (en.length=jD.length/\ ∀(i:Nat) p q,en[i]?=some p->jD[i]?=some q->p.2=q.2.2/\er p.2=true/\z1 p.1=some (q.1,q.2.1))->
    dW ak cs ds.toList->(∀x∈cs,au x=true)->sP cs u jD=true-> ∃AK:Array Value,Instr.fill z1 ds (en.map λp=>(p.1,a.eval p.2))=some AK/\dW ak (oo cs u jD) AK.toList/\(∀x∈oo cs u jD,au x=true)
  |[],[],cs,ds,_,aH,ah,_=>⟨ds,rfl,aH,ah⟩
  |[],_::_,_,_,tB,_,_,_=>by simp at tB
  |_::_,[],_,_,tB,_,_,_=>by simp at tB
  | p::en,(bC,cq,cZ)::jD,cs,ds,tB,aH,ah,aA=>by obtain⟨aX,bg,dU⟩:=tB.2 0 p (bC,cq,cZ) rfl rfl;dsimp only at aX dU;simp only[sP,uh,bK,fU]at aA;have S:=M.ad (x:=p.2) bg;rw[aX]at S;have aK:=ag8 S;have aE:(a.eval cZ).cells.size=cq:=(by have:=aK.1;simp only[Array.length_toList]at this;rw[<-this];exact aA.1.1.2);have ay:ds.size=cs.length:=(by have:=aH.1;simp at this;exact this.symm);have Ih:dW ak (ku cs bC (ao (ad u cZ))) ((a.eval cZ).cells.zipIdx.foldl (λcs (c,j)=>cs.setIfInBounds (bC+j) c) ds).toList:=(by rw[axz];exact aH.ku _ aK);have tz: ∀x∈ku cs bC (ao (ad u cZ)),au x=true:=ahJ (λx=>au x=true) _ _ _ ah (ag7 S aA.1.1.1);obtain⟨AK,B,H,af⟩:=Qx M z1 en jD _ _ ⟨by simpa using tB.1,λi x y F ab=>tB.2 (i+1) x y (by simpa using F) (by simpa using ab)⟩ Ih tz (by have af:=aA.2;simp only[sP,KN]at af⊢;exact af);refine⟨AK,?_,by simpa only[oo]using H,by simpa only[oo]using af⟩;simp only[n0,Instr.fill,aX,dU,aE,ne_eq,not_true_eq_false,decide_false,Bool.false_or];rw[if_neg (by simp;omega)];exact B
theorem aiI{gH:Array Field}: ∀(en:List (Nat×Operand)) (jD:List (Nat×Nat×Operand)),Lg P gH en=some jD->
    en.length=jD.length/\ ∀(i:Nat) p q,en[i]?=some p->jD[i]?=some q->p.2=q.2.2/\er p.2=true/\ ∃f cu,gH[p.1]?=some f/\P.info? f.type=some cu/\q.1=f.offset/\q.2.1=cu.size
  |[],jD,h=>by simp[Lg]at h;subst h;simp
  | (j,x)::en,jD,h=>by
    simp only[Lg]at h;split at h
    · rename_i f bs;split at h
      · rename_i n bf av Mi;split at h
        · rename_i F;cases h;obtain⟨B,H⟩:=aiI en bf Mi;refine⟨by simp[B],λi p q Y bz=> ?_⟩;cases i with
          | zero=>
            simp at Y bz;subst Y;subst bz;unfold mK at av;cases ag:P.info? f.type with
            |none=>simp[ag]at av
            |some cu=>exact⟨rfl,F,f,cu,bs,ag,rfl,by simpa[ag]using av.symm⟩
          |succ i=>exact H i p q (by simpa using Y) (by simpa using bz)
        · cases h
      · cases h
    · cases h
theorem Xq{O:Nat}: ∀(en:List (Nat×Operand)) (jD:List (Nat×Nat×Operand)),EZ O en=some jD->
    en.length=jD.length/\ ∀(i:Nat) p q,en[i]?=some p->jD[i]?=some q->p.2=q.2.2/\er p.2=true/\q.1=p.1*O/\q.2.1=O
  |[],jD,h=>by simp[EZ]at h;subst h;simp
  | (j,x)::en,jD,h=>by
    simp only[EZ]at h;split at h
    · rename_i bf Mi;split at h
      · rename_i F;cases h;obtain⟨B,H⟩:=Xq en bf Mi;refine⟨by simp[B],λi p q Y bz=> ?_⟩;cases i with
        |zero=>simp at Y bz;subst Y;subst bz;exact⟨rfl,F,rfl,rfl⟩
        |succ i=>exact H i p q (by simpa using Y) (by simpa using bz)
      · cases h
    · cases h
theorem Kd{t:TypeId}{O:List Value}(h:xi P t=some O): ∃cu kW,P.info? t=some cu/\cu.zero=some kW/\kW.cells.toList=O/\O.all fy=true/\O.length=cu.size:=by
  unfold xi at h;split at h
  · rename_i cu ag;split at h
    · rename_i kW cl;simp only at h;split at h
      · rename_i aK;cases h;simp only[bK,fU]at aK;exact⟨cu,kW,ag,cl,rfl,aK.1,aK.2⟩
      · cases h
    · cases h
  · cases h
theorem v9{t:TypeId}{n:Nat}(h:mK P t=some n): ∃cu,P.info? t=some cu/\cu.size=n:=by
  unfold mK at h;cases ag:P.info? t with
  |none=>simp[ag]at h
  |some cu=>exact⟨cu,rfl,by simpa[ag]using h⟩
theorem agX{t:TypeId}{b:Bool}(h:sa P t=some b):(isAgg t).run P w= .ok b w:=by
  unfold sa at h;unfold isAgg;split at h<;>first|cases h|skip
  · rename_i ar;simp[run_underlying ar]
  · rename_i ar;simp[run_underlying ar]
  · rename_i d B H ar;simp only[Sem.run_bind,run_underlying ar,Result.andThen_ok];rfl
theorem aHn(gH:List Field)(h:gH.all (λf=>(mK P f.type).isSome)=true):
    ∃uV:List (Nat×Nat),(gH.mapM (m:=Sem) λ(f:Field)=>do pure (f.offset,<-sizeOf f.type)).run P w= .ok uV w/\ ∀i:Nat,uV[i]?=(gH[i]?).bind λ(f:Field)=>(P.info? f.type).map λcu=>(f.offset,cu.size):=by
  induction gH with
  |nil=>exact⟨[],by simp,by simp⟩
  | cons f gH cB=>
    simp only[uh,bK]at h;obtain⟨uV,B,H⟩:=cB h.2;obtain⟨n,av⟩:=Pz.1 h.1;obtain⟨cu,ag,_⟩:=v9 av;refine⟨(f.offset,cu.size)::uV,?_,λi=> ?_⟩
    · simp[List.mapM_cons,sizeOf,typeInfo,ag]at B⊢;simp[B]
    · cases i with
      |zero=>simp[ag]
      |succ i=>simpa using H i
end
end Go.DI
