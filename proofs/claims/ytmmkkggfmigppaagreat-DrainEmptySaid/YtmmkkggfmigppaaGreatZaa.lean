/-
  A part of the proof of the statement, in texts that tools of ours (wip/shrink.py, irpack.py, relax.py, minify.py, join.py, lay.py) have shortened.
-/
import Derived.Test.YtmmkkggfmigppaaGreatRows
import Derived.WalkKit
set_option linter.all false
set_option maxRecDepth 8000
set_option maxHeartbeats 16000000
namespace Go
noncomputable abbrev al:=Go.Proofs.Tryz.prog
abbrev aI:Value:= .slice none 0 0
abbrev aK:Value:= .int .i64 0
abbrev aX:= @Bool.and_eq_true
abbrev dx:= @List.getElem?_eq_getElem
abbrev ek:= @List.getElem?_eq_some_iff
abbrev eM:= @decide_eq_true_eq
abbrev eD:= @List.all_eq_true
abbrev ev:= @Nat.le_refl
abbrev hR:= @List.mem_of_getElem?
abbrev g6:= @List.mem_cons
abbrev kS:= @Int.eq_ofNat_of_zero_le
abbrev ky:= @List.take_of_length_le
abbrev hc:= @List.mem_map
abbrev iG:= @List.not_mem_nil
abbrev jR:= @Bool.false_eq_true
abbrev kx:= @List.getElem_of_mem
abbrev j7:= @List.length_append
abbrev lz:= @List.mem_append_right
abbrev ho:= @Nat.zero_le
abbrev oa:= @List.getD_eq_getElem?_getD
abbrev mb:= @List.mem_append_left
abbrev j8:= @List.length_map
abbrev kQ:= @List.mem_append
abbrev lL:= @Option.some.injEq
abbrev jv:= @Nat.le_trans
abbrev pF:= @List.length_eq_zero_iff
abbrev mI:= @List.getElem_mem
abbrev mJ:= @List.take_length
abbrev ni:= @List.length_take
abbrev pG:= @Array.toArray_toList
abbrev oW:= @Nat.lt_of_lt_of_le
abbrev tu:= @Array.getElem?_eq_some_iff
abbrev rl:= @Option.map_eq_some_iff
abbrev qt:= @Nat.mul_le_mul_right
abbrev tv:= @List.getElem?_append_left
abbrev kR:= @Nat.add_mul
abbrev rm:= @List.getElem?_eq_none
abbrev pH:= @List.mem_singleton
abbrev mK:= @List.all_cons
abbrev uP:= @List.getElem?_append_right
abbrev mL:= @List.map_cons
abbrev oX:= @List.length_cons
abbrev ji:= @Eq.trans
abbrev qu:= @List.flatten_cons
abbrev qv:= @List.getElem?_map
abbrev ob:= @List.mem_range
abbrev rn:= @Int.toNat_natCast
abbrev oY:= @Nat.add_assoc
abbrev AR:= @List.eq_nil_of_length_eq_zero
abbrev yr:= @Array.getElem?_eq_getElem
abbrev yt:= @Option.isNone_iff_eq_none
abbrev tw:= @List.mem_filterMap
abbrev jS:= @Iff.rfl
abbrev rp:= @Bool.or_eq_true
abbrev wA:= @Bool.and_eq_false_iff
abbrev sd:= @List.all_append
abbrev uQ:= @List.getElem?_take
abbrev wB:= @List.mem_of_mem_take
abbrev se:= @Nat.not_lt_zero
abbrev tx:= @List.mem_flatMap
abbrev uR:= @Bool.not_eq_true'
abbrev tz:= @List.cons.injEq
abbrev tA:= @decide_eq_false
abbrev sf:= @Bool.true_and
abbrev wC:= @List.all_eq_false
abbrev yu:= @List.map_congr_left
abbrev uS:= @List.map_append
abbrev uT:= @List.nil_append
abbrev yv:= @List.getElem?_drop
abbrev AS:= @List.getElem?_append
abbrev AT:= @List.mem_of_mem_drop
abbrev Dw:= @List.getElem?_cons_succ
abbrev yw:= @List.getElem?_set
abbrev yx:= @List.nodup_append
abbrev wD:= @List.foldl_cons
abbrev wE:= @List.length_nil
abbrev NL:= @List.findIdx?_eq_some_iff_getElem
abbrev Il:= @Array.getElem?_append_left
abbrev yy:= @List.cons_append
abbrev Dx:= @Array.getElem?_toList
abbrev Im:= @List.pairwise_iff_getElem
abbrev NM:= @List.isEmpty_iff_length_eq_zero
abbrev Dy:= @List.mem_cons_of_mem
abbrev Io:= @Option.isSome_iff_exists
abbrev wF:= @Prod.mk.injEq
abbrev AU:= @Array.toList_inj
abbrev yz:= @Bool.and_assoc
abbrev yA:= @List.drop_drop
abbrev AV:= @Option.getD_some
abbrev wG:= @List.map_nil
abbrev AW:= @List.append_nil
abbrev Dz:= @List.append_assoc
abbrev DA:= @List.ext_getElem?
abbrev NN:= @List.findIdx?_eq_none_iff
abbrev DB:= @List.mem_flatten
abbrev Ip:= @Array.getElem?_push
abbrev Iq:= @List.replicate_succ
end Go
namespace Go.DI
open Go
abbrev aP:=Nat->Value
structure fm where
  cells:List Value
  own:Bool
structure W where
  next:Nat
  iv:Nat->Option fm
  mp:Nat->Option (List (Value×Value))
def W.Y(m:W)(b:Nat):Option fm:=if b<m.next then m.iv b else none
def W.a4(m:W)(b:Nat)(x:Option fm):W:=⟨m.next,λi=>if i=b then x else m.iv i,m.mp⟩
def W.du(m:W)(k:Nat):W:=⟨m.next+k,λi=>if i<m.next then m.iv i else none,m.mp⟩
def W.eJ(m:W)(b:Nat):Option (List (Value×Value)):=match m.Y b with
  |some ⟨[],true⟩=>m.mp b
  |_=>none
def W.gH(m:W)(b:Nat)(a9:List (Value×Value)):W:=⟨m.next,λi=>if i=b then some ⟨[],true⟩else m.iv i,λi=>if i=b then some a9 else m.mp i⟩
def pE(z:aP)(d:Nat)(v:Value):aP:= λt=>if t=d then v else z t
def c1(z:aP)(d:Option Nat)(v:Value):aP:=match d with|some d=>pE z d v|none=>z
def X(z:aP):Operand->Value
  | .tmp t=>z t
  | .const v=>v
  | .func f=> .func (.func f) #[] #[]
  | .global _=>undef
def tI:Value->Bool| .bool b=>b|_=>false
def rT:Value->Bool| .bool _=>true|_=>false
def eR:Value->Int| .int _ n=>n|_=>0
def eV:Value->Bool| .int _ _=>true|_=>false
def pO:Value->ByteArray| .string s=>s|_=> .empty
def O:Value->List Value| .agg cs=>cs.toList|v=>[v]
def gx:List Value->Nat->List Value->List Value
  |cs,_,[]=>cs
  |cs,off,v::ck=>gx (cs.set off v) (off+1) ck
def N:Value->Option Nat
  | .pointer (some a)=>some a.block
  | .slice (some a) _ _=>some a.block
  | .map (some b)=>some b
  |_=>none
def dO:Value->Bool
  | .bool _| .int _ _| .float _ _| .complex _ _ _| .string _| .pointer none| .map none| .chan none| .nilFunc| .nilIface=>true
  | .slice none l c=>l==0&&c==0
  |_=>false
def mj:Value->Bool
  | .agg cs=>cs.toList.all dO
  | .tuple cs=>cs.toList.all dO
  |v=>dO v
def S:Value->Bool
  | .agg _| .tuple _=>false
  |_=>true
def U:Value->Bool
  | .tuple _=>false
  |_=>true
inductive sj where
  |bool|cD|slice|fn|iface|agg|fR
  deriving DecidableEq
inductive oZ where
  |int|str|bool
  deriving DecidableEq
inductive jU where
  |int (k:IntKind)|str
  deriving DecidableEq
inductive ad where
  |m2 (x:Operand)
  |oL (c a b:Operand)
  |s8 (x:Operand)
  |dm (zero:List Value)
  |lQ (x:Operand)
  |eT (zero:List Value) (awb:List (Nat×Nat×Operand))
  |fI (J n:Nat) (zero:List Value) (awb:List (Nat×Nat×Operand))
  |kp (dc:Bool) (n:Nat) (x:Operand)
  |store (n:Nat) (x v:Operand)
  |eX (op:BinOp) (c:sj) (x y:Operand)
  |vf (jE:Bool) (gz:List oZ) (x y:Operand)
  |qn (op:UnOp) (x:Operand)
  |ru (k:IntKind) (x:Operand)
  |Bd (x:Operand)
  |mg (x:Operand)
  |nm (x:Operand)
  |jq (J bytes:Nat) (zero:List Value) (l c:Operand)
  |AH (x:Operand) (ct ai:Option Operand)
  |nb (J:Nat) (x:Operand) (ct ai:Option Operand)
  |uJ (J:Nat) (x:Operand) (ct:Option Operand) (ai fh:Operand)
  |oR (J n:Nat) (x:Operand)
  |rB (off:Nat) (x:Operand)
  |field (dc:Bool) (off n:Nat) (x:Operand)
  |p3 (J:Nat) (x i:Operand)
  |oz (J len:Nat) (x i:Operand)
  |sM (x i:Operand)
  |ext (i:Nat) (x:Operand)
  |rX (x:Operand)
  |rY (x:Operand)
  |app (J bytes:Nat) (x y:Operand)
  |wR (x:Operand)
  |me (J bytes:Nat) (zero:List Value) (x n:Operand)
  |hg (zero:List Value) (x:Operand)
  |oF (fh:Bool) (x:Operand) (xs:List Operand)
  |s3 (fn:Fn) (first lT:List Operand)
  |dA (f:Nat) (args:List Operand)
  |iw (x:Operand) (args:List Operand)
  |xT (t:TypeId) (x:Operand)
  |Dm (t:TypeId) (x:Operand)
  |kn (bg:List (TypeId×Nat×Option (Bool×Nat))) (x:Operand) (args:List Operand)
  |m0
  |m1 (a5:jU) (zero:Value) (ok:Bool) (x k:Operand)
  |lJ (a5:jU) (x k v:Operand)
structure bn where
  aN:Nat
  d:Option Nat
  g:Option (Nat×Bool)
  k:ad
  a5:List (Operand×Operand)
inductive kU where
  |bG (t:Nat)
  |hL (t:Nat) (dc:Bool) (n:Nat)
inductive I where
  |skip
  |E (ops:List bn)
  |qa (bP:List bn) (o:bn) (bV:List bn)
  |B (a b:I)
  |aR (c:Operand) (a b:I)
  |block (id:Nat) (c:I)
  |loop (c:I)
  |ba (id:Nat)
  |aG
structure bS where
  cM:Nat
  iS:List kU
  body:I
inductive dy where
  |et
  |ba (id:Nat)
  |aG
  deriving DecidableEq
def gk(m:W)(v:Value)(n:Nat):Bool:=
  match v with
  | .pointer (some a)=>a.spot.isNone&&(match m.Y a.block with|some x=>decide (a.off+n<=x.cells.length)|none=>false)
  |_=>false
def o7(m:W)(v:Value):Bool:=
  match v with
  | .pointer (some a)=>(match m.Y a.block with|some x=>x.own|none=>false)
  |_=>false
def hf(m:W)(b off n:Nat):List Value:=
  match m.Y b with
  |some x=>(x.cells.drop off).take n
  |none=>[]
def j4(m:W)(dc:Bool)(n:Nat)(v:Value):Value:=
  match v with
  | .pointer (some a)=>if dc then .agg (hf m a.block a.off n).toArray else(hf m a.block a.off 1).headD undef
  |_=>undef
def nc(m:W)(v:Value)(cs:List Value):W:=
  match v with
  | .pointer (some a)=>(match m.Y a.block with|some x=>m.a4 a.block (some ⟨gx x.cells a.off cs,x.own⟩)|none=>m)
  |_=>m
def fG(m:W)(J:Nat)(v:Value):Bool:=
  match v with
  | .slice none l c=>l==0&&c==0
  | .slice (some a) l c=>a.spot.isNone&&c==J&&(match m.Y a.block with|some x=>decide (a.off+l*J<=x.cells.length)|none=>false)
  |_=>false
def jG(m:W)(v:Value):Bool:=
  match v with
  | .slice none _ _=>true
  | .slice (some a) _ _=>(match m.Y a.block with|some x=>x.own|none=>false)
  |_=>false
def gv:Value->Nat
  | .slice _ l _=>l
  |_=>0
def fV(m:W)(J:Nat)(v:Value):List Value:=
  match v with
  | .slice (some a) l _=>hf m a.block a.off (l*J)
  |_=>[]
def LV:Value->Bool
  | .slice none l c=>l==0&&c==0
  |_=>false
theorem LW{v:Value}(h:LV v=true):v= .slice none 0 0:=by
  unfold LV at h;split at h
  · simp only[aX,beq_iff_eq]at h;rw[h.1,h.2]
  · cases h
def mf(m:W)(zero:List Value)(v:Value):W:=
  match v with
  | .slice (some a) l _=>(match m.Y a.block with|some x=>m.a4 a.block (some ⟨gx x.cells a.off (List.replicate l zero).flatten,x.own⟩)|none=>m)
  |_=>m
def j3(m:W)(v:Value):W:=
  match v with
  | .slice (some a) _ _=>m.a4 a.block none
  |_=>m
def BF(op:BinOp)(k:IntKind)(a b:Int):Value:=
  match op with
  | .add=> .int k (k.wrap (a+b))
  | .sub=> .int k (k.wrap (a-b))
  | .mul=> .int k (k.wrap (a*b))
  | .quo=> .int k (k.wrap (a.tdiv b))
  | .rem=> .int k (a.tmod b)
  | .and=> .int k (k.wrap (BitVec.ofInt k.bits a&&&BitVec.ofInt k.bits b).toNat)
  | .or=> .int k (k.wrap (BitVec.ofInt k.bits a|||BitVec.ofInt k.bits b).toNat)
  | .xor=> .int k (k.wrap (BitVec.ofInt k.bits a^^^BitVec.ofInt k.bits b).toNat)
  | .andNot=> .int k (k.wrap (BitVec.ofInt k.bits a&&& ~~~(BitVec.ofInt k.bits b)).toNat)
  | .shl=> .int k (k.wrap (a*2^(min b.toNat k.bits)))
  | .shr=> .int k (a.fdiv (2^(min b.toNat k.bits)))
  | .eql=> .bool (decide (a=b))
  | .neq=> .bool (!decide (a=b))
  | .lss=> .bool (decide (a<b))
  | .leq=> .bool (decide (a<=b))
  | .gtr=> .bool (decide (a>b))
  | .geq=> .bool (decide (a>=b))
def J0(op:BinOp)(k eW:IntKind)(_a b:Int):Bool:=
  match op with
  | .shl| .shr=>decide (0<=b)
  | .quo| .rem=>decide (k=eW)&&decide (b≠0)
  |_=>decide (k=eW)
def yi(op:BinOp)(a b:ByteArray):Value:=
  match op with
  | .add=> .string (a++b)
  | .eql=> .bool (decide (a=b))
  | .neq=> .bool (!decide (a=b))
  | .lss=> .bool (Op.bytesLess a.toList b.toList)
  | .leq=> .bool (Op.bytesLess a.toList b.toList||decide (a=b))
  | .gtr=> .bool (!(Op.bytesLess a.toList b.toList||decide (a=b)))
  | .geq=> .bool (!Op.bytesLess a.toList b.toList)
  |_=>undef
def HY(op:BinOp)(a b:ByteArray):Bool:=
  match op with
  | .add=>decide (a.size+b.size<=9223372036854775807)
  | .eql| .neq| .lss| .leq| .gtr| .geq=>true
  |_=>false
def pl:Value->Bool
  | .pointer none=>true
  | .slice none _ _=>true
  | .nilFunc=>true
  | .nilIface=>true
  |_=>false
def nP(x y:Value):Bool:=
  match x,y with
  | .bool a,.bool b=>a==b
  |x,y=>pl x&&pl y
def sv(c:sj)(x y:Value):Bool:=
  match c,x,y with
  | .bool,.bool _,.bool _=>true
  | .cD,.pointer none,.pointer _=>true
  | .cD,.pointer _,.pointer none=>true
  | .slice,.slice none _ _,.slice _ _ _=>true
  | .slice,.slice _ _ _,.slice none _ _=>true
  | .fn,.nilFunc,.nilFunc=>true
  | .fn,.nilFunc,.func _ _ _=>true
  | .fn,.func _ _ _,.nilFunc=>true
  |_,_,_=>false
def kA(op:BinOp)(x y:Value):Value:=
  match x,y with
  | .int k a,.int _ b=>BF op k a b
  | .string a,.string b=>yi op a b
  | x,y=>match op with
    | .eql=> .bool (nP x y)
    | .neq=> .bool (!nP x y)
    |_=>undef
def qD(op:BinOp)(c:sj)(x y:Value):Bool:=
  match x,y with
  | .int k a,.int eW b=>J0 op k eW a b
  | .string a,.string b=>HY op a b
  | x,y=>match op with
    | .eql| .neq=>sv c x y
    |_=>false
def oi:Value->Value->Bool
  | .int _ a,.int _ b=>decide (a=b)
  | .string a,.string b=>decide (a=b)
  | .bool a,.bool b=>a==b
  |_,_=>false
def wT:oZ->Value->Value->Bool
  | .int,.int k _,.int eW _=>decide (k=eW)
  | .str,.string _,.string _=>true
  | .bool,.bool _,.bool _=>true
  |_,_,_=>false
def lE:List Value->List Value->Bool
  |[],[]=>true
  |a::bQ,b::bs=>oi a b&&lE bQ bs
  |_,_=>false
def hU:List oZ->List Value->List Value->Bool
  |[],[],[]=>true
  |k::gz,a::bQ,b::bs=>wT k a b&&hU gz bQ bs
  |_,_,_=>false
def rS:Value->Bool| .agg _=>true|_=>false
def AM(op:UnOp)(x:Value):Value:=
  match op,x with
  | .neg,.int k n=> .int k (k.wrap (0-n))
  | .not,.bool b=> .bool (!b)
  |_,_=>undef
def wq(op:UnOp)(x:Value):Bool:=
  match op,x with
  | .neg,.int _ _=>true
  | .not,.bool _=>true
  |_,_=>false
def byteOf:Value->UInt8| .int _ n=>UInt8.ofNat n.toNat|_=>0
def zT:Value->Bool| .int .u8 _=>true|_=>false
def vT(s:ByteArray):List Value:=s.data.toList.map λb=> .int .u8 b.toNat
def toBytes(cs:List Value):ByteArray:=⟨(cs.map byteOf).toArray⟩
def gG(z:aP)(x:Option Operand)(Of:Int):Int:=match x with|some o=>eR (X z o)|none=>Of
def m7(z:aP)(x:Option Operand):Bool:=match x with|some o=>eV (X z o)|none=>true
def kF:Value->Bool| .string _=>true|_=>false
def xJ:Value->Bool| .slice _ _ _=>true|_=>false
def xI:Value->Bool| .pointer (some _)=>true|_=>false
def vX(v:Value)(n:Nat):Value:=
  match v with
  | .pointer (some a)=> .pointer (some ⟨a.block,a.off+n,none⟩)
  |_=>undef
def qe:Value->Bool| .pointer (some a)=>a.spot.isNone|_=>false
def oQ(v:Value)(J l h:Nat):Value:=
  match v with
  | .slice (some a) _ c=> .slice (some ⟨a.block,a.off+l*J,none⟩) (h-l) c
  |_=> .slice none 0 0
def mE(J:Nat):Value->Bool
  | .slice none l c=>l==0&&c==0
  | .slice (some a) _ c=>a.spot.isNone&&c==J
  |_=>false
def DT(v:Value)(J n:Nat):Value:=
  match v with
  | .pointer (some a)=> .slice (some ⟨a.block,a.off,none⟩) n J
  |_=> .slice none 0 0
def wi(v:Value)(J:Nat)(i:Int):Value:=
  match v with
  | .slice (some a) _ _=> .pointer (some ⟨a.block,a.off+i.toNat*J,none⟩)
  |_=>undef
def zR:Value->Bool
  | .pointer none| .nilIface| .nilFunc=>false
  | .func (.method _) _ _=>false
  |_=>true
def AK(v:Value)(i:Nat):Value:=match v with| .tuple ck=>ck.toList.getD i undef|_=>undef
def Dn(v:Value)(i:Nat):Bool:=match v with| .tuple ck=>decide (i<ck.toList.length)|_=>false
def Jj(dc:Bool)(off n:Nat)(v:Value):Value:=
  match v with
  | .agg cs=>if dc then .agg ((cs.toList.drop off).take n).toArray else cs.toList.getD off undef
  |_=>undef
def Ej(off n:Nat)(v:Value):Bool:=match v with| .agg cs=>decide (off+n<=cs.toList.length)|_=>false
def nC(a b:Value):Value:=match a,b with| .int k x,.int _ y=> .int k (if y<x then y else x)|_,_=>undef
def nB(a b:Value):Value:=match a,b with| .int k x,.int _ y=> .int k (if y>x then y else x)|_,_=>undef
def pt(cs:List Value)(z:aP)(ps:List (Nat×Nat×Operand)):Bool:=
  ps.all λ(off,n,x)=>U (X z x)&&decide ((O (X z x)).length=n)&&decide (off+n<=cs.length)
def lv(cs:List Value)(z:aP):List (Nat×Nat×Operand)->List Value
  |[]=>cs
  |(off,_,x)::r=>lv (gx cs off (O (X z x))) z r
def E8(t:TypeId):Value->Bool
  | .iface aT _=>decide (aT=t)
  |_=>false
def Xm:Value->Value
  | .iface _ v=>v
  |_=>undef
def jM(m:W):Value->Option (List (Value×Value))
  | .map none=>some []
  | .map (some b)=>m.eJ b
  |_=>none
def nv:jU->Value->Bool
  | .int k,.int eW _=>decide (eW=k)
  | .str,.string _=>true
  |_,_=>false
def nA(a5:jU)(k:Value)(a9:List (Value×Value)):Bool:=nv a5 k&&a9.all λe=>nv a5 e.1
def iF(k:Value):List (Value×Value)->Option Value
  |[]=>none
  |e::r=>if oi k e.1 then some e.2 else iF k r
def k4(k v:Value):List (Value×Value)->List (Value×Value)
  |[]=>[(k,v)]
  |e::r=>if oi k e.1 then(k,v)::r else e::k4 k v r
def um:Value->Nat
  | .map (some b)=>b
  |_=>0
def hY:Value->Int
  | .string s=>s.size
  | .slice _ l _=>l
  |_=>0
def ad.ok(k:ad)(z:aP)(m:W):Bool:=
  match k with
  | .m2 _=>true
  | .oL c _ _=>rT (X z c)
  | .s8 x=>zR (X z x)
  | .dm _=>true
  | .lQ x=>U (X z x)
  | .eT J ps=>pt J z ps
  | .fI _ _ J ps=>pt J z ps
  | .kp dc n x=>gk m (X z x) n&&(dc||decide (n=1))
  | .store n x v=>gk m (X z x) n&&o7 m (X z x)&&U (X z v)&&decide ((O (X z v)).length=n)
  | .eX op c x y=>qD op c (X z x) (X z y)
  | .vf _ gz x y=>rS (X z x)&&rS (X z y)&&hU gz (O (X z x)) (O (X z y))
  | .qn op x=>wq op (X z x)
  | .ru _ x=>eV (X z x)
  | .Bd x=>kF (X z x)
  | .mg x=>fG m 1 (X z x)&&(fV m 1 (X z x)).all zT
  | .nm x=>kF (X z x)&&decide ((pO (X z x)).size<=9223372036854775807)
  | .jq J bytes _ l c=>eV (X z l)&&eV (X z c)&&decide (0<=eR (X z l))&&decide (eR (X z l)<=eR (X z c))&&decide (eR (X z c)*(bytes:Int)<=140737488355328)&&decide (eR (X z c)<=9223372036854775807)&&decide (0<J)
  | .AH x ct ai=>kF (X z x)&&m7 z ct&&m7 z ai&&decide (0<=gG z ct 0)&&decide (gG z ct 0<=gG z ai (hY (X z x)))&&decide (gG z ai (hY (X z x))<=hY (X z x))
  | .nb J x ct ai=>mE J (X z x)&&m7 z ct&&m7 z ai&&decide (0<=gG z ct 0)&&decide (gG z ct 0<=gG z ai (hY (X z x)))&&decide (gG z ai (hY (X z x))<=hY (X z x))
  | .uJ J x ct ai fh=>mE J (X z x)&&m7 z ct&&eV (X z ai)&&eV (X z fh)&&decide (0<=gG z ct 0)&&decide (gG z ct 0<=eR (X z ai))&&decide (eR (X z ai)<=eR (X z fh))&&decide (eR (X z fh)<=hY (X z x))
  | .oR J n x=>gk m (X z x) (n*J)&&decide (n<=maxLen)
  | .rB _ x=>qe (X z x)
  | .field dc off n x=>Ej off n (X z x)&&(dc||decide (n=1))
  | .p3 J x i=>mE J (X z x)&&eV (X z i)&&decide (0<=eR (X z i))&&decide (eR (X z i)<hY (X z x))
  | .oz _ len x i=>qe (X z x)&&eV (X z i)&&decide (0<=eR (X z i))&&decide (eR (X z i)<(len:Int))
  | .sM x i=>kF (X z x)&&eV (X z i)&&decide (0<=eR (X z i))&&decide (eR (X z i)<hY (X z x))
  | .ext i x=>Dn (X z x) i
  | .rX x=>kF (X z x)
  | .rY x=>xJ (X z x)
  | .app J bytes x y=>fG m J (X z x)&&jG m (X z x)&&fG m J (X z y)&&decide (0<J)&&decide ((gv (X z x)+gv (X z y))*bytes<=140737488355328)&&decide (gv (X z x)+gv (X z y)<=9223372036854775807)
  | .wR x=>LV (X z x)
  | .me J bytes _ x n=>LV (X z x)&&eV (X z n)&&decide (0<eR (X z n))&&decide (eR (X z n)*(bytes:Int)<=140737488355328)&&decide (eR (X z n)<=9223372036854775807)&&decide (0<J)
  | .hg zero x=>fG m zero.length (X z x)&&jG m (X z x)&&decide (0<zero.length)
  | .oF _ x xs=>eV (X z x)&&xs.all λy=>eV (X z y)
  | .s3 _ _ _=>true
  | .dA _ _=>false
  | .iw _ _=>false
  | .xT _ _=>true
  | .Dm t x=>E8 t (X z x)
  | .kn _ _ _=>false
  | .m0=>true
  | .m1 a5 _ _ x k=>match jM m (X z x)with
    |some a9=>nA a5 (X z k) a9
    |none=>false
  | .lJ a5 x k v=>match X z x with
    | .map (some b)=>(match m.eJ b with
      |some a9=>nA a5 (X z k) a9&&S (X z v)
      |none=>false)
    |_=>false
def ad.val(k:ad)(id:Nat)(z:aP)(m:W):Value:=
  match k with
  | .m2 x=>X z x
  | .oL c a b=>if tI (X z c)then X z a else X z b
  | .s8 x=>X z x
  | .dm _=> .pointer (some ⟨id,0,none⟩)
  | .lQ _=> .pointer (some ⟨id,0,none⟩)
  | .eT J ps=> .agg (lv J z ps).toArray
  | .fI J n _ _=> .slice (some ⟨id,0,none⟩) n J
  | .kp dc n x=>j4 m dc n (X z x)
  | .store _ _ _=>undef
  | .eX op _ x y=>kA op (X z x) (X z y)
  | .vf jE _ x y=> .bool (if jE then !lE (O (X z x)) (O (X z y))else lE (O (X z x)) (O (X z y)))
  | .qn op x=>AM op (X z x)
  | .ru k x=> .int k (k.wrap (eR (X z x)))
  | .Bd x=>X z x
  | .mg x=> .string (toBytes (fV m 1 (X z x)))
  | .nm x=> .slice (some ⟨id,0,none⟩) (pO (X z x)).size 1
  | .jq J _ _ l _=> .slice (some ⟨id,0,none⟩) (eR (X z l)).toNat J
  | .AH x ct ai=> .string ((pO (X z x)).extract (gG z ct 0).toNat (gG z ai (hY (X z x))).toNat)
  | .nb J x ct ai=>oQ (X z x) J (gG z ct 0).toNat (gG z ai (hY (X z x))).toNat
  | .uJ J x ct ai _=>oQ (X z x) J (gG z ct 0).toNat (eR (X z ai)).toNat
  | .oR J n x=>DT (X z x) J n
  | .rB off x=>vX (X z x) off
  | .field dc off n x=>Jj dc off n (X z x)
  | .p3 J x i=>wi (X z x) J (eR (X z i))
  | .oz J _ x i=>vX (X z x) ((eR (X z i)).toNat*J)
  | .sM x i=> .int .u8 (((pO (X z x)).data.toList.getD (eR (X z i)).toNat 0).toNat:Nat)
  | .ext i x=>AK (X z x) i
  | .rX x=> .int .i64 (hY (X z x))
  | .rY x=> .int .i64 (hY (X z x))
  | .app J _ x y=>if gv (X z y)=0 then X z x else .slice (some ⟨id,0,none⟩) (gv (X z x)+gv (X z y)) J
  | .wR _=> .int .i64 0
  | .me J _ _ _ n=> .slice (some ⟨id,0,none⟩) (eR (X z n)).toNat J
  | .hg _ _=>undef
  | .oF fh x xs=>xs.foldl (λdz y=>if fh then nB dz (X z y)else nC dz (X z y)) (X z x)
  | .s3 fn first lT=> .func fn (first.map (X z)).toArray (lT.map (X z)).toArray
  | .dA _ _=>undef
  | .iw _ _=>undef
  | .xT t x=> .iface t (X z x)
  | .Dm _ x=>Xm (X z x)
  | .kn _ _ _=>undef
  | .m0=> .map (some id)
  | .m1 _ zero ok x k=>
    let r:=(jM m (X z x)).bind (iF (X z k))
    if ok then .tuple #[r.getD zero,.bool r.isSome]else r.getD zero
  | .lJ _ _ _ _=>undef
def ad.gu(k:ad)(id:Nat)(z:aP)(m:W):W:=
  match k with
  | .dm J=>m.a4 id (some ⟨J,true⟩)
  | .lQ x=>m.a4 id (some ⟨O (X z x),true⟩)
  | .fI _ _ J ps=>m.a4 id (some ⟨lv J z ps,true⟩)
  | .store _ x v=>nc m (X z x) (O (X z v))
  | .nm x=>m.a4 id (some ⟨vT (pO (X z x)),true⟩)
  | .jq _ _ zero l _=>m.a4 id (some ⟨(List.replicate (eR (X z l)).toNat zero).flatten,true⟩)
  | .app J _ x y=>if gv (X z y)=0 then m else(j3 m (X z x)).a4 id (some ⟨fV m J (X z x)++fV m J (X z y),true⟩)
  | .me _ _ zero _ n=>m.a4 id (some ⟨(List.replicate (eR (X z n)).toNat zero).flatten,true⟩)
  | .hg zero x=>mf m zero (X z x)
  | .m0=>m.gH id []
  | .lJ _ x k v=>m.gH (um (X z x)) (k4 (X z k) (X z v) ((m.eJ (um (X z x))).getD []))
  |_=>m
def o9(z:aP)(a5:List (Operand×Operand)):Bool:=
  a5.all λ(x,y)=>match N (X z x),N (X z y)with
    |some a,some b=>a !=b
    |_,_=>true
def p9(z:aP)(a5:List (Operand×Operand))(m an:W):Prop:=
  ∀p∈a5,∀b,N (X z p.1)=some b->an.Y b=m.Y b
abbrev Callee:=Nat->List Value->W->Option (Value×W)
def ad.e8(k:ad)(z:aP)(m:W):Option (Nat×List Value):=
  match k with
  | .kn bg x args=>match X z x with
    | .iface t v=>match bg.find? (λr=>r.1==t)with
      |some (_,f,none)=>some (f,v::args.map (X z))
      |some (_,f,some (dc,n))=>if gk m v n&&(dc||decide (n=1))then some (f,j4 m dc n v::args.map (X z))else none
      |none=>none
    |_=>none
  | .dA f args=>some (f,args.map (X z))
  | .iw x args=>match X z x with
    | .func (.func f) first lT=>some (f,first.toList++args.map (X z)++lT.toList)
    |_=>none
  |_=>none
def eH(z:aP):Option (Nat×Bool)->Bool
  |none=>true
  |some (t,b)=>match z t with| .bool c=>c==b|_=>false
noncomputable def g4(bF:Callee)(base:Nat)(o:bn)(z:aP)(m:W):Option (aP×W):=
  if eH z o.g then
    match o.k.e8 z m with
    | some (f,args)=>match bF f args m with
      |some (v,an)=>some (c1 z o.d v,an)
      |none=>none
    |none=>if o.k.ok z m then some (c1 z o.d (o.k.val (base+o.aN) z m),o.k.gu (base+o.aN) z m)else none
  else some (c1 z o.d undef,m)
def nO(o:bn)(z:aP)(m an:W):Prop:=
  eH z o.g=true->match o.k.e8 z m with
    |some _=>p9 z o.a5 m an
    |none=>o9 z o.a5=true
open Classical in
noncomputable def ju(bF:Callee)(base:Nat):List bn->aP->W->Option (aP×W)
  |[],z,m=>some (z,m)
  | o::bV,z,m=>match g4 bF base o z m with
    |some (aj,an)=>if nO o z m an then ju bF base bV aj an else none
    |none=>none
def ad.eU:ad->Bool
  | .dm _| .lQ _| .fI _ _ _ _| .nm _| .jq _ _ _ _ _| .app _ _ _ _| .me _ _ _ _ _| .m0=>true
  |_=>false
def ad.ud:ad->Bool
  | .hg _ _| .m0| .m1 _ _ _ _ _| .lJ _ _ _ _=>true
  |_=>false
def gQ(ops:List bn)(m:W):W:=if ops.any (λo=>o.k.eU)then m.du ops.length else m
def pC(J:Nat)(m:W):Value->Bool
  | .slice (some a) l _=>(match m.Y a.block with|some b=>decide (b.cells.length=a.off+l*J)|none=>false)
  |_=>true
def mw(o:bn)(z:aP)(m:W):Bool:=o.g.isNone&&(match o.k with| .app J _ x _=>pC J m (X z x)|_=>false)&&o.k.ok z m
def BC(x:fm):fm:=⟨x.cells,false⟩
def mW(m:W):W:=⟨m.next,λb=>(m.iv b).map BC,λ_=>none⟩
def jb(f:aP->W->Option (dy×aP×W)):Nat->aP->W->Option (dy×aP×W)
  |0,_,_=>none
  | n+1,z,m=>match f z m with
    |some (.et,aj,an)=>jb f n aj an
    |r=>r
noncomputable def en(bF:Callee)(n:Nat):I->aP->W->Option (dy×aP×W)
  | .skip,z,m=>some (.et,z,m)
  | .E ops,z,m=>match ju bF m.next ops z (gQ ops m)with
    |some (aj,an)=>some (.et,aj,an)
    |none=>none
  | .qa bP o bV,z,m=>match ju bF m.next bP z (m.du (bP.length+(bV.length+1)))with
    | some (bI,bd)=>if mw o bI bd then
        (match ju bF m.next bV (c1 bI o.d (o.k.val (m.next+o.aN) bI bd)) (mW bd)with
        |some (dh,dE)=>some (.et,dh,(o.k.gu (m.next+o.aN) bI bd).du (dE.next-bd.next))
        |none=>none)
      else none
    |none=>none
  | .B a b,z,m=>match en bF n a z m with
    |some (.et,aj,an)=>en bF n b aj an
    |r=>r
  | .aR c a b,z,m=>if rT (X z c)then(if tI (X z c)then en bF n a z m else en bF n b z m)else none
  | .block id c,z,m=>match en bF n c z m with
    |some (.ba iz,aj,an)=>if iz=id then some (.et,aj,an)else some (.ba iz,aj,an)
    |r=>r
  | .loop c,z,m=>jb (en bF n c) n z m
  | .ba id,z,m=>some (.ba id,z,m)
  | .aG,z,m=>some (.aG,z,m)
def oN(m:W)(z:aP):kU->Bool
  | .bG _=>true
  | .hL t dc n=>gk m (z t) n&&(dc||decide (n=1))
def pw(m:W)(z:aP):kU->Value
  | .bG t=>z t
  | .hL t dc n=>j4 m dc n (z t)
def kK(m:W)(z:aP)(cm:List kU):Bool:=cm.all (oN m z)
def lb(m:W)(z:aP):List kU->Value
  |[r]=>pw m z r
  |cm=> .tuple (cm.map (pw m z)).toArray
def ja(args:List Value):aP:= λt=>args.getD t undef
def j6(P:Program)(t:TypeId):Option Nat:=(P.info? t).map (·.size)
def oU(P:Program)(t:TypeId):Option (List Value):=
  match P.info? t with
  | some i=>match i.zero with
    | some J=>let cs:=J.cells.toList
      if cs.all dO&&decide (cs.length=i.size)then some cs else none
    |none=>none
  |none=>none
def n6(P:Program)(t:TypeId):Option Bool:=
  match P.underlying t with
  |some (.struct _)=>some true
  |some (.array _ _)=>some true
  |some _=>some false
  |none=>none
def n7(P:Program)(t:TypeId):sj:=
  match P.underlying t with
  |some .bool=> .bool
  |some (.pointer _)=> .cD
  |some (.slice _)=> .slice
  |some (.func _ _ _)=> .fn
  |some (.interface _)=> .iface
  |some (.struct _)=> .agg
  |some (.array _ _)=> .agg
  |_=> .fR
def cL:Operand->Bool
  | .tmp _=>true
  | .const v=>mj v
  | .func _=>true
  | .global _=>false
def CT:Option Operand->Bool
  |some x=>cL x
  |none=>true
def Eg(e:TypeId->Option (List oZ)):List Field->Nat->Option (List oZ)
  |[],_=>some []
  | f ::r,off=>if f.name != "_" &&f.offset==off then
      (match e f.type with
       | some gz=>match Eg e r (off+gz.length)with
         |some bV=>if gz.length=0 then none else some (gz++bV)
         |none=>none
       |none=>none)
    else none
def su(P:Program):Nat->TypeId->Option (List oZ)
  |0,_=>none
  | d+1,t=>match P.underlying t,j6 P t with
    |some .bool,some n=>if n=1 then some [.bool]else none
    |some (.int _),some n=>if n=1 then some [.int]else none
    |some .string,some n=>if n=1 then some [.str]else none
    | some (.struct fr),some n=>match Eg (su P d) fr.toList 0 with
      |some gz=>if decide (n=gz.length)&& !P.stoodInHeld t then some gz else none
      |none=>none
    | some (.array k e),some n=>match su P d e with
      |some gz=>if decide (n=k*gz.length)&&decide (0<gz.length)then some (List.replicate k gz).flatten else none
      |none=>none
    |_,_=>none
def guard(b:Bool):Option Unit:=if b then some ()else none
def Ek(P:Program)(fr:Array Field):List (Nat×Operand)->Option (List (Nat×Nat×Operand))
  |[]=>some []
  | (i,x)::r=>match fr[i]? with
    | some f=>match j6 P f.type,Ek P fr r with
      |some n,some ps=>if cL x then some ((f.offset,n,x)::ps)else none
      |_,_=>none
    |none=>none
def yI(J:Nat):List (Nat×Operand)->Option (List (Nat×Nat×Operand))
  |[]=>some []
  | (i,x)::r=>match yI J r with
    |some ps=>if cL x then some ((i*J,J,x)::ps)else none
    |none=>none
def Aa(P:Program)(name:String)(t:TypeId):Option (TypeId×Nat×Option (Bool×Nat)):=
  match P.info? t with
  | some i=>match i.methods.find? (·.name==name)with
    | some Ae=>if Ae.path.isEmpty then(match Ae.func with
      | some (f,awn)=>match P.underlying t,awn with
        |some (.pointer _),true=>some (t,f,none)
        | some (.pointer e),false=>match n6 P e,j6 P e with
          |some dc,some n=>some (t,f,some (dc,n))
          |_,_=>none
        |_,_=>none
      |none=>none)else none
    |none=>none
  |none=>none
def R4(P:Program)(name:String):List (TypeId×Nat×Option (Bool×Nat)):=(List.range P.types.size).filterMap (Aa P name)
def No(P:Program)(t:TypeId):Option Value:=
  match P.info? t with
  | some i=>match i.zero with
    |some J=>if dO J then some J else none
    |none=>none
  |none=>none
def I4(P:Program)(t:TypeId):Option jU:=
  match P.underlying t with
  |some (.int k)=>some (.int k)
  |some .string=>some .str
  |_=>none
def D2(P:Program)(c:Call):Option ad:=
  match c.callee with
  | .invoke (.tmp t) name=>if c.args.toList.all cL then some (.kn (R4 P name) (.tmp t) c.args.toList)else none
  | .value (.func f)=>match P.funcs[f]? with
    |some fn=>if fn.body.isSome&& !(fn.name== "runtime.NumGoroutine")&&c.args.toList.all cL then some (.dA f c.args.toList)else none
    |none=>none
  | .value (.tmp t)=>if c.args.toList.all cL then some (.iw (.tmp t) c.args.toList)else none
  | .builtin .len=>match c.args.toList,c.argTypes.toList with
    | [x],[t]=>match P.underlying t with
      |some .string=>if cL x then some (.rX x)else none
      |some (.slice _)=>if cL x then some (.rY x)else none
      |_=>none
    |_,_=>none
  | .builtin .append=>match c.args.toList,c.argTypes.toList with
    | [x,y],[t,bp]=>match P.underlying t with
      | some (.slice e)=>match P.info? e with
        | some i=>if t=bp then(if cL x&&cL y&&(oU P e).isSome then some (.app i.size i.bytes x y)else none)
          else(match P.underlying bp,oU P e with
          |some (.int _),some DC=>if cL x&&cL y then some (.me DC.length i.bytes DC x y)else none
          |_,_=>none)
        |none=>none
      |_=>none
    |_,_=>none
  | .builtin .min=>match c.args.toList with
    |x::xs=>if cL x&&xs.all cL then some (.oF false x xs)else none
    |[]=>none
  | .builtin .max=>match c.args.toList with
    |x::xs=>if cL x&&xs.all cL then some (.oF true x xs)else none
    |[]=>none
  | .builtin .cap=>match c.args.toList,c.argTypes.toList with
    | [x],[t]=>match P.underlying t with
      |some (.slice _)=>if cL x then some (.wR x)else none
      |_=>none
    |_,_=>none
  | .builtin .clear=>match c.args.toList,c.argTypes.toList with
    | [x],[t]=>match P.underlying t with
      | some (.slice e)=>match oU P e with
        |some DC=>if cL x then some (.hg DC x)else none
        |none=>none
      |_=>none
    |_,_=>none
  |_=>none
def A9(P:Program)(o:Oper):Option ad:=
  match o.op with
  | .move x=>if cL x then some (.m2 x)else none
  | .assign x=>if cL x then some (.m2 x)else none
  | .pick c a b=>if cL c&&cL a&&cL b then some (.oL c a b)else none
  | .nilCheck x=>if cL x then some (.s8 x)else none
  | .alloc e=>match oU P e with
    |some J=>some (.dm J)
    |none=>none
  | .box _ x=>if cL x then some (.lQ x)else none
  | .build t ps=>match P.underlying t,oU P t with
    | some (.struct fr),some J=>match Ek P fr ps.toList with
      |some hu=>if(fr.toList.all λf=>(j6 P f.type).isSome)then some (.eT J hu)else none
      |none=>none
    | some (.array _ e),some J=>match j6 P e with
      | some n=>match yI n ps.toList with
        |some hu=>some (.eT J hu)
        |none=>none
      |none=>none
    |_,_=>none
  | .buildSlice t n ps=>match P.underlying t with
    | some (.slice e)=>match oU P e with
      | some J=>match yI J.length ps.toList with
        |some hu=>if 0<J.length&&n*J.length<=16777216 then some (.fI J.length n (List.replicate n J).flatten hu)else none
        |none=>none
      |none=>none
    |_=>none
  | .load t x=>match n6 P t,j6 P t with
    |some a,some n=>if cL x then some (.kp a n x)else none
    |_,_=>none
  | .store t x v=>match j6 P t with
    |some n=>if cL x&&cL v then some (.store n x v)else none
    |none=>none
  | .binOp op t x y _=>
    if cL x&&cL y then
      (if n7 P t= .agg then
        (match op,su P 8 t with
         | .eql,some gz=>if !P.eqGuardType P.depth t then some (.vf false gz x y)else none
         | .neq,some gz=>if !P.eqGuardType P.depth t then some (.vf true gz x y)else none
         |_,_=>none)
      else some (.eX op (n7 P t) x y))
    else none
  | .unOp op _ x=>if cL x then some (.qn op x)else none
  | .convert s d x=>match P.underlying s,P.underlying d with
    |some (.int _),some (.int k)=>if cL x then some (.ru k x)else none
    |some .string,some .string=>if cL x then some (.Bd x)else none
    | some (.slice e),some .string=>match P.underlying e with
      |some (.int .u8)=>if cL x then some (.mg x)else none
      |_=>none
    | some .string,some (.slice e)=>match P.underlying e with
      |some (.int .u8)=>if cL x then some (.nm x)else none
      |_=>none
    |_,_=>none
  | .makeSlice t l c=>match P.underlying t with
    | some (.slice e)=>match oU P e,P.info? e with
      |some J,some i=>if cL l&&cL c then some (.jq J.length i.bytes J l c)else none
      |_,_=>none
    |_=>none
  | .slice t x ct ai fh=>match P.underlying t with
    |some .string=>if cL x&&CT ct&&CT ai&&fh.isNone then some (.AH x ct ai)else none
    | some (.slice e)=>match j6 P e with
      | some J=>match fh with
        |none=>if cL x&&CT ct&&CT ai then some (.nb J x ct ai)else none
        | some hG=>match ai with
          |some aD=>if cL x&&CT ct&&cL aD&&cL hG then some (.uJ J x ct aD hG)else none
          |none=>none
      |none=>none
    | some (.array n e)=>match j6 P e with
      |some J=>if cL x&&ct.isNone&&ai.isNone&&fh.isNone then some (.oR J n x)else none
      |none=>none
    |_=>none
  | .fieldAddr s x i=>match P.underlying s with
    | some (.struct fr)=>match fr[i]? with
      | some f=>match j6 P f.type with
        |some n=>if cL x&&0<n then some (.rB f.offset x)else none
        |none=>none
      |none=>none
    |_=>none
  | .field t x i=>match P.underlying t with
    | some (.struct fr)=>match fr[i]? with
      | some f=>match n6 P f.type,j6 P f.type with
        |some a,some n=>if cL x then some (.field a f.offset n x)else none
        |_,_=>none
      |none=>none
    |_=>none
  | .indexAddr t x i=>match P.underlying t with
    | some (.slice e)=>match j6 P e with
      |some J=>if cL x&&cL i then some (.p3 J x i)else none
      |none=>none
    | some (.array len e)=>match j6 P e with
      |some J=>if cL x&&cL i then some (.oz J len x i)else none
      |none=>none
    |_=>none
  | .index t x i=>match P.underlying t with
    |some .string=>if cL x&&cL i then some (.sM x i)else none
    |_=>none
  | .extract x i=>if cL x then some (.ext i x)else none
  | .makeInterface t x=>match P.underlying t with
    |some (.interface _)=>none
    |some _=>if cL x then some (.xT t x)else none
    |none=>none
  | .typeAssert x _ t ok=>match P.underlying t with
    |some (.interface _)=>none
    |some _=>if cL x&& !ok then some (.Dm t x)else none
    |none=>none
  | .makeMap t r=>match P.underlying t,r with
    |some (.map _ _),none=>some .m0
    |_,_=>none
  | .lookup t x i ok=>match P.underlying t with
    | some (.map k e)=>match I4 P k,No P e with
      |some a5,some J=>if cL x&&cL i then some (.m1 a5 J ok x i)else none
      |_,_=>none
    |_=>none
  | .mapUpdate t x k v=>match P.underlying t with
    | some (.map sV _)=>match I4 P sV with
      |some a5=>if cL x&&cL k&&cL v then some (.lJ a5 x k v)else none
      |none=>none
    |_=>none
  | .makeFunc fn first lT=>if first.toList.all cL&&lT.toList.all cL then some (.s3 fn first.toList lT.toList)else none
  | .call c=>D2 P c
  |_=>none
def TK:ad:= .s8 (.const (.pointer none))
def wO(P:Program)(o:Oper):Option ad:=match A9 P o with
  |some k=>some k
  |none=>some TK
theorem afc{z:aP}{m:W}:TK.ok z m=false:=rfl
theorem IU{P:Program}{o:Oper}{k:ad}(h:wO P o=some k):A9 P o=some k\/k=TK:=by
  unfold wO at h;split at h
  · next eW D=>cases h;exact .inl D
  · cases h;exact .inr rfl
def IT(ops:Array Oper)(o:Oper):Option (Option (Nat×Bool)):=
  match o.guard with
  |none=>some none
  | some (j,b)=>match(ops[j]?).bind (·.dst)with
    |some t=>some (some (t,b))
    |none=>none
def IV(P:Program)(ops:Array Oper)(cM:Nat)(aN:Nat):Option bn:=
  match ops[aN]? with
  | some o=>match wO P o,IT ops o with
    |some k,some g=>if(o.dst.all λd=>decide (d<cM))then some ⟨aN,o.dst,g,k,[]⟩else none
    |_,_=>none
  |none=>none
def Ba(P:Program)(ops:Array Oper)(cM:Nat):List Nat->Option (List bn)
  |[]=>some []
  | aN::r=>match IV P ops cM aN,Ba P ops cM r with
    |some o,some bV=>some (o::bV)
    |_,_=>none
def ad.la:ad->List Operand
  | .kp _ _ x=>[x]
  | .oR _ _ x=>[x]
  | .store _ x _=>[x]
  | .mg x=>[x]
  | .hg _ x=>[x]
  | .app _ _ x y=>[x,y]
  |_=>[]
def ad.ma:ad->List Operand
  | .hg _ x=>[x]
  | .store _ x _=>[x]
  | .app _ _ x _=>[x]
  |_=>[]
def ad.jB:ad->Bool
  | .dA _ _| .iw _ _| .kn _ _ _=>true
  |_=>false
def ad.gN:ad->List Operand
  | .m2 x| .s8 x| .lQ x| .kp _ _ x| .qn _ x| .ru _ x| .Bd x| .mg x| .nm x| .rB _ x| .field _ _ _ x| .ext _ x| .rX x| .rY x| .wR x| .hg _ x| .oR _ _ x=>[x]
  | .oL c a b=>[c,a,b]
  | .dm _=>[]
  | .eT _ ps| .fI _ _ _ ps=>ps.map λp=>p.2.2
  | .store _ x v=>[x,v]
  | .eX _ _ x y| .vf _ _ x y| .jq _ _ _ x y| .p3 _ x y| .oz _ _ x y| .sM x y| .app _ _ x y| .me _ _ _ x y=>[x,y]
  | .AH x l h| .nb _ x l h=>x::(l.toList++h.toList)
  | .uJ _ x l h fh=>x::h::fh::l.toList
  | .oF _ x xs=>x::xs
  | .s3 _ a b=>a++b
  | .dA _ bQ=>bQ
  | .iw x bQ=>x::bQ
  | .xT _ x| .Dm _ x=>[x]
  | .kn _ x bQ=>x::bQ
  | .m0=>[]
  | .m1 _ _ _ x k=>[x,k]
  | .lJ _ x k v=>[x,k,v]
def De(l:List Operand):List Nat:=l.filterMap fun| .tmp t=>some t|_=>none
def bn.uA(o:bn):List Nat:=De o.k.gN++(match o.g with|some (t,_)=>[t]|none=>[])
def bn.Vo(o:bn):List Nat:=De (o.a5.map (·.1))++De (o.a5.map (·.2))
def q2(l:List Nat)(d:Option Nat):Bool:=match d with|some d=> !l.contains d|none=>true
def Jd:Option Nat->List Operand
  |some d=>[.tmp d]
  |none=>[]
def oJ(k i:bn):List (Operand×Operand):=
  if i.k.jB then k.k.la.map λx=>(x,x)
  else if k.k.jB then[]
  else
    ((k.k.ma++(if k.k.eU then Jd k.d else[])).flatMap λx=>(i.k.la++i.k.ma).map λy=>(x,y))
      ++k.k.la.flatMap λx=>i.k.ma.map λy=>(x,y)
def pa(k i:bn)(qE:List Nat):Bool:=
  !k.k.ud&& !i.k.ud&&q2 (k.uA++k.Vo) i.d&&q2 i.uA k.d&&(match k.d,i.d with|some a,some b=>a !=b|_,_=>true)&&
  (if i.k.jB then !k.k.jB&& !k.k.eU&&k.k.ma.isEmpty&&(De k.k.la).all λt=> !qE.contains t&&k.d !=some t
   else if k.k.jB then i.k.la.isEmpty&&i.k.ma.isEmpty
   else(!k.k.eU||(k.d.isSome&&q2 qE k.d))&&(De (k.k.la++k.k.ma)).all λt=> !qE.contains t&&k.d !=some t)
def Mk(g5:List Nat)(o:Oper):Nat:=
  o.after.toList.foldl (λs e=>if Region.binds .any e then s|||2^e.on|||g5.getD e.on 0 else s) 0
def xR:List Oper->List Nat->List Nat
  |[],dz=>dz
  |o::r,dz=>xR r (dz++[Mk dz o])
def sr(g5:List Nat)(i:bn):List bn->List (Operand×Operand)
  |[]=>[]
  |k::r=>(if(g5.getD i.aN 0).testBit k.aN then[]else oJ k i)++sr g5 i r
def I3(g5:List Nat)(i:bn):List bn->List Nat->Bool
  |[],_=>true
  |k::r,qE=>((g5.getD i.aN 0).testBit k.aN||pa k i qE)&&I3 g5 i r (qE++k.d.toList)
def afa(ops:Array Oper)(aN:Nat)(k9:List bn):Bool:=
  match ops[aN]? with
  |some op=>op.after.toList.all λe=> !Region.binds .any e||k9.any λk=>k.aN==e.on
  |none=>false
def D3(P:Program)(ops:Array Oper)(cM:Nat)(g5:List Nat):List Nat->List bn->Option (List bn)
  |[],_=>some []
  | aN::r,k9=>match IV P ops cM aN with
    | some o=>
      let o':bn:=⟨o.aN,o.d,o.g,o.k,sr g5 o k9⟩
      if I3 g5 o' k9 []&&afa ops aN k9 then
        match D3 P ops cM g5 r (o'::k9)with
        |some bV=>some (o'::bV)
        |none=>none
      else none
    |none=>none
def ad4(o:Oper):Nat:=
  match o.op with
  | .alloc _| .box _ _| .buildSlice _ _ _| .makeSlice _ _ _| .makeMap _ _=>2
  | .store _ _ _=>1
  | .convert _ _ _=>0
  | .call {callee:= .builtin .len,..}| .call {callee:= .builtin .cap,..}| .call {callee:= .builtin .min,..}| .call {callee:= .builtin .max,..}=>0
  | .call _=>1
  |_=>0
def aeT(ops:Array Oper):Nat->List Nat->List Nat->List Nat
  |0,_,dz=>dz.reverse
  | n+1,left,dz=>
    let SD:=left.filter λi=>((ops[i]?).map λo=>o.after.all λe=> !Region.binds .any e||dz.contains e.on).getD false
    match(SD.find? λi=>((ops[i]?).map ad4).getD 0==0).or ((SD.find? λi=>((ops[i]?).map ad4).getD 0==1).or SD.head?)with
    |some i=>aeT ops n (left.filter (· !=i)) (i::dz)
    |none=>dz.reverse
def uq:List Nat->Bool
  |[]=>true
  |x::l=> !l.contains x&&uq l
def Su(n:Nat)(l:List Nat):Bool:=decide (l.length=n)&&uq l&&(l.all λi=>decide (i<n))&&(List.range n).all λi=>l.contains i
def ayh:Operand->Operand->Bool
  | .tmp a,.tmp b=>a==b
  |_,_=>false
def aeX(l:List Oper)(x:Operand):Operand:=
  match x with
  | .tmp t=>(match l.find? (λo=>o.dst==some t)with
    | some o=>(match o.op with
      | .move y=>y
      | .assign y=>y
      |_=>x)
    |none=>x)
  |_=>x
def ac9(l:List Oper):List Oper->Bool
  |[]=>false
  | o ::r=>(match o.op with
      | .call c=>(match c.callee,c.args.toList with
        | .builtin .append,x::_=>r.any λp=>match p.op with
          | .call lR=>(match lR.callee with
            | .builtin _=>false
            |_=>lR.args.toList.any λy=>ayh (aeX l x) (aeX l y))
          |_=>false
        |_,_=>false)
      |_=>false)||ac9 l r
def Ea:List bn->Option (List bn×bn×List bn)
  |[]=>none
  | o::r=>match o.k with
    | .app _ _ _ _=>some ([],o,r)
    |_=>(Ea r).map λ(a,b,c)=>(o::a,b,c)
def Vi(g5:List Nat)(n:Nat):Bool:=(List.range n).all λj=>(List.range j).all λi=>(g5.getD j 0).testBit i
def ae4(ops:Array Oper):Bool:=(List.range ops.size).all λj=>match ops[j]? with
  |some o=>o.after.toList.all λe=> !Region.binds .any e||decide (e.on<j)
  |none=>false
def N2(P:Program)(cM:Nat)(ops:Array Oper)(qG:Bool):Option I:=
  if ac9 ops.toList ops.toList&&(!qG||(ae4 ops&&Vi (xR ops.toList []) ops.size))then
    (match Ba P ops cM (List.range ops.size)with
    |some L=>(Ea L).map λ(a,b,c)=> .qa a b c
    |none=>none)
  else none
def IW(P:Program)(cM:Nat)(ops:Array Oper):Bool->Option I
  | false=>match Ba P ops cM (List.range ops.size)with
    |some l=>some (.E l)
    |none=>none
  | true=>
    let order:=aeT ops ops.size (List.range ops.size) []
    if Su ops.size order then
      match D3 P ops cM (xR ops.toList []) order []with
      |some l=>some (.E l)
      |none=>none
    else none
def pQ(P:Program)(cM:Nat):Code->Option I
  | .skip=>some .skip
  | .region _ ops qG=>match N2 P cM ops qG with
    |some c=>some c
    |none=>IW P cM ops qG
  | .seq a b=>match pQ P cM a,pQ P cM b with
    |some x,some y=>some (.B x y)
    |_,_=>none
  | .cond c a b=>match pQ P cM a,pQ P cM b with
    |some x,some y=>if cL c then some (.aR c x y)else none
    |_,_=>none
  | .block id c=>match pQ P cM c with
    |some x=>some (.block id x)
    |none=>none
  | .loop c=>match pQ P cM c with
    |some x=>some (.loop x)
    |none=>none
  | .exit id=>some (.ba id)
  | .ret=>some .aG
  |_=>none
def u6(P:Program)(cM:Nat):List ResultVar->Option (List kU)
  |[]=>some []
  | .tmp t::r=>match u6 P cM r with
    |some l=>if t<cM then some (.bG t::l)else none
    |none=>none
  | .cell a t::r=>match n6 P t,j6 P t,u6 P cM r with
    |some dc,some n,some l=>if a<cM then some (.hL a dc n::l)else none
    |_,_,_=>none
def b2(P:Program)(f:Nat):Option bS:=
  match P.funcs[f]? with
  | some fn=>if fn.name== "runtime.NumGoroutine" then none else match fn.body with
    | some c=>match pQ P fn.ntmps c,u6 P fn.ntmps fn.results.toList with
      |some b,some cm=>some ⟨fn.ntmps,cm,b⟩
      |_,_=>none
    |none=>none
  |none=>none
noncomputable def jl(P:Program):Nat->Callee
  |0,_,_,_=>none
  | n+1,f,args,m=>match b2 P f with
    | some u=>if args.length<=u.cM then
        (match en (jl P n) n u.body (ja args) m with
        |some (.ba _,_,_)=>none
        |some (_,aj,an)=>if kK an aj u.iS then some (lb an aj u.iS,an)else none
        |none=>none)
      else none
    |none=>none
open Go Go.RowKit
structure si where
  c:Nat
  o:Nat
  n:Nat
abbrev ez:=Nat->Option si
inductive dw(ag:ez):Value->Value->Prop
  |cv {v:Value} (h:dO v=true):dw ag v v
  |cD {b off:Nat} {l:si} (h:ag b=some l):dw ag (.pointer (some ⟨b,off,none⟩)) (.pointer (some ⟨l.c,l.o+off,none⟩))
  | slice {b off len J cap:Nat} {dD:Addr} {l:si} (h:ag b=some l) (ax:(cap=0/\len=0)\/(dD=⟨l.c,l.o+off,none⟩/\off+cap*J<=l.n)) (aC:len<=cap) (aw:cap<=maxLen):
      dw ag (.slice (some ⟨b,off,none⟩) len J) (.slice (some dD) len cap)
  |agg {xs ys:Array Value} (M:xs.size=ys.size) (h: ∀(i:Nat) (x y:Value),xs[i]?=some x->ys[i]?=some y->dw ag x y) (D: ∀x∈xs.toList,S x=true):dw ag (.agg xs) (.agg ys)
  |tuple {xs ys:Array Value} (M:xs.size=ys.size) (h: ∀(i:Nat) (x y:Value),xs[i]?=some x->ys[i]?=some y->dw ag x y):dw ag (.tuple xs) (.tuple ys)
  | func {fn:Fn} {xs ys cs ds:Array Value} (M:xs.size=ys.size) (h: ∀(i:Nat) (x y:Value),xs[i]?=some x->ys[i]?=some y->dw ag x y)
      (hA:cs.size=ds.size) (H: ∀(i:Nat) (x y:Value),cs[i]?=some x->ds[i]?=some y->dw ag x y):dw ag (.func fn xs cs) (.func fn ys ds)
  |iface {t:TypeId} {v bq:Value} (h:dw ag v bq):dw ag (.iface t v) (.iface t bq)
  |map {b:Nat} {l:si} (h:ag b=some l):dw ag (.map (some b)) (.map (some l.c))
def fW(ag cA:ez):Prop:= ∀b l,ag b=some l->cA b=some l
theorem fW.refl(ag:ez):fW ag ag:= λ_ _ h=>h
theorem fW.trans{a b c:ez}(h:fW a b)(bK:fW b c):fW a c:= λx l G=>bK x l (h x l G)
theorem dw.cd{ag cA:ez}(fJ:fW ag cA){v bq:Value}(h:dw ag v bq):dw cA v bq:=by
  induction h with
  |cv h=>exact .cv h
  |cD h=>exact .cD (fJ _ _ h)
  |slice h ax aC aw=>exact .slice (fJ _ _ h) ax aC aw
  |agg M _ D cn=>exact .agg M cn D
  |tuple M _ cn=>exact .tuple M cn
  |func M _ hA _ cn PS=>exact .func M cn hA PS
  |iface _ cn=>exact .iface cn
  |map h=>exact .map (fJ _ _ h)
def cU(ag:ez)(xs ys:List Value):Prop:=xs.length=ys.length/\ ∀(i:Nat) (x y:Value),xs[i]?=some x->ys[i]?=some y->dw ag x y
theorem cU.nil(ag:ez):cU ag [] []:=⟨rfl,by intro i x y h;simp at h⟩
theorem cU.cons{ag:ez}{x y:Value}{xs ys:List Value}(h:dw ag x y)(M:cU ag xs ys):cU ag (x::xs) (y::ys):=by
  refine⟨by simp[M.1],λi a b az hb=> ?_⟩;cases i with
  |zero=>simp at az hb;subst az;subst hb;exact h
  |succ i=>exact M.2 i a b (by simpa using az) (by simpa using hb)
theorem cU.cd{ag cA:ez}(fJ:fW ag cA){xs ys:List Value}(h:cU ag xs ys):cU cA xs ys:=⟨h.1,λi x y G ah=>(h.2 i x y G ah).cd fJ⟩
theorem cU.agg{ag:ez}{xs ys:List Value}(h:cU ag xs ys)(D: ∀x∈xs,S x=true):dw ag (.agg xs.toArray) (.agg ys.toArray):= .agg (by simpa using h.1) (by simpa using h.2) (by simpa using D)
theorem cU.tuple{ag:ez}{xs ys:List Value}(h:cU ag xs ys):dw ag (.tuple xs.toArray) (.tuple ys.toArray):= .tuple (by simpa using h.1) (by simpa using h.2)
theorem cU.oh{ag:ez}{a b c d:List Value}(h:cU ag a b)(bK:cU ag c d):cU ag (a++c) (b++d):=by
  refine⟨by simp[h.1,bK.1],λi x y G ah=> ?_⟩;rw[AS]at G ah;rw[<-h.1]at ah;split at G
  · rename_i ai;rw[if_pos ai]at ah;exact h.2 _ _ _ G ah
  · rename_i ai;rw[if_neg ai]at ah;exact bK.2 _ _ _ G ah
theorem cU.drop{ag:ez}{a b:List Value}(h:cU ag a b)(n:Nat):cU ag (a.drop n) (b.drop n):=
  ⟨by simp[h.1],λi x y G ah=>h.2 (n+i) x y (by simpa using G) (by simpa using ah)⟩
theorem cU.take{ag:ez}{a b:List Value}(h:cU ag a b)(n:Nat):cU ag (a.take n) (b.take n):=by
  refine⟨by simp[h.1],λi x y G ah=> ?_⟩;rw[uQ]at G ah;split at G
  · rename_i ai;rw[if_pos ai]at ah;exact h.2 _ _ _ G ah
  · cases G
theorem cU.set{ag:ez}{a b:List Value}(h:cU ag a b)(n:Nat){x y:Value}(ab:dw ag x y):cU ag (a.set n x) (b.set n y):=by
  refine⟨by simp[h.1],λi bp v G ah=> ?_⟩;rw[yw]at G ah;rw[<-h.1]at ah;split at G
  · rename_i ai;rw[if_pos ai]at ah;split at G
    · rename_i H;rw[if_pos H]at ah;simp at G ah;subst G;subst ah;exact ab
    · cases G
  · rename_i ai;rw[if_neg ai]at ah;exact h.2 _ _ _ G ah
theorem cU.gx{ag:ez}: ∀{ck e1:List Value} {a b:List Value} (off:Nat),cU ag a b->cU ag ck e1->cU ag (gx a off ck) (gx b off e1)
  |[],[],_,_,_,h,_=>h
  |[],bp::e1,_,_,_,_,H=>by simp[cU]at H
  |v::ck,[],_,_,_,_,H=>by simp[cU]at H
  | v::ck,bp::e1,a,b,off,h,H=>by simp only[Go.DI.gx];exact cU.gx (off+1) (h.set off (H.2 0 v bp rfl rfl)) ⟨by simpa using H.1,λi x y G ah=>H.2 (i+1) x y (by simpa using G) (by simpa using ah)⟩
theorem cU.Y{ag:ez}{a b:List Value}(h:cU ag a b){i:Nat}{x:Value}(G:a[i]?=some x): ∃y,b[i]?=some y/\dw ag x y:=by have ai:i<a.length:=(ek.1 G).1;rw[h.1]at ai;exact⟨b[i],dx ai,h.2 i x _ G (dx ai)⟩
theorem cU.CL{ag:ez}{c7:Type}(f g:c7->Value): ∀(l:List c7),(∀x∈l,dw ag (f x) (g x))->cU ag (l.map f) (l.map g)
  |[],_=>cU.nil ag
  |x::l,h=>cU.cons (h x (by simp)) (cU.CL f g l λy ah=>h y (by simp[ah]))
theorem cU.cv(ag:ez){cs:List Value}(h:cs.all dO=true):cU ag cs cs:=by refine⟨rfl,λi x y G ah=> ?_⟩;rw[G]at ah;cases ah;exact .cv (eD.1 h x (hR G))
theorem vh{v:Value}(h:dO v=true):S v=true:=by cases v<;>simp_all [dO,Go.DI.S]
theorem dw.mj(ag:ez){v:Value}(h:mj v=true):dw ag v v:=by
  unfold Go.DI.mj at h;split at h
  · rename_i cs;have:=cU.agg (cU.cv ag h) (λv ab=>vh (eD.1 h v ab));simpa using this
  · rename_i cs;have:=cU.tuple (cU.cv ag h);simpa using this
  · exact .cv h
theorem dw.undef(ag:ez):dw ag undef undef:=cU.tuple (cU.nil ag)
theorem dw.S{ag:ez}{v bq:Value}(h:dw ag v bq):S bq=S v:=by cases h<;>simp[Go.DI.S]
theorem TT{ag:ez}{v bq:Value}(h:dw ag v bq):cU ag (O v) bq.cells.toList:=by
  cases h with
  |agg M h _=>exact⟨by simpa[O,Value.cells]using M,by simpa[O,Value.cells]using h⟩
  | cv h=>cases v<;>simp[dO]at h<;>exact cU.cons (.cv (by simp[dO,h])) (cU.nil ag)
  |cD h=>exact cU.cons (.cD h) (cU.nil ag)
  |slice h ax aC aw=>exact cU.cons (.slice h ax aC aw) (cU.nil ag)
  |tuple M h=>exact cU.cons (.tuple M h) (cU.nil ag)
  |func M h hA H=>exact cU.cons (.func M h hA H) (cU.nil ag)
  |iface h=>exact cU.cons (.iface h) (cU.nil ag)
  |map h=>exact cU.cons (.map h) (cU.nil ag)
theorem TS{ag:ez}{v bq:Value}(h:dw ag v bq)(ax:U v=true): ∀x∈O v,S x=true:=by
  intro x G;cases h with
  |agg M h D=>exact D x G
  |cv h=>cases v<;>simp[dO,O]at h G<;>subst G<;>rfl
  |cD h=>simp[O]at G;subst G;rfl
  |slice h ax aC aw=>simp[O]at G;subst G;rfl
  |tuple M h=>simp[U]at ax
  |func M h hA H=>simp[O]at G;subst G;rfl
  |iface h=>simp[O]at G;subst G;rfl
  |map h=>simp[O]at G;subst G;rfl
theorem dw.agD{ag:ez}{xs:Array Value}{v:Value}(h:dw ag (.agg xs) v): ∀x∈xs.toList,Go.DI.S x=true:=by
  cases h with
  |cv h=>simp[dO]at h
  |agg M h D=>exact D
theorem dw.p6{ag:ez}{k:IntKind}{n:Int}{v:Value}(h:dw ag (.int k n) v):v= .int k n:=by cases h;rfl
theorem dw.p5{ag:ez}{b:Bool}{v:Value}(h:dw ag (.bool b) v):v= .bool b:=by cases h;rfl
theorem dw.vv{ag:ez}{s:ByteArray}{v:Value}(h:dw ag (.string s) v):v= .string s:=by cases h;rfl
theorem dw.p7{ag:ez}{a:Addr}{v:Value}(h:dw ag (.pointer (some a)) v): ∃l,ag a.block=some l/\a.spot=none/\v= .pointer (some ⟨l.c,l.o+a.off,none⟩):=by
  cases h with
  |cv h=>simp[dO]at h
  |cD h=>exact⟨_,h,rfl,rfl⟩
theorem dw.mu{ag:ez}{a:Addr}{len J:Nat}{v:Value}(h:dw ag (.slice (some a) len J) v):
    ∃l dD cap,ag a.block=some l/\a.spot=none/\v= .slice (some dD) len cap/\((cap=0/\len=0)\/(dD=⟨l.c,l.o+a.off,none⟩/\a.off+cap*J<=l.n))/\len<=cap/\cap<=maxLen:=by
  cases h with
  |cv h=>simp[dO]at h
  |slice h ax aC aw=>exact⟨_,_,_,h,rfl,rfl,ax,aC,aw⟩
theorem dw.qV{ag:ez}{xs:Array Value}{v:Value}(h:dw ag (.agg xs) v): ∃ys,v= .agg ys/\cU ag xs.toList ys.toList:=by
  cases h with
  |cv h=>simp[dO]at h
  |agg M h _=>exact⟨_,rfl,by simpa using M,by simpa using h⟩
theorem dw.zo{ag:ez}{xs:Array Value}{v:Value}(h:dw ag (.tuple xs) v): ∃ys,v= .tuple ys/\cU ag xs.toList ys.toList:=by
  cases h with
  |cv h=>simp[dO]at h
  |tuple M h=>exact⟨_,rfl,by simpa using M,by simpa using h⟩
theorem dw.zn{ag:ez}{fn:Fn}{xs cs:Array Value}{v:Value}(h:dw ag (.func fn xs cs) v): ∃ys ds,v= .func fn ys ds/\cU ag xs.toList ys.toList/\cU ag cs.toList ds.toList:=by
  cases h with
  |cv h=>simp[dO]at h
  |func M h hA H=>exact⟨_,_,rfl,⟨by simpa using M,by simpa using h⟩,by simpa using hA,by simpa using H⟩
theorem dw.Fa{ag:ez}{t:TypeId}{x v:Value}(h:dw ag (.iface t x) v): ∃y,v= .iface t y/\dw ag x y:=by
  cases h with
  |cv h=>simp[dO]at h
  |iface h=>exact⟨_,rfl,h⟩
theorem dw.Fb{ag:ez}{b:Nat}{v:Value}(h:dw ag (.map (some b)) v): ∃l,ag b=some l/\v= .map (some l.c):=by
  cases h with
  |cv h=>simp[dO]at h
  |map h=>exact⟨_,h,rfl⟩
theorem dw.hB{ag:ez}{v bq:Value}(h:dw ag v bq)(a3:dO v=true):bq=v:=by cases h<;>first|rfl|simp[dO]at a3
structure gw(ag:ez)(cM:Nat)(z:aP)(a:Act):Prop where
  size:a.tmps.size=cM
  defers:a.defers=[]
  l8: ∀t,dw ag (z t) (a.tmps.getD t undef)
theorem gw.cd{ag cA:ez}(fJ:fW ag cA){cM:Nat}{z:aP}{a:Act}(h:gw ag cM z a):gw cA cM z a:=⟨h.size,h.defers,λt=>(h.l8 t).cd fJ⟩
theorem gw.X{ag:ez}{cM:Nat}{z:aP}{a:Act}(h:gw ag cM z a){x:Operand}(G:cL x=true):dw ag (X z x) (a.eval x):=by
  cases x with
  |tmp t=>exact h.l8 t
  |const v=>exact dw.mj ag G
  |func f=>exact .func rfl (by intro i x y h;simp at h) rfl (by intro i x y h;simp at h)
  |global g=>simp[cL]at G
theorem gw.a4{ag:ez}{cM:Nat}{z:aP}{a:Act}(h:gw ag cM z a){d:Option Nat}(aA:d.all (λd=>decide (d<cM))=true){v bq:Value}(ab:dw ag v bq):gw ag cM (c1 z d v) (a.put d bq):=by
  cases d with
  |none=>exact h
  | some d=>
    have yZ:d<cM:=(by simpa using aA);refine⟨by simp[Act.put,h.size],h.defers,λt=> ?_⟩;simp only[c1,pE,Act.put];by_cases e:t=d
    · subst e;have:t<a.tmps.size:=(by rw[h.size];exact yZ);simpa[this]using ab
    · have:=h.l8 t;simp only[Array.getD_eq_getD_getElem?]at this⊢;rw[Array.getElem?_setIfInBounds_ne (Ne.symm e)];simpa[e]using this
def wI(ag:ez)(a9:List (Value×Value))(c2:List MapEntry):Prop:=a9.length=c2.length/\ ∀(i:Nat) e dY,a9[i]?=some e->c2[i]?=some dY->dO e.1=true/\dY.key=e.1/\S e.2=true/\dw ag e.2 dY.val
theorem wI.cd{ag cA:ez}(fJ:fW ag cA){a9:List (Value×Value)}{c2:List MapEntry}(h:wI ag a9 c2):wI cA a9 c2:=
  ⟨h.1,λi e dY D H=>by obtain⟨a,b,c,d⟩:=h.2 i e dY D H;exact⟨a,b,c,d.cd fJ⟩⟩
theorem W.tO{m:W}{b:Nat}{a9:List (Value×Value)}(h:m.eJ b=some a9):m.Y b=some ⟨[],true⟩/\m.mp b=some a9:=by
  unfold W.eJ at h;split at h
  · rename_i aM;exact⟨aM,h⟩
  · cases h
theorem W.jJ{m:W}{b:Nat}{a9:List (Value×Value)}(D:m.Y b=some ⟨[],true⟩)(H:m.mp b=some a9):m.eJ b=some a9:=by unfold W.eJ;rw[D];exact H
structure dr(aV:Nat)(ag:ez)(m:W)(w:World):Prop where
  ke: ∀b l,ag b=some l->b<m.next
  lF: ∀b l,ag b=some l->l.c<w.heap.size
  lI: ∀b x,m.Y b=some x-> ∃l,ag b=some l/\x.cells.length<=l.n/\(∀i v,x.cells[i]?=some v->S v=true/\ ∃bq,w.cell? ⟨l.c,l.o+i,none⟩=some bq/\dw ag v bq)/\
    (x.own=true->aV<=l.c/\ ∀i,i<l.n->(w.cell? ⟨l.c,l.o+i,none⟩).isSome=true/\w.frozen? ⟨l.c,l.o+i,none⟩=false)
  qI: ∀b x ca hJ l dj,m.Y b=some x->x.own=true->m.Y ca=some hJ->b≠ca->ag b=some l->ag ca=some dj->l.c≠dj.c
  s0: ∀b a9,m.mp b=some a9-> ∃l,ag b=some l
  maps: ∀b a9,m.eJ b=some a9-> ∃l c2 ahi,ag b=some l/\aV<=l.c/\w.heap[l.c]?=some (.map c2 ahi)/\wI ag a9 c2.toList
theorem W.bm{m:W}{b:Nat}{x:fm}(h:m.Y b=some x):b<m.next:=by
  unfold W.Y at h;split at h
  · assumption
  · cases h
theorem W.mR(m:W)(b ca:Nat)(x:Option fm):(m.a4 b x).Y ca=if ca=b then(if b<m.next then x else none)else m.Y ca:=by
  unfold W.Y W.a4;by_cases h:ca=b
  · subst h;simp
  · simp[h]
theorem W.e9(m:W)(k b:Nat):(m.du k).Y b=m.Y b:=by
  unfold W.Y W.du;by_cases h:b<m.next
  · simp[h,oW h (Nat.le_add_right _ _)]
  · simp[h]
theorem W.aed(m:W)(b:Nat)(x:Option fm):(m.a4 b x).next=m.next:=rfl
theorem W.sn(m:W)(k:Nat):(m.du k).next=m.next+k:=rfl
theorem dr.du{aV:Nat}{ag:ez}{m:W}{w:World}(h:dr aV ag m w)(k:Nat):dr aV ag (m.du k) w:=
  ⟨λb l hb=>oW (h.ke b l hb) (by simp[W.sn]),h.lF,λb x G=>h.lI b x (by rwa [W.e9]at G),
   λb x ca hJ l dj D H aq=>h.qI b x ca hJ l dj (by rwa [W.e9]at D) H (by rwa [W.e9]at aq),
   h.s0,λb a9 hb=>by obtain⟨aQ,a8⟩:=W.tO hb;rw[W.e9]at aQ;exact h.maps b a9 (W.jJ aQ a8)⟩
theorem dr.afw{aV:Nat}{ag:ez}{m:W}{w cT:World}(h:dr aV ag m w)(aJ:cT.heap=w.heap):dr aV ag m cT:=by
  have ar: ∀a,cT.cell? a=w.cell? a:= λa=>by simp[World.cell?,aJ]
  have a3: ∀a,cT.frozen? a=w.frozen? a:= λa=>by simp[World.frozen?,aJ]
  exact⟨h.ke,by rw[aJ];exact h.lF,λb x G=>by simpa only[ar,a3]using h.lI b x G,h.qI,h.s0,λb a9 hb=>by rw[aJ];exact h.maps b a9 hb⟩
def iu(P:Program)(o:Oper)(a:Act)(w:World)(v:Value)(cT:World):Prop:=
  (execOp a.eval o).run P w= .ok (.value v) cT\/((execOp a.eval o).run P w= .ok .skip cT/\v=undef)
section
variable {P:Program} {o:Oper} {a:Act} {w:World}
theorem azQ{x:Operand}(bu:o.op= .move x):iu P o a w (a.eval x) w:= .inl (by simp[execOp,bu])
theorem azz{x:Operand}(bu:o.op= .assign x):iu P o a w (a.eval x) w:= .inl (by simp[execOp,bu])
theorem azS{c x y:Operand}{b:Bool}(bu:o.op= .pick c x y)(ar:a.eval c= .bool b):iu P o a w (if b then a.eval x else a.eval y) w:=
  .inl (by simp[execOp,bu,ar,asBool])
theorem azR{x:Operand}(bu:o.op= .nilCheck x)(G:zR (a.eval x)=true):iu P o a w (a.eval x) w:=by
  refine .inl ?_;simp only[execOp,bu];generalize a.eval x=v at G;cases v<;>simp_all [zR]
  · rename_i p;cases p<;>simp_all
  · rename_i fn _ _;cases fn<;>simp_all
theorem Ig{op:BinOp}{t yq:TypeId}{x y:Operand}{v:Value}(bu:o.op= .binOp op t x y yq)(aM:(eqGuard op t x y (a.eval x) (a.eval y)).run P w= .ok () w)
    (h:(binOp op t (a.eval x) (a.eval y)).run P w= .ok v w):iu P o a w v w:=
  .inl (by simp[execOp,bu,aM,h])
theorem azV{op:UnOp}{t:TypeId}{x:Operand}(bu:o.op= .unOp op t x)(G:wq op (a.eval x)=true):iu P o a w (AM op (a.eval x)) w:=by refine .inl ?_;simp only[execOp,bu];generalize a.eval x=v at G;cases op<;>cases v<;>simp_all [wq,AM,Op.unary,Op.intArith]
theorem azH{x:Operand}{i:Nat}{ck:Array Value}(bu:o.op= .extract x i)(G:a.eval x= .tuple ck)(ai:i<ck.size):iu P o a w (AK (a.eval x) i) w:=by refine .inl ?_;simp[execOp,bu,G,Instr.extract,ai,AK]
theorem azE{s d:TypeId}{k RR eB:IntKind}{n:Int}{x:Operand}(bu:o.op= .convert s d x)(M:P.underlying s=some (.int RR))(aA:P.underlying d=some (.int k))(G:a.eval x= .int eB n):
    iu P o a w (.int k (k.wrap n)) w:=by
  refine .inl ?_;simp[execOp,bu,G,convert,underlying,M,aA,Conv.intToInt]
theorem azF{s d:TypeId}{b:ByteArray}{x:Operand}(bu:o.op= .convert s d x)(M:P.underlying s=some .string)(aA:P.underlying d=some .string)(G:a.eval x= .string b):
    iu P o a w (.string b) w:=by
  refine .inl ?_;simp[execOp,bu,G,convert,underlying,M,aA]
theorem azP{fn:Fn}{x y:Array Operand}(bu:o.op= .makeFunc fn x y):iu P o a w (.func fn (x.map a.eval) (y.map a.eval)) w:=
  .inl (by simp[execOp,bu,Instr.makeFunc])
theorem azI{s:TypeId}{x:Operand}{i:Nat}{fr:Array Field}{f:Field}{bB:TypeInfo}{c off:Nat}(bu:o.op= .fieldAddr s x i)(M:P.underlying s=some (.struct fr))(a3:fr[i]?=some f)
    (ai:P.info? f.type=some bB) (ax:0<bB.size) (G:a.eval x= .pointer (some ⟨c,off,none⟩)):iu P o a w (.pointer (some ⟨c,off+f.offset,none⟩)) w:=by
  refine .inl ?_;have:bB.size≠0:=by omega
  simp[execOp,bu,G,Instr.fieldAt,underlying,M,a3,Instr.sureAddr,fieldPlace,sizeOf,typeInfo,ai,this,Addr.add]
theorem azK{t e:TypeId}{x i:Operand}{bB:TypeInfo}{c off len cap:Nat}{k:IntKind}{n:Int}(bu:o.op= .indexAddr t x i)(bt:P.underlying t=some (.slice e))
    (ai:P.info? e=some bB) (G:a.eval x= .slice (some ⟨c,off,none⟩) len cap) (ax:a.eval i= .int k n) (c5:0<=n) (D:n<(len:Int)):
    iu P o a w (.pointer (some ⟨c,off+n.toNat*bB.size,none⟩)) w:=by
  refine .inl ?_;simp[execOp,bu,G,ax,Instr.indexAt,asIntOf,underlying,bt,sizeOf,typeInfo,ai,c5,D,Addr.add]
theorem azL{t e:TypeId}{x i:Operand}{bB:TypeInfo}{c off len:Nat}{k:IntKind}{n:Int}(bu:o.op= .indexAddr t x i)(bt:P.underlying t=some (.array len e))
    (ai:P.info? e=some bB) (G:a.eval x= .pointer (some ⟨c,off,none⟩)) (ax:a.eval i= .int k n) (c5:0<=n) (D:n<(len:Int)):
    iu P o a w (.pointer (some ⟨c,off+n.toNat*bB.size,none⟩)) w:=by
  refine .inl ?_;simp[execOp,bu,G,ax,Instr.indexAt,asIntOf,underlying,bt,sizeOf,typeInfo,ai,c5,D,Addr.add,Instr.sureAddr]
theorem azM{t:TypeId}{x i:Operand}{s:ByteArray}{k:IntKind}{n:Int}(bu:o.op= .index t x i)(bt:P.underlying t=some .string)
    (G:a.eval x= .string s) (ax:a.eval i= .int k n) (c5:0<=n) (D:n<(s.size:Int)):
    iu P o a w (.int .u8 ((s.data.toList.getD n.toNat 0).toNat:Nat)) w:=by
  refine .inl ?_;have H:n.toNat<s.size:=by omega
  have aq:s[n.toNat]?=some (s.data.toList.getD n.toNat 0):=by rw[getElem?_pos s n.toNat H];have:n.toNat<s.data.size:=H;simp only[oa,Dx,yr this,AV];rfl
  simp[execOp,bu,G,ax,Instr.index,asIntOf,underlying,bt,c5,aq]
theorem azN{c:Call}{x:Operand}{t:TypeId}{s:ByteArray}(bu:o.op= .call c)(ar:c.callee= .builtin .len)(az:c.args.toList=[x])(df:c.argTypes.toList=[t])
    (bt:P.underlying t=some .string) (G:a.eval x= .string s):iu P o a w (.int .i64 s.size) w:=by
  refine .inl ?_;have mS:c.args= #[x]:=by rw[<-pG (xs:=c.args),az]
  have vl:c.argTypes= #[t]:=by rw[<-pG (xs:=c.argTypes),df]
  simp[execOp,bu,resolve,ar,mS,vl,invoke,builtin,Builtin.len_,underlying,bt,G,goInt]
theorem azO{c:Call}{x:Operand}{t e:TypeId}{p:Option Addr}{l cap:Nat}(bu:o.op= .call c)(ar:c.callee= .builtin .len)(az:c.args.toList=[x])(df:c.argTypes.toList=[t])
    (bt:P.underlying t=some (.slice e)) (G:a.eval x= .slice p l cap):iu P o a w (.int .i64 l) w:=by
  refine .inl ?_;have mS:c.args= #[x]:=by rw[<-pG (xs:=c.args),az]
  have vl:c.argTypes= #[t]:=by rw[<-pG (xs:=c.argTypes),df]
  simp[execOp,bu,resolve,ar,mS,vl,invoke,builtin,Builtin.len_,underlying,bt,G,goInt]
theorem azD{c:Call}{x:Operand}{t e:TypeId}{p:Option Addr}{l cap:Nat}(bu:o.op= .call c)(ar:c.callee= .builtin .cap)(az:c.args.toList=[x])(df:c.argTypes.toList=[t])
    (bt:P.underlying t=some (.slice e)) (G:a.eval x= .slice p l cap):iu P o a w (.int .i64 cap) w:=by
  refine .inl ?_;have mS:c.args= #[x]:=by rw[<-pG (xs:=c.args),az]
  have vl:c.argTypes= #[t]:=by rw[<-pG (xs:=c.argTypes),df]
  simp[execOp,bu,resolve,ar,mS,vl,invoke,builtin,Builtin.cap_,underlying,bt,G,goInt]
end
section
variable {P:Program} {w:World}
theorem axg{t:TypeId}(d:Nat)(h:P.underlying t=some .bool)(a b:Bool):(Op.equalIn (d+1) t (.bool a) (.bool b)).run P w= .ok (a==b) w:=by simp[Op.equalIn,run_underlying h]
theorem axi{t e:TypeId}(d:Nat)(h:P.underlying t=some (.pointer e))(p q:Option Addr)(ph:p=none\/q=none):(Op.equalIn (d+1) t (.pointer p) (.pointer q)).run P w= .ok (p.isNone&&q.isNone) w:=by
  rcases ph with rfl|rfl
  · simp[Op.equalIn,run_underlying h]
  · cases p<;>simp[Op.equalIn,run_underlying h]
theorem axj{t e:TypeId}(d:Nat)(h:P.underlying t=some (.slice e))(p q:Option Addr)(l c dj lR:Nat)(ph:p=none\/q=none):(Op.equalIn (d+1) t (.slice p l c) (.slice q dj lR)).run P w= .ok (p.isNone&&q.isNone) w:=by
  rcases ph with rfl|rfl
  · simp[Op.equalIn,run_underlying h]
  · cases p<;>simp[Op.equalIn,run_underlying h]
theorem axh{t:TypeId}{bQ bs:Array TypeId}{TU:Bool}(d:Nat)(h:P.underlying t=some (.func bQ bs TU))(x y:Value)
    (sJ:(x= .nilFunc/\y= .nilFunc)\/(x= .nilFunc/\ ∃a b c,y= .func a b c)\/(y= .nilFunc/\ ∃a b c,x= .func a b c)):(Op.equalIn (d+1) t x y).run P w= .ok (pl x&&pl y) w:=by
  rcases sJ with⟨rfl,rfl⟩|⟨rfl,_,_,_,rfl⟩|⟨rfl,_,_,_,rfl⟩<;>simp[Op.equalIn,run_underlying h,pl]
theorem axk{t:TypeId}(h:P.underlying t=some .bool)(a b:Bool):(Op.equal t (.bool a) (.bool b)).run P w= .ok (a==b) w:=axg 9999 h a b
theorem aex{t e:TypeId}(h:P.underlying t=some (.pointer e))(p q:Option Addr)(ph:p=none\/q=none):(Op.equal t (.pointer p) (.pointer q)).run P w= .ok (p.isNone&&q.isNone) w:=axi 9999 h p q ph
theorem aey{t e:TypeId}(h:P.underlying t=some (.slice e))(p q:Option Addr)(l c dj lR:Nat)(ph:p=none\/q=none):(Op.equal t (.slice p l c) (.slice q dj lR)).run P w= .ok (p.isNone&&q.isNone) w:=axj 9999 h p q l c dj lR ph
theorem SV{t:TypeId}{bQ bs:Array TypeId}{TU:Bool}(h:P.underlying t=some (.func bQ bs TU))(x y:Value)
    (sJ:(x= .nilFunc/\y= .nilFunc)\/(x= .nilFunc/\ ∃a b c,y= .func a b c)\/(y= .nilFunc/\ ∃a b c,x= .func a b c)):(Op.equal t x y).run P w= .ok (pl x&&pl y) w:=axh 9999 h x y sJ
theorem ayU{t:TypeId}(h:n7 P t= .bool):P.underlying t=some .bool:=by unfold n7 at h;split at h<;>first|assumption|cases h
theorem afd{t:TypeId}(h:n7 P t= .cD): ∃e,P.underlying t=some (.pointer e):=by unfold n7 at h;split at h<;>first|exact⟨_,by assumption⟩|cases h
theorem afe{t:TypeId}(h:n7 P t= .slice): ∃e,P.underlying t=some (.slice e):=by unfold n7 at h;split at h<;>first|exact⟨_,by assumption⟩|cases h
theorem TM{t:TypeId}(h:n7 P t= .fn): ∃a b c,P.underlying t=some (.func a b c):=by unfold n7 at h;split at h<;>first|exact⟨_,_,_,by assumption⟩|cases h
theorem MH{op:BinOp}{t:TypeId}{x y:Operand}{bp v:Value}(D:bp≠ .nilIface)(H:rS bp=false):(eqGuard op t x y bp v).run P w= .ok () w:=by
  unfold eqGuard;by_cases bu:op= .eql\/op= .neq
  · rcases bu with rfl|rfl<;>simp<;>cases bp<;>simp_all [rS]
  · cases op<;>simp_all
theorem axl{op:BinOp}{t:TypeId}{k eW:IntKind}{a b:Int}(h:J0 op k eW a b=true):(binOp op t (.int k a) (.int eW b)).run P w= .ok (BF op k a b) w:=by cases op<;>simp_all [J0,binOp,BF,Op.intArith,Op.intDiv,Op.intBits,Op.intCmp,Op.shift]<;>first|rfl|(intro bK;omega)
theorem toList_beq(a b:ByteArray):(a.toList==b.toList)=decide (a=b):=by
  rw[Bool.eq_iff_iff];simp only[ByteArray.toList_eq,beq_iff_eq,eM];constructor
  · intro h;cases a;cases b;simpa using h
  · rintro rfl;rfl
theorem axo{op:BinOp}{t:TypeId}{a b:ByteArray}(h:HY op a b=true):(binOp op t (.string a) (.string b)).run P w= .ok (yi op a b) w:=by have e:=toList_beq a b;cases op<;>simp_all [HY,binOp,yi,Op.stringOp];omega
theorem wN{op:BinOp}(mq:op= .eql\/op= .neq){t:TypeId}{bp v:Value}(aY:eV bp=false)(M:kF bp=false)(JV:xI bp=true->eV v=false){r:Bool}(a3:(∀k a b,bp≠ .complex k a b)/\ ∀k a,bp≠ .float k a)
    (h:(Op.equal t bp v).run P w= .ok r w):(binOp op t bp v).run P w= .ok (.bool (if op= .eql then r else !r)) w:=by
  rcases mq with rfl|rfl<;>cases bp<;>simp_all [eV,kF,binOp]
theorem aew{op:BinOp}{t:TypeId}{ag:ez}{bp v yk bq:Value}(mq:op= .eql\/op= .neq)(ao:sv (n7 P t) bp v=true)(aY:dw ag bp yk)(ab:dw ag v bq):
    (binOp op t yk bq).run P w= .ok (kA op bp v) w/\yk≠ .nilIface/\rS yk=false:=by
  unfold sv at ao;split at ao
  · rename_i df;have:=aY.p5;subst this;have:=ab.p5;subst this;refine⟨?_,by simp,rfl⟩;rw[wN mq rfl rfl (by simp[xI]) (by simp) (axk (ayU df) _ _)];rcases mq with rfl|rfl<;>simp[kA,nP]
  · rename_i p df;obtain⟨e,bh⟩:=afd df;have:=aY.hB rfl;subst this;have xh: ∃q,bq= .pointer q/\q.isNone=p.isNone:=by
      cases p with
      |none=>exact⟨none,ab.hB rfl,rfl⟩
      |some a=>obtain⟨l,_,_,h⟩:=ab.p7;exact⟨_,h,rfl⟩
    obtain⟨q,rfl,bf⟩:=xh;refine⟨?_,by simp,rfl⟩;rw[wN mq rfl rfl (by simp[xI]) (by simp) (aex bh _ _ (.inl rfl))];cases p<;>rcases mq with rfl|rfl<;>simp_all [kA,nP,pl]
  · rename_i p _ df;obtain⟨e,bh⟩:=afd df;have:=ab.hB rfl;subst this;have xh: ∃q,yk= .pointer q/\q.isNone=p.isNone:=by
      cases p with
      |none=>exact⟨none,aY.hB rfl,rfl⟩
      |some a=>obtain⟨l,_,_,h⟩:=aY.p7;exact⟨_,h,rfl⟩
    obtain⟨q,rfl,bf⟩:=xh;refine⟨?_,by simp,rfl⟩;rw[wN mq rfl rfl (by simp[eV]) (by simp) (aex bh _ _ (.inr rfl))];cases p<;>rcases mq with rfl|rfl<;>simp_all [kA,nP,pl]
  · rename_i iE bN p iP cI df;obtain⟨e,bh⟩:=afe df;have JV:yk= .slice none iE bN:=(by cases aY with|cv h=>rfl);subst JV;have xh: ∃q l c,bq= .slice q l c/\q.isNone=p.isNone:=by
      cases p with
      |none=>cases ab with|cv h=>exact⟨_,_,_,rfl,rfl⟩
      |some a=>obtain⟨l,dD,cap,_,_,h,_⟩:=ab.mu;exact⟨_,_,_,h,rfl⟩
    obtain⟨q,l,c,rfl,bf⟩:=xh;refine⟨?_,by simp,rfl⟩;rw[wN mq rfl rfl (by simp[xI]) (by simp) (aey bh _ _ _ _ _ _ (.inl rfl))];cases p<;>rcases mq with rfl|rfl<;>simp_all [kA,nP,pl]
  · rename_i p iE bN iP cI _ df;obtain⟨e,bh⟩:=afe df;have xh:bq= .slice none iP cI:=(by cases ab with|cv h=>rfl);subst xh;have JV: ∃q l c,yk= .slice q l c/\q.isNone=p.isNone:=by
      cases p with
      |none=>cases aY with|cv h=>exact⟨_,_,_,rfl,rfl⟩
      |some a=>obtain⟨l,dD,cap,_,_,h,_⟩:=aY.mu;exact⟨_,_,_,h,rfl⟩
    obtain⟨q,l,c,rfl,bf⟩:=JV;refine⟨?_,by simp,rfl⟩;rw[wN mq rfl rfl (by simp[xI]) (by simp) (aey bh _ _ _ _ _ _ (.inr rfl))];cases p<;>rcases mq with rfl|rfl<;>simp_all [kA,nP,pl]
  · rename_i df;obtain⟨a,b,c,bh⟩:=TM df;have:=aY.hB rfl;subst this;have:=ab.hB rfl;subst this;refine⟨?_,by simp,rfl⟩;rw[wN mq rfl rfl (by simp[xI]) (by simp) (SV bh _ _ (.inl ⟨rfl,rfl⟩))];rcases mq with rfl|rfl<;>simp[kA,nP,pl]
  · rename_i df;obtain⟨a,b,c,bh⟩:=TM df;have:=aY.hB rfl;subst this;obtain⟨ys,ds,rfl,_⟩:=ab.zn;refine⟨?_,by simp,rfl⟩;rw[wN mq rfl rfl (by simp[xI]) (by simp) (SV bh _ _ (.inr (.inl ⟨rfl,_,_,_,rfl⟩)))];rcases mq with rfl|rfl<;>simp[kA,nP,pl]
  · rename_i df;obtain⟨a,b,c,bh⟩:=TM df;have:=ab.hB rfl;subst this;obtain⟨ys,ds,rfl,_⟩:=aY.zn;refine⟨?_,by simp,rfl⟩;rw[wN mq rfl rfl (by simp[xI]) (by simp) (SV bh _ _ (.inr (.inr ⟨rfl,_,_,_,rfl⟩)))];rcases mq with rfl|rfl<;>simp[kA,nP,pl]
  · cases ao
theorem azA{o:Oper}{a:Act}{op:BinOp}{t yq:TypeId}{x y:Operand}{ag:ez}{bp v:Value}(bu:o.op= .binOp op t x y yq)(G:dw ag bp (a.eval x))(ah:dw ag v (a.eval y))
    (ao:qD op (n7 P t) bp v=true): ∃bq,iu P o a w bq w/\dw ag (kA op bp v) bq:=by
  generalize hi:a.eval x=yk at G;generalize sK:a.eval y=bq at ah;cases bp with
  | int k n=>
    cases v<;>simp only[qD]at ao
    case int eW gU=>have:=G.p6;subst this;have:=ah.p6;subst this;refine⟨BF op k n gU,Ig bu (MH (by simp[hi]) (by simp[hi,rS])) (by rw[hi,sK];exact axl ao),?_⟩;simp only[kA];exact .cv (by cases op<;>rfl)
    all_goals(cases op<;>first|cases ao|(cases ar:n7 P t<;>simp[ar,sv]at ao))
  | string s=>
    cases v<;>simp only[qD]at ao
    case string kM=>have:=G.vv;subst this;have:=ah.vv;subst this;refine⟨yi op s kM,Ig bu (MH (by simp[hi]) (by simp[hi,rS])) (by rw[hi,sK];exact axo ao),?_⟩;simp only[kA];exact .cv (by cases op<;>simp_all [yi,HY,dO])
    all_goals(cases op<;>first|cases ao|(cases ar:n7 P t<;>simp[ar,sv]at ao))
  | _=>
    simp only[qD]at ao;have mq:op= .eql\/op= .neq:=(by cases op<;>first|exact .inl rfl|exact .inr rfl|cases ao);have EU:=ao;rcases mq with rfl|rfl
    · obtain⟨D,H,aq⟩:=aew (w:=w) (.inl rfl) EU G ah;exact⟨_,Ig bu (MH (by rw[hi];exact H) (by rw[hi];exact aq)) (by rw[hi,sK];exact D),.cv (by simp[kA,dO])⟩
    · obtain⟨D,H,aq⟩:=aew (w:=w) (.inr rfl) EU G ah;exact⟨_,Ig bu (MH (by rw[hi];exact H) (by rw[hi];exact aq)) (by rw[hi,sK];exact D),.cv (by simp[kA,dO])⟩
end
section
variable {P:Program} {w:World} {o:Oper} {a:Act}
def uW(x:Option Value)(Of:Nat)(n:Nat):Prop:=(x=none/\n=Of)\/ ∃(k:IntKind) (i:Int),x=some (.int k i)/\0<=i/\i.toNat=n
theorem v9{k:IntKind}{i:Int}{y n:Nat}{c:BoundsCode}(c5:0<=i)(D:i.toNat=n)(H:n<=y):(Instr.sliceBound (.int k i) y c).run P w= .ok n w:=by
  have:i<=(y:Int):=by omega
  simp[Instr.sliceBound,asIntOf,c5,this,D]
theorem SS{LX:Bool}{len cap l h:Nat}{ct ai:Option Value}(aC:uW ct 0 l)(aJ:uW ai len h)(D:l<=h)(H:h<=cap):
    (Instr.sliceBounds LX len cap ct ai none).run P w= .ok (l,h,cap) w:=by
  rcases aC with⟨rfl,rfl⟩|⟨k,i,rfl,Bv,sG⟩<;>rcases aJ with⟨rfl,rfl⟩|⟨eW,db,rfl,EJ,pe⟩
  · simp[Instr.sliceBounds]
  · simp[Instr.sliceBounds,v9 EJ pe H]
  · simp[Instr.sliceBounds,v9 Bv sG D]
  · simp[Instr.sliceBounds,v9 EJ pe H,v9 Bv sG D]
theorem azU{t:TypeId}{x:Operand}{ct ai:Option Operand}{s:ByteArray}{l h:Nat}(bu:o.op= .slice t x ct ai none)(bt:P.underlying t=some .string)(G:a.eval x= .string s)
    (aC:uW (ct.map a.eval) 0 l) (aJ:uW (ai.map a.eval) s.size h) (D:l<=h) (H:h<=s.size):iu P o a w (.string (s.extract l h)) w:=by
  refine .inl ?_;simp[execOp,bu,G,Instr.sliceAt,Instr.slice,run_underlying bt,SS aC aJ D H]
theorem afL{t e:TypeId}{x:Operand}{ct ai:Option Operand}{p:Option Addr}{len cap:Nat}{bB:TypeInfo}{l h:Nat}(bu:o.op= .slice t x ct ai none)(bt:P.underlying t=some (.slice e))(hE:P.info? e=some bB)
    (G:a.eval x= .slice p len cap) (aC:uW (ct.map a.eval) 0 l) (aJ:uW (ai.map a.eval) len h) (D:l<=h) (H:h<=cap):
    iu P o a w (.slice (if cap=l then p else p.map (·.add (l*bB.size))) (h-l) (cap-l)) w:=by
  refine .inl ?_;simp[execOp,bu,G,Instr.sliceAt,Instr.slice,run_underlying bt,SS aC aJ D H,sizeOf,typeInfo,hE]
theorem azT{t e:TypeId}{x:Operand}{dV:Addr}{n:Nat}{bB:TypeInfo}(bu:o.op= .slice t x none none none)(az:P.underlying t=some (.array n e))(hE:P.info? e=some bB)
    (G:a.eval x= .pointer (some dV)):iu P o a w (.slice (some (if n=0 then dV else dV.add (0*bB.size))) (n-0) (n-0)) w:=by
  refine .inl ?_;have hb:=SS (P:=P) (w:=w) (LX:=false) (len:=n) (cap:=n) (l:=0) (h:=n) (ct:=none) (ai:=none) (.inl ⟨rfl,rfl⟩) (.inl ⟨rfl,rfl⟩) (ho _) (ev _);simp[execOp,bu,G,Instr.sliceAt,Instr.sureAddr,run_underlying az,hb,sizeOf,typeInfo,hE]
theorem axf{LX:Bool}{len cap l h m:Nat}{ct:Option Value}{ai fh:Value}(aC:uW ct 0 l)(aJ: ∃(k:IntKind) (i:Int),ai= .int k i/\0<=i/\i.toNat=h)(aw: ∃(k:IntKind) (i:Int),fh= .int k i/\0<=i/\i.toNat=m)(D:l<=h)(H:h<=m)(aq:m<=cap):
    (Instr.sliceBounds LX len cap ct (some ai) (some fh)).run P w= .ok (l,h,m) w:=by
  obtain⟨eW,db,rfl,EJ,pe⟩:=aJ;obtain⟨hk,ln,rfl,xc,k0⟩:=aw;rcases aC with⟨rfl,rfl⟩|⟨k,i,rfl,Bv,sG⟩
  · simp[Instr.sliceBounds,v9 xc k0 aq,v9 EJ pe H]
  · simp[Instr.sliceBounds,v9 xc k0 aq,v9 EJ pe H,v9 Bv sG D]
theorem afK{t e:TypeId}{x ai fh:Operand}{ct:Option Operand}{p:Option Addr}{len cap:Nat}{bB:TypeInfo}{l h m:Nat}(bu:o.op= .slice t x ct (some ai) (some fh))(bt:P.underlying t=some (.slice e))(hE:P.info? e=some bB)
    (G:a.eval x= .slice p len cap) (aC:uW (ct.map a.eval) 0 l) (aJ: ∃(k:IntKind) (i:Int),a.eval ai= .int k i/\0<=i/\i.toNat=h) (aw: ∃(k:IntKind) (i:Int),a.eval fh= .int k i/\0<=i/\i.toNat=m) (D:l<=h) (H:h<=m) (aq:m<=cap):
    iu P o a w (.slice (if m=l then p else p.map (·.add (l*bB.size))) (h-l) (m-l)) w:=by
  refine .inl ?_;simp[execOp,bu,G,Instr.sliceAt,Instr.slice,run_underlying bt,axf aC aJ aw D H aq,sizeOf,typeInfo,hE]
theorem yE{ag:ez}{cM:Nat}{z:aP}(M:gw ag cM z a){x:Option Operand}(G:CT x=true)(ao:m7 z x=true)(d:Nat)(c5:0<=gG z x d):uW (x.map a.eval) d (gG z x d).toNat:=by
  cases x with
  |none=>exact .inl ⟨rfl,by simp[gG]⟩
  | some x=>
    have ay:=M.X (x:=x) G;simp only[m7]at ao;simp only[gG]at c5⊢;cases ab:X z x<;>simp[ab,eV]at ao;rw[ab]at ay;refine .inr ⟨_,_,by simp[ay.p6];exact⟨rfl,rfl⟩,?_,?_⟩
    · simpa[ab,eR]using c5
    · simp[eR]
theorem VW(off:Nat): ∀(ck:List Value) (j:Nat) (cs:Array Value),((ck.zipIdx j).foldl (λcs (c,j)=>cs.setIfInBounds (off+j) c) cs).toList=gx cs.toList (off+j) ck
  |[],_,_=>rfl
  | v::ck,j,cs=>by simp only[List.zipIdx_cons,wD,gx];rw[VW off ck (j+1)];simp[oY]
theorem ah1(off:Nat)(v:Value)(cs:Array Value):(v.cells.zipIdx.foldl (λcs (c,j)=>cs.setIfInBounds (off+j) c) cs).toList=gx cs.toList off v.cells.toList:=by have:=VW off v.cells.toList 0 cs;simp only[Nat.add_zero]at this;rw[<-this,<-Array.foldl_toList];simp[Array.toList_zipIdx]
theorem DY: ∀(ck:List Value) (off:Nat) (cs:List Value),(gx cs off ck).length=cs.length
  |[],_,_=>rfl
  |v::ck,off,cs=>by simp only[gx];rw[DY ck];simp
theorem U6(p:Value->Prop): ∀(ck:List Value) (off:Nat) (cs:List Value),(∀x∈cs,p x)->(∀x∈ck,p x)-> ∀x∈gx cs off ck,p x
  |[],_,_,h,_=>h
  | v::ck,off,cs,h,H=>by
    simp only[gx];refine U6 p ck _ _ (λx G=> ?_) (λx G=>H x (by simp[G]));rcases List.mem_or_eq_of_mem_set G with aq|aq
    · exact h x aq
    · subst aq;exact H _ (by simp)
theorem Jk{ag:ez}{cM:Nat}{z:aP}(M:gw ag cM z a)(uw:Nat->Option (Nat×Nat)): ∀(ps:List (Nat×Operand)) (hu:List (Nat×Nat×Operand)) (cs:List Value) (ds:Array Value),
    (ps.length=hu.length/\ ∀(i:Nat) p q,ps[i]?=some p->hu[i]?=some q->p.2=q.2.2/\cL p.2=true/\uw p.1=some (q.1,q.2.1))->
    cU ag cs ds.toList->(∀x∈cs,S x=true)->pt cs z hu=true-> ∃fx:Array Value,Instr.fill uw ds (ps.map λp=>(p.1,a.eval p.2))=some fx/\cU ag (lv cs z hu) fx.toList/\(∀x∈lv cs z hu,S x=true)
  |[],[],cs,ds,_,ay,aD,_=>⟨ds,rfl,ay,aD⟩
  |[],_::_,_,_,ph,_,_,_=>by simp at ph
  |_::_,[],_,_,ph,_,_,_=>by simp at ph
  | p::ps,(a7,bD,b4)::hu,cs,ds,ph,ay,aD,ao=>by obtain⟨aL,aU,cz⟩:=ph.2 0 p (a7,bD,b4) rfl rfl;dsimp only at aL cz;simp only[pt,mK,aX,eM]at ao;have ab:=M.X (x:=p.2) aU;rw[aL]at ab;have ar:=TT ab;have aC:(a.eval b4).cells.size=bD:=(by have:=ar.1;simp only[Array.length_toList]at this;rw[<-this];exact ao.1.1.2);have aA:ds.size=cs.length:=(by have:=ay.1;simp at this;exact this.symm);have JQ:cU ag (gx cs a7 (O (X z b4))) ((a.eval b4).cells.zipIdx.foldl (λcs (c,j)=>cs.setIfInBounds (a7+j) c) ds).toList:=(by rw[ah1];exact ay.gx _ ar);have ES: ∀x∈gx cs a7 (O (X z b4)),S x=true:=U6 (λx=>S x=true) _ _ _ aD (TS ab ao.1.1.1);obtain⟨fx,D,H,aq⟩:=Jk M uw ps hu _ _ ⟨by simpa using ph.1,λi x y G ah=>ph.2 (i+1) x y (by simpa using G) (by simpa using ah)⟩ JQ ES (by have aq:=ao.2;simp only[pt,DY]at aq⊢;exact aq);refine⟨fx,?_,by simpa only[lv]using H,by simpa only[lv]using aq⟩;simp only[mL,Instr.fill,aL,cz,aC,ne_eq,not_true_eq_false,decide_false,Bool.false_or];rw[if_neg (by simp;omega)];exact D
theorem VS{fr:Array Field}: ∀(ps:List (Nat×Operand)) (hu:List (Nat×Nat×Operand)),Ek P fr ps=some hu->
    ps.length=hu.length/\ ∀(i:Nat) p q,ps[i]?=some p->hu[i]?=some q->p.2=q.2.2/\cL p.2=true/\ ∃f bB,fr[p.1]?=some f/\P.info? f.type=some bB/\q.1=f.offset/\q.2.1=bB.size
  |[],hu,h=>by simp[Ek]at h;subst h;simp
  | (j,x)::ps,hu,h=>by
    simp only[Ek]at h;split at h
    · rename_i f a3;split at h
      · rename_i n cm ax Pu;split at h
        · rename_i G;cases h;obtain⟨D,H⟩:=VS ps cm Pu;refine⟨by simp[D],λi p q af bf=> ?_⟩;cases i with
          | zero=>
            simp at af bf;subst af;subst bf;unfold j6 at ax;cases ai:P.info? f.type with
            |none=>simp[ai]at ax
            |some bB=>exact⟨rfl,G,f,bB,a3,ai,rfl,by simpa[ai]using ax.symm⟩
          |succ i=>exact H i p q (by simpa using af) (by simpa using bf)
        · cases h
      · cases h
    · cases h
theorem Om{J:Nat}: ∀(ps:List (Nat×Operand)) (hu:List (Nat×Nat×Operand)),yI J ps=some hu->
    ps.length=hu.length/\ ∀(i:Nat) p q,ps[i]?=some p->hu[i]?=some q->p.2=q.2.2/\cL p.2=true/\q.1=p.1*J/\q.2.1=J
  |[],hu,h=>by simp[yI]at h;subst h;simp
  | (j,x)::ps,hu,h=>by
    simp only[yI]at h;split at h
    · rename_i cm Pu;split at h
      · rename_i G;cases h;obtain⟨D,H⟩:=Om ps cm Pu;refine⟨by simp[D],λi p q af bf=> ?_⟩;cases i with
        |zero=>simp at af bf;subst af;subst bf;exact⟨rfl,G,rfl,rfl⟩
        |succ i=>exact H i p q (by simpa using af) (by simpa using bf)
      · cases h
    · cases h
theorem yj{t:TypeId}{J:List Value}(h:oU P t=some J): ∃bB hd,P.info? t=some bB/\bB.zero=some hd/\hd.cells.toList=J/\J.all dO=true/\J.length=bB.size:=by
  unfold oU at h;split at h
  · rename_i bB ai;split at h
    · rename_i hd bL;simp only at h;split at h
      · rename_i ar;cases h;simp only[aX,eM]at ar;exact⟨bB,hd,ai,bL,rfl,ar.1,ar.2⟩
      · cases h
    · cases h
  · cases h
theorem ri{t:TypeId}{n:Nat}(h:j6 P t=some n): ∃bB,P.info? t=some bB/\bB.size=n:=by
  unfold j6 at h;cases ai:P.info? t with
  |none=>simp[ai]at h
  |some bB=>exact⟨bB,rfl,by simpa[ai]using h⟩
theorem TL{t:TypeId}{b:Bool}(h:n6 P t=some b):(isAgg t).run P w= .ok b w:=by
  unfold n6 at h;unfold isAgg;split at h<;>first|cases h|skip
  · rename_i aY;simp[run_underlying aY]
  · rename_i aY;simp[run_underlying aY]
  · rename_i d D H aY;simp only[Sem.run_bind,run_underlying aY,Result.andThen_ok];rfl
theorem avo(fr:List Field)(h:fr.all (λf=>(j6 P f.type).isSome)=true):
    ∃uv:List (Nat×Nat),(fr.mapM (m:=Sem) λ(f:Field)=>do pure (f.offset,<-sizeOf f.type)).run P w= .ok uv w/\ ∀i:Nat,uv[i]?=(fr[i]?).bind λ(f:Field)=>(P.info? f.type).map λbB=>(f.offset,bB.size):=by
  induction fr with
  |nil=>exact⟨[],by simp,by simp⟩
  | cons f fr cn=>
    simp only[mK,aX]at h;obtain⟨uv,D,H⟩:=cn h.2;obtain⟨n,ax⟩:=Io.1 h.1;obtain⟨bB,ai,_⟩:=ri ax;refine⟨(f.offset,bB.size)::uv,?_,λi=> ?_⟩
    · simp[List.mapM_cons,sizeOf,typeInfo,ai]at D⊢;simp[D]
    · cases i with
      |zero=>simp[ai]
      |succ i=>simpa using H i
end
end Go.DI
