/-
  A part of the proof, shortened by tools of ours.
-/
import Derived.WalkKit
set_option linter.all false
set_option maxRecDepth 8000
set_option maxHeartbeats 16000000
namespace Go
abbrev a6:= @Bool.and_eq_true
abbrev c1:= @List.getElem?_eq_getElem
abbrev cG:= @List.getElem?_eq_some_iff
abbrev dP:= @List.all_eq_true
abbrev ey:= @decide_eq_true_eq
abbrev fr:= @List.mem_of_getElem?
abbrev c8:= @Nat.le_refl
abbrev h7:= @List.take_of_length_le
abbrev jX:= @Int.eq_ofNat_of_zero_le
abbrev iv:= @List.length_append
abbrev je:= @Bool.false_eq_true
abbrev gG:= @List.mem_map
abbrev gi:= @Nat.zero_le
abbrev hi:= @List.mem_cons
abbrev js:= @List.mem_append
abbrev nQ:= @List.getD_eq_getElem?_getD
abbrev kd:= @List.getElem_mem
abbrev pU:= @List.eq_nil_of_length_eq_zero
abbrev lN:= @List.getElem_of_mem
abbrev kJ:= @List.not_mem_nil
abbrev nR:= @List.mem_append_right
abbrev k8:= @List.length_map
abbrev mB:= @Option.some.injEq
abbrev rb:= @List.drop_eq_getElem_cons
abbrev oR:= @List.mem_append_left
abbrev mC:= @List.length_cons
abbrev ns:= @Int.toNat_natCast
abbrev mY:= @List.take_length
abbrev r6:= @List.length_eq_zero_iff
abbrev lO:= @List.map_cons
abbrev re:= @List.getElem?_eq_none
abbrev mZ:= @List.all_cons
abbrev ql:= @Nat.lt_of_lt_of_le
abbrev mD:= @Nat.le_trans
abbrev oj:= @List.drop_zero
abbrev om:= @List.mem_range
abbrev rf:= @List.getElem?_take
abbrev rg:= @List.mem_singleton
abbrev qm:= @List.take_add_one
abbrev sW:= @Array.toArray_toList
abbrev y9:= @Int.mul_le_mul_of_nonneg_right
abbrev nS:= @Nat.add_assoc
abbrev rh:= @List.getElem?_map
abbrev xL:= @Array.getElem?_eq_some_iff
abbrev ve:= @Option.map_eq_some_iff
abbrev r7:= @Bool.not_eq_true'
abbrev ri:= @List.length_take
abbrev sX:= @List.flatten_cons
abbrev rj:= @decide_eq_false
abbrev za:= @List.pairwise_iff_getElem
abbrev oo:= @Nat.add_mul
abbrev r8:= @List.append_nil
abbrev AU:= @List.getElem?_append_right
abbrev AV:= @List.getElem?_append_left
abbrev tZ:= @List.cons_append
abbrev ua:= @Bool.or_eq_true
abbrev ub:= @List.cons.injEq
abbrev lv:= @Iff.rfl
abbrev zb:= @List.getElem?_append
abbrev zc:= @Nat.mul_le_mul_right
abbrev Da:= @Option.isNone_iff_eq_none
abbrev xM:= @List.mem_filterMap
abbrev vf:= @List.map_append
abbrev wm:= @List.mem_flatMap
abbrev zd:= @List.getElem?_drop
abbrev AW:= @List.mem_of_mem_drop
abbrev wo:= @List.nil_append
abbrev F4:= @List.mem_or_eq_of_mem_set
abbrev ze:= @List.ext_getElem?
abbrev sY:= @Int.le_refl
abbrev xN:= @List.length_nil
abbrev xO:= @Nat.not_lt_zero
abbrev zf:= @List.mem_flatten
abbrev Db:= @List.mem_of_mem_take
abbrev wq:= @Prod.mk.injEq
abbrev AX:= @List.getElem?_set
abbrev AY:= @List.nodup_append
abbrev Dc:= @List.map_congr_left
abbrev IZ:= @Array.getElem?_eq_getElem
abbrev zg:= @List.foldl_cons
abbrev Ok:= @Int.mul_le_mul_of_nonneg_left
abbrev AZ:= @List.ext_getElem
abbrev wu:= @Nat.add_zero
abbrev A0:= @Option.getD_some
abbrev F5:= @List.mem_cons_of_mem
abbrev I0:= @List.getElem?_cons_succ
abbrev I1:= @decide_eq_false_iff_not
abbrev A1:= @List.nodup_cons
abbrev A2:= @List.range_succ
abbrev I2:= @List.drop_of_length_le
abbrev UI:= @List.findIdx?_eq_some_iff_getElem
abbrev Ol:= @Array.getElem?_append_left
abbrev Dd:= @List.any_eq_true
abbrev A3:= @Int.mul_nonneg
abbrev I3:= @List.length_replicate
abbrev zh:= @Nat.zero_add
abbrev Om:= @Option.isSome_iff_exists
abbrev De:= @Option.some.inj
abbrev F6:= @List.length_range
abbrev I4:= @List.replicate_succ
abbrev F1:= @Array.toList_inj
abbrev C8:= @List.drop_drop
abbrev F2:= @List.length_drop
abbrev Og:= @Array.getElem?_toList
abbrev F3:= @List.all_append
abbrev Oh:= @List.length_filter_le
abbrev C9:= @Bool.true_and
abbrev IY:= @List.all_eq_false
abbrev UH:= @List.findIdx?_eq_none_iff
abbrev Oi:= @List.getElem?_set_ne
abbrev Oj:= @List.take_succ_cons
end Go
namespace Go.DI
open Go
abbrev aC:=Nat->Value
structure eM where
 cells:List Value
 own:Bool
structure H where
 next:Nat
 hI:Nat->Option eM
 mp:Nat->Option (List (Value×Value))
def H.I(m:H)(b:Nat):Option eM:=if b<m.next then m.hI b else none
def H.aO(m:H)(b:Nat)(x:Option eM):H:=⟨m.next,λi=>if i=b then x else m.hI i,m.mp⟩
def H.b0(m:H)(k:Nat):H:=⟨m.next+k,λi=>if i<m.next then m.hI i else none,m.mp⟩
def H.fu(m:H)(b:Nat):Option (List (Value×Value)):=match m.I b with
 |some ⟨[],true⟩=>m.mp b
 |_=>none
def H.hv(m:H)(b:Nat)(es:List (Value×Value)):H:=⟨m.next,λi=>if i=b then some ⟨[],true⟩else m.hI i,λi=>if i=b then some es else m.mp i⟩
def k7(z:aC)(d:Nat)(v:Value):aC:= λt=>if t=d then v else z t
def cZ(z:aC)(d:Option Nat)(v:Value):aC:=match d with|some d=>k7 z d v|none=>z
def O(z:aC):Operand->Value
 | .tmp t=>z t
 | .const v=>v
 | .func f=> .func (.func f) #[] #[]
 | .global _=>undef
def xW:Value->Bool| .bool b=>b|_=>false
def vU:Value->Bool| .bool _=>true|_=>false
def eN:Value->Int| .int _ n=>n|_=>0
def fe:Value->Bool| .int _ _=>true|_=>false
def wB:Value->ByteArray| .string s=>s|_=> .empty
def an:Value->List Value| .agg cs=>cs.toList|v=>[v]
def gE:List Value->Nat->List Value->List Value
 |cs,_,[]=>cs
 |cs,off,v::vs=>gE (cs.set off v) (off+1) vs
def ak:Value->Option Nat
 | .pointer (some a)=>some a.block
 | .slice (some a) _ _=>some a.block
 | .map (some b)=>some b
 |_=>none
def ei:Value->Bool
 | .bool _| .int _ _| .float _ _| .complex _ _ _| .string _| .pointer none| .map none| .chan none| .nilFunc| .nilIface=>true
 | .slice none l c=>l==0&&c==0
 |_=>false
def m4:Value->Bool
 | .agg cs=>cs.toList.all ei
 | .tuple cs=>cs.toList.all ei
 |v=>ei v
def aq:Value->Bool
 | .agg _| .tuple _=>false
 |_=>true
def au:Value->Bool
 | .tuple _=>false
 |_=>true
inductive wz where
 |bool|bH|slice|fn|iface|agg|sC
 deriving DecidableEq
inductive r9 where
 |int|str|bool
 deriving DecidableEq
inductive lQ where
 |int (k:IntKind)|str
 deriving DecidableEq
inductive ah where
 |hs (x:Operand)
 |uV (c a b:Operand)
 |uT (x:Operand)
 |nu (zero:List Value)
 |oy (x:Operand)
 |vl (zero:List Value) (aDJ:List (Nat×Nat×Operand))
 |mh (G n:Nat) (zero:List Value) (aDJ:List (Nat×Nat×Operand))
 |g4 (dr:Bool) (n:Nat) (x:Operand)
 |store (n:Nat) (x v:Operand)
 |nY (op:BinOp) (c:wz) (x y:Operand)
 |zG (ku:Bool) (fI:List r9) (x y:Operand)
 |y5 (op:UnOp) (x:Operand)
 |Dx (k:IntKind) (x:Operand)
 |Gu (x:Operand)
 |py (x:Operand)
 |pX (x:Operand)
 |oc (G bytes:Nat) (zero:List Value) (l c:Operand)
 |FK (x:Operand) (bk W:Option Operand)
 |wg (G:Nat) (x:Operand) (bk W:Option Operand)
 |AN (G:Nat) (x:Operand) (bk:Option Operand) (W fK:Operand)
 |sN (G n:Nat) (x:Operand)
 |ks (off:Nat) (x:Operand)
 |field (dr:Bool) (off n:Nat) (x:Operand)
 |mP (G:Nat) (x i:Operand)
 |Aa (G len:Nat) (x i:Operand)
 |En (x i:Operand)
 |ext (i:Nat) (x:Operand)
 |EY (x:Operand)
 |uS (x:Operand)
 |app (G bytes:Nat) (x y:Operand)
 |Dt (x:Operand)
 |oV (G bytes:Nat) (zero:List Value) (x n:Operand)
 |hJ (zero:List Value) (x:Operand)
 |yF (fK:Bool) (x:Operand) (xs:List Operand)
 |yG (fn:Fn) (first kr:List Operand)
 |lA (f:Nat) (args:List Operand)
 |m2 (x:Operand) (args:List Operand)
 |E6 (t:TypeId) (x:Operand)
 |IS (t:TypeId) (x:Operand)
 |mq (bI:List (TypeId×Nat×Option (Bool×Nat))) (x:Operand) (args:List Operand)
 |qW
 |qX (bd:lQ) (zero:Value) (ok:Bool) (x k:Operand)
 |o7 (bd:lQ) (x k v:Operand)
structure cO where
 aW:Nat
 d:Option Nat
 g:Option (Nat×Bool)
 k:ah
 bd:List (Operand×Operand)
inductive lP where
 |bJ (t:Nat)
 |ha (t:Nat) (dr:Bool) (n:Nat)
inductive aw where
 |skip
 |kl (ops:List cO)
 |uQ (cD:List cO) (o:cO) (bN:List cO)
 |ky (a b:aw)
 |nx (c:Operand) (a b:aw)
 |block (id:Nat) (c:aw)
 |loop (c:aw)
 |cH (id:Nat)
 |e3
structure b8 where
 dc:Nat
 j6:List lP
 body:aw
inductive cM where
 |eB
 |cH (id:Nat)
 |e3
 deriving DecidableEq
def gT(m:H)(v:Value)(n:Nat):Bool:=
 match v with
 | .pointer (some a)=>a.spot.isNone&&(match m.I a.block with|some x=>decide (a.off+n<=x.cells.length)|none=>false)
 |_=>false
def rq(m:H)(v:Value):Bool:=
 match v with
 | .pointer (some a)=>(match m.I a.block with|some x=>x.own|none=>false)
 |_=>false
def gM(m:H)(b off n:Nat):List Value:=
 match m.I b with
 |some x=>(x.cells.drop off).take n
 |none=>[]
def lH(m:H)(dr:Bool)(n:Nat)(v:Value):Value:=
 match v with
 | .pointer (some a)=>if dr then .agg (gM m a.block a.off n).toArray else(gM m a.block a.off 1).headD undef
 |_=>undef
def pn(m:H)(v:Value)(cs:List Value):H:=
 match v with
 | .pointer (some a)=>(match m.I a.block with|some x=>m.aO a.block (some ⟨gE x.cells a.off cs,x.own⟩)|none=>m)
 |_=>m
def fw(m:H)(G:Nat)(v:Value):Bool:=
 match v with
 | .slice none l c=>l==0&&c==0
 | .slice (some a) l c=>a.spot.isNone&&c==G&&(match m.I a.block with|some x=>decide (a.off+l*G<=x.cells.length)|none=>false)
 |_=>false
def iJ(m:H)(v:Value):Bool:=
 match v with
 | .slice none _ _=>true
 | .slice (some a) _ _=>(match m.I a.block with|some x=>x.own|none=>false)
 |_=>false
def fR:Value->Nat
 | .slice _ l _=>l
 |_=>0
def fq(m:H)(G:Nat)(v:Value):List Value:=
 match v with
 | .slice (some a) l _=>gM m a.block a.off (l*G)
 |_=>[]
def Ca:Value->Bool
 | .slice none l c=>l==0&&c==0
 |_=>false
theorem SK{v:Value}(h:Ca v=true):v= .slice none 0 0:=by
 unfold Ca at h;split at h
 ·simp only[a6,beq_iff_eq]at h;rw[h.1,h.2]
 ·cases h
def n1(m:H)(zero:List Value)(v:Value):H:=
 match v with
 | .slice (some a) l _=>(match m.I a.block with|some x=>m.aO a.block (some ⟨gE x.cells a.off (List.replicate l zero).flatten,x.own⟩)|none=>m)
 |_=>m
def hC(m:H)(v:Value):H:=
 match v with
 | .slice (some a) _ _=>m.aO a.block none
 |_=>m
def Ha(op:BinOp)(k:IntKind)(a b:Int):Value:=
 match op with
 | .add=> .int k (k.wrap (a+b))
 | .sub=> .int k (k.wrap (a-b))
 | .mul=> .int k (k.wrap (a*b))
 | .quo=> .int k (k.wrap (a.tdiv b))
 | .rem=> .int k (a.tmod b)
 | .and=> .int k (k.wrap (BitVec.ofInt k.bits a&&&BitVec.ofInt k.bits b).toNat)
 | .or=> .int k (k.wrap (BitVec.ofInt k.bits a|||BitVec.ofInt k.bits b).toNat)
 | .xor=> .int k (k.wrap (BitVec.ofInt k.bits a^^^BitVec.ofInt k.bits b).toNat)
 | .andNot=> .int k (k.wrap (BitVec.ofInt k.bits a&&& ~~~(BitVec.ofInt k.bits b)).toNat)
 | .shl=> .int k (k.wrap (a*2^(min b.toNat k.bits)))
 | .shr=> .int k (a.fdiv (2^(min b.toNat k.bits)))
 | .eql=> .bool (decide (a=b))
 | .neq=> .bool (!decide (a=b))
 | .lss=> .bool (decide (a<b))
 | .leq=> .bool (decide (a<=b))
 | .gtr=> .bool (decide (a>b))
 | .geq=> .bool (decide (a>=b))
def Ql(op:BinOp)(k e7:IntKind)(_a b:Int):Bool:=
 match op with
 | .shl| .shr=>decide (0<=b)
 | .quo| .rem=>decide (k=e7)&&decide (b≠0)
 |_=>decide (k=e7)
def CU(op:BinOp)(a b:ByteArray):Value:=
 match op with
 | .add=> .string (a++b)
 | .eql=> .bool (decide (a=b))
 | .neq=> .bool (!decide (a=b))
 | .lss=> .bool (Op.bytesLess a.toList b.toList)
 | .leq=> .bool (Op.bytesLess a.toList b.toList||decide (a=b))
 | .gtr=> .bool (!(Op.bytesLess a.toList b.toList||decide (a=b)))
 | .geq=> .bool (!Op.bytesLess a.toList b.toList)
 |_=>undef
def NT(op:BinOp)(a b:ByteArray):Bool:=
 match op with
 | .add=>decide (a.size+b.size<=9223372036854775807)
 | .eql| .neq| .lss| .leq| .gtr| .geq=>true
 |_=>false
def sx:Value->Bool
 | .pointer none=>true
 | .slice none _ _=>true
 | .nilFunc=>true
 | .nilIface=>true
 |_=>false
def qA(x y:Value):Bool:=
 match x,y with
 | .bool a,.bool b=>a==b
 |x,y=>sx x&&sx y
def wN(c:wz)(x y:Value):Bool:=
 match c,x,y with
 | .bool,.bool _,.bool _=>true
 | .bH,.pointer none,.pointer _=>true
 | .bH,.pointer _,.pointer none=>true
 | .slice,.slice none _ _,.slice _ _ _=>true
 | .slice,.slice _ _ _,.slice none _ _=>true
 | .fn,.nilFunc,.nilFunc=>true
 | .fn,.nilFunc,.func _ _ _=>true
 | .fn,.func _ _ _,.nilFunc=>true
 |_,_,_=>false
def mJ(op:BinOp)(x y:Value):Value:=
 match x,y with
 | .int k a,.int _ b=>Ha op k a b
 | .string a,.string b=>CU op a b
 | x,y=>match op with
   | .eql=> .bool (qA x y)
   | .neq=> .bool (!qA x y)
   |_=>undef
def um(op:BinOp)(c:wz)(x y:Value):Bool:=
 match x,y with
 | .int k a,.int e7 b=>Ql op k e7 a b
 | .string a,.string b=>NT op a b
 | x,y=>match op with
   | .eql| .neq=>wN c x y
   |_=>false
def pW:Value->Value->Bool
 | .int _ a,.int _ b=>decide (a=b)
 | .string a,.string b=>decide (a=b)
 | .bool a,.bool b=>a==b
 |_,_=>false
def Bi:r9->Value->Value->Bool
 | .int,.int k _,.int e7 _=>decide (k=e7)
 | .str,.string _,.string _=>true
 | .bool,.bool _,.bool _=>true
 |_,_,_=>false
def n0:List Value->List Value->Bool
 |[],[]=>true
 |a::bu,b::bs=>pW a b&&n0 bu bs
 |_,_=>false
def jD:List r9->List Value->List Value->Bool
 |[],[],[]=>true
 |k::fI,a::bu,b::bs=>Bi k a b&&jD fI bu bs
 |_,_,_=>false
def vT:Value->Bool| .agg _=>true|_=>false
def FT(op:UnOp)(x:Value):Value:=
 match op,x with
 | .neg,.int k n=> .int k (k.wrap (0-n))
 | .not,.bool b=> .bool (!b)
 |_,_=>undef
def AO(op:UnOp)(x:Value):Bool:=
 match op,x with
 | .neg,.int _ _=>true
 | .not,.bool _=>true
 |_,_=>false
def byteOf:Value->UInt8| .int _ n=>UInt8.ofNat n.toNat|_=>0
def EO:Value->Bool| .int .u8 _=>true|_=>false
def H7(s:ByteArray):List Value:=s.data.toList.map λb=> .int .u8 b.toNat
def toBytes(cs:List Value):ByteArray:=⟨(cs.map byteOf).toArray⟩
def hf(z:aC)(x:Option Operand)(Vt:Int):Int:=match x with|some o=>eN (O z o)|none=>Vt
def pN(z:aC)(x:Option Operand):Bool:=match x with|some o=>fe (O z o)|none=>true
def mQ:Value->Bool| .string _=>true|_=>false
def iC:Value->Bool| .slice _ _ _=>true|_=>false
def Cc:Value->Bool| .pointer (some _)=>true|_=>false
def yS(v:Value)(n:Nat):Value:=
 match v with
 | .pointer (some a)=> .pointer (some ⟨a.block,a.off+n,none⟩)
 |_=>undef
def sD:Value->Bool| .pointer (some a)=>a.spot.isNone|_=>false
def rY(v:Value)(G l h:Nat):Value:=
 match v with
 | .slice (some a) _ c=> .slice (some ⟨a.block,a.off+l*G,none⟩) (h-l) c
 |_=> .slice none 0 0
def pl(G:Nat):Value->Bool
 | .slice none l c=>l==0&&c==0
 | .slice (some a) _ c=>a.spot.isNone&&c==G
 |_=>false
def Jl(v:Value)(G n:Nat):Value:=
 match v with
 | .pointer (some a)=> .slice (some ⟨a.block,a.off,none⟩) n G
 |_=> .slice none 0 0
def CP(v:Value)(G:Nat)(i:Int):Value:=
 match v with
 | .slice (some a) _ _=> .pointer (some ⟨a.block,a.off+i.toNat*G,none⟩)
 |_=>undef
def Cb:Value->Bool
 | .pointer none| .nilIface| .nilFunc=>false
 | .func (.method _) _ _=>false
 |_=>true
def CY(v:Value)(i:Nat):Value:=match v with| .tuple vs=>vs.toList.getD i undef|_=>undef
def FP(v:Value)(i:Nat):Bool:=match v with| .tuple vs=>decide (i<vs.toList.length)|_=>false
def Pp(dr:Bool)(off n:Nat)(v:Value):Value:=
 match v with
 | .agg cs=>if dr then .agg ((cs.toList.drop off).take n).toArray else cs.toList.getD off undef
 |_=>undef
def JS(off n:Nat)(v:Value):Bool:=match v with| .agg cs=>decide (off+n<=cs.toList.length)|_=>false
def pM(a b:Value):Value:=match a,b with| .int k x,.int _ y=> .int k (if y<x then y else x)|_,_=>undef
def pK(a b:Value):Value:=match a,b with| .int k x,.int _ y=> .int k (if y>x then y else x)|_,_=>undef
def rS(cs:List Value)(z:aC)(ps:List (Nat×Nat×Operand)):Bool:=
 ps.all λ(off,n,x)=>au (O z x)&&decide ((an (O z x)).length=n)&&decide (off+n<=cs.length)
def nj(cs:List Value)(z:aC):List (Nat×Nat×Operand)->List Value
 |[]=>cs
 |(off,_,x)::r=>nj (gE cs off (an (O z x))) z r
def KO(t:TypeId):Value->Bool
 | .iface af _=>decide (af=t)
 |_=>false
def ah4:Value->Value
 | .iface _ v=>v
 |_=>undef
def lI(m:H):Value->Option (List (Value×Value))
 | .map none=>some []
 | .map (some b)=>m.fu b
 |_=>none
def pJ:lQ->Value->Bool
 | .int k,.int e7 _=>decide (e7=k)
 | .str,.string _=>true
 |_,_=>false
def ob(bd:lQ)(k:Value)(es:List (Value×Value)):Bool:=pJ bd k&&es.all λe=>pJ bd e.1
def jR(k:Value):List (Value×Value)->Option Value
 |[]=>none
 |e::r=>if pW k e.1 then some e.2 else jR k r
def lK(k v:Value):List (Value×Value)->List (Value×Value)
 |[]=>[(k,v)]
 |e::r=>if pW k e.1 then(k,v)::r else e::lK k v r
def yE:Value->Nat
 | .map (some b)=>b
 |_=>0
def fm:Value->Int
 | .string s=>s.size
 | .slice _ l _=>l
 |_=>0
def ah.ok(k:ah)(z:aC)(m:H):Bool:=
 match k with
 | .hs _=>true
 | .uV c _ _=>vU (O z c)
 | .uT x=>Cb (O z x)
 | .nu _=>true
 | .oy x=>au (O z x)
 | .vl G ps=>rS G z ps
 | .mh _ _ G ps=>rS G z ps
 | .g4 dr n x=>gT m (O z x) n&&(dr||decide (n=1))
 | .store n x v=>gT m (O z x) n&&rq m (O z x)&&au (O z v)&&decide ((an (O z v)).length=n)
 | .nY op c x y=>um op c (O z x) (O z y)
 | .zG _ fI x y=>vT (O z x)&&vT (O z y)&&jD fI (an (O z x)) (an (O z y))
 | .y5 op x=>AO op (O z x)
 | .Dx _ x=>fe (O z x)
 | .Gu x=>mQ (O z x)
 | .py x=>fw m 1 (O z x)&&(fq m 1 (O z x)).all EO
 | .pX x=>mQ (O z x)&&decide ((wB (O z x)).size<=9223372036854775807)
 | .oc G bytes _ l c=>fe (O z l)&&fe (O z c)&&decide (0<=eN (O z l))&&decide (eN (O z l)<=eN (O z c))&&decide (eN (O z c)*(bytes:Int)<=140737488355328)&&decide (eN (O z c)<=9223372036854775807)&&decide (0<G)
 | .FK x bk W=>mQ (O z x)&&pN z bk&&pN z W&&decide (0<=hf z bk 0)&&decide (hf z bk 0<=hf z W (fm (O z x)))&&decide (hf z W (fm (O z x))<=fm (O z x))
 | .wg G x bk W=>pl G (O z x)&&pN z bk&&pN z W&&decide (0<=hf z bk 0)&&decide (hf z bk 0<=hf z W (fm (O z x)))&&decide (hf z W (fm (O z x))<=fm (O z x))
 | .AN G x bk W fK=>pl G (O z x)&&pN z bk&&fe (O z W)&&fe (O z fK)&&decide (0<=hf z bk 0)&&decide (hf z bk 0<=eN (O z W))&&decide (eN (O z W)<=eN (O z fK))&&decide (eN (O z fK)<=fm (O z x))
 | .sN G n x=>gT m (O z x) (n*G)&&decide (n<=maxLen)
 | .ks _ x=>sD (O z x)
 | .field dr off n x=>JS off n (O z x)&&(dr||decide (n=1))
 | .mP G x i=>pl G (O z x)&&fe (O z i)&&decide (0<=eN (O z i))&&decide (eN (O z i)<fm (O z x))
 | .Aa _ len x i=>sD (O z x)&&fe (O z i)&&decide (0<=eN (O z i))&&decide (eN (O z i)<(len:Int))
 | .En x i=>mQ (O z x)&&fe (O z i)&&decide (0<=eN (O z i))&&decide (eN (O z i)<fm (O z x))
 | .ext i x=>FP (O z x) i
 | .EY x=>mQ (O z x)
 | .uS x=>iC (O z x)
 | .app G bytes x y=>fw m G (O z x)&&iJ m (O z x)&&fw m G (O z y)&&decide (0<G)&&decide ((fR (O z x)+fR (O z y))*bytes<=140737488355328)&&decide (fR (O z x)+fR (O z y)<=9223372036854775807)
 | .Dt x=>Ca (O z x)
 | .oV G bytes _ x n=>Ca (O z x)&&fe (O z n)&&decide (0<eN (O z n))&&decide (eN (O z n)*(bytes:Int)<=140737488355328)&&decide (eN (O z n)<=9223372036854775807)&&decide (0<G)
 | .hJ zero x=>fw m zero.length (O z x)&&iJ m (O z x)&&decide (0<zero.length)
 | .yF _ x xs=>fe (O z x)&&xs.all λy=>fe (O z y)
 | .yG _ _ _=>true
 | .lA _ _=>false
 | .m2 _ _=>false
 | .E6 _ _=>true
 | .IS t x=>KO t (O z x)
 | .mq _ _ _=>false
 | .qW=>true
 | .qX bd _ _ x k=>match lI m (O z x)with
   |some es=>ob bd (O z k) es
   |none=>false
 | .o7 bd x k v=>match O z x with
   | .map (some b)=>(match m.fu b with
     |some es=>ob bd (O z k) es&&aq (O z v)
     |none=>false)
   |_=>false
def ah.val(k:ah)(id:Nat)(z:aC)(m:H):Value:=
 match k with
 | .hs x=>O z x
 | .uV c a b=>if xW (O z c)then O z a else O z b
 | .uT x=>O z x
 | .nu _=> .pointer (some ⟨id,0,none⟩)
 | .oy _=> .pointer (some ⟨id,0,none⟩)
 | .vl G ps=> .agg (nj G z ps).toArray
 | .mh G n _ _=> .slice (some ⟨id,0,none⟩) n G
 | .g4 dr n x=>lH m dr n (O z x)
 | .store _ _ _=>undef
 | .nY op _ x y=>mJ op (O z x) (O z y)
 | .zG ku _ x y=> .bool (if ku then !n0 (an (O z x)) (an (O z y))else n0 (an (O z x)) (an (O z y)))
 | .y5 op x=>FT op (O z x)
 | .Dx k x=> .int k (k.wrap (eN (O z x)))
 | .Gu x=>O z x
 | .py x=> .string (toBytes (fq m 1 (O z x)))
 | .pX x=> .slice (some ⟨id,0,none⟩) (wB (O z x)).size 1
 | .oc G _ _ l _=> .slice (some ⟨id,0,none⟩) (eN (O z l)).toNat G
 | .FK x bk W=> .string ((wB (O z x)).extract (hf z bk 0).toNat (hf z W (fm (O z x))).toNat)
 | .wg G x bk W=>rY (O z x) G (hf z bk 0).toNat (hf z W (fm (O z x))).toNat
 | .AN G x bk W _=>rY (O z x) G (hf z bk 0).toNat (eN (O z W)).toNat
 | .sN G n x=>Jl (O z x) G n
 | .ks off x=>yS (O z x) off
 | .field dr off n x=>Pp dr off n (O z x)
 | .mP G x i=>CP (O z x) G (eN (O z i))
 | .Aa G _ x i=>yS (O z x) ((eN (O z i)).toNat*G)
 | .En x i=> .int .u8 (((wB (O z x)).data.toList.getD (eN (O z i)).toNat 0).toNat:Nat)
 | .ext i x=>CY (O z x) i
 | .EY x=> .int .i64 (fm (O z x))
 | .uS x=> .int .i64 (fm (O z x))
 | .app G _ x y=>if fR (O z y)=0 then O z x else .slice (some ⟨id,0,none⟩) (fR (O z x)+fR (O z y)) G
 | .Dt _=> .int .i64 0
 | .oV G _ _ _ n=> .slice (some ⟨id,0,none⟩) (eN (O z n)).toNat G
 | .hJ _ _=>undef
 | .yF fK x xs=>xs.foldl (λdN y=>if fK then pK dN (O z y)else pM dN (O z y)) (O z x)
 | .yG fn first kr=> .func fn (first.map (O z)).toArray (kr.map (O z)).toArray
 | .lA _ _=>undef
 | .m2 _ _=>undef
 | .E6 t x=> .iface t (O z x)
 | .IS _ x=>ah4 (O z x)
 | .mq _ _ _=>undef
 | .qW=> .map (some id)
 | .qX _ zero ok x k=>
   let r:=(lI m (O z x)).bind (jR (O z k))
   if ok then .tuple #[r.getD zero,.bool r.isSome]else r.getD zero
 | .o7 _ _ _ _=>undef
def ah.hd(k:ah)(id:Nat)(z:aC)(m:H):H:=
 match k with
 | .nu G=>m.aO id (some ⟨G,true⟩)
 | .oy x=>m.aO id (some ⟨an (O z x),true⟩)
 | .mh _ _ G ps=>m.aO id (some ⟨nj G z ps,true⟩)
 | .store _ x v=>pn m (O z x) (an (O z v))
 | .pX x=>m.aO id (some ⟨H7 (wB (O z x)),true⟩)
 | .oc _ _ zero l _=>m.aO id (some ⟨(List.replicate (eN (O z l)).toNat zero).flatten,true⟩)
 | .app G _ x y=>if fR (O z y)=0 then m else(hC m (O z x)).aO id (some ⟨fq m G (O z x)++fq m G (O z y),true⟩)
 | .oV _ _ zero _ n=>m.aO id (some ⟨(List.replicate (eN (O z n)).toNat zero).flatten,true⟩)
 | .hJ zero x=>n1 m zero (O z x)
 | .qW=>m.hv id []
 | .o7 _ x k v=>m.hv (yE (O z x)) (lK (O z k) (O z v) ((m.fu (yE (O z x))).getD []))
 |_=>m
def iX(z:aC)(bd:List (Operand×Operand)):Bool:=
 bd.all λ(x,y)=>match ak (O z x),ak (O z y)with
  |some a,some b=>a !=b
  |_,_=>true
def uP(z:aC)(bd:List (Operand×Operand))(m U:H):Prop:=
 ∀p∈bd,∀b,ak (O z p.1)=some b->U.I b=m.I b
abbrev Callee:=Nat->List Value->H->Option (Value×H)
def ah.fF(k:ah)(z:aC)(m:H):Option (Nat×List Value):=
 match k with
 | .mq bI x args=>match O z x with
   | .iface t v=>match bI.find? (λr=>r.1==t)with
     |some (_,f,none)=>some (f,v::args.map (O z))
     |some (_,f,some (dr,n))=>if gT m v n&&(dr||decide (n=1))then some (f,lH m dr n v::args.map (O z))else none
     |none=>none
   |_=>none
 | .lA f args=>some (f,args.map (O z))
 | .m2 x args=>match O z x with
   | .func (.func f) first kr=>some (f,first.toList++args.map (O z)++kr.toList)
   |_=>none
 |_=>none
def eX(z:aC):Option (Nat×Bool)->Bool
 |none=>true
 |some (t,b)=>match z t with| .bool c=>c==b|_=>false
noncomputable def iq(b4:Callee)(base:Nat)(o:cO)(z:aC)(m:H):Option (aC×H):=
 if eX z o.g then
  match o.k.fF z m with
  | some (f,args)=>match b4 f args m with
    |some (v,U)=>some (cZ z o.d v,U)
    |none=>none
  |none=>if o.k.ok z m then some (cZ z o.d (o.k.val (base+o.aW) z m),o.k.hd (base+o.aW) z m)else none
 else some (cZ z o.d undef,m)
def qz(o:cO)(z:aC)(m U:H):Prop:=
 eX z o.g=true->match o.k.fF z m with
  |some _=>uP z o.bd m U
  |none=>iX z o.bd=true
open Classical in
noncomputable def k3(b4:Callee)(base:Nat):List cO->aC->H->Option (aC×H)
 |[],z,m=>some (z,m)
 | o::bN,z,m=>match iq b4 base o z m with
   |some (K,U)=>if qz o z m U then k3 b4 base bN K U else none
   |none=>none
def ah.fv:ah->Bool
 | .nu _| .oy _| .mh _ _ _ _| .pX _| .oc _ _ _ _ _| .app _ _ _ _| .oV _ _ _ _ _| .qW=>true
 |_=>false
def ah.yz:ah->Bool
 | .hJ _ _| .qW| .qX _ _ _ _ _| .o7 _ _ _ _=>true
 |_=>false
def hV(ops:List cO)(m:H):H:=if ops.any (λo=>o.k.fv)then m.b0 ops.length else m
def sQ(G:Nat)(m:H):Value->Bool
 | .slice (some a) l _=>(match m.I a.block with|some b=>decide (b.cells.length=a.off+l*G)|none=>false)
 |_=>true
def o5(o:cO)(z:aC)(m:H):Bool:=o.g.isNone&&(match o.k with| .app G _ x _=>sQ G m (O z x)|_=>false)&&o.k.ok z m
def G7(x:eM):eM:=⟨x.cells,false⟩
def pH(m:H):H:=⟨m.next,λb=>(m.hI b).map G7,λ_=>none⟩
def kP(f:aC->H->Option (cM×aC×H)):Nat->aC->H->Option (cM×aC×H)
 |0,_,_=>none
 | n+1,z,m=>match f z m with
   |some (.eB,K,U)=>kP f n K U
   |r=>r
noncomputable def eR(b4:Callee)(n:Nat):aw->aC->H->Option (cM×aC×H)
 | .skip,z,m=>some (.eB,z,m)
 | .kl ops,z,m=>match k3 b4 m.next ops z (hV ops m)with
   |some (K,U)=>some (.eB,K,U)
   |none=>none
 | .uQ cD o bN,z,m=>match k3 b4 m.next cD z (m.b0 (cD.length+(bN.length+1)))with
   | some (bQ,bn)=>if o5 o bQ bn then
    (match k3 b4 m.next bN (cZ bQ o.d (o.k.val (m.next+o.aW) bQ bn)) (pH bn)with
    |some (c6,cI)=>some (.eB,c6,(o.k.hd (m.next+o.aW) bQ bn).b0 (cI.next-bn.next))
    |none=>none)
     else none
   |none=>none
 | .ky a b,z,m=>match eR b4 n a z m with
   |some (.eB,K,U)=>eR b4 n b K U
   |r=>r
 | .nx c a b,z,m=>if vU (O z c)then(if xW (O z c)then eR b4 n a z m else eR b4 n b z m)else none
 | .block id c,z,m=>match eR b4 n c z m with
   |some (.cH ki,K,U)=>if ki=id then some (.eB,K,U)else some (.cH ki,K,U)
   |r=>r
 | .loop c,z,m=>kP (eR b4 n c) n z m
 | .cH id,z,m=>some (.cH id,z,m)
 | .e3,z,m=>some (.e3,z,m)
def rW(m:H)(z:aC):lP->Bool
 | .bJ _=>true
 | .ha t dr n=>gT m (z t) n&&(dr||decide (n=1))
def sG(m:H)(z:aC):lP->Value
 | .bJ t=>z t
 | .ha t dr n=>lH m dr n (z t)
def mw(m:H)(z:aC)(cC:List lP):Bool:=cC.all (rW m z)
def mU(m:H)(z:aC):List lP->Value
 |[r]=>sG m z r
 |cC=> .tuple (cC.map (sG m z)).toArray
def ig(args:List Value):aC:= λt=>args.getD t undef
def md(P:Program)(t:TypeId):Option Nat:=(P.info? t).map (·.size)
def r3(P:Program)(t:TypeId):Option (List Value):=
 match P.info? t with
 | some i=>match i.zero with
   | some G=>let cs:=G.cells.toList
     if cs.all ei&&decide (cs.length=i.size)then some cs else none
   |none=>none
 |none=>none
def q7(P:Program)(t:TypeId):Option Bool:=
 match P.underlying t with
 |some (.struct _)=>some true
 |some (.array _ _)=>some true
 |some _=>some false
 |none=>none
def q8(P:Program)(t:TypeId):wz:=
 match P.underlying t with
 |some .bool=> .bool
 |some (.pointer _)=> .bH
 |some (.slice _)=> .slice
 |some (.func _ _ _)=> .fn
 |some (.interface _)=> .iface
 |some (.struct _)=> .agg
 |some (.array _ _)=> .agg
 |_=> .sC
def df:Operand->Bool
 | .tmp _=>true
 | .const v=>m4 v
 | .func _=>true
 | .global _=>false
def H9:Option Operand->Bool
 |some x=>df x
 |none=>true
def JN(e:TypeId->Option (List r9)):List Field->Nat->Option (List r9)
 |[],_=>some []
 | f ::r,off=>if f.name != "_" &&f.offset==off then
  (match e f.type with
   | some fI=>match JN e r (off+fI.length)with
     |some bN=>if fI.length=0 then none else some (fI++bN)
     |none=>none
   |none=>none)
   else none
def wM(P:Program):Nat->TypeId->Option (List r9)
 |0,_=>none
 | d+1,t=>match P.underlying t,md P t with
   |some .bool,some n=>if n=1 then some [.bool]else none
   |some (.int _),some n=>if n=1 then some [.int]else none
   |some .string,some n=>if n=1 then some [.str]else none
   | some (.struct fs),some n=>match JN (wM P d) fs.toList 0 with
     |some fI=>if decide (n=fI.length)&& !P.stoodInHeld t then some fI else none
     |none=>none
   | some (.array k e),some n=>match wM P d e with
     |some fI=>if decide (n=k*fI.length)&&decide (0<fI.length)then some (List.replicate k fI).flatten else none
     |none=>none
   |_,_=>none
def JT(P:Program)(fs:Array Field):List (Nat×Operand)->Option (List (Nat×Nat×Operand))
 |[]=>some []
 | (i,x)::r=>match fs[i]? with
   | some f=>match md P f.type,JT P fs r with
     |some n,some ps=>if df x then some ((f.offset,n,x)::ps)else none
     |_,_=>none
   |none=>none
def DD(G:Nat):List (Nat×Operand)->Option (List (Nat×Nat×Operand))
 |[]=>some []
 | (i,x)::r=>match DD G r with
   |some ps=>if df x then some ((i*G,G,x)::ps)else none
   |none=>none
def E4(P:Program)(name:String)(t:TypeId):Option (TypeId×Nat×Option (Bool×Nat)):=
 match P.info? t with
 | some i=>match i.methods.find? (·.name==name)with
   | some E7=>if E7.path.isEmpty then(match E7.func with
     | some (f,aD6)=>match P.underlying t,aD6 with
       |some (.pointer _),true=>some (t,f,none)
       | some (.pointer e),false=>match q7 P e,md P e with
         |some dr,some n=>some (t,f,some (dr,n))
         |_,_=>none
       |_,_=>none
     |none=>none)else none
   |none=>none
 |none=>none
def aar(P:Program)(name:String):List (TypeId×Nat×Option (Bool×Nat)):=(List.range P.types.size).filterMap (E4 P name)
def Uv(P:Program)(t:TypeId):Option Value:=
 match P.info? t with
 | some i=>match i.zero with
   |some G=>if ei G then some G else none
   |none=>none
 |none=>none
def O5(P:Program)(t:TypeId):Option lQ:=
 match P.underlying t with
 |some (.int k)=>some (.int k)
 |some .string=>some .str
 |_=>none
def Jv(P:Program)(c:Call):Option ah:=
 match c.callee with
 | .invoke (.tmp t) name=>if c.args.toList.all df then some (.mq (aar P name) (.tmp t) c.args.toList)else none
 | .value (.func f)=>match P.funcs[f]? with
   |some fn=>if fn.body.isSome&& !(fn.name== "runtime.NumGoroutine")&&c.args.toList.all df then some (.lA f c.args.toList)else none
   |none=>none
 | .value (.tmp t)=>if c.args.toList.all df then some (.m2 (.tmp t) c.args.toList)else none
 | .builtin .len=>match c.args.toList,c.argTypes.toList with
   | [x],[t]=>match P.underlying t with
     |some .string=>if df x then some (.EY x)else none
     |some (.slice _)=>if df x then some (.uS x)else none
     |_=>none
   |_,_=>none
 | .builtin .append=>match c.args.toList,c.argTypes.toList with
   | [x,y],[t,bf]=>match P.underlying t with
     | some (.slice e)=>match P.info? e with
       | some i=>if t=bf then(if df x&&df y&&(r3 P e).isSome then some (.app i.size i.bytes x y)else none)
         else(match P.underlying bf,r3 P e with
         |some (.int _),some I5=>if df x&&df y then some (.oV I5.length i.bytes I5 x y)else none
         |_,_=>none)
       |none=>none
     |_=>none
   |_,_=>none
 | .builtin .min=>match c.args.toList with
   |x::xs=>if df x&&xs.all df then some (.yF false x xs)else none
   |[]=>none
 | .builtin .max=>match c.args.toList with
   |x::xs=>if df x&&xs.all df then some (.yF true x xs)else none
   |[]=>none
 | .builtin .cap=>match c.args.toList,c.argTypes.toList with
   | [x],[t]=>match P.underlying t with
     |some (.slice _)=>if df x then some (.Dt x)else none
     |_=>none
   |_,_=>none
 | .builtin .clear=>match c.args.toList,c.argTypes.toList with
   | [x],[t]=>match P.underlying t with
     | some (.slice e)=>match r3 P e with
       |some I5=>if df x then some (.hJ I5 x)else none
       |none=>none
     |_=>none
   |_,_=>none
 |_=>none
def Gm(P:Program)(o:Oper):Option ah:=
 match o.op with
 | .move x=>if df x then some (.hs x)else none
 | .assign x=>if df x then some (.hs x)else none
 | .pick c a b=>if df c&&df a&&df b then some (.uV c a b)else none
 | .nilCheck x=>if df x then some (.uT x)else none
 | .alloc e=>match r3 P e with
   |some G=>some (.nu G)
   |none=>none
 | .box _ x=>if df x then some (.oy x)else none
 | .build t ps=>match P.underlying t,r3 P t with
   | some (.struct fs),some G=>match JT P fs ps.toList with
     |some hU=>if(fs.toList.all λf=>(md P f.type).isSome)then some (.vl G hU)else none
     |none=>none
   | some (.array _ e),some G=>match md P e with
     | some n=>match DD n ps.toList with
       |some hU=>some (.vl G hU)
       |none=>none
     |none=>none
   |_,_=>none
 | .buildSlice t n ps=>match P.underlying t with
   | some (.slice e)=>match r3 P e with
     | some G=>match DD G.length ps.toList with
       |some hU=>if 0<G.length&&n*G.length<=16777216 then some (.mh G.length n (List.replicate n G).flatten hU)else none
       |none=>none
     |none=>none
   |_=>none
 | .load t x=>match q7 P t,md P t with
   |some a,some n=>if df x then some (.g4 a n x)else none
   |_,_=>none
 | .store t x v=>match md P t with
   |some n=>if df x&&df v then some (.store n x v)else none
   |none=>none
 | .binOp op t x y _=>
   if df x&&df y then
    (if q8 P t= .agg then
     (match op,wM P 8 t with
      | .eql,some fI=>if !P.eqGuardType P.depth t then some (.zG false fI x y)else none
      | .neq,some fI=>if !P.eqGuardType P.depth t then some (.zG true fI x y)else none
      |_,_=>none)
    else some (.nY op (q8 P t) x y))
   else none
 | .unOp op _ x=>if df x then some (.y5 op x)else none
 | .convert s d x=>match P.underlying s,P.underlying d with
   |some (.int _),some (.int k)=>if df x then some (.Dx k x)else none
   |some .string,some .string=>if df x then some (.Gu x)else none
   | some (.slice e),some .string=>match P.underlying e with
     |some (.int .u8)=>if df x then some (.py x)else none
     |_=>none
   | some .string,some (.slice e)=>match P.underlying e with
     |some (.int .u8)=>if df x&&false then some (.pX x)else none
     |_=>none
   |_,_=>none
 | .makeSlice t l c=>match P.underlying t with
   | some (.slice e)=>match r3 P e,P.info? e with
     |some G,some i=>if df l&&df c then some (.oc G.length i.bytes G l c)else none
     |_,_=>none
   |_=>none
 | .slice t x bk W fK=>match P.underlying t with
   |some .string=>if df x&&H9 bk&&H9 W&&fK.isNone then some (.FK x bk W)else none
   | some (.slice e)=>match md P e with
     | some G=>match fK with
       |none=>if df x&&H9 bk&&H9 W then some (.wg G x bk W)else none
       | some jn=>match W with
         |some aB=>if df x&&H9 bk&&df aB&&df jn then some (.AN G x bk aB jn)else none
         |none=>none
     |none=>none
   | some (.array n e)=>match md P e with
     |some G=>if df x&&bk.isNone&&W.isNone&&fK.isNone then some (.sN G n x)else none
     |none=>none
   |_=>none
 | .fieldAddr s x i=>match P.underlying s with
   | some (.struct fs)=>match fs[i]? with
     | some f=>match md P f.type with
       |some n=>if df x&&0<n then some (.ks f.offset x)else none
       |none=>none
     |none=>none
   |_=>none
 | .field t x i=>match P.underlying t with
   | some (.struct fs)=>match fs[i]? with
     | some f=>match q7 P f.type,md P f.type with
       |some a,some n=>if df x then some (.field a f.offset n x)else none
       |_,_=>none
     |none=>none
   |_=>none
 | .indexAddr t x i=>match P.underlying t with
   | some (.slice e)=>match md P e with
     |some G=>if df x&&df i then some (.mP G x i)else none
     |none=>none
   | some (.array len e)=>match md P e with
     |some G=>if df x&&df i then some (.Aa G len x i)else none
     |none=>none
   |_=>none
 | .index t x i=>match P.underlying t with
   |some .string=>if df x&&df i then some (.En x i)else none
   |_=>none
 | .extract x i=>if df x then some (.ext i x)else none
 | .makeInterface t x=>match P.underlying t with
   |some (.interface _)=>none
   |some _=>if df x then some (.E6 t x)else none
   |none=>none
 | .typeAssert x _ t ok=>match P.underlying t with
   |some (.interface _)=>none
   |some _=>if df x&& !ok then some (.IS t x)else none
   |none=>none
 | .makeMap t r=>match P.underlying t,r with
   |some (.map _ _),none=>some .qW
   |_,_=>none
 | .lookup t x i ok=>match P.underlying t with
   | some (.map k e)=>match O5 P k,Uv P e with
     |some bd,some G=>if df x&&df i then some (.qX bd G ok x i)else none
     |_,_=>none
   |_=>none
 | .mapUpdate t x k v=>match P.underlying t with
   | some (.map kk _)=>match O5 P kk with
     |some bd=>if df x&&df k&&df v then some (.o7 bd x k v)else none
     |none=>none
   |_=>none
 | .makeFunc fn first kr=>if first.toList.all df&&kr.toList.all df then some (.yG fn first.toList kr.toList)else none
 | .call c=>Jv P c
 |_=>none
def adn:ah:= .uT (.const (.pointer none))
def Bf(P:Program)(o:Oper):Option ah:=match Gm P o with
 |some k=>some k
 |none=>some adn
theorem aqb{z:aC}{m:H}:adn.ok z m=false:=rfl
theorem OU{P:Program}{o:Oper}{k:ah}(h:Bf P o=some k):Gm P o=some k\/k=adn:=by
 unfold Bf at h;split at h
 ·next e7 A=>cases h;exact .inl A
 ·cases h;exact .inr rfl
def OT(ops:Array Oper)(o:Oper):Option (Option (Nat×Bool)):=
 match o.guard with
 |none=>some none
 | some (j,b)=>match(ops[j]?).bind (·.dst)with
   |some t=>some (some (t,b))
   |none=>none
def OV(P:Program)(ops:Array Oper)(dc:Nat)(aW:Nat):Option cO:=
 match ops[aW]? with
 | some o=>match Bf P o,OT ops o with
   |some k,some g=>if(o.dst.all λd=>decide (d<dc))then some ⟨aW,o.dst,g,k,[]⟩else none
   |_,_=>none
 |none=>none
def Gn(P:Program)(ops:Array Oper)(dc:Nat):List Nat->Option (List cO)
 |[]=>some []
 | aW::r=>match OV P ops dc aW,Gn P ops dc r with
   |some o,some bN=>some (o::bN)
   |_,_=>none
def ah.nm:ah->List Operand
 | .g4 _ _ x=>[x]
 | .sN _ _ x=>[x]
 | .store _ x _=>[x]
 | .py x=>[x]
 | .hJ _ x=>[x]
 | .app _ _ x y=>[x,y]
 |_=>[]
def ah.oP:ah->List Operand
 | .hJ _ x=>[x]
 | .store _ x _=>[x]
 | .app _ _ x _=>[x]
 |_=>[]
def ah.ln:ah->Bool
 | .lA _ _| .m2 _ _| .mq _ _ _=>true
 |_=>false
def ah.hO:ah->List Operand
 | .hs x| .uT x| .oy x| .g4 _ _ x| .y5 _ x| .Dx _ x| .Gu x| .py x| .pX x| .ks _ x| .field _ _ _ x| .ext _ x| .EY x| .uS x| .Dt x| .hJ _ x| .sN _ _ x=>[x]
 | .uV c a b=>[c,a,b]
 | .nu _=>[]
 | .vl _ ps| .mh _ _ _ ps=>ps.map λp=>p.2.2
 | .store _ x v=>[x,v]
 | .nY _ _ x y| .zG _ _ x y| .oc _ _ _ x y| .mP _ x y| .Aa _ _ x y| .En x y| .app _ _ x y| .oV _ _ _ x y=>[x,y]
 | .FK x l h| .wg _ x l h=>x::(l.toList++h.toList)
 | .AN _ x l h fK=>x::h::fK::l.toList
 | .yF _ x xs=>x::xs
 | .yG _ a b=>a++b
 | .lA _ bu=>bu
 | .m2 x bu=>x::bu
 | .E6 _ x| .IS _ x=>[x]
 | .mq _ x bu=>x::bu
 | .qW=>[]
 | .qX _ _ _ x k=>[x,k]
 | .o7 _ x k v=>[x,k,v]
def IF(l:List Operand):List Nat:=l.filterMap fun| .tmp t=>some t|_=>none
def cO.yY(o:cO):List Nat:=IF o.k.hO++(match o.g with|some (t,_)=>[t]|none=>[])
def cO.afw(o:cO):List Nat:=IF (o.bd.map (·.1))++IF (o.bd.map (·.2))
def uU(l:List Nat)(d:Option Nat):Bool:=match d with|some d=> !l.contains d|none=>true
def Pf:Option Nat->List Operand
 |some d=>[.tmp d]
 |none=>[]
def rR(k i:cO):List (Operand×Operand):=
 if i.k.ln then k.k.nm.map λx=>(x,x)
 else if k.k.ln then[]
 else
  ((k.k.oP++(if k.k.fv then Pf k.d else[])).flatMap λx=>(i.k.nm++i.k.oP).map λy=>(x,y))
    ++k.k.nm.flatMap λx=>i.k.oP.map λy=>(x,y)
def sj(k i:cO)(uo:List Nat):Bool:=
 !k.k.yz&& !i.k.yz&&uU (k.yY++k.afw) i.d&&uU i.yY k.d&&(match k.d,i.d with|some a,some b=>a !=b|_,_=>true)&&
 (if i.k.ln then !k.k.ln&& !k.k.fv&&k.k.oP.isEmpty&&(IF k.k.nm).all λt=> !uo.contains t&&k.d !=some t
  else if k.k.ln then i.k.nm.isEmpty&&i.k.oP.isEmpty
  else(!k.k.fv||(k.d.isSome&&uU uo k.d))&&(IF (k.k.nm++k.k.oP)).all λt=> !uo.contains t&&k.d !=some t)
def Tb(ir:List Nat)(o:Oper):Nat:=
 o.after.toList.foldl (λs e=>if Region.binds .any e then s|||2^e.on|||ir.getD e.on 0 else s) 0
def Ck:List Oper->List Nat->List Nat
 |[],dN=>dN
 |o::r,dN=>Ck r (dN++[Tb dN o])
def wH(ir:List Nat)(i:cO):List cO->List (Operand×Operand)
 |[]=>[]
 |k::r=>(if(ir.getD i.aW 0).testBit k.aW then[]else rR k i)++wH ir i r
def O4(ir:List Nat)(i:cO):List cO->List Nat->Bool
 |[],_=>true
 |k::r,uo=>((ir.getD i.aW 0).testBit k.aW||sj k i uo)&&O4 ir i r (uo++k.d.toList)
def ap9(ops:Array Oper)(aW:Nat)(nk:List cO):Bool:=
 match ops[aW]? with
 |some op=>op.after.toList.all λe=> !Region.binds .any e||nk.any λk=>k.aW==e.on
 |none=>false
def Jw(P:Program)(ops:Array Oper)(dc:Nat)(ir:List Nat):List Nat->List cO->Option (List cO)
 |[],_=>some []
 | aW::r,nk=>match OV P ops dc aW with
   | some o=>
     let o':cO:=⟨o.aW,o.d,o.g,o.k,wH ir o nk⟩
     if O4 ir o' nk []&&ap9 ops aW nk then
      match Jw P ops dc ir r (o'::nk)with
      |some bN=>some (o'::bN)
      |none=>none
     else none
   |none=>none
def aof(o:Oper):Nat:=
 match o.op with
 | .alloc _| .box _ _| .buildSlice _ _ _| .makeSlice _ _ _| .makeMap _ _=>2
 | .store _ _ _=>1
 | .convert _ _ _=>0
 | .call {callee:= .builtin .len,..}| .call {callee:= .builtin .cap,..}| .call {callee:= .builtin .min,..}| .call {callee:= .builtin .max,..}=>0
 | .call _=>1
 |_=>0
def apE(ops:Array Oper):Nat->List Nat->List Nat->List Nat
 |0,_,dN=>dN.reverse
 | n+1,left,dN=>
   let abw:=left.filter λi=>((ops[i]?).map λo=>o.after.toList.all λe=> !Region.binds .any e||dN.contains e.on).getD false
   match(abw.find? λi=>((ops[i]?).map aof).getD 0==0).or ((abw.find? λi=>((ops[i]?).map aof).getD 0==1).or abw.head?)with
   |some i=>apE ops n (left.filter (· !=i)) (i::dN)
   |none=>dN.reverse
def yK:List Nat->Bool
 |[]=>true
 |x::l=> !l.contains x&&yK l
def aba(n:Nat)(l:List Nat):Bool:=decide (l.length=n)&&yK l&&(l.all λi=>decide (i<n))&&(List.range n).all λi=>l.contains i
def aG1:Operand->Operand->Bool
 | .tmp a,.tmp b=>a==b
 |_,_=>false
def apI(l:List Oper)(x:Operand):Operand:=
 match x with
 | .tmp t=>(match l.find? (λo=>o.dst==some t)with
   | some o=>(match o.op with
     | .move y=>y
     | .assign y=>y
     |_=>x)
   |none=>x)
 |_=>x
def amO(l:List Oper):List Oper->Bool
 |[]=>false
 | o ::r=>(match o.op with
  | .call c=>(match c.callee,c.args.toList with
    | .builtin .append,x::_=>r.any λp=>match p.op with
      | .call nw=>(match nw.callee with
        | .builtin _=>false
        |_=>nw.args.toList.any λy=>aG1 (apI l x) (apI l y))
      |_=>false
    |_,_=>false)
  |_=>false)||amO l r
def JF:List cO->Option (List cO×cO×List cO)
 |[]=>none
 | o::r=>match o.k with
   | .app _ _ _ _=>some ([],o,r)
   |_=>(JF r).map λ(a,b,c)=>(o::a,b,c)
def afp(ir:List Nat)(n:Nat):Bool:=(List.range n).all λj=>(List.range j).all λi=>(ir.getD j 0).testBit i
def ap2(ops:Array Oper):Bool:=(List.range ops.size).all λj=>match ops[j]? with
 |some o=>o.after.toList.all λe=> !Region.binds .any e||decide (e.on<j)
 |none=>false
def Ve(P:Program)(dc:Nat)(ops:Array Oper)(uw:Bool):Option aw:=
 if amO ops.toList ops.toList&&(!uw||(ap2 ops&&afp (Ck ops.toList []) ops.size))then
  (match Gn P ops dc (List.range ops.size)with
  |some L=>(JF L).map λ(a,b,c)=> .uQ a b c
  |none=>none)
 else none
def OW(P:Program)(dc:Nat)(ops:Array Oper):Bool->Option aw
 | false=>match Gn P ops dc (List.range ops.size)with
   |some l=>some (.kl l)
   |none=>none
 | true=>
   let order:=apE ops ops.size (List.range ops.size) []
   if aba ops.size order then
    match Jw P ops dc (Ck ops.toList []) order []with
    |some l=>some (.kl l)
    |none=>none
   else none
def tc(P:Program)(dc:Nat):Code->Option aw
 | .skip=>some .skip
 | .region _ ops uw=>match Ve P dc ops uw with
   |some c=>some c
   |none=>OW P dc ops uw
 | .seq a b=>match tc P dc a,tc P dc b with
   |some x,some y=>some (.ky x y)
   |_,_=>none
 | .cond c a b=>match tc P dc a,tc P dc b with
   |some x,some y=>if df c then some (.nx c x y)else none
   |_,_=>none
 | .block id c=>match tc P dc c with
   |some x=>some (.block id x)
   |none=>none
 | .loop c=>match tc P dc c with
   |some x=>some (.loop x)
   |none=>none
 | .exit id=>some (.cH id)
 | .ret=>some .e3
 |_=>none
def zu(P:Program)(dc:Nat):List ResultVar->Option (List lP)
 |[]=>some []
 | .tmp t::r=>match zu P dc r with
   |some l=>if t<dc then some (.bJ t::l)else none
   |none=>none
 | .cell a t::r=>match q7 P t,md P t,zu P dc r with
   |some dr,some n,some l=>if a<dc then some (.ha a dr n::l)else none
   |_,_,_=>none
def cd(P:Program)(f:Nat):Option b8:=
 match P.funcs[f]? with
 | some fn=>if fn.name== "runtime.NumGoroutine" ||fn.name== "slices.Insert[[]int,int]" then none else match fn.body with
   | some c=>match tc P fn.ntmps c,zu P fn.ntmps fn.results.toList with
     |some b,some cC=>some ⟨fn.ntmps,cC,b⟩
     |_,_=>none
   |none=>none
 |none=>none
end Go.DI
