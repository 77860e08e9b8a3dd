/-
  A part of the proof, shortened by tools of ours.
-/
import Derived.WalkKit
set_option linter.all false
set_option maxRecDepth 8000
set_option maxHeartbeats 16000000
namespace Go
abbrev a7:= @Bool.and_eq_true
abbrev c6:= @List.getElem?_eq_getElem
abbrev cN:= @List.getElem?_eq_some_iff
abbrev ei:= @List.all_eq_true
abbrev eF:= @decide_eq_true_eq
abbrev c8:= @Nat.le_refl
abbrev fX:= @List.mem_of_getElem?
abbrev hx:= @List.take_of_length_le
abbrev j0:= @Int.eq_ofNat_of_zero_le
abbrev iD:= @List.length_append
abbrev gx:= @List.mem_map
abbrev gd:= @Nat.zero_le
abbrev hv:= @List.mem_cons
abbrev jO:= @Bool.false_eq_true
abbrev n2:= @List.eq_nil_of_length_eq_zero
abbrev m7:= @List.getD_eq_getElem?_getD
abbrev jP:= @List.mem_append
abbrev kp:= @List.getElem_mem
abbrev kQ:= @List.not_mem_nil
abbrev pG:= @List.drop_eq_getElem_cons
abbrev n3:= @List.mem_append_right
abbrev ll:= @List.length_map
abbrev mP:= @Option.some.injEq
abbrev n4:= @List.getElem_of_mem
abbrev o4:= @List.mem_append_left
abbrev mQ:= @List.take_length
abbrev nB:= @Int.toNat_natCast
abbrev m8:= @List.length_cons
abbrev qD:= @List.getElem?_eq_none
abbrev si:= @List.length_eq_zero_iff
abbrev lW:= @List.map_cons
abbrev m9:= @List.all_cons
abbrev qE:= @Nat.lt_of_lt_of_le
abbrev mR:= @Nat.le_trans
abbrev oB:= @List.drop_zero
abbrev ry:= @List.getElem?_take
abbrev rz:= @List.mem_singleton
abbrev qF:= @List.take_add_one
abbrev tc:= @Array.toArray_toList
abbrev n5:= @Nat.add_assoc
abbrev yg:= @Array.getElem?_eq_some_iff
abbrev vI:= @Option.map_eq_some_iff
abbrev p7:= @List.map_append
abbrev pH:= @List.mem_range
abbrev sj:= @Bool.not_eq_true'
abbrev sk:= @List.getElem?_map
abbrev Bq:= @Int.mul_le_mul_of_nonneg_right
abbrev td:= @List.flatten_cons
abbrev zI:= @List.pairwise_iff_getElem
abbrev oC:= @Nat.add_mul
abbrev sl:= @List.append_nil
abbrev te:= @List.length_take
abbrev Br:= @List.getElem?_append_right
abbrev Bs:= @List.getElem?_append_left
abbrev uu:= @List.cons_append
abbrev uv:= @Bool.or_eq_true
abbrev uw:= @List.cons.injEq
abbrev lD:= @Iff.rfl
abbrev zJ:= @List.getElem?_append
abbrev zK:= @Nat.mul_le_mul_right
abbrev DG:= @Option.isNone_iff_eq_none
abbrev yh:= @List.mem_filterMap
abbrev wY:= @List.mem_flatMap
abbrev yi:= @List.ext_getElem?
abbrev zL:= @List.getElem?_drop
abbrev Bt:= @List.mem_of_mem_drop
abbrev wZ:= @List.nil_append
abbrev w0:= @decide_eq_false
abbrev Gu:= @List.mem_or_eq_of_mem_set
abbrev zM:= @List.nodup_append
abbrev ux:= @Nat.add_zero
abbrev yj:= @List.length_nil
abbrev Gv:= @decide_eq_false_iff_not
abbrev DH:= @List.mem_of_mem_take
abbrev w1:= @Prod.mk.injEq
abbrev Gw:= @List.drop_of_length_le
abbrev Bu:= @List.getElem?_set
abbrev DJ:= @List.map_congr_left
abbrev Jm:= @Array.getElem?_eq_getElem
abbrev zN:= @List.foldl_cons
abbrev Oq:= @Int.mul_le_mul_of_nonneg_left
abbrev Bv:= @List.ext_getElem
abbrev Bw:= @Option.getD_some
abbrev vJ:= @Int.le_refl
abbrev Gx:= @List.mem_cons_of_mem
abbrev Jn:= @List.getElem?_cons_succ
abbrev Bx:= @List.nodup_cons
abbrev By:= @List.range_succ
abbrev Ot:= @Array.getElem?_append_left
abbrev DK:= @Array.toList_inj
abbrev Jo:= @List.length_replicate
abbrev DL:= @Nat.not_lt_zero
abbrev Ou:= @Option.isSome_iff_exists
abbrev DM:= @Option.some.inj
abbrev Gy:= @List.length_range
abbrev Jp:= @List.replicate_succ
abbrev DN:= @Int.mul_nonneg
abbrev DO:= @List.drop_drop
abbrev Gz:= @List.mem_flatten
abbrev Bz:= @Nat.zero_add
abbrev Om:= @Array.getElem?_toList
abbrev Gt:= @List.all_append
abbrev On:= @List.length_filter_le
abbrev DF:= @Bool.true_and
abbrev Jj:= @List.any_eq_true
abbrev Jk:= @List.drop_length
abbrev Jl:= @List.length_drop
abbrev Oo:= @List.take_succ_cons
end Go
namespace Go.DI
open Go
abbrev aD:=Nat->Value
structure en where
 cells:List Value
 own:Bool
structure G where
 next:Nat
 hc:Nat->Option en
 mp:Nat->Option (List (Value×Value))
def G.F(m:G)(b:Nat):Option en:=if b<m.next then m.hc b else none
def G.aK(m:G)(b:Nat)(x:Option en):G:=⟨m.next,λi=>if i=b then x else m.hc i,m.mp⟩
def G.bU(m:G)(k:Nat):G:=⟨m.next+k,λi=>if i<m.next then m.hc i else none,m.mp⟩
def G.fC(m:G)(b:Nat):Option (List (Value×Value)):=match m.F b with
 |some ⟨[],true⟩=>m.mp b
 |_=>none
def G.hL(m:G)(b:Nat)(es:List (Value×Value)):G:=⟨m.next,λi=>if i=b then some ⟨[],true⟩else m.hc i,λi=>if i=b then some es else m.mp i⟩
def k3(z:aD)(d:Nat)(v:Value):aD:= λt=>if t=d then v else z t
def c0(z:aD)(d:Option Nat)(v:Value):aD:=match d with|some d=>k3 z d v|none=>z
def S(z:aD):Operand->Value
 | .tmp t=>z t
 | .const v=>v
 | .func f=> .func (.func f) #[] #[]
 | .global _=>undef
def yt:Value->Bool| .bool b=>b|_=>false
def wA:Value->Bool| .bool _=>true|_=>false
def eZ:Value->Int| .int _ n=>n|_=>0
def fu:Value->Bool| .int _ _=>true|_=>false
def w8:Value->ByteArray| .string s=>s|_=> .empty
def ab:Value->List Value| .agg cs=>cs.toList|v=>[v]
def gV:List Value->Nat->List Value->List Value
 |cs,_,[]=>cs
 |cs,off,v::vs=>gV (cs.set off v) (off+1) vs
def aa:Value->Option Nat
 | .pointer (some a)=>some a.block
 | .slice (some a) _ _=>some a.block
 | .map (some b)=>some b
 |_=>none
def ew:Value->Bool
 | .bool _| .int _ _| .float _ _| .complex _ _ _| .string _| .pointer none| .map none| .chan none| .nilFunc| .nilIface=>true
 | .slice none l c=>l==0&&c==0
 |_=>false
def nf:Value->Bool
 | .agg cs=>cs.toList.all ew
 | .tuple cs=>cs.toList.all ew
 |v=>ew v
def ad:Value->Bool
 | .agg _| .tuple _=>false
 |_=>true
def ah:Value->Bool
 | .tuple _=>false
 |_=>true
inductive w5 where
 |bool|bC|slice|fn|iface|agg|ua
 deriving DecidableEq
inductive sm where
 |int|str|bool
 deriving DecidableEq
inductive lX where
 |int (k:IntKind)|str
 deriving DecidableEq
inductive an where
 |hY (x:Operand)
 |vl (c a b:Operand)
 |vj (x:Operand)
 |nD (zero:List Value)
 |oK (x:Operand)
 |vQ (zero:List Value) (aEX:List (Nat×Nat×Operand))
 |mv (I n:Nat) (zero:List Value) (aEX:List (Nat×Nat×Operand))
 |hq (dE:Bool) (n:Nat) (x:Operand)
 |store (n:Nat) (x v:Operand)
 |oJ (op:BinOp) (c:w5) (x y:Operand)
 |Af (kx:Bool) (gh:List sm) (x y:Operand)
 |zC (op:UnOp) (x:Operand)
 |D6 (k:IntKind) (x:Operand)
 |GX (x:Operand)
 |pN (x:Operand)
 |qb (x:Operand)
 |ov (I bytes:Nat) (zero:List Value) (l c:Operand)
 |Gc (x:Operand) (bh Y:Option Operand)
 |wP (I:Nat) (x:Operand) (bh Y:Option Operand)
 |Bg (I:Nat) (x:Operand) (bh:Option Operand) (Y fP:Operand)
 |s5 (I n:Nat) (x:Operand)
 |kt (off:Nat) (x:Operand)
 |field (dE:Bool) (off n:Nat) (x:Operand)
 |mZ (I:Nat) (x i:Operand)
 |AF (I len:Nat) (x i:Operand)
 |EP (x i:Operand)
 |ext (i:Nat) (x:Operand)
 |Fy (x:Operand)
 |vg (x:Operand)
 |app (I bytes:Nat) (x y:Operand)
 |D2 (x:Operand)
 |o8 (I bytes:Nat) (zero:List Value) (x n:Operand)
 |hW (zero:List Value) (x:Operand)
 |za (fP:Bool) (x:Operand) (xs:List Operand)
 |zb (fn:Fn) (first ks:List Operand)
 |l2 (f:Nat) (args:List Operand)
 |nc (x:Operand) (args:List Operand)
 |FG (t:TypeId) (x:Operand)
 |Jd (t:TypeId) (x:Operand)
 |mE (bJ:List (TypeId×Nat×Option (Bool×Nat))) (x:Operand) (args:List Operand)
 |re
 |rf (bc:lX) (zero:Value) (ok:Bool) (x k:Operand)
 |po (bc:lX) (x k v:Operand)
structure cS where
 aY:Nat
 d:Option Nat
 g:Option (Nat×Bool)
 k:an
 bc:List (Operand×Operand)
inductive ln where
 |bL (t:Nat)
 |hy (t:Nat) (dE:Bool) (n:Nat)
inductive aB where
 |skip
 |kN (ops:List cS)
 |ve (cI:List cS) (o:cS) (bK:List cS)
 |kB (a b:aB)
 |nG (c:Operand) (a b:aB)
 |block (id:Nat) (c:aB)
 |loop (c:aB)
 |cF (id:Nat)
 |fi
structure ca where
 da:Nat
 j5:List ln
 body:aB
inductive cO where
 |eR
 |cF (id:Nat)
 |fi
 deriving DecidableEq
def g2(m:G)(v:Value)(n:Nat):Bool:=
 match v with
 | .pointer (some a)=>a.spot.isNone&&(match m.F a.block with|some x=>decide (a.off+n<=x.cells.length)|none=>false)
 |_=>false
def rG(m:G)(v:Value):Bool:=
 match v with
 | .pointer (some a)=>(match m.F a.block with|some x=>x.own|none=>false)
 |_=>false
def gW(m:G)(b off n:Nat):List Value:=
 match m.F b with
 |some x=>(x.cells.drop off).take n
 |none=>[]
def lP(m:G)(dE:Bool)(n:Nat)(v:Value):Value:=
 match v with
 | .pointer (some a)=>if dE then .agg (gW m a.block a.off n).toArray else(gW m a.block a.off 1).headD undef
 |_=>undef
def pD(m:G)(v:Value)(cs:List Value):G:=
 match v with
 | .pointer (some a)=>(match m.F a.block with|some x=>m.aK a.block (some ⟨gV x.cells a.off cs,x.own⟩)|none=>m)
 |_=>m
def fF(m:G)(I:Nat)(v:Value):Bool:=
 match v with
 | .slice none l c=>l==0&&c==0
 | .slice (some a) l c=>a.spot.isNone&&c==I&&(match m.F a.block with|some x=>decide (a.off+l*I<=x.cells.length)|none=>false)
 |_=>false
def iQ(m:G)(v:Value):Bool:=
 match v with
 | .slice none _ _=>true
 | .slice (some a) _ _=>(match m.F a.block with|some x=>x.own|none=>false)
 |_=>false
def fW:Value->Nat
 | .slice _ l _=>l
 |_=>0
def fy(m:G)(I:Nat)(v:Value):List Value:=
 match v with
 | .slice (some a) l _=>gW m a.block a.off (l*I)
 |_=>[]
def CI:Value->Bool
 | .slice none l c=>l==0&&c==0
 |_=>false
theorem S4{v:Value}(h:CI v=true):v= .slice none 0 0:=by
 unfold CI at h;split at h
 ·simp only[a7,beq_iff_eq]at h;rw[h.1,h.2]
 ·cases h
def oe(m:G)(zero:List Value)(v:Value):G:=
 match v with
 | .slice (some a) l _=>(match m.F a.block with|some x=>m.aK a.block (some ⟨gV x.cells a.off (List.replicate l zero).flatten,x.own⟩)|none=>m)
 |_=>m
def hR(m:G)(v:Value):G:=
 match v with
 | .slice (some a) _ _=>m.aK a.block none
 |_=>m
def HD(op:BinOp)(k:IntKind)(a b:Int):Value:=
 match op with
 | .add=> .int k (k.wrap (a+b))
 | .sub=> .int k (k.wrap (a-b))
 | .mul=> .int k (k.wrap (a*b))
 | .quo=> .int k (k.wrap (a.tdiv b))
 | .rem=> .int k (a.tmod b)
 | .and=> .int k (k.wrap (BitVec.ofInt k.bits a&&&BitVec.ofInt k.bits b).toNat)
 | .or=> .int k (k.wrap (BitVec.ofInt k.bits a|||BitVec.ofInt k.bits b).toNat)
 | .xor=> .int k (k.wrap (BitVec.ofInt k.bits a^^^BitVec.ofInt k.bits b).toNat)
 | .andNot=> .int k (k.wrap (BitVec.ofInt k.bits a&&& ~~~(BitVec.ofInt k.bits b)).toNat)
 | .shl=> .int k (k.wrap (a*2^(min b.toNat k.bits)))
 | .shr=> .int k (a.fdiv (2^(min b.toNat k.bits)))
 | .eql=> .bool (decide (a=b))
 | .neq=> .bool (!decide (a=b))
 | .lss=> .bool (decide (a<b))
 | .leq=> .bool (decide (a<=b))
 | .gtr=> .bool (decide (a>b))
 | .geq=> .bool (decide (a>=b))
def QG(op:BinOp)(k fk:IntKind)(_a b:Int):Bool:=
 match op with
 | .shl| .shr=>decide (0<=b)
 | .quo| .rem=>decide (k=fk)&&decide (b≠0)
 |_=>decide (k=fk)
def Dp(op:BinOp)(a b:ByteArray):Value:=
 match op with
 | .add=> .string (a++b)
 | .eql=> .bool (decide (a=b))
 | .neq=> .bool (!decide (a=b))
 | .lss=> .bool (Op.bytesLess a.toList b.toList)
 | .leq=> .bool (Op.bytesLess a.toList b.toList||decide (a=b))
 | .gtr=> .bool (!(Op.bytesLess a.toList b.toList||decide (a=b)))
 | .geq=> .bool (!Op.bytesLess a.toList b.toList)
 |_=>undef
def NX(op:BinOp)(a b:ByteArray):Bool:=
 match op with
 | .add=>decide (a.size+b.size<=9223372036854775807)
 | .eql| .neq| .lss| .leq| .gtr| .geq=>true
 |_=>false
def sQ:Value->Bool
 | .pointer none=>true
 | .slice none _ _=>true
 | .nilFunc=>true
 | .nilIface=>true
 |_=>false
def qT(x y:Value):Bool:=
 match x,y with
 | .bool a,.bool b=>a==b
 |x,y=>sQ x&&sQ y
def xk(c:w5)(x y:Value):Bool:=
 match c,x,y with
 | .bool,.bool _,.bool _=>true
 | .bC,.pointer none,.pointer _=>true
 | .bC,.pointer _,.pointer none=>true
 | .slice,.slice none _ _,.slice _ _ _=>true
 | .slice,.slice _ _ _,.slice none _ _=>true
 | .fn,.nilFunc,.nilFunc=>true
 | .fn,.nilFunc,.func _ _ _=>true
 | .fn,.func _ _ _,.nilFunc=>true
 |_,_,_=>false
def mU(op:BinOp)(x y:Value):Value:=
 match x,y with
 | .int k a,.int _ b=>HD op k a b
 | .string a,.string b=>Dp op a b
 | x,y=>match op with
   | .eql=> .bool (qT x y)
   | .neq=> .bool (!qT x y)
   |_=>undef
def uI(op:BinOp)(c:w5)(x y:Value):Bool:=
 match x,y with
 | .int k a,.int fk b=>QG op k fk a b
 | .string a,.string b=>NX op a b
 | x,y=>match op with
   | .eql| .neq=>xk c x y
   |_=>false
def qa:Value->Value->Bool
 | .int _ a,.int _ b=>decide (a=b)
 | .string a,.string b=>decide (a=b)
 | .bool a,.bool b=>a==b
 |_,_=>false
def BP:sm->Value->Value->Bool
 | .int,.int k _,.int fk _=>decide (k=fk)
 | .str,.string _,.string _=>true
 | .bool,.bool _,.bool _=>true
 |_,_,_=>false
def od:List Value->List Value->Bool
 |[],[]=>true
 |a::bz,b::bs=>qa a b&&od bz bs
 |_,_=>false
def jF:List sm->List Value->List Value->Bool
 |[],[],[]=>true
 |k::gh,a::bz,b::bs=>BP k a b&&jF gh bz bs
 |_,_,_=>false
def wz:Value->Bool| .agg _=>true|_=>false
def Gl(op:UnOp)(x:Value):Value:=
 match op,x with
 | .neg,.int k n=> .int k (k.wrap (0-n))
 | .not,.bool b=> .bool (!b)
 |_,_=>undef
def Bj(op:UnOp)(x:Value):Bool:=
 match op,x with
 | .neg,.int _ _=>true
 | .not,.bool _=>true
 |_,_=>false
def byteOf:Value->UInt8| .int _ n=>UInt8.ofNat n.toNat|_=>0
def Fi:Value->Bool| .int .u8 _=>true|_=>false
def IA(s:ByteArray):List Value:=s.data.toList.map λb=> .int .u8 b.toNat
def toBytes(cs:List Value):ByteArray:=⟨(cs.map byteOf).toArray⟩
def hs(z:aD)(x:Option Operand)(VJ:Int):Int:=match x with|some o=>eZ (S z o)|none=>VJ
def p4(z:aD)(x:Option Operand):Bool:=match x with|some o=>fu (S z o)|none=>true
def m0:Value->Bool| .string _=>true|_=>false
def hQ:Value->Bool| .slice _ _ _=>true|_=>false
def CK:Value->Bool| .pointer (some _)=>true|_=>false
def zn(v:Value)(n:Nat):Value:=
 match v with
 | .pointer (some a)=> .pointer (some ⟨a.block,a.off+n,none⟩)
 |_=>undef
def sW:Value->Bool| .pointer (some a)=>a.spot.isNone|_=>false
def sa(v:Value)(I l h:Nat):Value:=
 match v with
 | .slice (some a) _ c=> .slice (some ⟨a.block,a.off+l*I,none⟩) (h-l) c
 |_=> .slice none 0 0
def pC(I:Nat):Value->Bool
 | .slice none l c=>l==0&&c==0
 | .slice (some a) _ c=>a.spot.isNone&&c==I
 |_=>false
def JK(v:Value)(I n:Nat):Value:=
 match v with
 | .pointer (some a)=> .slice (some ⟨a.block,a.off,none⟩) n I
 |_=> .slice none 0 0
def Dj(v:Value)(I:Nat)(i:Int):Value:=
 match v with
 | .slice (some a) _ _=> .pointer (some ⟨a.block,a.off+i.toNat*I,none⟩)
 |_=>undef
def CJ:Value->Bool
 | .pointer none| .nilIface| .nilFunc=>false
 | .func (.method _) _ _=>false
 |_=>true
def Du(v:Value)(i:Nat):Value:=match v with| .tuple vs=>vs.toList.getD i undef|_=>undef
def Gj(v:Value)(i:Nat):Bool:=match v with| .tuple vs=>decide (i<vs.toList.length)|_=>false
def Py(dE:Bool)(off n:Nat)(v:Value):Value:=
 match v with
 | .agg cs=>if dE then .agg ((cs.toList.drop off).take n).toArray else cs.toList.getD off undef
 |_=>undef
def Kj(off n:Nat)(v:Value):Bool:=match v with| .agg cs=>decide (off+n<=cs.toList.length)|_=>false
def p1(a b:Value):Value:=match a,b with| .int k x,.int _ y=> .int k (if y<x then y else x)|_,_=>undef
def pZ(a b:Value):Value:=match a,b with| .int k x,.int _ y=> .int k (if y>x then y else x)|_,_=>undef
def r3(cs:List Value)(z:aD)(ps:List (Nat×Nat×Operand)):Bool:=
 ps.all λ(off,n,x)=>ah (S z x)&&decide ((ab (S z x)).length=n)&&decide (off+n<=cs.length)
def ns(cs:List Value)(z:aD):List (Nat×Nat×Operand)->List Value
 |[]=>cs
 |(off,_,x)::r=>ns (gV cs off (ab (S z x))) z r
def Lp(t:TypeId):Value->Bool
 | .iface X _=>decide (X=t)
 |_=>false
def ajd:Value->Value
 | .iface _ v=>v
 |_=>undef
def lQ(m:G):Value->Option (List (Value×Value))
 | .map none=>some []
 | .map (some b)=>m.fC b
 |_=>none
def pY:lX->Value->Bool
 | .int k,.int fk _=>decide (fk=k)
 | .str,.string _=>true
 |_,_=>false
def nU(bc:lX)(k:Value)(es:List (Value×Value)):Bool:=pY bc k&&es.all λe=>pY bc e.1
def jK(k:Value):List (Value×Value)->Option Value
 |[]=>none
 |e::r=>if qa k e.1 then some e.2 else jK k r
def lg(k v:Value):List (Value×Value)->List (Value×Value)
 |[]=>[(k,v)]
 |e::r=>if qa k e.1 then(k,v)::r else e::lg k v r
def y9:Value->Nat
 | .map (some b)=>b
 |_=>0
def fa:Value->Int
 | .string s=>s.size
 | .slice _ l _=>l
 |_=>0
def an.ok(k:an)(z:aD)(m:G):Bool:=
 match k with
 | .hY _=>true
 | .vl c _ _=>wA (S z c)
 | .vj x=>CJ (S z x)
 | .nD _=>true
 | .oK x=>ah (S z x)
 | .vQ I ps=>r3 I z ps
 | .mv _ _ I ps=>r3 I z ps
 | .hq dE n x=>g2 m (S z x) n&&(dE||decide (n=1))
 | .store n x v=>g2 m (S z x) n&&rG m (S z x)&&ah (S z v)&&decide ((ab (S z v)).length=n)
 | .oJ op c x y=>uI op c (S z x) (S z y)
 | .Af _ gh x y=>wz (S z x)&&wz (S z y)&&jF gh (ab (S z x)) (ab (S z y))
 | .zC op x=>Bj op (S z x)
 | .D6 _ x=>fu (S z x)
 | .GX x=>m0 (S z x)
 | .pN x=>fF m 1 (S z x)&&(fy m 1 (S z x)).all Fi
 | .qb x=>m0 (S z x)&&decide ((w8 (S z x)).size<=9223372036854775807)
 | .ov I bytes _ l c=>fu (S z l)&&fu (S z c)&&decide (0<=eZ (S z l))&&decide (eZ (S z l)<=eZ (S z c))&&decide (eZ (S z c)*(bytes:Int)<=140737488355328)&&decide (eZ (S z c)<=9223372036854775807)&&decide (0<I)
 | .Gc x bh Y=>m0 (S z x)&&p4 z bh&&p4 z Y&&decide (0<=hs z bh 0)&&decide (hs z bh 0<=hs z Y (fa (S z x)))&&decide (hs z Y (fa (S z x))<=fa (S z x))
 | .wP I x bh Y=>pC I (S z x)&&p4 z bh&&p4 z Y&&decide (0<=hs z bh 0)&&decide (hs z bh 0<=hs z Y (fa (S z x)))&&decide (hs z Y (fa (S z x))<=fa (S z x))
 | .Bg I x bh Y fP=>pC I (S z x)&&p4 z bh&&fu (S z Y)&&fu (S z fP)&&decide (0<=hs z bh 0)&&decide (hs z bh 0<=eZ (S z Y))&&decide (eZ (S z Y)<=eZ (S z fP))&&decide (eZ (S z fP)<=fa (S z x))
 | .s5 I n x=>g2 m (S z x) (n*I)&&decide (n<=maxLen)
 | .kt _ x=>sW (S z x)
 | .field dE off n x=>Kj off n (S z x)&&(dE||decide (n=1))
 | .mZ I x i=>pC I (S z x)&&fu (S z i)&&decide (0<=eZ (S z i))&&decide (eZ (S z i)<fa (S z x))
 | .AF _ len x i=>sW (S z x)&&fu (S z i)&&decide (0<=eZ (S z i))&&decide (eZ (S z i)<(len:Int))
 | .EP x i=>m0 (S z x)&&fu (S z i)&&decide (0<=eZ (S z i))&&decide (eZ (S z i)<fa (S z x))
 | .ext i x=>Gj (S z x) i
 | .Fy x=>m0 (S z x)
 | .vg x=>hQ (S z x)
 | .app I bytes x y=>fF m I (S z x)&&iQ m (S z x)&&fF m I (S z y)&&decide (0<I)&&decide ((fW (S z x)+fW (S z y))*bytes<=140737488355328)&&decide (fW (S z x)+fW (S z y)<=9223372036854775807)
 | .D2 x=>CI (S z x)
 | .o8 I bytes _ x n=>CI (S z x)&&fu (S z n)&&decide (0<eZ (S z n))&&decide (eZ (S z n)*(bytes:Int)<=140737488355328)&&decide (eZ (S z n)<=9223372036854775807)&&decide (0<I)
 | .hW zero x=>fF m zero.length (S z x)&&iQ m (S z x)&&decide (0<zero.length)
 | .za _ x xs=>fu (S z x)&&xs.all λy=>fu (S z y)
 | .zb _ _ _=>true
 | .l2 _ _=>false
 | .nc _ _=>false
 | .FG _ _=>true
 | .Jd t x=>Lp t (S z x)
 | .mE _ _ _=>false
 | .re=>true
 | .rf bc _ _ x k=>match lQ m (S z x)with
   |some es=>nU bc (S z k) es
   |none=>false
 | .po bc x k v=>match S z x with
   | .map (some b)=>(match m.fC b with
     |some es=>nU bc (S z k) es&&ad (S z v)
     |none=>false)
   |_=>false
def an.val(k:an)(id:Nat)(z:aD)(m:G):Value:=
 match k with
 | .hY x=>S z x
 | .vl c a b=>if yt (S z c)then S z a else S z b
 | .vj x=>S z x
 | .nD _=> .pointer (some ⟨id,0,none⟩)
 | .oK _=> .pointer (some ⟨id,0,none⟩)
 | .vQ I ps=> .agg (ns I z ps).toArray
 | .mv I n _ _=> .slice (some ⟨id,0,none⟩) n I
 | .hq dE n x=>lP m dE n (S z x)
 | .store _ _ _=>undef
 | .oJ op _ x y=>mU op (S z x) (S z y)
 | .Af kx _ x y=> .bool (if kx then !od (ab (S z x)) (ab (S z y))else od (ab (S z x)) (ab (S z y)))
 | .zC op x=>Gl op (S z x)
 | .D6 k x=> .int k (k.wrap (eZ (S z x)))
 | .GX x=>S z x
 | .pN x=> .string (toBytes (fy m 1 (S z x)))
 | .qb x=> .slice (some ⟨id,0,none⟩) (w8 (S z x)).size 1
 | .ov I _ _ l _=> .slice (some ⟨id,0,none⟩) (eZ (S z l)).toNat I
 | .Gc x bh Y=> .string ((w8 (S z x)).extract (hs z bh 0).toNat (hs z Y (fa (S z x))).toNat)
 | .wP I x bh Y=>sa (S z x) I (hs z bh 0).toNat (hs z Y (fa (S z x))).toNat
 | .Bg I x bh Y _=>sa (S z x) I (hs z bh 0).toNat (eZ (S z Y)).toNat
 | .s5 I n x=>JK (S z x) I n
 | .kt off x=>zn (S z x) off
 | .field dE off n x=>Py dE off n (S z x)
 | .mZ I x i=>Dj (S z x) I (eZ (S z i))
 | .AF I _ x i=>zn (S z x) ((eZ (S z i)).toNat*I)
 | .EP x i=> .int .u8 (((w8 (S z x)).data.toList.getD (eZ (S z i)).toNat 0).toNat:Nat)
 | .ext i x=>Du (S z x) i
 | .Fy x=> .int .i64 (fa (S z x))
 | .vg x=> .int .i64 (fa (S z x))
 | .app I _ x y=>if fW (S z y)=0 then S z x else .slice (some ⟨id,0,none⟩) (fW (S z x)+fW (S z y)) I
 | .D2 _=> .int .i64 0
 | .o8 I _ _ _ n=> .slice (some ⟨id,0,none⟩) (eZ (S z n)).toNat I
 | .hW _ _=>undef
 | .za fP x xs=>xs.foldl (λdY y=>if fP then pZ dY (S z y)else p1 dY (S z y)) (S z x)
 | .zb fn first ks=> .func fn (first.map (S z)).toArray (ks.map (S z)).toArray
 | .l2 _ _=>undef
 | .nc _ _=>undef
 | .FG t x=> .iface t (S z x)
 | .Jd _ x=>ajd (S z x)
 | .mE _ _ _=>undef
 | .re=> .map (some id)
 | .rf _ zero ok x k=>
   let r:=(lQ m (S z x)).bind (jK (S z k))
   if ok then .tuple #[r.getD zero,.bool r.isSome]else r.getD zero
 | .po _ _ _ _=>undef
def an.hr(k:an)(id:Nat)(z:aD)(m:G):G:=
 match k with
 | .nD I=>m.aK id (some ⟨I,true⟩)
 | .oK x=>m.aK id (some ⟨ab (S z x),true⟩)
 | .mv _ _ I ps=>m.aK id (some ⟨ns I z ps,true⟩)
 | .store _ x v=>pD m (S z x) (ab (S z v))
 | .qb x=>m.aK id (some ⟨IA (w8 (S z x)),true⟩)
 | .ov _ _ zero l _=>m.aK id (some ⟨(List.replicate (eZ (S z l)).toNat zero).flatten,true⟩)
 | .app I _ x y=>if fW (S z y)=0 then m else(hR m (S z x)).aK id (some ⟨fy m I (S z x)++fy m I (S z y),true⟩)
 | .o8 _ _ zero _ n=>m.aK id (some ⟨(List.replicate (eZ (S z n)).toNat zero).flatten,true⟩)
 | .hW zero x=>oe m zero (S z x)
 | .re=>m.hL id []
 | .po _ x k v=>m.hL (y9 (S z x)) (lg (S z k) (S z v) ((m.fC (y9 (S z x))).getD []))
 |_=>m
def iY(z:aD)(bc:List (Operand×Operand)):Bool:=
 bc.all λ(x,y)=>match aa (S z x),aa (S z y)with
  |some a,some b=>a !=b
  |_,_=>true
def vd(z:aD)(bc:List (Operand×Operand))(m U:G):Prop:=
 ∀p∈bc,∀b,aa (S z p.1)=some b->U.F b=m.F b
abbrev Callee:=Nat->List Value->G->Option (Value×G)
def an.fL(k:an)(z:aD)(m:G):Option (Nat×List Value):=
 match k with
 | .mE bJ x args=>match S z x with
   | .iface t v=>match bJ.find? (λr=>r.1==t)with
     |some (_,f,none)=>some (f,v::args.map (S z))
     |some (_,f,some (dE,n))=>if g2 m v n&&(dE||decide (n=1))then some (f,lP m dE n v::args.map (S z))else none
     |none=>none
   |_=>none
 | .l2 f args=>some (f,args.map (S z))
 | .nc x args=>match S z x with
   | .func (.func f) first ks=>some (f,first.toList++args.map (S z)++ks.toList)
   |_=>none
 |_=>none
def e9(z:aD):Option (Nat×Bool)->Bool
 |none=>true
 |some (t,b)=>match z t with| .bool c=>c==b|_=>false
noncomputable def iA(b5:Callee)(base:Nat)(o:cS)(z:aD)(m:G):Option (aD×G):=
 if e9 z o.g then
  match o.k.fL z m with
  | some (f,args)=>match b5 f args m with
    |some (v,U)=>some (c0 z o.d v,U)
    |none=>none
  |none=>if o.k.ok z m then some (c0 z o.d (o.k.val (base+o.aY) z m),o.k.hr (base+o.aY) z m)else none
 else some (c0 z o.d undef,m)
def qQ(o:cS)(z:aD)(m U:G):Prop:=
 e9 z o.g=true->match o.k.fL z m with
  |some _=>vd z o.bc m U
  |none=>iY z o.bc=true
open Classical in
noncomputable def lh(b5:Callee)(base:Nat):List cS->aD->G->Option (aD×G)
 |[],z,m=>some (z,m)
 | o::bK,z,m=>match iA b5 base o z m with
   |some (K,U)=>if qQ o z m U then lh b5 base bK K U else none
   |none=>none
def an.fD:an->Bool
 | .nD _| .oK _| .mv _ _ _ _| .qb _| .ov _ _ _ _ _| .app _ _ _ _| .o8 _ _ _ _ _| .re=>true
 |_=>false
def an.y6:an->Bool
 | .hW _ _| .re| .rf _ _ _ _ _| .po _ _ _ _=>true
 |_=>false
def h9(ops:List cS)(m:G):G:=if ops.any (λo=>o.k.fD)then m.bU ops.length else m
def s7(I:Nat)(m:G):Value->Bool
 | .slice (some a) l _=>(match m.F a.block with|some b=>decide (b.cells.length=a.off+l*I)|none=>false)
 |_=>true
def pl(o:cS)(z:aD)(m:G):Bool:=o.g.isNone&&(match o.k with| .app I _ x _=>s7 I m (S z x)|_=>false)&&o.k.ok z m
def HA(x:en):en:=⟨x.cells,false⟩
def pW(m:G):G:=⟨m.next,λb=>(m.hc b).map HA,λ_=>none⟩
def kV(f:aD->G->Option (cO×aD×G)):Nat->aD->G->Option (cO×aD×G)
 |0,_,_=>none
 | n+1,z,m=>match f z m with
   |some (.eR,K,U)=>kV f n K U
   |r=>r
noncomputable def e5(b5:Callee)(n:Nat):aB->aD->G->Option (cO×aD×G)
 | .skip,z,m=>some (.eR,z,m)
 | .kN ops,z,m=>match lh b5 m.next ops z (h9 ops m)with
   |some (K,U)=>some (.eR,K,U)
   |none=>none
 | .ve cI o bK,z,m=>match lh b5 m.next cI z (m.bU (cI.length+(bK.length+1)))with
   | some (bT,bn)=>if pl o bT bn then
    (match lh b5 m.next bK (c0 bT o.d (o.k.val (m.next+o.aY) bT bn)) (pW bn)with
    |some (c2,cK)=>some (.eR,c2,(o.k.hr (m.next+o.aY) bT bn).bU (cK.next-bn.next))
    |none=>none)
     else none
   |none=>none
 | .kB a b,z,m=>match e5 b5 n a z m with
   |some (.eR,K,U)=>e5 b5 n b K U
   |r=>r
 | .nG c a b,z,m=>if wA (S z c)then(if yt (S z c)then e5 b5 n a z m else e5 b5 n b z m)else none
 | .block id c,z,m=>match e5 b5 n c z m with
   |some (.cF kl,K,U)=>if kl=id then some (.eR,K,U)else some (.cF kl,K,U)
   |r=>r
 | .loop c,z,m=>kV (e5 b5 n c) n z m
 | .cF id,z,m=>some (.cF id,z,m)
 | .fi,z,m=>some (.fi,z,m)
def r6(m:G)(z:aD):ln->Bool
 | .bL _=>true
 | .hy t dE n=>g2 m (z t) n&&(dE||decide (n=1))
def sZ(m:G)(z:aD):ln->Value
 | .bL t=>z t
 | .hy t dE n=>lP m dE n (z t)
def mL(m:G)(z:aD)(cH:List ln):Bool:=cH.all (r6 m z)
def m3(m:G)(z:aD):List ln->Value
 |[r]=>sZ m z r
 |cH=> .tuple (cH.map (sZ m z)).toArray
def ij(args:List Value):aD:= λt=>args.getD t undef
def mj(P:Program)(t:TypeId):Option Nat:=(P.info? t).map (·.size)
def se(P:Program)(t:TypeId):Option (List Value):=
 match P.info? t with
 | some i=>match i.zero with
   | some I=>let cs:=I.cells.toList
     if cs.all ew&&decide (cs.length=i.size)then some cs else none
   |none=>none
 |none=>none
def rr(P:Program)(t:TypeId):Option Bool:=
 match P.underlying t with
 |some (.struct _)=>some true
 |some (.array _ _)=>some true
 |some _=>some false
 |none=>none
def ru(P:Program)(t:TypeId):w5:=
 match P.underlying t with
 |some .bool=> .bool
 |some (.pointer _)=> .bC
 |some (.slice _)=> .slice
 |some (.func _ _ _)=> .fn
 |some (.interface _)=> .iface
 |some (.struct _)=> .agg
 |some (.array _ _)=> .agg
 |_=> .ua
def di:Operand->Bool
 | .tmp _=>true
 | .const v=>nf v
 | .func _=>true
 | .global _=>false
def ID:Option Operand->Bool
 |some x=>di x
 |none=>true
def Kf(e:TypeId->Option (List sm)):List Field->Nat->Option (List sm)
 |[],_=>some []
 | f ::r,off=>if f.name != "_" &&f.offset==off then
  (match e f.type with
   | some gh=>match Kf e r (off+gh.length)with
     |some bK=>if gh.length=0 then none else some (gh++bK)
     |none=>none
   |none=>none)
   else none
def xj(P:Program):Nat->TypeId->Option (List sm)
 |0,_=>none
 | d+1,t=>match P.underlying t,mj P t with
   |some .bool,some n=>if n=1 then some [.bool]else none
   |some (.int _),some n=>if n=1 then some [.int]else none
   |some .string,some n=>if n=1 then some [.str]else none
   | some (.struct fs),some n=>match Kf (xj P d) fs.toList 0 with
     |some gh=>if decide (n=gh.length)&& !P.stoodInHeld t then some gh else none
     |none=>none
   | some (.array k e),some n=>match xj P d e with
     |some gh=>if decide (n=k*gh.length)&&decide (0<gh.length)then some (List.replicate k gh).flatten else none
     |none=>none
   |_,_=>none
def Kk(P:Program)(fs:Array Field):List (Nat×Operand)->Option (List (Nat×Nat×Operand))
 |[]=>some []
 | (i,x)::r=>match fs[i]? with
   | some f=>match mj P f.type,Kk P fs r with
     |some n,some ps=>if di x then some ((f.offset,n,x)::ps)else none
     |_,_=>none
   |none=>none
def D9(I:Nat):List (Nat×Operand)->Option (List (Nat×Nat×Operand))
 |[]=>some []
 | (i,x)::r=>match D9 I r with
   |some ps=>if di x then some ((i*I,I,x)::ps)else none
   |none=>none
def FE(P:Program)(name:String)(t:TypeId):Option (TypeId×Nat×Option (Bool×Nat)):=
 match P.info? t with
 | some i=>match i.methods.find? (·.name==name)with
   | some FH=>if FH.path.isEmpty then(match FH.func with
     | some (f,aFi)=>match P.underlying t,aFi with
       |some (.pointer _),true=>some (t,f,none)
       | some (.pointer e),false=>match rr P e,mj P e with
         |some dE,some n=>some (t,f,some (dE,n))
         |_,_=>none
       |_,_=>none
     |none=>none)else none
   |none=>none
 |none=>none
def abr(P:Program)(name:String):List (TypeId×Nat×Option (Bool×Nat)):=(List.range P.types.size).filterMap (FE P name)
def UN(P:Program)(t:TypeId):Option Value:=
 match P.info? t with
 | some i=>match i.zero with
   |some I=>if ew I then some I else none
   |none=>none
 |none=>none
def Pb(P:Program)(t:TypeId):Option lX:=
 match P.underlying t with
 |some (.int k)=>some (.int k)
 |some .string=>some .str
 |_=>none
def JU(P:Program)(c:Call):Option an:=
 match c.callee with
 | .invoke (.tmp t) name=>if c.args.toList.all di then some (.mE (abr P name) (.tmp t) c.args.toList)else none
 | .value (.func f)=>match P.funcs[f]? with
   |some fn=>if fn.body.isSome&& !(fn.name== "runtime.NumGoroutine")&&c.args.toList.all di then some (.l2 f c.args.toList)else none
   |none=>none
 | .value (.tmp t)=>if c.args.toList.all di then some (.nc (.tmp t) c.args.toList)else none
 | .builtin .len=>match c.args.toList,c.argTypes.toList with
   | [x],[t]=>match P.underlying t with
     |some .string=>if di x then some (.Fy x)else none
     |some (.slice _)=>if di x then some (.vg x)else none
     |_=>none
   |_,_=>none
 | .builtin .append=>match c.args.toList,c.argTypes.toList with
   | [x,y],[t,bf]=>match P.underlying t with
     | some (.slice e)=>match P.info? e with
       | some i=>if t=bf then(if di x&&di y&&(se P e).isSome then some (.app i.size i.bytes x y)else none)
         else(match P.underlying bf,se P e with
         |some (.int _),some Jq=>if di x&&di y then some (.o8 Jq.length i.bytes Jq x y)else none
         |_,_=>none)
       |none=>none
     |_=>none
   |_,_=>none
 | .builtin .min=>match c.args.toList with
   |x::xs=>if di x&&xs.all di then some (.za false x xs)else none
   |[]=>none
 | .builtin .max=>match c.args.toList with
   |x::xs=>if di x&&xs.all di then some (.za true x xs)else none
   |[]=>none
 | .builtin .cap=>match c.args.toList,c.argTypes.toList with
   | [x],[t]=>match P.underlying t with
     |some (.slice _)=>if di x then some (.D2 x)else none
     |_=>none
   |_,_=>none
 | .builtin .clear=>match c.args.toList,c.argTypes.toList with
   | [x],[t]=>match P.underlying t with
     | some (.slice e)=>match se P e with
       |some Jq=>if di x then some (.hW Jq x)else none
       |none=>none
     |_=>none
   |_,_=>none
 |_=>none
def GQ(P:Program)(o:Oper):Option an:=
 match o.op with
 | .move x=>if di x then some (.hY x)else none
 | .assign x=>if di x then some (.hY x)else none
 | .pick c a b=>if di c&&di a&&di b then some (.vl c a b)else none
 | .nilCheck x=>if di x then some (.vj x)else none
 | .alloc e=>match se P e with
   |some I=>some (.nD I)
   |none=>none
 | .box _ x=>if di x then some (.oK x)else none
 | .build t ps=>match P.underlying t,se P t with
   | some (.struct fs),some I=>match Kk P fs ps.toList with
     |some h8=>if(fs.toList.all λf=>(mj P f.type).isSome)then some (.vQ I h8)else none
     |none=>none
   | some (.array _ e),some I=>match mj P e with
     | some n=>match D9 n ps.toList with
       |some h8=>some (.vQ I h8)
       |none=>none
     |none=>none
   |_,_=>none
 | .buildSlice t n ps=>match P.underlying t with
   | some (.slice e)=>match se P e with
     | some I=>match D9 I.length ps.toList with
       |some h8=>if 0<I.length&&n*I.length<=16777216 then some (.mv I.length n (List.replicate n I).flatten h8)else none
       |none=>none
     |none=>none
   |_=>none
 | .load t x=>match rr P t,mj P t with
   |some a,some n=>if di x then some (.hq a n x)else none
   |_,_=>none
 | .store t x v=>match mj P t with
   |some n=>if di x&&di v then some (.store n x v)else none
   |none=>none
 | .binOp op t x y _=>
   if di x&&di y then
    (if ru P t= .agg then
     (match op,xj P 8 t with
      | .eql,some gh=>if !P.eqGuardType P.depth t then some (.Af false gh x y)else none
      | .neq,some gh=>if !P.eqGuardType P.depth t then some (.Af true gh x y)else none
      |_,_=>none)
    else some (.oJ op (ru P t) x y))
   else none
 | .unOp op _ x=>if di x then some (.zC op x)else none
 | .convert s d x=>match P.underlying s,P.underlying d with
   |some (.int _),some (.int k)=>if di x then some (.D6 k x)else none
   |some .string,some .string=>if di x then some (.GX x)else none
   | some (.slice e),some .string=>match P.underlying e with
     |some (.int .u8)=>if di x then some (.pN x)else none
     |_=>none
   | some .string,some (.slice e)=>match P.underlying e with
     |some (.int .u8)=>if di x&&false then some (.qb x)else none
     |_=>none
   |_,_=>none
 | .makeSlice t l c=>match P.underlying t with
   | some (.slice e)=>match se P e,P.info? e with
     |some I,some i=>if di l&&di c then some (.ov I.length i.bytes I l c)else none
     |_,_=>none
   |_=>none
 | .slice t x bh Y fP=>match P.underlying t with
   |some .string=>if di x&&ID bh&&ID Y&&fP.isNone then some (.Gc x bh Y)else none
   | some (.slice e)=>match mj P e with
     | some I=>match fP with
       |none=>if di x&&ID bh&&ID Y then some (.wP I x bh Y)else none
       | some jq=>match Y with
         |some aC=>if di x&&ID bh&&di aC&&di jq then some (.Bg I x bh aC jq)else none
         |none=>none
     |none=>none
   | some (.array n e)=>match mj P e with
     |some I=>if di x&&bh.isNone&&Y.isNone&&fP.isNone then some (.s5 I n x)else none
     |none=>none
   |_=>none
 | .fieldAddr s x i=>match P.underlying s with
   | some (.struct fs)=>match fs[i]? with
     | some f=>match mj P f.type with
       |some n=>if di x&&0<n then some (.kt f.offset x)else none
       |none=>none
     |none=>none
   |_=>none
 | .field t x i=>match P.underlying t with
   | some (.struct fs)=>match fs[i]? with
     | some f=>match rr P f.type,mj P f.type with
       |some a,some n=>if di x then some (.field a f.offset n x)else none
       |_,_=>none
     |none=>none
   |_=>none
 | .indexAddr t x i=>match P.underlying t with
   | some (.slice e)=>match mj P e with
     |some I=>if di x&&di i then some (.mZ I x i)else none
     |none=>none
   | some (.array len e)=>match mj P e with
     |some I=>if di x&&di i then some (.AF I len x i)else none
     |none=>none
   |_=>none
 | .index t x i=>match P.underlying t with
   |some .string=>if di x&&di i then some (.EP x i)else none
   |_=>none
 | .extract x i=>if di x then some (.ext i x)else none
 | .makeInterface t x=>match P.underlying t with
   |some (.interface _)=>none
   |some _=>if di x then some (.FG t x)else none
   |none=>none
 | .typeAssert x _ t ok=>match P.underlying t with
   |some (.interface _)=>none
   |some _=>if di x&& !ok then some (.Jd t x)else none
   |none=>none
 | .makeMap t r=>match P.underlying t,r with
   |some (.map _ _),none=>some .re
   |_,_=>none
 | .lookup t x i ok=>match P.underlying t with
   | some (.map k e)=>match Pb P k,UN P e with
     |some bc,some I=>if di x&&di i then some (.rf bc I ok x i)else none
     |_,_=>none
   |_=>none
 | .mapUpdate t x k v=>match P.underlying t with
   | some (.map km _)=>match Pb P km with
     |some bc=>if di x&&di k&&di v then some (.po bc x k v)else none
     |none=>none
   |_=>none
 | .makeFunc fn first ks=>if first.toList.all di&&ks.toList.all di then some (.zb fn first.toList ks.toList)else none
 | .call c=>JU P c
 |_=>none
def aei:an:= .vj (.const (.pointer none))
def BM(P:Program)(o:Oper):Option an:=match GQ P o with
 |some k=>some k
 |none=>some aei
theorem arw{z:aD}{m:G}:aei.ok z m=false:=rfl
theorem O1{P:Program}{o:Oper}{k:an}(h:BM P o=some k):GQ P o=some k\/k=aei:=by
 unfold BM at h;split at h
 ·next fk A=>cases h;exact .inl A
 ·cases h;exact .inr rfl
def O0(ops:Array Oper)(o:Oper):Option (Option (Nat×Bool)):=
 match o.guard with
 |none=>some none
 | some (j,b)=>match(ops[j]?).bind (·.dst)with
   |some t=>some (some (t,b))
   |none=>none
def O2(P:Program)(ops:Array Oper)(da:Nat)(aY:Nat):Option cS:=
 match ops[aY]? with
 | some o=>match BM P o,O0 ops o with
   |some k,some g=>if(o.dst.all λd=>decide (d<da))then some ⟨aY,o.dst,g,k,[]⟩else none
   |_,_=>none
 |none=>none
def GR(P:Program)(ops:Array Oper)(da:Nat):List Nat->Option (List cS)
 |[]=>some []
 | aY::r=>match O2 P ops da aY,GR P ops da r with
   |some o,some bK=>some (o::bK)
   |_,_=>none
def an.nu:an->List Operand
 | .hq _ _ x=>[x]
 | .s5 _ _ x=>[x]
 | .store _ x _=>[x]
 | .pN x=>[x]
 | .hW _ x=>[x]
 | .app _ _ x y=>[x,y]
 |_=>[]
def an.o3:an->List Operand
 | .hW _ x=>[x]
 | .store _ x _=>[x]
 | .app _ _ x _=>[x]
 |_=>[]
def an.lx:an->Bool
 | .l2 _ _| .nc _ _| .mE _ _ _=>true
 |_=>false
def an.h0:an->List Operand
 | .hY x| .vj x| .oK x| .hq _ _ x| .zC _ x| .D6 _ x| .GX x| .pN x| .qb x| .kt _ x| .field _ _ _ x| .ext _ x| .Fy x| .vg x| .D2 x| .hW _ x| .s5 _ _ x=>[x]
 | .vl c a b=>[c,a,b]
 | .nD _=>[]
 | .vQ _ ps| .mv _ _ _ ps=>ps.map λp=>p.2.2
 | .store _ x v=>[x,v]
 | .oJ _ _ x y| .Af _ _ x y| .ov _ _ _ x y| .mZ _ x y| .AF _ _ x y| .EP x y| .app _ _ x y| .o8 _ _ _ x y=>[x,y]
 | .Gc x l h| .wP _ x l h=>x::(l.toList++h.toList)
 | .Bg _ x l h fP=>x::h::fP::l.toList
 | .za _ x xs=>x::xs
 | .zb _ a b=>a++b
 | .l2 _ bz=>bz
 | .nc x bz=>x::bz
 | .FG _ x| .Jd _ x=>[x]
 | .mE _ x bz=>x::bz
 | .re=>[]
 | .rf _ _ _ x k=>[x,k]
 | .po _ x k v=>[x,k,v]
def I4(l:List Operand):List Nat:=l.filterMap fun| .tmp t=>some t|_=>none
def cS.zt(o:cS):List Nat:=I4 o.k.h0++(match o.g with|some (t,_)=>[t]|none=>[])
def cS.agw(o:cS):List Nat:=I4 (o.bc.map (·.1))++I4 (o.bc.map (·.2))
def vk(l:List Nat)(d:Option Nat):Bool:=match d with|some d=> !l.contains d|none=>true
def Pn:Option Nat->List Operand
 |some d=>[.tmp d]
 |none=>[]
def r2(k i:cS):List (Operand×Operand):=
 if i.k.lx then k.k.nu.map λx=>(x,x)
 else if k.k.lx then[]
 else
  ((k.k.o3++(if k.k.fD then Pn k.d else[])).flatMap λx=>(i.k.nu++i.k.o3).map λy=>(x,y))
    ++k.k.nu.flatMap λx=>i.k.o3.map λy=>(x,y)
def sx(k i:cS)(uJ:List Nat):Bool:=
 !k.k.y6&& !i.k.y6&&vk (k.zt++k.agw) i.d&&vk i.zt k.d&&(match k.d,i.d with|some a,some b=>a !=b|_,_=>true)&&
 (if i.k.lx then !k.k.lx&& !k.k.fD&&k.k.o3.isEmpty&&(I4 k.k.nu).all λt=> !uJ.contains t&&k.d !=some t
  else if k.k.lx then i.k.nu.isEmpty&&i.k.o3.isEmpty
  else(!k.k.fD||(k.d.isSome&&vk uJ k.d))&&(I4 (k.k.nu++k.k.o3)).all λt=> !uJ.contains t&&k.d !=some t)
def Tr(iB:List Nat)(o:Oper):Nat:=
 o.after.toList.foldl (λs e=>if Region.binds .any e then s|||2^e.on|||iB.getD e.on 0 else s) 0
def CS:List Oper->List Nat->List Nat
 |[],dY=>dY
 |o::r,dY=>CS r (dY++[Tr dY o])
def xf(iB:List Nat)(i:cS):List cS->List (Operand×Operand)
 |[]=>[]
 |k::r=>(if(iB.getD i.aY 0).testBit k.aY then[]else r2 k i)++xf iB i r
def Pa(iB:List Nat)(i:cS):List cS->List Nat->Bool
 |[],_=>true
 |k::r,uJ=>((iB.getD i.aY 0).testBit k.aY||sx k i uJ)&&Pa iB i r (uJ++k.d.toList)
def ars(ops:Array Oper)(aY:Nat)(nt:List cS):Bool:=
 match ops[aY]? with
 |some op=>op.after.toList.all λe=> !Region.binds .any e||nt.any λk=>k.aY==e.on
 |none=>false
def JV(P:Program)(ops:Array Oper)(da:Nat)(iB:List Nat):List Nat->List cS->Option (List cS)
 |[],_=>some []
 | aY::r,nt=>match O2 P ops da aY with
   | some o=>
     let o':cS:=⟨o.aY,o.d,o.g,o.k,xf iB o nt⟩
     if Pa iB o' nt []&&ars ops aY nt then
      match JV P ops da iB r (o'::nt)with
      |some bK=>some (o'::bK)
      |none=>none
     else none
   |none=>none
def apA(o:Oper):Nat:=
 match o.op with
 | .alloc _| .box _ _| .buildSlice _ _ _| .makeSlice _ _ _| .makeMap _ _=>2
 | .store _ _ _=>1
 | .convert _ _ _=>0
 | .call {callee:= .builtin .len,..}| .call {callee:= .builtin .cap,..}| .call {callee:= .builtin .min,..}| .call {callee:= .builtin .max,..}=>0
 | .call _=>1
 |_=>0
def aqV(ops:Array Oper):Nat->List Nat->List Nat->List Nat
 |0,_,dY=>dY.reverse
 | n+1,left,dY=>
   let acz:=left.filter λi=>((ops[i]?).map λo=>o.after.toList.all λe=> !Region.binds .any e||dY.contains e.on).getD false
   match(acz.find? λi=>((ops[i]?).map apA).getD 0==0).or ((acz.find? λi=>((ops[i]?).map apA).getD 0==1).or acz.head?)with
   |some i=>aqV ops n (left.filter (· !=i)) (i::dY)
   |none=>dY.reverse
def zf:List Nat->Bool
 |[]=>true
 |x::l=> !l.contains x&&zf l
def aca(n:Nat)(l:List Nat):Bool:=decide (l.length=n)&&zf l&&(l.all λi=>decide (i<n))&&(List.range n).all λi=>l.contains i
def aIi:Operand->Operand->Bool
 | .tmp a,.tmp b=>a==b
 |_,_=>false
def aq0(l:List Oper)(x:Operand):Operand:=
 match x with
 | .tmp t=>(match l.find? (λo=>o.dst==some t)with
   | some o=>(match o.op with
     | .move y=>y
     | .assign y=>y
     |_=>x)
   |none=>x)
 |_=>x
def an9(l:List Oper):List Oper->Bool
 |[]=>false
 | o ::r=>(match o.op with
  | .call c=>(match c.callee,c.args.toList with
    | .builtin .append,x::_=>r.any λp=>match p.op with
      | .call nF=>(match nF.callee with
        | .builtin _=>false
        |_=>nF.args.toList.any λy=>aIi (aq0 l x) (aq0 l y))
      |_=>false
    |_,_=>false)
  |_=>false)||an9 l r
def J4:List cS->Option (List cS×cS×List cS)
 |[]=>none
 | o::r=>match o.k with
   | .app _ _ _ _=>some ([],o,r)
   |_=>(J4 r).map λ(a,b,c)=>(o::a,b,c)
def agp(iB:List Nat)(n:Nat):Bool:=(List.range n).all λj=>(List.range j).all λi=>(iB.getD j 0).testBit i
def ark(ops:Array Oper):Bool:=(List.range ops.size).all λj=>match ops[j]? with
 |some o=>o.after.toList.all λe=> !Region.binds .any e||decide (e.on<j)
 |none=>false
def Vq(P:Program)(da:Nat)(ops:Array Oper)(uR:Bool):Option aB:=
 if an9 ops.toList ops.toList&&(!uR||(ark ops&&agp (CS ops.toList []) ops.size))then
  (match GR P ops da (List.range ops.size)with
  |some L=>(J4 L).map λ(a,b,c)=> .ve a b c
  |none=>none)
 else none
def O3(P:Program)(da:Nat)(ops:Array Oper):Bool->Option aB
 | false=>match GR P ops da (List.range ops.size)with
   |some l=>some (.kN l)
   |none=>none
 | true=>
   let order:=aqV ops ops.size (List.range ops.size) []
   if aca ops.size order then
    match JV P ops da (CS ops.toList []) order []with
    |some l=>some (.kN l)
    |none=>none
   else none
def tp(P:Program)(da:Nat):Code->Option aB
 | .skip=>some .skip
 | .region _ ops uR=>match Vq P da ops uR with
   |some c=>some c
   |none=>O3 P da ops uR
 | .seq a b=>match tp P da a,tp P da b with
   |some x,some y=>some (.kB x y)
   |_,_=>none
 | .cond c a b=>match tp P da a,tp P da b with
   |some x,some y=>if di c then some (.nG c x y)else none
   |_,_=>none
 | .block id c=>match tp P da c with
   |some x=>some (.block id x)
   |none=>none
 | .loop c=>match tp P da c with
   |some x=>some (.loop x)
   |none=>none
 | .exit id=>some (.cF id)
 | .ret=>some .fi
 |_=>none
def z5(P:Program)(da:Nat):List ResultVar->Option (List ln)
 |[]=>some []
 | .tmp t::r=>match z5 P da r with
   |some l=>if t<da then some (.bL t::l)else none
   |none=>none
 | .cell a t::r=>match rr P t,mj P t,z5 P da r with
   |some dE,some n,some l=>if a<da then some (.hy a dE n::l)else none
   |_,_,_=>none
def cm(P:Program)(f:Nat):Option ca:=
 match P.funcs[f]? with
 | some fn=>if fn.name== "runtime.NumGoroutine" ||fn.name== "slices.Insert[[]int,int]" then none else match fn.body with
   | some c=>match tp P fn.ntmps c,z5 P fn.ntmps fn.results.toList with
     |some b,some cH=>some ⟨fn.ntmps,cH,b⟩
     |_,_=>none
   |none=>none
 |none=>none
open Go Go.RowKit
structure vL where
 c:Nat
 o:Nat
 n:Nat
abbrev Ren:=Nat->Option vL
inductive dX(ak:Ren):Value->Value->Prop
 |c4 {v:Value} (h:ew v=true):dX ak v v
 |bC {b off:Nat} {l:vL} (h:ak b=some l):dX ak (.pointer (some ⟨b,off,none⟩)) (.pointer (some ⟨l.c,l.o+off,none⟩))
 | slice {b off len I cap:Nat} {ev:Addr} {l:vL} (h:ak b=some l) (aj:(cap=0/\len=0)\/(ev=⟨l.c,l.o+off,none⟩/\off+cap*I<=l.n)) (aA:len<=cap) (al:cap<=maxLen):
  dX ak (.slice (some ⟨b,off,none⟩) len I) (.slice (some ev) len cap)
 |agg {xs ys:Array Value} (H:xs.size=ys.size) (h: ∀(i:Nat) (x y:Value),xs[i]?=some x->ys[i]?=some y->dX ak x y) (A: ∀x∈xs.toList,ad x=true):dX ak (.agg xs) (.agg ys)
 |tuple {xs ys:Array Value} (H:xs.size=ys.size) (h: ∀(i:Nat) (x y:Value),xs[i]?=some x->ys[i]?=some y->dX ak x y):dX ak (.tuple xs) (.tuple ys)
 | func {fn:Fn} {xs ys cs ds:Array Value} (H:xs.size=ys.size) (h: ∀(i:Nat) (x y:Value),xs[i]?=some x->ys[i]?=some y->dX ak x y)
  (iE:cs.size=ds.size) (E: ∀(i:Nat) (x y:Value),cs[i]?=some x->ds[i]?=some y->dX ak x y):dX ak (.func fn xs cs) (.func fn ys ds)
 |iface {t:TypeId} {v bZ:Value} (h:dX ak v bZ):dX ak (.iface t v) (.iface t bZ)
 |map {b:Nat} {l:vL} (h:ak b=some l):dX ak (.map (some b)) (.map (some l.c))
def gQ(ak cT:Ren):Prop:= ∀b l,ak b=some l->cT b=some l
theorem gQ.refl(ak:Ren):gQ ak ak:= λ_ _ h=>h
theorem gQ.trans{a b c:Ren}(h:gQ a b)(cw:gQ b c):gQ a c:= λx l B=>cw x l (h x l B)
theorem dX.bt{ak cT:Ren}(eW:gQ ak cT){v bZ:Value}(h:dX ak v bZ):dX cT v bZ:=by
 induction h with
 |c4 h=>exact .c4 h
 |bC h=>exact .bC (eW _ _ h)
 |slice h aj aA al=>exact .slice (eW _ _ h) aj aA al
 |agg H _ A cj=>exact .agg H cj A
 |tuple H _ cj=>exact .tuple H cj
 |func H _ iE _ cj X1=>exact .func H cj iE X1
 |iface _ cj=>exact .iface cj
 |map h=>exact .map (eW _ _ h)
def dd(ak:Ren)(xs ys:List Value):Prop:=xs.length=ys.length/\ ∀(i:Nat) (x y:Value),xs[i]?=some x->ys[i]?=some y->dX ak x y
theorem dd.nil(ak:Ren):dd ak [] []:=⟨rfl,by intro i x y h;simp at h⟩
theorem dd.cons{ak:Ren}{x y:Value}{xs ys:List Value}(h:dX ak x y)(H:dd ak xs ys):dd ak (x::xs) (y::ys):=by
 refine⟨by simp[H.1],λi a b ag hb=> ?_⟩;cases i with
 |zero=>simp at ag hb;subst ag;subst hb;exact h
 |succ i=>exact H.2 i a b (by simpa using ag) (by simpa using hb)
theorem dd.bt{ak cT:Ren}(eW:gQ ak cT){xs ys:List Value}(h:dd ak xs ys):dd cT xs ys:=⟨h.1,λi x y B Z=>(h.2 i x y B Z).bt eW⟩
theorem dd.agg{ak:Ren}{xs ys:List Value}(h:dd ak xs ys)(A: ∀x∈xs,ad x=true):dX ak (.agg xs.toArray) (.agg ys.toArray):= .agg (by simpa using h.1) (by simpa using h.2) (by simpa using A)
theorem dd.tuple{ak:Ren}{xs ys:List Value}(h:dd ak xs ys):dX ak (.tuple xs.toArray) (.tuple ys.toArray):= .tuple (by simpa using h.1) (by simpa using h.2)
theorem dd.p8{ak:Ren}{a b c d:List Value}(h:dd ak a b)(cw:dd ak c d):dd ak (a++c) (b++d):=by
 refine⟨by simp[h.1,cw.1],λi x y B Z=> ?_⟩;rw[zJ]at B Z;rw[<-h.1]at Z;split at B
 ·rename_i Y;rw[if_pos Y]at Z;exact h.2 _ _ _ B Z
 ·rename_i Y;rw[if_neg Y]at Z;exact cw.2 _ _ _ B Z
theorem dd.drop{ak:Ren}{a b:List Value}(h:dd ak a b)(n:Nat):dd ak (a.drop n) (b.drop n):=
 ⟨by simp[h.1],λi x y B Z=>h.2 (n+i) x y (by simpa using B) (by simpa using Z)⟩
theorem dd.take{ak:Ren}{a b:List Value}(h:dd ak a b)(n:Nat):dd ak (a.take n) (b.take n):=by
 refine⟨by simp[h.1],λi x y B Z=> ?_⟩;rw[ry]at B Z;split at B
 ·rename_i Y;rw[if_pos Y]at Z;exact h.2 _ _ _ B Z
 ·cases B
theorem dd.set{ak:Ren}{a b:List Value}(h:dd ak a b)(n:Nat){x y:Value}(M:dX ak x y):dd ak (a.set n x) (b.set n y):=by
 refine⟨by simp[h.1],λi bf v B Z=> ?_⟩;rw[Bu]at B Z;rw[<-h.1]at Z;split at B
 ·rename_i Y;rw[if_pos Y]at Z;split at B
  ·rename_i E;rw[if_pos E]at Z;simp at B Z;subst B;subst Z;exact M
  ·cases B
 ·rename_i Y;rw[if_neg Y]at Z;exact h.2 _ _ _ B Z
theorem dd.gV{ak:Ren}: ∀{vs dD:List Value} {a b:List Value} (off:Nat),dd ak a b->dd ak vs dD->dd ak (gV a off vs) (gV b off dD)
 |[],[],_,_,_,h,_=>h
 |[],bf::dD,_,_,_,_,E=>by simp[dd]at E
 |v::vs,[],_,_,_,_,E=>by simp[dd]at E
 | v::vs,bf::dD,a,b,off,h,E=>by simp only[Go.DI.gV];exact dd.gV (off+1) (h.set off (E.2 0 v bf rfl rfl)) ⟨by simpa using E.1,λi x y B Z=>E.2 (i+1) x y (by simpa using B) (by simpa using Z)⟩
theorem dd.F{ak:Ren}{a b:List Value}(h:dd ak a b){i:Nat}{x:Value}(B:a[i]?=some x): ∃y,b[i]?=some y/\dX ak x y:=by have Y:i<a.length:=(cN.1 B).1;rw[h.1]at Y;exact⟨b[i],c6 Y,h.2 i x _ B (c6 Y)⟩
theorem dd.Io{ak:Ren}{dP:Type}(f g:dP->Value): ∀(l:List dP),(∀x∈l,dX ak (f x) (g x))->dd ak (l.map f) (l.map g)
 |[],_=>dd.nil ak
 |x::l,h=>dd.cons (h x (by simp)) (dd.Io f g l λy Z=>h y (by simp[Z]))
theorem dd.c4(ak:Ren){cs:List Value}(h:cs.all ew=true):dd ak cs cs:=by refine⟨rfl,λi x y B Z=> ?_⟩;rw[B]at Z;cases Z;exact .c4 (ei.1 h x (fX B))
theorem Ah{v:Value}(h:ew v=true):ad v=true:=by cases v<;>simp_all [ew,Go.DI.ad]
theorem dX.nf(ak:Ren){v:Value}(h:nf v=true):dX ak v v:=by
 unfold Go.DI.nf at h;split at h
 ·rename_i cs;have:=dd.agg (dd.c4 ak h) (λv M=>Ah (ei.1 h v M));simpa using this
 ·rename_i cs;have:=dd.tuple (dd.c4 ak h);simpa using this
 ·exact .c4 h
theorem dX.undef(ak:Ren):dX ak undef undef:=dd.tuple (dd.nil ak)
theorem dX.ad{ak:Ren}{v bZ:Value}(h:dX ak v bZ):ad bZ=ad v:=by cases h<;>simp[Go.DI.ad]
theorem aeu{ak:Ren}{v bZ:Value}(h:dX ak v bZ):dd ak (ab v) bZ.cells.toList:=by
 cases h with
 |agg H h _=>exact⟨by simpa[ab,Value.cells]using H,by simpa[ab,Value.cells]using h⟩
 | c4 h=>cases v<;>simp[ew]at h<;>exact dd.cons (.c4 (by simp[ew,h])) (dd.nil ak)
 |bC h=>exact dd.cons (.bC h) (dd.nil ak)
 |slice h aj aA al=>exact dd.cons (.slice h aj aA al) (dd.nil ak)
 |tuple H h=>exact dd.cons (.tuple H h) (dd.nil ak)
 |func H h iE E=>exact dd.cons (.func H h iE E) (dd.nil ak)
 |iface h=>exact dd.cons (.iface h) (dd.nil ak)
 |map h=>exact dd.cons (.map h) (dd.nil ak)
theorem aet{ak:Ren}{v bZ:Value}(h:dX ak v bZ)(aj:ah v=true): ∀x∈ab v,ad x=true:=by
 intro x B;cases h with
 |agg H h A=>exact A x B
 |c4 h=>cases v<;>simp[ew,ab]at h B<;>subst B<;>rfl
 |bC h=>simp[ab]at B;subst B;rfl
 |slice h aj aA al=>simp[ab]at B;subst B;rfl
 |tuple H h=>simp[ah]at aj
 |func H h iE E=>simp[ab]at B;subst B;rfl
 |iface h=>simp[ab]at B;subst B;rfl
 |map h=>simp[ab]at B;subst B;rfl
theorem dX.atm{ak:Ren}{xs:Array Value}{v:Value}(h:dX ak (.agg xs) v): ∀x∈xs.toList,Go.DI.ad x=true:=by
 cases h with
 |c4 h=>simp[ew]at h
 |agg H h A=>exact A
theorem dX.tS{ak:Ren}{k:IntKind}{n:Int}{v:Value}(h:dX ak (.int k n) v):v= .int k n:=by cases h;rfl
theorem dX.tR{ak:Ren}{b:Bool}{v:Value}(h:dX ak (.bool b) v):v= .bool b:=by cases h;rfl
theorem dX.AG{ak:Ren}{s:ByteArray}{v:Value}(h:dX ak (.string s) v):v= .string s:=by cases h;rfl
theorem dX.sO{ak:Ren}{a:Addr}{v:Value}(h:dX ak (.pointer (some a)) v): ∃l,ak a.block=some l/\a.spot=none/\v= .pointer (some ⟨l.c,l.o+a.off,none⟩):=by
 cases h with
 |c4 h=>simp[ew]at h
 |bC h=>exact⟨_,h,rfl,rfl⟩
theorem dX.lv{ak:Ren}{a:Addr}{len I:Nat}{v:Value}(h:dX ak (.slice (some a) len I) v):
 ∃l ev cap,ak a.block=some l/\a.spot=none/\v= .slice (some ev) len cap/\((cap=0/\len=0)\/(ev=⟨l.c,l.o+a.off,none⟩/\a.off+cap*I<=l.n))/\len<=cap/\cap<=maxLen:=by
 cases h with
 |c4 h=>simp[ew]at h
 |slice h aj aA al=>exact⟨_,_,_,h,rfl,rfl,aj,aA,al⟩
theorem dX.tQ{ak:Ren}{xs:Array Value}{v:Value}(h:dX ak (.agg xs) v): ∃ys,v= .agg ys/\dd ak xs.toList ys.toList:=by
 cases h with
 |c4 h=>simp[ew]at h
 |agg H h _=>exact⟨_,rfl,by simpa using H,by simpa using h⟩
theorem dX.ET{ak:Ren}{xs:Array Value}{v:Value}(h:dX ak (.tuple xs) v): ∃ys,v= .tuple ys/\dd ak xs.toList ys.toList:=by
 cases h with
 |c4 h=>simp[ew]at h
 |tuple H h=>exact⟨_,rfl,by simpa using H,by simpa using h⟩
theorem dX.ES{ak:Ren}{fn:Fn}{xs cs:Array Value}{v:Value}(h:dX ak (.func fn xs cs) v): ∃ys ds,v= .func fn ys ds/\dd ak xs.toList ys.toList/\dd ak cs.toList ds.toList:=by
 cases h with
 |c4 h=>simp[ew]at h
 |func H h iE E=>exact⟨_,_,rfl,⟨by simpa using H,by simpa using h⟩,by simpa using iE,by simpa using E⟩
theorem dX.Lt{ak:Ren}{t:TypeId}{x v:Value}(h:dX ak (.iface t x) v): ∃y,v= .iface t y/\dX ak x y:=by
 cases h with
 |c4 h=>simp[ew]at h
 |iface h=>exact⟨_,rfl,h⟩
theorem dX.Lu{ak:Ren}{b:Nat}{v:Value}(h:dX ak (.map (some b)) v): ∃l,ak b=some l/\v= .map (some l.c):=by
 cases h with
 |c4 h=>simp[ew]at h
 |map h=>exact⟨_,h,rfl⟩
theorem dX.hB{ak:Ren}{v bZ:Value}(h:dX ak v bZ)(bb:ew v=true):bZ=v:=by cases h<;>first|rfl|simp[ew]at bb
structure hl(ak:Ren)(da:Nat)(z:aD)(a:Act):Prop where
 size:a.tmps.size=da
 defers:a.defers=[]
 ow: ∀t,dX ak (z t) (a.tmps.getD t undef)
theorem hl.bt{ak cT:Ren}(eW:gQ ak cT){da:Nat}{z:aD}{a:Act}(h:hl ak da z a):hl cT da z a:=⟨h.size,h.defers,λt=>(h.ow t).bt eW⟩
theorem hl.S{ak:Ren}{da:Nat}{z:aD}{a:Act}(h:hl ak da z a){x:Operand}(B:di x=true):dX ak (S z x) (a.eval x):=by
 cases x with
 |tmp t=>exact h.ow t
 |const v=>exact dX.nf ak B
 |func f=>exact .func rfl (by intro i x y h;simp at h) rfl (by intro i x y h;simp at h)
 |global g=>simp[di]at B
theorem hl.aK{ak:Ren}{da:Nat}{z:aD}{a:Act}(h:hl ak da z a){d:Option Nat}(aW:d.all (λd=>decide (d<da))=true){v bZ:Value}(M:dX ak v bZ):hl ak da (c0 z d v) (a.put d bZ):=by
 cases d with
 |none=>exact h
 | some d=>
   have sE:d<da:=(by simpa using aW);refine⟨by simp[Act.put,h.size],h.defers,λt=> ?_⟩;simp only[c0,k3,Act.put];by_cases e:t=d
   ·subst e;have:t<a.tmps.size:=(by rw[h.size];exact sE);simpa[this]using M
   ·have:=h.ow t;simp only[Array.getD_eq_getD_getElem?]at this⊢;rw[Array.getElem?_setIfInBounds_ne (Ne.symm e)];simpa[e]using this
def BA(ak:Ren)(es:List (Value×Value))(de:List MapEntry):Prop:=es.length=de.length/\ ∀(i:Nat) e dw,es[i]?=some e->de[i]?=some dw->ew e.1=true/\dw.key=e.1/\ad e.2=true/\dX ak e.2 dw.val
theorem BA.bt{ak cT:Ren}(eW:gQ ak cT){es:List (Value×Value)}{de:List MapEntry}(h:BA ak es de):BA cT es de:=
 ⟨h.1,λi e dw A E=>by obtain⟨a,b,c,d⟩:=h.2 i e dw A E;exact⟨a,b,c,d.bt eW⟩⟩
theorem G.yF{m:G}{b:Nat}{es:List (Value×Value)}(h:m.fC b=some es):m.F b=some ⟨[],true⟩/\m.mp b=some es:=by
 unfold G.fC at h;split at h
 ·rename_i aH;exact⟨aH,h⟩
 ·cases h
theorem G.kT{m:G}{b:Nat}{es:List (Value×Value)}(A:m.F b=some ⟨[],true⟩)(E:m.mp b=some es):m.fC b=some es:=by unfold G.fC;rw[A];exact E
def o7(w:World)(c:Nat):Prop:= ∀t k,w.shape? c=some (t,k)->w.frozen? ⟨c,k,none⟩=false
theorem o7.C0{w w':World}{c:Nat}(h:o7 w c)(e:w'.heap[c]?=w.heap[c]?):o7 w' c:= λt k H=>by
 have A:w'.shape? c=w.shape? c:=by simp only[World.shape?,e]
 have E:w'.frozen? ⟨c,k,none⟩=w.frozen? ⟨c,k,none⟩:=by simp only[World.frozen?,e]
 rw[E];exact h t k (by rw[<-A];exact H)
theorem o7.setCells{c:Nat}(b:Nat): ∀(vs:List Value) (o:Nat) {w:World},o7 w c->o7 (w.setCells b o vs) c
 |[],_,_,h=>h
 | v::vs,o,w,h=>by
   rw[World.setCells];refine o7.setCells b vs _ ?_;intro t k H;have key:(w.setCell ⟨b,o,none⟩ v).heap[c]?=if b=c then(w.heap[c]?).map (λx=>match x with
    | .cells cs e b0=> .cells (cs.setIfInBounds o v) e b0
    |x=>x)else w.heap[c]?:=by
    simp only[World.setCell,Array.getElem?_modify];rfl
   by_cases e:b=c
   ·rw[if_pos e]at key;cases A:w.heap[c]? with
    |none=>rw[A]at key;simp[World.shape?,key]at H
    | some x=>
      rw[A]at key;cases x with
      | cells cs bf b0=>have:=h bf cs.size (by simp only[World.shape?,A]);simp only[World.frozen?,A]at this;simp only[World.shape?,key,Option.map_some,mP,w1,Array.size_setIfInBounds]at H;obtain⟨_,rfl⟩:=H;simp only[World.frozen?,key,Option.map_some];exact this
      |_=>simp[World.shape?,key]at H
   ·rw[if_neg e]at key;exact h.C0 key t k H
theorem o7.ao7{w:World}{c:Nat}{es:Array MapEntry}{bc:Nat}(h:w.heap[c]?=some (.map es bc)):o7 w c:= λt k H=>by simp[World.shape?,h]at H
theorem o7.ao6{w:World}{c:Nat}{ds:Array Value}{e:TypeId}{b0:Nat×Nat}(h:w.heap[c]?=some (.cells ds e b0))(bb: ¬(b0.1<=ds.size/\ds.size<b0.2)):o7 w c:= λt k H=>by simp only[World.shape?,h,mP,w1]at H;obtain⟨_,rfl⟩:=H;simp only[World.frozen?,h];simpa using bb
structure dG(aP:Nat)(ak:Ren)(m:G)(w:World):Prop where
 lq: ∀b l,ak b=some l->b<m.next
 mb: ∀b l,ak b=some l->l.c<w.heap.size
 md: ∀b x,m.F b=some x-> ∃l,ak b=some l/\x.cells.length<=l.n/\(∀i v,x.cells[i]?=some v->ad v=true/\ ∃bZ,w.cell? ⟨l.c,l.o+i,none⟩=some bZ/\dX ak v bZ)/\
  (x.own=true->aP<=l.c/\ ∀i,i<l.n->(w.cell? ⟨l.c,l.o+i,none⟩).isSome=true/\w.frozen? ⟨l.c,l.o+i,none⟩=false)
 rN: ∀b x cB hM l c7,m.F b=some x->x.own=true->m.F cB=some hM->b≠cB->ak b=some l->ak cB=some c7->l.c≠c7.c
 xV: ∀b es,m.mp b=some es-> ∃l,ak b=some l
 maps: ∀b es,m.fC b=some es-> ∃l de auo,ak b=some l/\aP<=l.c/\w.heap[l.c]?=some (.map de auo)/\BA ak es de.toList
 tY: ∀b x l,m.F b=some x->x.own=true->ak b=some l->o7 w l.c
theorem G.aF{m:G}{b:Nat}{x:en}(h:m.F b=some x):b<m.next:=by
 unfold G.F at h;split at h
 ·assumption
 ·cases h
theorem G.mX(m:G)(b cB:Nat)(x:Option en):(m.aK b x).F cB=if cB=b then(if b<m.next then x else none)else m.F cB:=by
 unfold G.F G.aK;by_cases h:cB=b
 ·subst h;simp
 ·simp[h]
theorem G.cl(m:G)(k b:Nat):(m.bU k).F b=m.F b:=by
 unfold G.F G.bU;by_cases h:b<m.next
 ·simp[h,qE h (Nat.le_add_right _ _)]
 ·simp[h]
theorem G.No(m:G)(b:Nat)(x:Option en):(m.aK b x).next=m.next:=rfl
theorem G.qP(m:G)(k:Nat):(m.bU k).next=m.next+k:=rfl
theorem dG.bU{aP:Nat}{ak:Ren}{m:G}{w:World}(h:dG aP ak m w)(k:Nat):dG aP ak (m.bU k) w:=
 ⟨λb l hb=>qE (h.lq b l hb) (by simp[G.qP]),h.mb,λb x B=>h.md b x (by rwa [G.cl]at B),
  λb x cB hM l c7 A E ao=>h.rN b x cB hM l c7 (by rwa [G.cl]at A) E (by rwa [G.cl]at ao),
  h.xV,λb es hb=>by obtain⟨aE,a5⟩:=G.yF hb;rw[G.cl]at aE;exact h.maps b es (G.kT aE a5),λb x l B=>h.tY b x l (by rwa [G.cl]at B)⟩
theorem dG.ar0{aP:Nat}{ak:Ren}{m:G}{w w':World}(h:dG aP ak m w)(bV:w'.heap=w.heap):dG aP ak m w':=by
 have av: ∀a,w'.cell? a=w.cell? a:= λa=>by simp[World.cell?,bV]
 have bb: ∀a,w'.frozen? a=w.frozen? a:= λa=>by simp[World.frozen?,bV]
 exact⟨h.lq,by rw[bV];exact h.mb,λb x B=>by simpa only[av,bb]using h.md b x B,h.rN,h.xV,λb es hb=>by rw[bV];exact h.maps b es hb,λb x l A E ao=>(h.tY b x l A E ao).C0 (by rw[bV])⟩
end Go.DI
