/- A part of the proof. -/
import Derived.WalkKit
set_option linter.all false
set_option maxRecDepth 20000
set_option maxHeartbeats 16000000
noncomputable section
namespace Go
abbrev AP:= @List.getElem?_eq_getElem
abbrev AF:= @Bool.and_eq_true
abbrev Ae:= @List.getElem?_eq_some_iff
abbrev B5:= @List.mem_of_getElem?
abbrev Aj:= @Nat.le_refl
abbrev BW:= @decide_eq_true_eq
abbrev BR:= @List.all_eq_true
abbrev E1:= @List.getD_eq_getElem?_getD
abbrev DP:= @List.take_of_length_le
abbrev Dp:= @Int.eq_ofNat_of_zero_le
abbrev CG:= @List.mem_map
abbrev CZ:= @List.mem_cons
abbrev D2:= @List.mem_append
abbrev C8:= @Nat.zero_le
abbrev E5:= @List.getElem_of_mem
abbrev E3:= @Bool.false_eq_true
abbrev DZ:= @List.length_cons
abbrev Dx:= @Int.toNat_natCast
abbrev Dq:= @List.getElem_mem
abbrev EK:= @List.not_mem_nil
abbrev En:= @List.length_append
abbrev E9:= @List.length_map
abbrev Dl:= @List.map_cons
abbrev Ht:= @List.drop_eq_getElem_cons
abbrev E8:= @Nat.le_trans
abbrev FJ:= @List.take_length
abbrev Fx:= @Option.some.injEq
abbrev Jt:= @Int.mul_le_mul_of_nonneg_right
abbrev HO:= @List.mem_append_right
abbrev Ib:= @List.getElem?_append_right
abbrev GV:= @Nat.lt_of_lt_of_le
abbrev F3:= @List.all_cons
abbrev GX:= @List.getElem?_map
abbrev Ii:= @List.length_eq_zero_iff
abbrev GO:= @List.foldl_cons
abbrev IK:= @List.mem_append_left
abbrev G3:= @List.mem_range
abbrev Ke:= @List.getElem?_append_left
abbrev M0:= @List.eq_nil_of_length_eq_zero
abbrev Gs:= @List.map_append
abbrev Jw:= @List.drop_of_length_le
abbrev KH:= @Option.map_eq_some_iff
abbrev I2:= @List.flatten_cons
abbrev IA:= @List.mem_singleton
abbrev Mb:= @List.pairwise_iff_getElem
abbrev FM:= @Int.le_refl
abbrev Gn:= @List.drop_zero
abbrev Hk:= @decide_eq_false
abbrev Ih:= @List.getElem?_set
abbrev IG:= @List.length_take
abbrev KX:= @Array.toArray_toList
abbrev KI:= @Nat.mul_le_mul_right
abbrev JQ:= @Bool.not_eq_true'
abbrev L1:= @List.getElem?_eq_none
abbrev MR:= @Classical.byContradiction
abbrev Ml:= @List.mem_or_eq_of_mem_set
abbrev MO:= @List.getElem?_cons_succ
abbrev J9:= @List.nodup_cons
abbrev Js:= @List.cons_append
abbrev Jb:= @Option.getD_some
abbrev Ep:= @Iff.rfl
abbrev KC:= @List.length_nil
abbrev OB:= @decide_eq_false_iff_not
abbrev LD:= @List.nodup_append
abbrev Mk:= @List.getElem?_append
abbrev MY:= @List.mem_of_mem_take
abbrev IQ:= @Nat.add_mul
abbrev QC:= @Array.getElem?_eq_some_iff
abbrev Jr:= @Nat.add_assoc
abbrev Ks:= @Nat.not_lt_zero
abbrev Lu:= @List.ext_getElem
abbrev M6:= @List.mem_flatMap
abbrev S2:= @Option.isNone_iff_eq_none
abbrev SV:= @Int.mul_le_mul_of_nonneg_left
abbrev Ur:= @List.map_congr_left
abbrev Mi:= @List.ext_getElem?
abbrev N9:= @List.take_add_one
abbrev Ov:= @List.length_replicate
abbrev MC:= @List.nil_append
abbrev MV:= @List.range_succ
abbrev Pc:= @List.mem_cons_of_mem
abbrev Mv:= @List.mem_flatten
abbrev Nk:= @List.append_assoc
abbrev My:= @Bool.or_eq_true
abbrev N5:= @Int.natCast_add
abbrev Ma:= @List.length_set
abbrev Nt:= @List.countP_cons
abbrev PU:= @List.getElem?_take
abbrev MH:= @Int.mul_nonneg
abbrev QM:= @List.mem_of_mem_drop
abbrev QY:= @List.replicate_succ
abbrev c3:= @List.findIdx?_eq_some_iff_getElem
abbrev RL:= @List.getElem?_drop
abbrev R0:= @List.mem_filterMap
abbrev Qq:= @List.set_cons_succ
abbrev Pf:= @List.append_nil
abbrev P6:= @List.cons.injEq
abbrev MG:= @Nat.add_zero
abbrev dH:= @Option.isSome_iff_exists
abbrev Ni:= @Prod.mk.injEq
abbrev NW:= @Int.le_trans
abbrev S7:= @List.filter_append
abbrev Nx:= @List.map_set
abbrev Sg:= @Nat.eq_zero_or_pos
abbrev Tn:= @List.getElem?_zipWith
abbrev VY:= @List.length_filter_le
abbrev XJ:= @List.findIdx?_eq_none_iff
abbrev Vr:= @List.pairwise_append
abbrev kn:= @List.drop_drop
abbrev Wn:= @List.take_succ_cons
end Go
namespace Go.DI
open Go
abbrev A2:=Nat->Value
structure CC where
 cells:List Value
 own:Bool
structure X where
 ac:Nat
 BY:Nat->Option CC
 mp:Nat->Option (List (Value×Value))
def X.Y(m:X)(b:Nat):Option CC:=if b<m.ac then m.BY b else none
def X.A1(m:X)(b:Nat)(x:Option CC):X:=⟨m.ac,λi=>if i=b then x else m.BY i,m.mp⟩
def X.AE(m:X)(k:Nat):X:=⟨m.ac+k,λi=>if i<m.ac then m.BY i else none,m.mp⟩
def X.Bs(m:X)(b:Nat):Option (List (Value×Value)):=match m.Y b with
 |some ⟨[],true⟩=>m.mp b
 |_=>none
def X.Cw(m:X)(b:Nat)(es:List (Value×Value)):X:=⟨m.ac,λi=>if i=b then some ⟨[],true⟩else m.BY i,λi=>if i=b then some es else m.mp i⟩
def Fg(A:A2)(d:Nat)(v:Value):A2:= λt=>if t=d then v else A t
def Ar(A:A2)(d:Option Nat)(v:Value):A2:=match d with|some d=>Fg A d v|none=>A
def U(A:A2):Operand->Value
 | .tmp t=>A t
 | .const v=>v
 | .func f=> .func (.func f) #[] #[]
 | .global _=>undef
def Mw:Value->Bool| .bool b=>b|_=>false
def LL:Value->Bool| .bool _=>true|_=>false
def Bk:Value->Int| .int _ n=>n|_=>0
def Bp:Value->Bool| .int _ _=>true|_=>false
def M9:Value->ByteArray| .string s=>s|_=> .empty
def H:Value->List Value| .agg cs=>cs.toList|v=>[v]
def CV:List Value->Nat->List Value->List Value
 |cs,_,[]=>cs
 |cs,off,v::a=>CV (cs.set off v) (off+1) a
def I:Value->Option Nat
 | .pointer (some a)=>some a.block
 | .slice (some a) _ _=>some a.block
 | .map (some b)=>some b
 |_=>none
def BJ:Value->Bool
 | .bool _| .int _ _| .float _ _| .complex _ _ _| .string _| .pointer none| .map none| .chan none| .nilFunc| .nilIface=>true
 | .slice none l c=>l==0&&c==0
 |_=>false
def G4:Value->Bool
 | .agg cs=>cs.toList.all BJ
 | .tuple cs=>cs.toList.all BJ
 |v=>BJ v
def F:Value->Bool
 | .agg _| .tuple _=>false
 |_=>true
def D:Value->Bool
 | .tuple _=>false
 |_=>true
inductive Nr where
 |bool|AG|slice|fn|iface|agg|Q2
 deriving DecidableEq
inductive Iu where
 |int|str|bool
 deriving DecidableEq
inductive GU where
 |int (k:IntKind)|str|Eb (k:IntKind)
 deriving DecidableEq
inductive M where
 |FA (x:Operand)
 |SE (c a b:Operand)
 |Lj (x:Operand)
 |It (zero:List Value)
 |Ja (x:Operand)
 |PC (zero:List Value) (e:List (Nat×Nat×Operand))
 |Hg (z n:Nat) (zero:List Value) (e:List (Nat×Nat×Operand))
 |EO (g:Bool) (n:Nat) (x:Operand)
 |store (n:Nat) (x v:Operand)
 |Jf (op:BinOp) (c:Nr) (x y:Operand)
 |Oy (m:Bool) (o:List Iu) (x y:Operand)
 |T9 (op:UnOp) (x:Operand)
 |VB (k:IntKind) (x:Operand)
 |Z6 (x:Operand)
 |Lr (x:Operand)
 |Mz (x:Operand)
 |IZ (z bytes:Nat) (zero:List Value) (l c:Operand)
 |c5 (x:Operand) (d ae:Option Operand)
 |OL (z:Nat) (x:Operand) (d ae:Option Operand)
 |S3 (z:Nat) (x:Operand) (d:Option Operand) (ae h:Operand)
 |NH (z n:Nat) (x:Operand)
 |H0 (off:Nat) (x:Operand)
 |field (g:Bool) (off n:Nat) (x:Operand)
 |He (z:Nat) (x i:Operand)
 |QX (z len:Nat) (x i:Operand)
 |VT (x i:Operand)
 |ext (i:Nat) (x:Operand)
 |W4 (x:Operand)
 |NS (x:Operand)
 |app (z bytes:Nat) (x y:Operand)
 |cr (x:Operand)
 |KZ (z bytes:Nat) (zero:List Value) (x n:Operand)
 |Ca (zero:List Value) (x:Operand)
 |QG (h:Bool) (x:Operand) (xs:List Operand)
 |Qv (fn:Fn) (first p:List Operand)
 |Kg (f:Nat) (args:List Operand)
 |JV (x:Operand) (args:List Operand)
 |Tx (t:TypeId) (x:Operand)
 |Vy (t:TypeId) (x:Operand)
 |JN (q:List (TypeId×Nat×Option (Bool×Nat))) (x:Operand) (args:List Operand)
 |Kz
 |LS (j:GU) (zero:Value) (ok:Bool) (x k:Operand)
 |Ki (j:GU) (x k v:Operand)
structure Av where
 AQ:Nat
 d:Option Nat
 g:Option (Nat×Bool)
 k:M
 Gr:List (Operand×Operand)
inductive GF where
 |AH (t:Nat)
 |DE (t:Nat) (a:Bool) (n:Nat)
inductive CF where
 |skip
 |FW (ops:List Av)
 |LN (d:List Av) (o:Av) (e:List Av)
 |El (a b:CF)
 |HP (c:Operand) (a b:CF)
 |block (id:Nat) (c:CF)
 |loop (c:CF)
 |Ao (id:Nat)
 |Cz
structure HT where
 cv:Nat
 Mn:List GF
 body:CF
inductive BM where
 |CK
 |Ao (id:Nat)
 |Cz
 deriving DecidableEq
def Bj(m:X)(v:Value)(n:Nat):Bool:=
 match v with
 | .pointer (some a)=>a.spot.isNone&&(match m.Y a.block with|some x=>decide (a.off+n<=x.cells.length)|none=>false)
 |_=>false
def Gi(m:X)(v:Value):Bool:=
 match v with
 | .pointer (some a)=>(match m.Y a.block with|some x=>x.own|none=>false)
 |_=>false
def C3(m:X)(b off n:Nat):List Value:=
 match m.Y b with
 |some x=>(x.cells.drop off).take n
 |none=>[]
def Co(m:X)(b:Bool)(n:Nat)(v:Value):Value:=
 match v with
 | .pointer (some a)=>if b then .agg (C3 m a.block a.off n).toArray else(C3 m a.block a.off 1).headD undef
 |_=>undef
def Fj(m:X)(v:Value)(cs:List Value):X:=
 match v with
 | .pointer (some a)=>(match m.Y a.block with|some x=>m.A1 a.block (some ⟨CV x.cells a.off cs,x.own⟩)|none=>m)
 |_=>m
def Br(m:X)(z:Nat)(v:Value):Bool:=
 match v with
 | .slice none l c=>l==0&&c==0
 | .slice (some a) l c=>c==z&&(match m.Y a.block with|some x=>decide (a.off+l*z<=x.cells.length)|none=>false)
 |_=>false
def Dm(m:X)(v:Value):Bool:=
 match v with
 | .slice none _ _=>true
 | .slice (some a) _ _=>(match m.Y a.block with|some x=>x.own|none=>false)
 |_=>false
def CO:Value->Nat
 | .slice _ l _=>l
 |_=>0
def C5(m:X)(z:Nat)(v:Value):List Value:=
 match v with
 | .slice (some a) l _=>C3 m a.block a.off (l*z)
 |_=>[]
def c8:Value->Bool
 | .slice none l c=>l==0&&c==0
 |_=>false
variable{v:Value}{ae:Option Operand}{d:Int}{A:A2}{P:Program}{o:Oper}{k:M}
theorem cO(h:c8 v=true):v= .slice none 0 0:=by
 unfold c8 at h;split at h
 ·simp only[AF,beq_iff_eq]at h;rw[h.1,h.2]
 ·cases h
def H5(m:X)(zero:List Value)(v:Value):X:=
 match v with
 | .slice (some a) l _=>(match m.Y a.block with|some x=>m.A1 a.block (some ⟨CV x.cells a.off (List.replicate l zero).flatten,x.own⟩)|none=>m)
 |_=>m
def Dj(m:X)(z:Nat)(v:Value)(n:Nat):Bool:=
 match v with
 | .slice (some ⟨b,off,some c⟩) l _=>decide (l+n<=c)&&(match m.Y b with|some x=>decide (off+(l+n)*z<=x.cells.length)|none=>false)
 |_=>false
def Sj(v:Value)(n:Nat):Value:=
 match v with
 | .slice (some a) l c=> .slice (some a) (l+n) c
 |_=>v
def Ga(m:X)(z:Nat)(v:Value)(cs:List Value):X:=
 match v with
 | .slice (some a) l _=>(match m.Y a.block with|some x=>m.A1 a.block (some ⟨CV x.cells (a.off+l*z) cs,x.own⟩)|none=>m)
 |_=>m
def EC(m:X)(v:Value):X:=
 match v with
 | .slice (some a) _ _=>m.A1 a.block none
 |_=>m
def T6(op:BinOp)(k:IntKind)(a b:Int):Value:=
 match op with
 | .add=> .int k (k.wrap (a+b))
 | .sub=> .int k (k.wrap (a-b))
 | .mul=> .int k (k.wrap (a*b))
 | .quo=> .int k (k.wrap (a.tdiv b))
 | .rem=> .int k (a.tmod b)
 | .and=> .int k (k.wrap (BitVec.ofInt k.bits a&&&BitVec.ofInt k.bits b).toNat)
 | .or=> .int k (k.wrap (BitVec.ofInt k.bits a|||BitVec.ofInt k.bits b).toNat)
 | .xor=> .int k (k.wrap (BitVec.ofInt k.bits a^^^BitVec.ofInt k.bits b).toNat)
 | .andNot=> .int k (k.wrap (BitVec.ofInt k.bits a&&& ~~~(BitVec.ofInt k.bits b)).toNat)
 | .shl=> .int k (k.wrap (a*2^(min b.toNat k.bits)))
 | .shr=> .int k (a.fdiv (2^(min b.toNat k.bits)))
 | .eql=> .bool (decide (a=b))
 | .neq=> .bool (!decide (a=b))
 | .lss=> .bool (decide (a<b))
 | .leq=> .bool (decide (a<=b))
 | .gtr=> .bool (decide (a>b))
 | .geq=> .bool (decide (a>=b))
def X1(op:BinOp)(k a:IntKind)(_a b:Int):Bool:=
 match op with
 | .shl| .shr=>decide (0<=b)
 | .quo| .rem=>decide (k=a)&&decide (b≠0)
 |_=>decide (k=a)
def PA(op:BinOp)(a b:ByteArray):Value:=
 match op with
 | .add=> .string (a++b)
 | .eql=> .bool (decide (a=b))
 | .neq=> .bool (!decide (a=b))
 | .lss=> .bool (Op.bytesLess a.toList b.toList)
 | .leq=> .bool (Op.bytesLess a.toList b.toList||decide (a=b))
 | .gtr=> .bool (!(Op.bytesLess a.toList b.toList||decide (a=b)))
 | .geq=> .bool (!Op.bytesLess a.toList b.toList)
 |_=>undef
def Vp(op:BinOp)(a b:ByteArray):Bool:=
 match op with
 | .add=>decide (a.size+b.size<=9223372036854775807)
 | .eql| .neq| .lss| .leq| .gtr| .geq=>true
 |_=>false
def J0:Value->Bool
 | .pointer none=>true
 | .slice none _ _=>true
 | .nilFunc=>true
 | .nilIface=>true
 |_=>false
def IE(x y:Value):Bool:=
 match x,y with
 | .bool a,.bool b=>a==b
 |x,y=>J0 x&&J0 y
def MF(c:Nr)(x y:Value):Bool:=
 match c,x,y with
 | .bool,.bool _,.bool _=>true
 | .AG,.pointer none,.pointer _=>true
 | .AG,.pointer _,.pointer none=>true
 | .slice,.slice none _ _,.slice _ _ _=>true
 | .slice,.slice _ _ _,.slice none _ _=>true
 | .fn,.nilFunc,.nilFunc=>true
 | .fn,.nilFunc,.func _ _ _=>true
 | .fn,.func _ _ _,.nilFunc=>true
 |_,_,_=>false
def Fs(op:BinOp)(x y:Value):Value:=
 match x,y with
 | .int k a,.int _ b=>T6 op k a b
 | .string a,.string b=>PA op a b
 | x,y=>match op with
   | .eql=> .bool (IE x y)
   | .neq=> .bool (!IE x y)
   |_=>undef
def Kk(op:BinOp)(c:Nr)(x y:Value):Bool:=
 match x,y with
 | .int k a,.int d b=>X1 op k d a b
 | .string a,.string b=>Vp op a b
 | x,y=>match op with
   | .eql| .neq=>MF c x y
   |_=>false
def K6:Value->Value->Bool
 | .int _ a,.int _ b=>decide (a=b)
 | .string a,.string b=>decide (a=b)
 | .bool a,.bool b=>a==b
 |_,_=>false
def Og:Iu->Value->Value->Bool
 | .int,.int k _,.int a _=>decide (k=a)
 | .str,.string _,.string _=>true
 | .bool,.bool _,.bool _=>true
 |_,_,_=>false
def Fz:List Value->List Value->Bool
 |[],[]=>true
 |a::c,b::bs=>K6 a b&&Fz c bs
 |_,_=>false
def Dn:List Iu->List Value->List Value->Bool
 |[],[],[]=>true
 |k::c,a::d,b::bs=>Og k a b&&Dn c d bs
 |_,_,_=>false
def KA:Value->Bool| .agg _=>true|_=>false
def QU(op:UnOp)(x:Value):Value:=
 match op,x with
 | .neg,.int k n=> .int k (k.wrap (0-n))
 | .not,.bool b=> .bool (!b)
 |_,_=>undef
def NZ(op:UnOp)(x:Value):Bool:=
 match op,x with
 | .neg,.int _ _=>true
 | .not,.bool _=>true
 |_,_=>false
def byteOf:Value->UInt8| .int _ n=>UInt8.ofNat n.toNat|_=>0
def R3:Value->Bool| .int .u8 _=>true|_=>false
def TL(s:ByteArray):List Value:=s.data.toList.map λb=> .int .u8 b.toNat
def toBytes(cs:List Value):ByteArray:=⟨(cs.map byteOf).toArray⟩
def Cm(A:A2)(x:Option Operand)(a:Int):Int:=match x with|some o=>Bk (U A o)|none=>a
def Kp:Option Operand->Bool
 |some (.const (.int _ n))=>n==0
 |_=>false
theorem a72{a:Option Operand}(h:(a.isNone&&Kp ae)=true):Cm A a 0=0/\Cm A ae d=0:=by
 simp only[AF,S2]at h;obtain⟨rfl,h⟩:=h;refine⟨rfl,?_⟩;unfold Kp at h;split at h
 ·simp only[beq_iff_eq]at h;subst h;rfl
 ·cases h
def Hx(A:A2)(x:Option Operand):Bool:=match x with|some o=>Bp (U A o)|none=>true
def Fp:Value->Bool| .string _=>true|_=>false
def KP:Value->Bool| .slice _ _ _=>true|_=>false
def Pa:Value->Bool| .pointer (some _)=>true|_=>false
def MS(v:Value)(n:Nat):Value:=
 match v with
 | .pointer (some a)=> .pointer (some ⟨a.block,a.off+n,none⟩)
 |_=>undef
def JG:Value->Bool| .pointer (some a)=>a.spot.isNone|_=>false
def Io(v:Value)(z l h:Nat):Value:=
 match v with
 | .slice (some a) _ c=> .slice (some ⟨a.block,a.off+l*z,none⟩) (h-l) c
 |_=> .slice none 0 0
def M5(v:Value):Value:=
 match v with
 | .slice (some a) l c=> .slice (some ⟨a.block,a.off,some l⟩) 0 c
 |_=> .slice none 0 0
def G9(z:Nat):Value->Bool
 | .slice none l c=>l==0&&c==0
 | .slice (some a) _ c=>c==z
 |_=>false
def We(v:Value)(z n:Nat):Value:=
 match v with
 | .pointer (some a)=> .slice (some ⟨a.block,a.off,none⟩) n z
 |_=> .slice none 0 0
def PE(v:Value)(z:Nat)(i:Int):Value:=
 match v with
 | .slice (some a) _ _=> .pointer (some ⟨a.block,a.off+i.toNat*z,none⟩)
 |_=>undef
def OQ:Value->Bool
 | .pointer none| .nilIface| .nilFunc=>false
 | .func (.method _) _ _=>false
 |_=>true
def RH(v:Value)(i:Nat):Value:=match v with| .tuple a=>a.toList.getD i undef|_=>undef
def SK(v:Value)(i:Nat):Bool:=match v with| .tuple a=>decide (i<a.toList.length)|_=>false
def Xt(a:Bool)(off n:Nat)(v:Value):Value:=
 match v with
 | .agg cs=>if a then .agg ((cs.toList.drop off).take n).toArray else cs.toList.getD off undef
 |_=>undef
def U1(off n:Nat)(v:Value):Bool:=match v with| .agg cs=>decide (off+n<=cs.toList.length)|_=>false
def Hf(a b:Value):Value:=match a,b with| .int k x,.int _ y=> .int k (if y<x then y else x)|_,_=>undef
def Ha(a b:Value):Value:=match a,b with| .int k x,.int _ y=> .int k (if y>x then y else x)|_,_=>undef
def Ia(cs:List Value)(A:A2)(ps:List (Nat×Nat×Operand)):Bool:=
 ps.all λ(off,n,x)=>D (U A x)&&decide ((H (U A x)).length=n)&&decide (off+n<=cs.length)
def GS(cs:List Value)(A:A2):List (Nat×Nat×Operand)->List Value
 |[]=>cs
 |(off,_,x)::r=>GS (CV cs off (H (U A x))) A r
def VF(t:TypeId):Value->Bool
 | .iface a _=>decide (a=t)
 |_=>false
def eL:Value->Value
 | .iface _ v=>v
 |_=>undef
def FC(m:X):Value->Option (List (Value×Value))
 | .map none=>some []
 | .map (some b)=>m.Bs b
 |_=>none
def DX:GU->Value->Bool
 | .int k,.int a _=>decide (a=k)
 | .str,.string _=>true
 | .Eb k,.agg xs=>(match xs.toList with
   |[.int b _,.int c _]=>decide (b=k)&&decide (c=k)
   |_=>false)
 |_,_=>false
def Hz:Value->Value->Bool
 | .agg xs,.agg ys=>Fz xs.toList ys.toList
 |a,b=>K6 a b
def ET(a:GU)(k:Value)(es:List (Value×Value)):Bool:=DX a k&&es.all λe=>DX a e.1
def Cy(k:Value):List (Value×Value)->Option Value
 |[]=>none
 |e::r=>if Hz k e.1 then some e.2 else Cy k r
def Dy(k v:Value):List (Value×Value)->List (Value×Value)
 |[]=>[(k,v)]
 |e::r=>if Hz k e.1 then(k,v)::r else e::Dy k v r
def MX:Value->Nat
 | .map (some b)=>b
 |_=>0
def DS:Value->Int
 | .string s=>s.size
 | .slice _ l _=>l
 |_=>0
def M.ok(k:M)(A:A2)(m:X):Bool:=
 match k with
 | .FA _=>true
 | .SE c _ _=>LL (U A c)
 | .Lj x=>OQ (U A x)
 | .It _=>true
 | .Ja x=>D (U A x)
 | .PC z ps=>Ia z A ps
 | .Hg _ _ z ps=>Ia z A ps
 | .EO d n x=>Bj m (U A x) n&&(d||decide (n=1))
 | .store n x v=>Bj m (U A x) n&&Gi m (U A x)&&D (U A v)&&decide ((H (U A v)).length=n)
 | .Jf op c x y=>Kk op c (U A x) (U A y)
 | .Oy _ g x y=>KA (U A x)&&KA (U A y)&&Dn g (H (U A x)) (H (U A y))
 | .T9 op x=>NZ op (U A x)
 | .VB _ x=>Bp (U A x)
 | .Z6 x=>Fp (U A x)
 | .Lr x=>Br m 1 (U A x)&&(C5 m 1 (U A x)).all R3
 | .Mz x=>Fp (U A x)&&decide ((M9 (U A x)).size<=9223372036854775807)
 | .IZ z bytes _ l c=>Bp (U A l)&&Bp (U A c)&&decide (0<=Bk (U A l))&&decide (Bk (U A l)<=Bk (U A c))&&decide (Bk (U A c)*(bytes:Int)<=140737488355328)&&decide (Bk (U A c)<=9223372036854775807)&&decide (0<z)
 | .c5 x a ae=>Fp (U A x)&&Hx A a&&Hx A ae&&decide (0<=Cm A a 0)&&decide (Cm A a 0<=Cm A ae (DS (U A x)))&&decide (Cm A ae (DS (U A x))<=DS (U A x))
 | .OL z x a ae=>G9 z (U A x)&&Hx A a&&Hx A ae&&decide (0<=Cm A a 0)&&decide (Cm A a 0<=Cm A ae (DS (U A x)))&&decide (Cm A ae (DS (U A x))<=DS (U A x))
 | .S3 z x a ae e=>G9 z (U A x)&&Hx A a&&Bp (U A ae)&&Bp (U A e)&&decide (0<=Cm A a 0)&&decide (Cm A a 0<=Bk (U A ae))&&decide (Bk (U A ae)<=Bk (U A e))&&decide (Bk (U A e)<=DS (U A x))
 | .NH z n x=>Bj m (U A x) (n*z)&&decide (n<=maxLen)
 | .H0 _ x=>JG (U A x)
 | .field d off n x=>U1 off n (U A x)&&(d||decide (n=1))
 | .He z x i=>G9 z (U A x)&&Bp (U A i)&&decide (0<=Bk (U A i))&&decide (Bk (U A i)<DS (U A x))
 | .QX _ len x i=>JG (U A x)&&Bp (U A i)&&decide (0<=Bk (U A i))&&decide (Bk (U A i)<(len:Int))
 | .VT x i=>Fp (U A x)&&Bp (U A i)&&decide (0<=Bk (U A i))&&decide (Bk (U A i)<DS (U A x))
 | .ext i x=>SK (U A x) i
 | .W4 x=>Fp (U A x)
 | .NS x=>KP (U A x)
 | .app z bytes x y=>Br m z (U A x)&&Dm m (U A x)&&Br m z (U A y)&&decide (0<z)&&decide ((CO (U A x)+CO (U A y))*bytes<=140737488355328)&&decide (CO (U A x)+CO (U A y)<=9223372036854775807)
 | .cr x=>c8 (U A x)
 | .KZ z bytes _ x n=>c8 (U A x)&&Bp (U A n)&&decide (0<Bk (U A n))&&decide (Bk (U A n)*(bytes:Int)<=140737488355328)&&decide (Bk (U A n)<=9223372036854775807)&&decide (0<z)
 | .Ca zero x=>Br m zero.length (U A x)&&Dm m (U A x)&&decide (0<zero.length)
 | .QG _ x xs=>Bp (U A x)&&xs.all λy=>Bp (U A y)
 | .Qv _ _ _=>true
 | .Kg _ _=>false
 | .JV _ _=>false
 | .Tx _ _=>true
 | .Vy t x=>VF t (U A x)
 | .JN _ _ _=>false
 | .Kz=>true
 | .LS f _ _ x k=>match FC m (U A x)with
   |some es=>ET f (U A k) es
   |none=>false
 | .Ki f x k v=>match U A x with
   | .map (some b)=>(match m.Bs b with
     |some es=>ET f (U A k) es&&F (U A v)
     |none=>false)
   |_=>false
def M.val(k:M)(id:Nat)(A:A2)(m:X):Value:=
 match k with
 | .FA x=>U A x
 | .SE c a b=>if Mw (U A c)then U A a else U A b
 | .Lj x=>U A x
 | .It _=> .pointer (some ⟨id,0,none⟩)
 | .Ja _=> .pointer (some ⟨id,0,none⟩)
 | .PC z ps=> .agg (GS z A ps).toArray
 | .Hg z n _ _=> .slice (some ⟨id,0,none⟩) n z
 | .EO e n x=>Co m e n (U A x)
 | .store _ _ _=>undef
 | .Jf op _ x y=>Fs op (U A x) (U A y)
 | .Oy g _ x y=> .bool (if g then !Fz (H (U A x)) (H (U A y))else Fz (H (U A x)) (H (U A y)))
 | .T9 op x=>QU op (U A x)
 | .VB k x=> .int k (k.wrap (Bk (U A x)))
 | .Z6 x=>U A x
 | .Lr x=> .string (toBytes (C5 m 1 (U A x)))
 | .Mz x=> .slice (some ⟨id,0,none⟩) (M9 (U A x)).size 1
 | .IZ z _ _ l _=> .slice (some ⟨id,0,none⟩) (Bk (U A l)).toNat z
 | .c5 x d ae=> .string ((M9 (U A x)).extract (Cm A d 0).toNat (Cm A ae (DS (U A x))).toNat)
 | .OL z x d ae=>if d.isNone&&Kp ae then M5 (U A x)else Io (U A x) z (Cm A d 0).toNat (Cm A ae (DS (U A x))).toNat
 | .S3 z x d ae _=>Io (U A x) z (Cm A d 0).toNat (Bk (U A ae)).toNat
 | .NH z n x=>We (U A x) z n
 | .H0 off x=>MS (U A x) off
 | .field e off n x=>Xt e off n (U A x)
 | .He z x i=>PE (U A x) z (Bk (U A i))
 | .QX z _ x i=>MS (U A x) ((Bk (U A i)).toNat*z)
 | .VT x i=> .int .u8 (((M9 (U A x)).data.toList.getD (Bk (U A i)).toNat 0).toNat:Nat)
 | .ext i x=>RH (U A x) i
 | .W4 x=> .int .i64 (DS (U A x))
 | .NS x=> .int .i64 (DS (U A x))
 | .app z _ x y=>if CO (U A y)=0 then U A x else if Dj m z (U A x) (CO (U A y))then Sj (U A x) (CO (U A y))else .slice (some ⟨id,0,none⟩) (CO (U A x)+CO (U A y)) z
 | .cr _=> .int .i64 0
 | .KZ z _ _ _ n=> .slice (some ⟨id,0,none⟩) (Bk (U A n)).toNat z
 | .Ca _ _=>undef
 | .QG h x xs=>xs.foldl (λf y=>if h then Ha f (U A y)else Hf f (U A y)) (U A x)
 | .Qv fn first j=> .func fn (first.map (U A)).toArray (j.map (U A)).toArray
 | .Kg _ _=>undef
 | .JV _ _=>undef
 | .Tx t x=> .iface t (U A x)
 | .Vy _ x=>eL (U A x)
 | .JN _ _ _=>undef
 | .Kz=> .map (some id)
 | .LS _ zero ok x k=>
   let r:=(FC m (U A x)).bind (Cy (U A k))
   if ok then .tuple #[r.getD zero,.bool r.isSome]else r.getD zero
 | .Ki _ _ _ _=>undef
def M.Cj(k:M)(id:Nat)(A:A2)(m:X):X:=
 match k with
 | .It z=>m.A1 id (some ⟨z,true⟩)
 | .Ja x=>m.A1 id (some ⟨H (U A x),true⟩)
 | .Hg _ _ z ps=>m.A1 id (some ⟨GS z A ps,true⟩)
 | .store _ x v=>Fj m (U A x) (H (U A v))
 | .Mz x=>m.A1 id (some ⟨TL (M9 (U A x)),true⟩)
 | .IZ _ _ zero l _=>m.A1 id (some ⟨(List.replicate (Bk (U A l)).toNat zero).flatten,true⟩)
 | .app z _ x y=>if CO (U A y)=0 then m else if Dj m z (U A x) (CO (U A y))then Ga m z (U A x) (C5 m z (U A y))else(EC m (U A x)).A1 id (some ⟨C5 m z (U A x)++C5 m z (U A y),true⟩)
 | .KZ _ _ zero _ n=>m.A1 id (some ⟨(List.replicate (Bk (U A n)).toNat zero).flatten,true⟩)
 | .Ca zero x=>H5 m zero (U A x)
 | .Kz=>m.Cw id []
 | .Ki _ x k v=>m.Cw (MX (U A x)) (Dy (U A k) (U A v) ((m.Bs (MX (U A x))).getD []))
 |_=>m
def Cq(A:A2)(c:List (Operand×Operand)):Bool:=
 c.all λ(x,y)=>match I (U A x),I (U A y)with
  |some a,some b=>a !=b
  |_,_=>true
def KF(A:A2)(a:List (Operand×Operand))(m c:X):Prop:=
 ∀p∈a,∀b,I (U A p.1)=some b->c.Y b=m.Y b
abbrev Callee:=Nat->List Value->X->Option (Value×X)
def M.By(k:M)(A:A2)(m:X):Option (Nat×List Value):=
 match k with
 | .JN b x args=>match U A x with
   | .iface t v=>match b.find? (λr=>r.1==t)with
     |some (_,f,none)=>some (f,v::args.map (U A))
     |some (_,f,some (a,n))=>if Bj m v n&&(a||decide (n=1))then some (f,Co m a n v::args.map (U A))else none
     |none=>none
   |_=>none
 | .Kg f args=>some (f,args.map (U A))
 | .JV x args=>match U A x with
   | .func (.func f) first c=>some (f,first.toList++args.map (U A)++c.toList)
   |_=>none
 |_=>none
def Bl(A:A2):Option (Nat×Bool)->Bool
 |none=>true
 |some (t,b)=>match A t with| .bool c=>c==b|_=>false
def DJ(a:Callee)(base:Nat)(o:Av)(A:A2)(m:X):Option (A2×X):=
 if Bl A o.g then
  match o.k.By A m with
  | some (f,args)=>match a f args m with
    |some (v,b)=>some (Ar A o.d v,b)
    |none=>none
  |none=>if o.k.ok A m then some (Ar A o.d (o.k.val (base+o.AQ) A m),o.k.Cj (base+o.AQ) A m)else none
 else some (Ar A o.d undef,m)
def I7(o:Av)(A:A2)(m a:X):Prop:=
 Bl A o.g=true->match o.k.By A m with
  |some _=>KF A o.Gr m a
  |none=>Cq A o.Gr=true
open Classical in
def Et(a:Callee)(base:Nat):List Av->A2->X->Option (A2×X)
 |[],A,m=>some (A,m)
 | o::c,A,m=>match DJ a base o A m with
   |some (d,b)=>if I7 o A m b then Et a base c d b else none
   |none=>none
def M.Bv:M->Bool
 | .It _| .Ja _| .Hg _ _ _ _| .Mz _| .IZ _ _ _ _ _| .app _ _ _ _| .KZ _ _ _ _ _| .Kz=>true
 |_=>false
def M.MW:M->Bool
 | .Ca _ _| .Kz| .LS _ _ _ _ _| .Ki _ _ _ _=>true
 |_=>false
def Cn(ops:List Av)(m:X):X:=if ops.any (λo=>o.k.Bv)then m.AE ops.length else m
def HK(z:Nat)(m:X):Value->Bool
 | .slice (some a) l _=>(match m.Y a.block with|some b=>decide (b.cells.length=a.off+l*z)|none=>false)
 |_=>true
def HA(o:Av)(A:A2)(m:X):Bool:=o.g.isNone&&(match o.k with| .app z _ x _=>HK z m (U A x)|_=>false)&&o.k.ok A m
def SF(x:CC):CC:=⟨x.cells,false⟩
def Hb(m:X):X:=⟨m.ac,λb=>(m.BY b).map SF,λ_=>none⟩
def Eo(f:A2->X->Option (BM×A2×X)):Nat->A2->X->Option (BM×A2×X)
 |0,_,_=>none
 | n+1,A,m=>match f A m with
   |some (.CK,a,b)=>Eo f n a b
   |r=>r
def Bb(e:Callee)(n:Nat):CF->A2->X->Option (BM×A2×X)
 | .skip,A,m=>some (.CK,A,m)
 | .FW ops,A,m=>match Et e m.ac ops A (Cn ops m)with
   |some (f,g)=>some (.CK,f,g)
   |none=>none
 | .LN j o l,A,m=>match Et e m.ac j A (m.AE (j.length+(l.length+1)))with
   | some (i,h)=>if HA o i h then
    (match Et e m.ac l (Ar i o.d (o.k.val (m.ac+o.AQ) i h)) (Hb h)with
    |some (q,s)=>some (.CK,q,(o.k.Cj (m.ac+o.AQ) i h).AE (s.ac-h.ac))
    |none=>none)
     else none
   |none=>none
 | .El a b,A,m=>match Bb e n a A m with
   |some (.CK,f,g)=>Bb e n b f g
   |r=>r
 | .HP c a b,A,m=>if LL (U A c)then(if Mw (U A c)then Bb e n a A m else Bb e n b A m)else none
 | .block id c,A,m=>match Bb e n c A m with
   |some (.Ao p,f,g)=>if p=id then some (.CK,f,g)else some (.Ao p,f,g)
   |r=>r
 | .loop c,A,m=>Eo (Bb e n c) n A m
 | .Ao id,A,m=>some (.Ao id,A,m)
 | .Cz,A,m=>some (.Cz,A,m)
def IX(m:X)(A:A2):GF->Bool
 | .AH _=>true
 | .DE t a n=>Bj m (A t) n&&(a||decide (n=1))
def J5(m:X)(A:A2):GF->Value
 | .AH t=>A t
 | .DE t a n=>Co m a n (A t)
def Fi(m:X)(A:A2)(a:List GF):Bool:=a.all (IX m A)
def Fv(m:X)(A:A2):List GF->Value
 |[r]=>J5 m A r
 |a=> .tuple (a.map (J5 m A)).toArray
def CQ(args:List Value):A2:= λt=>args.getD t undef
def FZ(P:Program)(t:TypeId):Option Nat:=(P.info? t).map (·.size)
def Iv(P:Program)(t:TypeId):Option (List Value):=
 match P.info? t with
 | some i=>match i.zero with
   | some z=>let cs:=z.cells.toList
     if cs.all BJ&&decide (cs.length=i.size)then some cs else none
   |none=>none
 |none=>none
def IP(P:Program)(t:TypeId):Option Bool:=
 match P.underlying t with
 |some (.struct _)=>some true
 |some (.array _ _)=>some true
 |some _=>some false
 |none=>none
def IN(P:Program)(t:TypeId):Nr:=
 match P.underlying t with
 |some .bool=> .bool
 |some (.pointer _)=> .AG
 |some (.slice _)=> .slice
 |some (.func _ _ _)=> .fn
 |some (.interface _)=> .iface
 |some (.struct _)=> .agg
 |some (.array _ _)=> .agg
 |_=> .Q2
def Ay:Operand->Bool
 | .tmp _=>true
 | .const v=>G4 v
 | .func _=>true
 | .global _=>false
def Sm:Option Operand->Bool
 |some x=>Ay x
 |none=>true
def Vg(e:TypeId->Option (List Iu)):List Field->Nat->Option (List Iu)
 |[],_=>some []
 | f ::r,off=>if f.name != "_" &&f.offset==off then
  (match e f.type with
   | some a=>match Vg e r (off+a.length)with
     |some b=>if a.length=0 then none else some (a++b)
     |none=>none
   |none=>none)
   else none
def M8(P:Program):Nat->TypeId->Option (List Iu)
 |0,_=>none
 | d+1,t=>match P.underlying t,FZ P t with
   |some .bool,some n=>if n=1 then some [.bool]else none
   |some (.int _),some n=>if n=1 then some [.int]else none
   |some .string,some n=>if n=1 then some [.str]else none
   | some (.struct fs),some n=>match Vg (M8 P d) fs.toList 0 with
     |some a=>if decide (n=a.length)&& !P.stoodInHeld t then some a else none
     |none=>none
   | some (.array k e),some n=>match M8 P d e with
     |some a=>if decide (n=k*a.length)&&decide (0<a.length)then some (List.replicate k a).flatten else none
     |none=>none
   |_,_=>none
def V5(P:Program)(fs:Array Field):List (Nat×Operand)->Option (List (Nat×Nat×Operand))
 |[]=>some []
 | (i,x)::r=>match fs[i]? with
   | some f=>match FZ P f.type,V5 P fs r with
     |some n,some ps=>if Ay x then some ((f.offset,n,x)::ps)else none
     |_,_=>none
   |none=>none
def R4(z:Nat):List (Nat×Operand)->Option (List (Nat×Nat×Operand))
 |[]=>some []
 | (i,x)::r=>match R4 z r with
   |some ps=>if Ay x then some ((i*z,z,x)::ps)else none
   |none=>none
def Qr(P:Program)(name:String)(t:TypeId):Option (TypeId×Nat×Option (Bool×Nat)):=
 match P.info? t with
 | some i=>match i.methods.find? (·.name==name)with
   | some a=>if a.path.isEmpty then(match a.func with
     | some (f,b)=>match P.underlying t,b with
       |some (.pointer _),true=>some (t,f,none)
       | some (.pointer e),false=>match IP P e,FZ P e with
         |some c,some n=>some (t,f,some (c,n))
         |_,_=>none
       |_,_=>none
     |none=>none)else none
   |none=>none
 |none=>none
def en(P:Program)(name:String):List (TypeId×Nat×Option (Bool×Nat)):=(List.range P.types.size).filterMap (Qr P name)
def cl(P:Program)(t:TypeId):Option Value:=
 match P.info? t with
 | some i=>match i.zero with
   |some z=>if BJ z then some z else none
   |none=>none
 |none=>none
def Zg(P:Program)(t:TypeId):Option GU:=
 match P.underlying t with
 |some (.int k)=>some (.int k)
 |some .string=>some .str
 | some (.array n e)=>(match P.underlying e,P.info? e with
   |some (.int k),some _=>if n=2/\P.cellsOf e=1 then some (.Eb k)else none
   |_,_=>none)
 |_=>none
def VU(P:Program)(c:Call):Option M:=
 match c.callee with
 | .invoke (.tmp t) name=>if c.args.toList.all Ay then some (.JN (en P name) (.tmp t) c.args.toList)else none
 | .value (.func f)=>match P.funcs[f]? with
   |some fn=>if fn.body.isSome&& !(fn.name== "runtime.NumGoroutine")&&c.args.toList.all Ay then some (.Kg f c.args.toList)else none
   |none=>none
 | .value (.tmp t)=>if c.args.toList.all Ay then some (.JV (.tmp t) c.args.toList)else none
 | .builtin .len=>match c.args.toList,c.argTypes.toList with
   | [x],[t]=>match P.underlying t with
     |some .string=>if Ay x then some (.W4 x)else none
     |some (.slice _)=>if Ay x then some (.NS x)else none
     |_=>none
   |_,_=>none
 | .builtin .append=>match c.args.toList,c.argTypes.toList with
   | [x,y],[t,b]=>match P.underlying t with
     | some (.slice e)=>match P.info? e with
       | some i=>if t=b then(if Ay x&&Ay y&&(Iv P e).isSome then some (.app i.size i.bytes x y)else none)
         else(match P.underlying b,Iv P e with
         |some (.int _),some a=>if Ay x&&Ay y then some (.KZ a.length i.bytes a x y)else none
         |_,_=>none)
       |none=>none
     |_=>none
   |_,_=>none
 | .builtin .min=>match c.args.toList with
   |x::xs=>if Ay x&&xs.all Ay then some (.QG false x xs)else none
   |[]=>none
 | .builtin .max=>match c.args.toList with
   |x::xs=>if Ay x&&xs.all Ay then some (.QG true x xs)else none
   |[]=>none
 | .builtin .cap=>match c.args.toList,c.argTypes.toList with
   | [x],[t]=>match P.underlying t with
     |some (.slice _)=>if Ay x then some (.cr x)else none
     |_=>none
   |_,_=>none
 | .builtin .clear=>match c.args.toList,c.argTypes.toList with
   | [x],[t]=>match P.underlying t with
     | some (.slice e)=>match Iv P e with
       |some a=>if Ay x then some (.Ca a x)else none
       |none=>none
     |_=>none
   |_,_=>none
 |_=>none
def T0(P:Program)(o:Oper):Option M:=
 match o.op with
 | .move x=>if Ay x then some (.FA x)else none
 | .assign x=>if Ay x then some (.FA x)else none
 | .pick c a b=>if Ay c&&Ay a&&Ay b then some (.SE c a b)else none
 | .nilCheck x=>if Ay x then some (.Lj x)else none
 | .alloc e=>match Iv P e with
   |some z=>some (.It z)
   |none=>none
 | .box _ x=>if Ay x then some (.Ja x)else none
 | .build t ps=>match P.underlying t,Iv P t with
   | some (.struct fs),some z=>match V5 P fs ps.toList with
     |some h=>if(fs.toList.all λf=>(FZ P f.type).isSome)then some (.PC z h)else none
     |none=>none
   | some (.array _ e),some z=>match FZ P e with
     | some n=>match R4 n ps.toList with
       |some h=>some (.PC z h)
       |none=>none
     |none=>none
   |_,_=>none
 | .buildSlice t n ps=>match P.underlying t with
   | some (.slice e)=>match Iv P e with
     | some z=>match R4 z.length ps.toList with
       |some h=>if 0<z.length&&n*z.length<=16777216 then some (.Hg z.length n (List.replicate n z).flatten h)else none
       |none=>none
     |none=>none
   |_=>none
 | .load t x=>match IP P t,FZ P t with
   |some a,some n=>if Ay x then some (.EO a n x)else none
   |_,_=>none
 | .store t x v=>match FZ P t with
   |some n=>if Ay x&&Ay v then some (.store n x v)else none
   |none=>none
 | .binOp op t x y _=>
   if Ay x&&Ay y then
    (if IN P t= .agg then
     (match op,M8 P 8 t with
      | .eql,some j=>if !P.eqGuardType P.depth t then some (.Oy false j x y)else none
      | .neq,some j=>if !P.eqGuardType P.depth t then some (.Oy true j x y)else none
      |_,_=>none)
    else some (.Jf op (IN P t) x y))
   else none
 | .unOp op _ x=>if Ay x then some (.T9 op x)else none
 | .convert s d x=>match P.underlying s,P.underlying d with
   |some (.int _),some (.int k)=>if Ay x then some (.VB k x)else none
   |some .string,some .string=>if Ay x then some (.Z6 x)else none
   | some (.slice e),some .string=>match P.underlying e with
     |some (.int .u8)=>if Ay x then some (.Lr x)else none
     |_=>none
   | some .string,some (.slice e)=>match P.underlying e with
     |some (.int .u8)=>if Ay x&&false then some (.Mz x)else none
     |_=>none
   |_,_=>none
 | .makeSlice t l c=>match P.underlying t with
   | some (.slice e)=>match Iv P e,P.info? e with
     |some z,some i=>if Ay l&&Ay c then some (.IZ z.length i.bytes z l c)else none
     |_,_=>none
   |_=>none
 | .slice t x g ae m=>match P.underlying t with
   |some .string=>if Ay x&&Sm g&&Sm ae&&m.isNone then some (.c5 x g ae)else none
   | some (.slice e)=>match FZ P e with
     | some z=>match m with
       |none=>if Ay x&&Sm g&&Sm ae then some (.OL z x g ae)else none
       | some q=>match ae with
         |some u=>if Ay x&&Sm g&&Ay u&&Ay q then some (.S3 z x g u q)else none
         |none=>none
     |none=>none
   | some (.array n e)=>match FZ P e with
     |some z=>if Ay x&&g.isNone&&ae.isNone&&m.isNone then some (.NH z n x)else none
     |none=>none
   |_=>none
 | .fieldAddr s x i=>match P.underlying s with
   | some (.struct fs)=>match fs[i]? with
     | some f=>match FZ P f.type with
       |some n=>if Ay x&&0<n then some (.H0 f.offset x)else none
       |none=>none
     |none=>none
   |_=>none
 | .field t x i=>match P.underlying t with
   | some (.struct fs)=>match fs[i]? with
     | some f=>match IP P f.type,FZ P f.type with
       |some a,some n=>if Ay x then some (.field a f.offset n x)else none
       |_,_=>none
     |none=>none
   |_=>none
 | .indexAddr t x i=>match P.underlying t with
   | some (.slice e)=>match FZ P e with
     |some z=>if Ay x&&Ay i then some (.He z x i)else none
     |none=>none
   | some (.array len e)=>match FZ P e with
     |some z=>if Ay x&&Ay i then some (.QX z len x i)else none
     |none=>none
   |_=>none
 | .index t x i=>match P.underlying t with
   |some .string=>if Ay x&&Ay i then some (.VT x i)else none
   |_=>none
 | .extract x i=>if Ay x then some (.ext i x)else none
 | .makeInterface t x=>match P.underlying t with
   |some (.interface _)=>none
   |some _=>if Ay x then some (.Tx t x)else none
   |none=>none
 | .typeAssert x _ t ok=>match P.underlying t with
   |some (.interface _)=>none
   |some _=>if Ay x&& !ok then some (.Vy t x)else none
   |none=>none
 | .makeMap t r=>match P.underlying t,r with
   |some (.map _ _),none=>some .Kz
   |_,_=>none
 | .lookup t x i ok=>match P.underlying t with
   | some (.map k e)=>match Zg P k,cl P e with
     |some p,some z=>if Ay x&&Ay i then some (.LS p z ok x i)else none
     |_,_=>none
   |_=>none
 | .mapUpdate t x k v=>match P.underlying t with
   | some (.map A _)=>match Zg P A with
     |some p=>if Ay x&&Ay k&&Ay v then some (.Ki p x k v)else none
     |none=>none
   |_=>none
 | .makeFunc fn first w=>if first.toList.all Ay&&w.toList.all Ay then some (.Qv fn first.toList w.toList)else none
 | .call c=>VU P c
 |_=>none
def hF:M:= .Lj (.const (.pointer none))
def Ok(P:Program)(o:Oper):Option M:=match T0 P o with
 |some k=>some k
 |none=>some hF
theorem si{m:X}:hF.ok A m=false:=rfl
theorem YK(h:Ok P o=some k):T0 P o=some k\/k=hF:=by
 unfold Ok at h;split at h
 ·next b a=>cases h;exact .inl a
 ·cases h;exact .inr rfl
def Wz(ops:Array Oper)(o:Oper):Option (Option (Nat×Bool)):=
 match o.guard with
 |none=>some none
 | some (j,b)=>match(ops[j]?).bind (·.dst)with
   |some t=>some (some (t,b))
   |none=>none
def Yt(P:Program)(ops:Array Oper)(b:Nat)(a:Nat):Option Av:=
 match ops[a]? with
 | some o=>match Ok P o,Wz ops o with
   |some k,some g=>if(o.dst.all λd=>decide (d<b))then some ⟨a,o.dst,g,k,[]⟩else none
   |_,_=>none
 |none=>none
def Sn(P:Program)(ops:Array Oper)(a:Nat):List Nat->Option (List Av)
 |[]=>some []
 | b::r=>match Yt P ops a b,Sn P ops a r with
   |some o,some c=>some (o::c)
   |_,_=>none
def M.GA:M->List Operand
 | .EO _ _ x=>[x]
 | .NH _ _ x=>[x]
 | .store _ x _=>[x]
 | .Lr x=>[x]
 | .Ca _ x=>[x]
 | .app _ _ x y=>[x,y]
 |_=>[]
def M.Gd:M->List Operand
 | .Ca _ x=>[x]
 | .store _ x _=>[x]
 | .app _ _ x _=>[x]
 |_=>[]
def M.FD:M->Bool
 | .Kg _ _| .JV _ _| .JN _ _ _=>true
 |_=>false
def M.D9:M->List Operand
 | .FA x| .Lj x| .Ja x| .EO _ _ x| .T9 _ x| .VB _ x| .Z6 x| .Lr x| .Mz x| .H0 _ x| .field _ _ _ x| .ext _ x| .W4 x| .NS x| .cr x| .Ca _ x| .NH _ _ x=>[x]
 | .SE c a b=>[c,a,b]
 | .It _=>[]
 | .PC _ ps| .Hg _ _ _ ps=>ps.map λp=>p.2.2
 | .store _ x v=>[x,v]
 | .Jf _ _ x y| .Oy _ _ x y| .IZ _ _ _ x y| .He _ x y| .QX _ _ x y| .VT x y| .app _ _ x y| .KZ _ _ _ x y=>[x,y]
 | .c5 x l h| .OL _ x l h=>x::(l.toList++h.toList)
 | .S3 _ x l h e=>x::h::e::l.toList
 | .QG _ x xs=>x::xs
 | .Qv _ a b=>a++b
 | .Kg _ d=>d
 | .JV x d=>x::d
 | .Tx _ x| .Vy _ x=>[x]
 | .JN _ x d=>x::d
 | .Kz=>[]
 | .LS _ _ _ x k=>[x,k]
 | .Ki _ x k v=>[x,k,v]
def S6(l:List Operand):List Nat:=l.filterMap fun| .tmp t=>some t|_=>none
def Av.NU(o:Av):List Nat:=S6 o.k.D9++(match o.g with|some (t,_)=>[t]|none=>[])
def Av.oO(o:Av):List Nat:=S6 (o.Gr.map (·.1))++S6 (o.Gr.map (·.2))
def KY(l:List Nat)(d:Option Nat):Bool:=match d with|some d=> !l.contains d|none=>true
def Xk:Option Nat->List Operand
 |some d=>[.tmp d]
 |none=>[]
def IV(k i:Av):List (Operand×Operand):=
 if i.k.FD then k.k.GA.map λx=>(x,x)
 else if k.k.FD then[]
 else
  ((k.k.Gd++(if k.k.Bv then Xk k.d else[])).flatMap λx=>(i.k.GA++i.k.Gd).map λy=>(x,y))
    ++k.k.GA.flatMap λx=>i.k.Gd.map λy=>(x,y)
def JC(k i:Av)(c:List Nat):Bool:=
 !k.k.MW&& !i.k.MW&&KY (k.NU++k.oO) i.d&&KY i.NU k.d&&(match k.d,i.d with|some a,some b=>a !=b|_,_=>true)&&
 (if i.k.FD then !k.k.FD&& !k.k.Bv&&k.k.Gd.isEmpty&&(S6 k.k.GA).all λt=> !c.contains t&&k.d !=some t
  else if k.k.FD then i.k.GA.isEmpty&&i.k.Gd.isEmpty
  else(!k.k.Bv||(k.d.isSome&&KY c k.d))&&(S6 (k.k.GA++k.k.Gd)).all λt=> !c.contains t&&k.d !=some t)
def Yp(a:List Nat)(o:Oper):Nat:=
 o.after.toList.foldl (λs e=>if Region.binds .any e then s|||2^e.on|||a.getD e.on 0 else s) 0
def PY:List Oper->List Nat->List Nat
 |[],a=>a
 |o::r,a=>PY r (a++[Yp a o])
def Ld(a:List Nat)(i:Av):List Av->List (Operand×Operand)
 |[]=>[]
 |k::r=>(if(a.getD i.AQ 0).testBit k.AQ then[]else IV k i)++Ld a i r
def aq(a:List Nat)(i:Av):List Av->List Nat->Bool
 |[],_=>true
 |k::r,b=>((a.getD i.AQ 0).testBit k.AQ||JC k i b)&&aq a i r (b++k.d.toList)
def sH(ops:Array Oper)(a:Nat)(b:List Av):Bool:=
 match ops[a]? with
 |some op=>op.after.toList.all λe=> !Region.binds .any e||b.any λk=>k.AQ==e.on
 |none=>false
def WR(P:Program)(ops:Array Oper)(c:Nat)(b:List Nat):List Nat->List Av->Option (List Av)
 |[],_=>some []
 | e::r,a=>match Yt P ops c e with
   | some o=>
     let o':Av:=⟨o.AQ,o.d,o.g,o.k,Ld b o a⟩
     if aq b o' a []&&sH ops e a then
      match WR P ops c b r (o'::a)with
      |some f=>some (o'::f)
      |none=>none
     else none
   |none=>none
def oY(o:Oper):Nat:=
 match o.op with
 | .alloc _| .box _ _| .buildSlice _ _ _| .makeSlice _ _ _| .makeMap _ _=>2
 | .store _ _ _=>1
 | .convert _ _ _=>0
 | .call {callee:= .builtin .len,..}| .call {callee:= .builtin .cap,..}| .call {callee:= .builtin .min,..}| .call {callee:= .builtin .max,..}=>0
 | .call _=>1
 |_=>0
def oD(ops:Array Oper):Nat->List Nat->List Nat->List Nat
 |0,_,a=>a.reverse
 | n+1,left,a=>
   let b:=left.filter λi=>((ops[i]?).map λo=>o.after.toList.all λe=> !Region.binds .any e||a.contains e.on).getD false
   match(b.find? λi=>((ops[i]?).map oY).getD 0==0).or ((b.find? λi=>((ops[i]?).map oY).getD 0==1).or b.head?)with
   |some i=>oD ops n (left.filter (· !=i)) (i::a)
   |none=>a.reverse
def Mq:List Nat->Bool
 |[]=>true
 |x::l=> !l.contains x&&Mq l
def ew(n:Nat)(l:List Nat):Bool:=decide (l.length=n)&&Mq l&&(l.all λi=>decide (i<n))&&(List.range n).all λi=>l.contains i
def a8V:Operand->Operand->Bool
 | .tmp a,.tmp b=>a==b
 |_,_=>false
def sy(l:List Oper)(x:Operand):Operand:=
 match x with
 | .tmp t=>(match l.find? (λo=>o.dst==some t)with
   | some o=>(match o.op with
     | .move y=>y
     | .assign y=>y
     |_=>x)
   |none=>x)
 |_=>x
def vQ(l:List Oper):List Oper->Bool
 |[]=>false
 | o ::r=>(match o.op with
  | .call c=>(match c.callee,c.args.toList with
    | .builtin .append,x::_=>r.any λp=>match p.op with
      | .call a=>(match a.callee with
        | .builtin _=>false
        |_=>a.args.toList.any λy=>a8V (sy l x) (sy l y))
      |_=>false
    |_,_=>false)
  |_=>false)||vQ l r
def W3:List Av->Option (List Av×Av×List Av)
 |[]=>none
 | o::r=>match o.k with
   | .app _ _ _ _=>some ([],o,r)
   |_=>(W3 r).map λ(a,b,c)=>(o::a,b,c)
def vS(a:List Nat)(n:Nat):Bool:=(List.range n).all λj=>(List.range j).all λi=>(a.getD j 0).testBit i
def uT(ops:Array Oper):Bool:=(List.range ops.size).all λj=>match ops[j]? with
 |some o=>o.after.toList.all λe=> !Region.binds .any e||decide (e.on<j)
 |none=>false
def e8(P:Program)(d:Nat)(ops:Array Oper)(e:Bool):Option CF:=
 if vQ ops.toList ops.toList&&(!e||(uT ops&&vS (PY ops.toList []) ops.size))then
  (match Sn P ops d (List.range ops.size)with
  |some L=>(W3 L).map λ(a,b,c)=> .LN a b c
  |none=>none)
 else none
def Xr(P:Program)(a:Nat)(ops:Array Oper):Bool->Option CF
 | false=>match Sn P ops a (List.range ops.size)with
   |some l=>some (.FW l)
   |none=>none
 | true=>
   let order:=oD ops ops.size (List.range ops.size) []
   if ew ops.size order then
    match WR P ops a (PY ops.toList []) order []with
    |some l=>some (.FW l)
    |none=>none
   else none
def JX(P:Program)(d:Nat):Code->Option CF
 | .skip=>some .skip
 | .region _ ops e=>match e8 P d ops e with
   |some c=>some c
   |none=>Xr P d ops e
 | .seq a b=>match JX P d a,JX P d b with
   |some x,some y=>some (.El x y)
   |_,_=>none
 | .cond c a b=>match JX P d a,JX P d b with
   |some x,some y=>if Ay c then some (.HP c x y)else none
   |_,_=>none
 | .block id c=>match JX P d c with
   |some x=>some (.block id x)
   |none=>none
 | .loop c=>match JX P d c with
   |some x=>some (.loop x)
   |none=>none
 | .exit id=>some (.Ao id)
 | .ret=>some .Cz
 |_=>none
def OP(P:Program)(b:Nat):List ResultVar->Option (List GF)
 |[]=>some []
 | .tmp t::r=>match OP P b r with
   |some l=>if t<b then some (.AH t::l)else none
   |none=>none
 | .cell a t::r=>match IP P t,FZ P t,OP P b r with
   |some c,some n,some l=>if a<b then some (.DE a c n::l)else none
   |_,_,_=>none
def M1(P:Program)(f:Nat):Option HT:=
 match P.funcs[f]? with
 | some fn=>if fn.name== "runtime.NumGoroutine" ||fn.name== "slices.Insert[[]int,int]" then none else match fn.body with
   | some c=>match JX P fn.ntmps c,OP P fn.ntmps fn.results.toList with
     |some b,some a=>some ⟨fn.ntmps,a,b⟩
     |_,_=>none
   |none=>none
 |none=>none
end Go.DI
end
