/-
  A part of the proof, shortened by tools of ours.
-/
import Derived.Test.YtmmkkggfmigppaaGreatRows
import Derived.WalkKit
set_option linter.all false
set_option maxRecDepth 8000
set_option maxHeartbeats 16000000
namespace Go
noncomputable abbrev U:=Go.Proofs.Tryz.prog
abbrev aIX:Value:= .slice none 0 0
abbrev aMs:Value:= .int .i64 0
abbrev AS:= @List.getElem?_eq_getElem
abbrev AB:= @Bool.and_eq_true
abbrev AX:= @List.getElem?_eq_some_iff
abbrev B9:= @List.mem_of_getElem?
abbrev BF:= @List.all_eq_true
abbrev Ba:= @decide_eq_true_eq
abbrev Ao:= @Nat.le_refl
abbrev DP:= @Int.eq_ofNat_of_zero_le
abbrev Dv:= @List.getD_eq_getElem?_getD
abbrev DV:= @List.take_of_length_le
abbrev Cg:= @List.mem_append
abbrev CM:= @List.mem_cons
abbrev C0:= @Nat.zero_le
abbrev CP:= @List.mem_map
abbrev Ds:= @List.length_append
abbrev Dc:= @List.getElem_mem
abbrev EC:= @List.getElem_of_mem
abbrev Df:= @List.length_cons
abbrev EI:= @Bool.false_eq_true
abbrev EE:= @Int.toNat_natCast
abbrev EK:= @List.not_mem_nil
abbrev EP:= @List.take_length
abbrev Eo:= @Nat.lt_of_lt_of_le
abbrev E1:= @List.map_cons
abbrev Dh:= @Nat.le_trans
abbrev Eb:= @List.length_map
abbrev Gy:= @List.length_eq_zero_iff
abbrev Gr:= @List.mem_append_right
abbrev Iy:= @List.drop_eq_getElem_cons
abbrev GS:= @List.getElem?_map
abbrev Gw:= @List.mem_singleton
abbrev GY:= @Option.some.injEq
abbrev GC:= @List.length_take
abbrev FX:= @List.mem_range
abbrev Ho:= @List.mem_append_left
abbrev KM:= @List.getElem?_append_right
abbrev HM:= @List.flatten_cons
abbrev IF:= @Nat.mul_le_mul_right
abbrev My:= @Int.mul_le_mul_of_nonneg_right
abbrev L8:= @List.getElem?_append_left
abbrev Fz:= @List.all_cons
abbrev MM:= @List.eq_nil_of_length_eq_zero
abbrev Kz:= @Option.map_eq_some_iff
abbrev NA:= @List.pairwise_iff_getElem
abbrev K7:= @Array.toArray_toList
abbrev K2:= @List.mem_of_mem_take
abbrev Iz:= @Bool.not_eq_true'
abbrev Ig:= @List.getElem?_set
abbrev LF:= @List.getElem?_eq_none
abbrev Ih:= @List.cons_append
abbrev IJ:= @List.foldl_cons
abbrev J5:= @decide_eq_false
abbrev K4:= @List.take_add_one
abbrev Jx:= @List.length_nil
abbrev HB:= @Int.le_refl
abbrev Nd:= @decide_eq_false_iff_not
abbrev Ep:= @Iff.rfl
abbrev MY:= @List.getElem?_append
abbrev Hl:= @Nat.add_mul
abbrev K5:= @List.nodup_cons
abbrev LM:= @List.mem_flatMap
abbrev L2:= @Option.getD_some
abbrev R1:= @Array.getElem?_eq_some_iff
abbrev KK:= @List.drop_zero
abbrev JN:= @Nat.add_assoc
abbrev JM:= @Prod.mk.injEq
abbrev LQ:= @List.ext_getElem
abbrev Qk:= @List.mem_or_eq_of_mem_set
abbrev Rl:= @Option.isNone_iff_eq_none
abbrev X7:= @List.map_congr_left
abbrev N1:= @List.ext_getElem?
abbrev Mz:= @List.nodup_append
abbrev ME:= @Int.natCast_add
abbrev Ld:= @List.map_append
abbrev MO:= @List.range_succ
abbrev La:= @Nat.not_lt_zero
abbrev RE:= @List.getElem?_cons_succ
abbrev N0:= @Bool.or_eq_true
abbrev TI:= @Classical.byContradiction
abbrev MJ:= @List.length_set
abbrev Ps:= @List.length_replicate
abbrev PZ:= @List.set_cons_succ
abbrev NF:= @Nat.le_add_right
abbrev RH:= @List.mem_of_mem_drop
abbrev Qv:= @List.pairwise_append
abbrev NP:= @List.append_nil
abbrev Ni:= @List.nil_append
abbrev S2:= @List.drop_of_length_le
abbrev Yr:= @List.findIdx?_eq_some_iff_getElem
abbrev PG:= @List.countP_cons
abbrev Pw:= @List.getElem?_drop
abbrev QO:= @List.getElem?_take
abbrev RD:= @List.mem_filterMap
abbrev OW:= @List.cons.injEq
abbrev MG:= @List.map_set
abbrev ax:= @Option.isSome_iff_exists
abbrev Qw:= @List.count_append
abbrev aI:= @Int.mul_le_mul_of_nonneg_left
abbrev Rv:= @List.replicate_succ
abbrev RG:= @List.mem_flatten
abbrev Su:= @List.pairwise_cons
abbrev TU:= @List.set_cons_zero
abbrev Nq:= @Nat.add_zero
abbrev Ri:= @Nat.eq_zero_or_pos
abbrev UR:= @List.contains_eq_mem
abbrev WX:= @List.count_le_length
abbrev aT:= @List.findIdx?_eq_none_iff
abbrev XG:= @List.getElem?_set_ne
abbrev Ty:= @List.mem_cons_of_mem
abbrev R9:= @Int.mul_nonneg
abbrev lG:= @List.drop_drop
abbrev WY:= @List.take_succ_cons
end Go
namespace Go.DI
open Go
abbrev A6:=Nat->Value
structure Bw where
 cells:List Value
 own:Bool
structure V where
 next:Nat
 C1:Nat->Option Bw
 mp:Nat->Option (List (Value×Value))
def V.W(m:V)(b:Nat):Option Bw:=if b<m.next then m.C1 b else none
def V.A0(m:V)(b:Nat)(x:Option Bw):V:=⟨m.next,λi=>if i=b then x else m.C1 i,m.mp⟩
def V.AE(m:V)(k:Nat):V:=⟨m.next+k,λi=>if i<m.next then m.C1 i else none,m.mp⟩
def V.BL(m:V)(b:Nat):Option (List (Value×Value)):=match m.W b with
 |some ⟨[],true⟩=>m.mp b
 |_=>none
def V.Cf(m:V)(b:Nat)(es:List (Value×Value)):V:=⟨m.next,λi=>if i=b then some ⟨[],true⟩else m.C1 i,λi=>if i=b then some es else m.mp i⟩
def FT(A:A6)(d:Nat)(v:Value):A6:= λt=>if t=d then v else A t
def Af(A:A6)(d:Option Nat)(v:Value):A6:=match d with|some d=>FT A d v|none=>A
def O(A:A6):Operand->Value
 | .tmp t=>A t
 | .const v=>v
 | .func f=> .func (.func f) #[] #[]
 | .global _=>undef
def Me:Value->Bool| .bool b=>b|_=>false
def Kv:Value->Bool| .bool _=>true|_=>false
def Bh:Value->Int| .int _ n=>n|_=>0
def Bo:Value->Bool| .int _ _=>true|_=>false
def Lb:Value->ByteArray| .string s=>s|_=> .empty
def H:Value->List Value| .agg cs=>cs.toList|v=>[v]
def C3:List Value->Nat->List Value->List Value
 |cs,_,[]=>cs
 |cs,off,v::a=>C3 (cs.set off v) (off+1) a
def I:Value->Option Nat
 | .pointer (some a)=>some a.block
 | .slice (some a) _ _=>some a.block
 | .map (some b)=>some b
 |_=>none
def BB:Value->Bool
 | .bool _| .int _ _| .float _ _| .complex _ _ _| .string _| .pointer none| .map none| .chan none| .nilFunc| .nilIface=>true
 | .slice none l c=>l==0&&c==0
 |_=>false
def Fp:Value->Bool
 | .agg cs=>cs.toList.all BB
 | .tuple cs=>cs.toList.all BB
 |v=>BB v
def G:Value->Bool
 | .agg _| .tuple _=>false
 |_=>true
def E:Value->Bool
 | .tuple _=>false
 |_=>true
inductive Ny where
 |bool|AA|slice|fn|iface|agg|Qi
 deriving DecidableEq
inductive IV where
 |int|str|bool
 deriving DecidableEq
inductive Hj where
 |int (k:IntKind)|str|EF (k:IntKind)
 deriving DecidableEq
inductive K where
 |F2 (x:Operand)
 |T0 (c a b:Operand)
 |Lz (x:Operand)
 |IX (zero:List Value)
 |JP (x:Operand)
 |PR (zero:List Value) (e:List (Nat×Nat×Operand))
 |HG (z n:Nat) (zero:List Value) (e:List (Nat×Nat×Operand))
 |E4 (g:Bool) (n:Nat) (x:Operand)
 |store (n:Nat) (x v:Operand)
 |Jw (op:BinOp) (c:Ny) (x y:Operand)
 |PC (m:Bool) (o:List IV) (x y:Operand)
 |S3 (op:UnOp) (x:Operand)
 |X1 (k:IntKind) (x:Operand)
 |Zp (x:Operand)
 |M6 (x:Operand)
 |MS (x:Operand)
 |IA (z bytes:Nat) (zero:List Value) (l c:Operand)
 |Yj (x:Operand) (d X:Option Operand)
 |N7 (z:Nat) (x:Operand) (d X:Option Operand)
 |S8 (z:Nat) (x:Operand) (d:Option Operand) (X h:Operand)
 |Nt (z n:Nat) (x:Operand)
 |GV (off:Nat) (x:Operand)
 |field (g:Bool) (off n:Nat) (x:Operand)
 |HN (z:Nat) (x i:Operand)
 |Qy (z len:Nat) (x i:Operand)
 |UO (x i:Operand)
 |ext (i:Nat) (x:Operand)
 |UY (x:Operand)
 |NR (x:Operand)
 |app (z bytes:Nat) (x y:Operand)
 |Xv (x:Operand)
 |KD (z bytes:Nat) (zero:List Value) (x n:Operand)
 |Cm (zero:List Value) (x:Operand)
 |QM (h:Bool) (x:Operand) (xs:List Operand)
 |Q9 (fn:Fn) (first p:List Operand)
 |KC (f:Nat) (args:List Operand)
 |Iw (x:Operand) (args:List Operand)
 |XF (t:TypeId) (x:Operand)
 |VC (t:TypeId) (x:Operand)
 |Ip (q:List (TypeId×Nat×Option (Bool×Nat))) (x:Operand) (args:List Operand)
 |LB
 |Ll (j:Hj) (zero:Value) (ok:Bool) (x k:Operand)
 |Kn (j:Hj) (x k v:Operand)
structure Ap where
 AO:Nat
 d:Option Nat
 g:Option (Nat×Bool)
 k:K
 Gc:List (Operand×Operand)
inductive Fy where
 |AI (t:Nat)
 |E2 (t:Nat) (a:Bool) (n:Nat)
inductive D where
 |skip
 |FI (ops:List Ap)
 |Ky (d:List Ap) (o:Ap) (e:List Ap)
 |Ez (a b:D)
 |Gh (c:Operand) (a b:D)
 |block (id:Nat) (c:D)
 |loop (c:D)
 |Ai (id:Nat)
 |DO
structure AN where
 c6:Nat
 N5:List Fy
 body:D
inductive BM where
 |Cx
 |Ai (id:Nat)
 |DO
 deriving DecidableEq
def Bx(m:V)(v:Value)(n:Nat):Bool:=
 match v with
 | .pointer (some a)=>a.spot.isNone&&(match m.W a.block with|some x=>decide (a.off+n<=x.cells.length)|none=>false)
 |_=>false
def GN(m:V)(v:Value):Bool:=
 match v with
 | .pointer (some a)=>(match m.W a.block with|some x=>x.own|none=>false)
 |_=>false
def CW(m:V)(b off n:Nat):List Value:=
 match m.W b with
 |some x=>(x.cells.drop off).take n
 |none=>[]
def DN(m:V)(b:Bool)(n:Nat)(v:Value):Value:=
 match v with
 | .pointer (some a)=>if b then .agg (CW m a.block a.off n).toArray else(CW m a.block a.off 1).headD undef
 |_=>undef
def FJ(m:V)(v:Value)(cs:List Value):V:=
 match v with
 | .pointer (some a)=>(match m.W a.block with|some x=>m.A0 a.block (some ⟨C3 x.cells a.off cs,x.own⟩)|none=>m)
 |_=>m
def Bp(m:V)(z:Nat)(v:Value):Bool:=
 match v with
 | .slice none l c=>l==0&&c==0
 | .slice (some a) l c=>c==z&&(match m.W a.block with|some x=>decide (a.off+l*z<=x.cells.length)|none=>false)
 |_=>false
def Dl(m:V)(v:Value):Bool:=
 match v with
 | .slice none _ _=>true
 | .slice (some a) _ _=>(match m.W a.block with|some x=>x.own|none=>false)
 |_=>false
def CQ:Value->Nat
 | .slice _ l _=>l
 |_=>0
def C7(m:V)(z:Nat)(v:Value):List Value:=
 match v with
 | .slice (some a) l _=>CW m a.block a.off (l*z)
 |_=>[]
def ZE:Value->Bool
 | .slice none l c=>l==0&&c==0
 |_=>false
variable{v:Value}{X:Option Operand}{d:Int}{A:A6}{P:Program}{o:Oper}{k:K}
theorem aa(h:ZE v=true):v= .slice none 0 0:=by
 unfold ZE at h;split at h
 ·simp only[AB,beq_iff_eq]at h;rw[h.1,h.2]
 ·cases h
def Gj(m:V)(zero:List Value)(v:Value):V:=
 match v with
 | .slice (some a) l _=>(match m.W a.block with|some x=>m.A0 a.block (some ⟨C3 x.cells a.off (List.replicate l zero).flatten,x.own⟩)|none=>m)
 |_=>m
def Dn(m:V)(z:Nat)(v:Value)(n:Nat):Bool:=
 match v with
 | .slice (some ⟨b,off,some c⟩) l _=>decide (l+n<=c)&&(match m.W b with|some x=>decide (off+(l+n)*z<=x.cells.length)|none=>false)
 |_=>false
def SI(v:Value)(n:Nat):Value:=
 match v with
 | .slice (some a) l c=> .slice (some a) (l+n) c
 |_=>v
def GA(m:V)(z:Nat)(v:Value)(cs:List Value):V:=
 match v with
 | .slice (some a) l _=>(match m.W a.block with|some x=>m.A0 a.block (some ⟨C3 x.cells (a.off+l*z) cs,x.own⟩)|none=>m)
 |_=>m
def Dx(m:V)(v:Value):V:=
 match v with
 | .slice (some a) _ _=>m.A0 a.block none
 |_=>m
def Sr(op:BinOp)(k:IntKind)(a b:Int):Value:=
 match op with
 | .add=> .int k (k.wrap (a+b))
 | .sub=> .int k (k.wrap (a-b))
 | .mul=> .int k (k.wrap (a*b))
 | .quo=> .int k (k.wrap (a.tdiv b))
 | .rem=> .int k (a.tmod b)
 | .and=> .int k (k.wrap (BitVec.ofInt k.bits a&&&BitVec.ofInt k.bits b).toNat)
 | .or=> .int k (k.wrap (BitVec.ofInt k.bits a|||BitVec.ofInt k.bits b).toNat)
 | .xor=> .int k (k.wrap (BitVec.ofInt k.bits a^^^BitVec.ofInt k.bits b).toNat)
 | .andNot=> .int k (k.wrap (BitVec.ofInt k.bits a&&& ~~~(BitVec.ofInt k.bits b)).toNat)
 | .shl=> .int k (k.wrap (a*2^(min b.toNat k.bits)))
 | .shr=> .int k (a.fdiv (2^(min b.toNat k.bits)))
 | .eql=> .bool (decide (a=b))
 | .neq=> .bool (!decide (a=b))
 | .lss=> .bool (decide (a<b))
 | .leq=> .bool (decide (a<=b))
 | .gtr=> .bool (decide (a>b))
 | .geq=> .bool (decide (a>=b))
def bD(op:BinOp)(k a:IntKind)(_a b:Int):Bool:=
 match op with
 | .shl| .shr=>decide (0<=b)
 | .quo| .rem=>decide (k=a)&&decide (b≠0)
 |_=>decide (k=a)
def OQ(op:BinOp)(a b:ByteArray):Value:=
 match op with
 | .add=> .string (a++b)
 | .eql=> .bool (decide (a=b))
 | .neq=> .bool (!decide (a=b))
 | .lss=> .bool (Op.bytesLess a.toList b.toList)
 | .leq=> .bool (Op.bytesLess a.toList b.toList||decide (a=b))
 | .gtr=> .bool (!(Op.bytesLess a.toList b.toList||decide (a=b)))
 | .geq=> .bool (!Op.bytesLess a.toList b.toList)
 |_=>undef
def Un(op:BinOp)(a b:ByteArray):Bool:=
 match op with
 | .add=>decide (a.size+b.size<=9223372036854775807)
 | .eql| .neq| .lss| .leq| .gtr| .geq=>true
 |_=>false
def JA:Value->Bool
 | .pointer none=>true
 | .slice none _ _=>true
 | .nilFunc=>true
 | .nilIface=>true
 |_=>false
def I3(x y:Value):Bool:=
 match x,y with
 | .bool a,.bool b=>a==b
 |x,y=>JA x&&JA y
def M5(c:Ny)(x y:Value):Bool:=
 match c,x,y with
 | .bool,.bool _,.bool _=>true
 | .AA,.pointer none,.pointer _=>true
 | .AA,.pointer _,.pointer none=>true
 | .slice,.slice none _ _,.slice _ _ _=>true
 | .slice,.slice _ _ _,.slice none _ _=>true
 | .fn,.nilFunc,.nilFunc=>true
 | .fn,.nilFunc,.func _ _ _=>true
 | .fn,.func _ _ _,.nilFunc=>true
 |_,_,_=>false
def FY(op:BinOp)(x y:Value):Value:=
 match x,y with
 | .int k a,.int _ b=>Sr op k a b
 | .string a,.string b=>OQ op a b
 | x,y=>match op with
   | .eql=> .bool (I3 x y)
   | .neq=> .bool (!I3 x y)
   |_=>undef
def KP(op:BinOp)(c:Ny)(x y:Value):Bool:=
 match x,y with
 | .int k a,.int d b=>bD op k d a b
 | .string a,.string b=>Un op a b
 | x,y=>match op with
   | .eql| .neq=>M5 c x y
   |_=>false
def Hq:Value->Value->Bool
 | .int _ a,.int _ b=>decide (a=b)
 | .string a,.string b=>decide (a=b)
 | .bool a,.bool b=>a==b
 |_,_=>false
def Om:IV->Value->Value->Bool
 | .int,.int k _,.int a _=>decide (k=a)
 | .str,.string _,.string _=>true
 | .bool,.bool _,.bool _=>true
 |_,_,_=>false
def Ev:List Value->List Value->Bool
 |[],[]=>true
 |a::c,b::bs=>Hq a b&&Ev c bs
 |_,_=>false
def Dp:List IV->List Value->List Value->Bool
 |[],[],[]=>true
 |k::c,a::d,b::bs=>Om k a b&&Dp c d bs
 |_,_,_=>false
def Jc:Value->Bool| .agg _=>true|_=>false
def RC(op:UnOp)(x:Value):Value:=
 match op,x with
 | .neg,.int k n=> .int k (k.wrap (0-n))
 | .not,.bool b=> .bool (!b)
 |_,_=>undef
def NB(op:UnOp)(x:Value):Bool:=
 match op,x with
 | .neg,.int _ _=>true
 | .not,.bool _=>true
 |_,_=>false
def byteOf:Value->UInt8| .int _ n=>UInt8.ofNat n.toNat|_=>0
def QX:Value->Bool| .int .u8 _=>true|_=>false
def SJ(s:ByteArray):List Value:=s.data.toList.map λb=> .int .u8 b.toNat
def toBytes(cs:List Value):ByteArray:=⟨(cs.map byteOf).toArray⟩
def Cq(A:A6)(x:Option Operand)(a:Int):Int:=match x with|some o=>Bh (O A o)|none=>a
def KA:Option Operand->Bool
 |some (.const (.int _ n))=>n==0
 |_=>false
theorem a1N{a:Option Operand}(h:(a.isNone&&KA X)=true):Cq A a 0=0/\Cq A X d=0:=by
 simp only[AB,Rl]at h;obtain⟨rfl,h⟩:=h;refine⟨rfl,?_⟩;unfold KA at h;split at h
 ·simp only[beq_iff_eq]at h;subst h;rfl
 ·cases h
def HW(A:A6)(x:Option Operand):Bool:=match x with|some o=>Bo (O A o)|none=>true
def Fe:Value->Bool| .string _=>true|_=>false
def Lo:Value->Bool| .slice _ _ _=>true|_=>false
def P8:Value->Bool| .pointer (some _)=>true|_=>false
def Ml(v:Value)(n:Nat):Value:=
 match v with
 | .pointer (some a)=> .pointer (some ⟨a.block,a.off+n,none⟩)
 |_=>undef
def J4:Value->Bool| .pointer (some a)=>a.spot.isNone|_=>false
def IT(v:Value)(z l h:Nat):Value:=
 match v with
 | .slice (some a) _ c=> .slice (some ⟨a.block,a.off+l*z,none⟩) (h-l) c
 |_=> .slice none 0 0
def M8(v:Value):Value:=
 match v with
 | .slice (some a) l c=> .slice (some ⟨a.block,a.off,some l⟩) 0 c
 |_=> .slice none 0 0
def Fj(z:Nat):Value->Bool
 | .slice none l c=>l==0&&c==0
 | .slice (some a) _ c=>c==z
 |_=>false
def Ue(v:Value)(z n:Nat):Value:=
 match v with
 | .pointer (some a)=> .slice (some ⟨a.block,a.off,none⟩) n z
 |_=> .slice none 0 0
def Pb(v:Value)(z:Nat)(i:Int):Value:=
 match v with
 | .slice (some a) _ _=> .pointer (some ⟨a.block,a.off+i.toNat*z,none⟩)
 |_=>undef
def P5:Value->Bool
 | .pointer none| .nilIface| .nilFunc=>false
 | .func (.method _) _ _=>false
 |_=>true
def Q4(v:Value)(i:Nat):Value:=match v with| .tuple a=>a.toList.getD i undef|_=>undef
def Rk(v:Value)(i:Nat):Bool:=match v with| .tuple a=>decide (i<a.toList.length)|_=>false
def Zi(a:Bool)(off n:Nat)(v:Value):Value:=
 match v with
 | .agg cs=>if a then .agg ((cs.toList.drop off).take n).toArray else cs.toList.getD off undef
 |_=>undef
def Uo(off n:Nat)(v:Value):Bool:=match v with| .agg cs=>decide (off+n<=cs.toList.length)|_=>false
def H9(a b:Value):Value:=match a,b with| .int k x,.int _ y=> .int k (if y<x then y else x)|_,_=>undef
def HI(a b:Value):Value:=match a,b with| .int k x,.int _ y=> .int k (if y>x then y else x)|_,_=>undef
def I8(cs:List Value)(A:A6)(ps:List (Nat×Nat×Operand)):Bool:=
 ps.all λ(off,n,x)=>E (O A x)&&decide ((H (O A x)).length=n)&&decide (off+n<=cs.length)
def G5(cs:List Value)(A:A6):List (Nat×Nat×Operand)->List Value
 |[]=>cs
 |(off,_,x)::r=>G5 (C3 cs off (H (O A x))) A r
def W8(t:TypeId):Value->Bool
 | .iface a _=>decide (a=t)
 |_=>false
def kS:Value->Value
 | .iface _ v=>v
 |_=>undef
def Et(m:V):Value->Option (List (Value×Value))
 | .map none=>some []
 | .map (some b)=>m.BL b
 |_=>none
def DT:Hj->Value->Bool
 | .int k,.int a _=>decide (a=k)
 | .str,.string _=>true
 | .EF k,.agg xs=>(match xs.toList with
   |[.int b _,.int c _]=>decide (b=k)&&decide (c=k)
   |_=>false)
 |_,_=>false
def G0:Value->Value->Bool
 | .agg xs,.agg ys=>Ev xs.toList ys.toList
 |a,b=>Hq a b
def DX(a:Hj)(k:Value)(es:List (Value×Value)):Bool:=DT a k&&es.all λe=>DT a e.1
def CT(k:Value):List (Value×Value)->Option Value
 |[]=>none
 |e::r=>if G0 k e.1 then some e.2 else CT k r
def DM(k v:Value):List (Value×Value)->List (Value×Value)
 |[]=>[(k,v)]
 |e::r=>if G0 k e.1 then(k,v)::r else e::DM k v r
def Mx:Value->Nat
 | .map (some b)=>b
 |_=>0
def De:Value->Int
 | .string s=>s.size
 | .slice _ l _=>l
 |_=>0
def K.ok(k:K)(A:A6)(m:V):Bool:=
 match k with
 | .F2 _=>true
 | .T0 c _ _=>Kv (O A c)
 | .Lz x=>P5 (O A x)
 | .IX _=>true
 | .JP x=>E (O A x)
 | .PR z ps=>I8 z A ps
 | .HG _ _ z ps=>I8 z A ps
 | .E4 d n x=>Bx m (O A x) n&&(d||decide (n=1))
 | .store n x v=>Bx m (O A x) n&&GN m (O A x)&&E (O A v)&&decide ((H (O A v)).length=n)
 | .Jw op c x y=>KP op c (O A x) (O A y)
 | .PC _ g x y=>Jc (O A x)&&Jc (O A y)&&Dp g (H (O A x)) (H (O A y))
 | .S3 op x=>NB op (O A x)
 | .X1 _ x=>Bo (O A x)
 | .Zp x=>Fe (O A x)
 | .M6 x=>Bp m 1 (O A x)&&(C7 m 1 (O A x)).all QX
 | .MS x=>Fe (O A x)&&decide ((Lb (O A x)).size<=9223372036854775807)
 | .IA z bytes _ l c=>Bo (O A l)&&Bo (O A c)&&decide (0<=Bh (O A l))&&decide (Bh (O A l)<=Bh (O A c))&&decide (Bh (O A c)*(bytes:Int)<=140737488355328)&&decide (Bh (O A c)<=9223372036854775807)&&decide (0<z)
 | .Yj x a X=>Fe (O A x)&&HW A a&&HW A X&&decide (0<=Cq A a 0)&&decide (Cq A a 0<=Cq A X (De (O A x)))&&decide (Cq A X (De (O A x))<=De (O A x))
 | .N7 z x a X=>Fj z (O A x)&&HW A a&&HW A X&&decide (0<=Cq A a 0)&&decide (Cq A a 0<=Cq A X (De (O A x)))&&decide (Cq A X (De (O A x))<=De (O A x))
 | .S8 z x a X e=>Fj z (O A x)&&HW A a&&Bo (O A X)&&Bo (O A e)&&decide (0<=Cq A a 0)&&decide (Cq A a 0<=Bh (O A X))&&decide (Bh (O A X)<=Bh (O A e))&&decide (Bh (O A e)<=De (O A x))
 | .Nt z n x=>Bx m (O A x) (n*z)&&decide (n<=maxLen)
 | .GV _ x=>J4 (O A x)
 | .field d off n x=>Uo off n (O A x)&&(d||decide (n=1))
 | .HN z x i=>Fj z (O A x)&&Bo (O A i)&&decide (0<=Bh (O A i))&&decide (Bh (O A i)<De (O A x))
 | .Qy _ len x i=>J4 (O A x)&&Bo (O A i)&&decide (0<=Bh (O A i))&&decide (Bh (O A i)<(len:Int))
 | .UO x i=>Fe (O A x)&&Bo (O A i)&&decide (0<=Bh (O A i))&&decide (Bh (O A i)<De (O A x))
 | .ext i x=>Rk (O A x) i
 | .UY x=>Fe (O A x)
 | .NR x=>Lo (O A x)
 | .app z bytes x y=>Bp m z (O A x)&&Dl m (O A x)&&Bp m z (O A y)&&decide (0<z)&&decide ((CQ (O A x)+CQ (O A y))*bytes<=140737488355328)&&decide (CQ (O A x)+CQ (O A y)<=9223372036854775807)
 | .Xv x=>ZE (O A x)
 | .KD z bytes _ x n=>ZE (O A x)&&Bo (O A n)&&decide (0<Bh (O A n))&&decide (Bh (O A n)*(bytes:Int)<=140737488355328)&&decide (Bh (O A n)<=9223372036854775807)&&decide (0<z)
 | .Cm zero x=>Bp m zero.length (O A x)&&Dl m (O A x)&&decide (0<zero.length)
 | .QM _ x xs=>Bo (O A x)&&xs.all λy=>Bo (O A y)
 | .Q9 _ _ _=>true
 | .KC _ _=>false
 | .Iw _ _=>false
 | .XF _ _=>true
 | .VC t x=>W8 t (O A x)
 | .Ip _ _ _=>false
 | .LB=>true
 | .Ll f _ _ x k=>match Et m (O A x)with
   |some es=>DX f (O A k) es
   |none=>false
 | .Kn f x k v=>match O A x with
   | .map (some b)=>(match m.BL b with
     |some es=>DX f (O A k) es&&G (O A v)
     |none=>false)
   |_=>false
def K.val(k:K)(id:Nat)(A:A6)(m:V):Value:=
 match k with
 | .F2 x=>O A x
 | .T0 c a b=>if Me (O A c)then O A a else O A b
 | .Lz x=>O A x
 | .IX _=> .pointer (some ⟨id,0,none⟩)
 | .JP _=> .pointer (some ⟨id,0,none⟩)
 | .PR z ps=> .agg (G5 z A ps).toArray
 | .HG z n _ _=> .slice (some ⟨id,0,none⟩) n z
 | .E4 e n x=>DN m e n (O A x)
 | .store _ _ _=>undef
 | .Jw op _ x y=>FY op (O A x) (O A y)
 | .PC g _ x y=> .bool (if g then !Ev (H (O A x)) (H (O A y))else Ev (H (O A x)) (H (O A y)))
 | .S3 op x=>RC op (O A x)
 | .X1 k x=> .int k (k.wrap (Bh (O A x)))
 | .Zp x=>O A x
 | .M6 x=> .string (toBytes (C7 m 1 (O A x)))
 | .MS x=> .slice (some ⟨id,0,none⟩) (Lb (O A x)).size 1
 | .IA z _ _ l _=> .slice (some ⟨id,0,none⟩) (Bh (O A l)).toNat z
 | .Yj x d X=> .string ((Lb (O A x)).extract (Cq A d 0).toNat (Cq A X (De (O A x))).toNat)
 | .N7 z x d X=>if d.isNone&&KA X then M8 (O A x)else IT (O A x) z (Cq A d 0).toNat (Cq A X (De (O A x))).toNat
 | .S8 z x d X _=>IT (O A x) z (Cq A d 0).toNat (Bh (O A X)).toNat
 | .Nt z n x=>Ue (O A x) z n
 | .GV off x=>Ml (O A x) off
 | .field e off n x=>Zi e off n (O A x)
 | .HN z x i=>Pb (O A x) z (Bh (O A i))
 | .Qy z _ x i=>Ml (O A x) ((Bh (O A i)).toNat*z)
 | .UO x i=> .int .u8 (((Lb (O A x)).data.toList.getD (Bh (O A i)).toNat 0).toNat:Nat)
 | .ext i x=>Q4 (O A x) i
 | .UY x=> .int .i64 (De (O A x))
 | .NR x=> .int .i64 (De (O A x))
 | .app z _ x y=>if CQ (O A y)=0 then O A x else if Dn m z (O A x) (CQ (O A y))then SI (O A x) (CQ (O A y))else .slice (some ⟨id,0,none⟩) (CQ (O A x)+CQ (O A y)) z
 | .Xv _=> .int .i64 0
 | .KD z _ _ _ n=> .slice (some ⟨id,0,none⟩) (Bh (O A n)).toNat z
 | .Cm _ _=>undef
 | .QM h x xs=>xs.foldl (λf y=>if h then HI f (O A y)else H9 f (O A y)) (O A x)
 | .Q9 fn first j=> .func fn (first.map (O A)).toArray (j.map (O A)).toArray
 | .KC _ _=>undef
 | .Iw _ _=>undef
 | .XF t x=> .iface t (O A x)
 | .VC _ x=>kS (O A x)
 | .Ip _ _ _=>undef
 | .LB=> .map (some id)
 | .Ll _ zero ok x k=>
   let r:=(Et m (O A x)).bind (CT (O A k))
   if ok then .tuple #[r.getD zero,.bool r.isSome]else r.getD zero
 | .Kn _ _ _ _=>undef
def K.Cl(k:K)(id:Nat)(A:A6)(m:V):V:=
 match k with
 | .IX z=>m.A0 id (some ⟨z,true⟩)
 | .JP x=>m.A0 id (some ⟨H (O A x),true⟩)
 | .HG _ _ z ps=>m.A0 id (some ⟨G5 z A ps,true⟩)
 | .store _ x v=>FJ m (O A x) (H (O A v))
 | .MS x=>m.A0 id (some ⟨SJ (Lb (O A x)),true⟩)
 | .IA _ _ zero l _=>m.A0 id (some ⟨(List.replicate (Bh (O A l)).toNat zero).flatten,true⟩)
 | .app z _ x y=>if CQ (O A y)=0 then m else if Dn m z (O A x) (CQ (O A y))then GA m z (O A x) (C7 m z (O A y))else(Dx m (O A x)).A0 id (some ⟨C7 m z (O A x)++C7 m z (O A y),true⟩)
 | .KD _ _ zero _ n=>m.A0 id (some ⟨(List.replicate (Bh (O A n)).toNat zero).flatten,true⟩)
 | .Cm zero x=>Gj m zero (O A x)
 | .LB=>m.Cf id []
 | .Kn _ x k v=>m.Cf (Mx (O A x)) (DM (O A k) (O A v) ((m.BL (Mx (O A x))).getD []))
 |_=>m
def Dm(A:A6)(c:List (Operand×Operand)):Bool:=
 c.all λ(x,y)=>match I (O A x),I (O A y)with
  |some a,some b=>a !=b
  |_,_=>true
def KO(A:A6)(a:List (Operand×Operand))(m c:V):Prop:=
 ∀p∈a,∀b,I (O A p.1)=some b->c.W b=m.W b
abbrev Callee:=Nat->List Value->V->Option (Value×V)
def K.C2(k:K)(A:A6)(m:V):Option (Nat×List Value):=
 match k with
 | .Ip b x args=>match O A x with
   | .iface t v=>match b.find? (λr=>r.1==t)with
     |some (_,f,none)=>some (f,v::args.map (O A))
     |some (_,f,some (a,n))=>if Bx m v n&&(a||decide (n=1))then some (f,DN m a n v::args.map (O A))else none
     |none=>none
   |_=>none
 | .KC f args=>some (f,args.map (O A))
 | .Iw x args=>match O A x with
   | .func (.func f) first c=>some (f,first.toList++args.map (O A)++c.toList)
   |_=>none
 |_=>none
def Bf(A:A6):Option (Nat×Bool)->Bool
 |none=>true
 |some (t,b)=>match A t with| .bool c=>c==b|_=>false
noncomputable def DK(a:Callee)(base:Nat)(o:Ap)(A:A6)(m:V):Option (A6×V):=
 if Bf A o.g then
  match o.k.C2 A m with
  | some (f,args)=>match a f args m with
    |some (v,b)=>some (Af A o.d v,b)
    |none=>none
  |none=>if o.k.ok A m then some (Af A o.d (o.k.val (base+o.AO) A m),o.k.Cl (base+o.AO) A m)else none
 else some (Af A o.d undef,m)
def Hv(o:Ap)(A:A6)(m a:V):Prop:=
 Bf A o.g=true->match o.k.C2 A m with
  |some _=>KO A o.Gc m a
  |none=>Dm A o.Gc=true
open Classical in
noncomputable def Ef(a:Callee)(base:Nat):List Ap->A6->V->Option (A6×V)
 |[],A,m=>some (A,m)
 | o::c,A,m=>match DK a base o A m with
   |some (d,b)=>if Hv o A m b then Ef a base c d b else none
   |none=>none
def K.Bt:K->Bool
 | .IX _| .JP _| .HG _ _ _ _| .MS _| .IA _ _ _ _ _| .app _ _ _ _| .KD _ _ _ _ _| .LB=>true
 |_=>false
def K.Mg:K->Bool
 | .Cm _ _| .LB| .Ll _ _ _ _ _| .Kn _ _ _ _=>true
 |_=>false
def Cu(ops:List Ap)(m:V):V:=if ops.any (λo=>o.k.Bt)then m.AE ops.length else m
def H6(z:Nat)(m:V):Value->Bool
 | .slice (some a) l _=>(match m.W a.block with|some b=>decide (b.cells.length=a.off+l*z)|none=>false)
 |_=>true
def H4(o:Ap)(A:A6)(m:V):Bool:=o.g.isNone&&(match o.k with| .app z _ x _=>H6 z m (O A x)|_=>false)&&o.k.ok A m
def SC(x:Bw):Bw:=⟨x.cells,false⟩
def HC(m:V):V:=⟨m.next,λb=>(m.C1 b).map SC,λ_=>none⟩
def Ed(f:A6->V->Option (BM×A6×V)):Nat->A6->V->Option (BM×A6×V)
 |0,_,_=>none
 | n+1,A,m=>match f A m with
   |some (.Cx,a,b)=>Ed f n a b
   |r=>r
noncomputable def Bb(e:Callee)(n:Nat):D->A6->V->Option (BM×A6×V)
 | .skip,A,m=>some (.Cx,A,m)
 | .FI ops,A,m=>match Ef e m.next ops A (Cu ops m)with
   |some (f,g)=>some (.Cx,f,g)
   |none=>none
 | .Ky j o l,A,m=>match Ef e m.next j A (m.AE (j.length+(l.length+1)))with
   | some (i,h)=>if H4 o i h then
    (match Ef e m.next l (Af i o.d (o.k.val (m.next+o.AO) i h)) (HC h)with
    |some (q,s)=>some (.Cx,q,(o.k.Cl (m.next+o.AO) i h).AE (s.next-h.next))
    |none=>none)
     else none
   |none=>none
 | .Ez a b,A,m=>match Bb e n a A m with
   |some (.Cx,f,g)=>Bb e n b f g
   |r=>r
 | .Gh c a b,A,m=>if Kv (O A c)then(if Me (O A c)then Bb e n a A m else Bb e n b A m)else none
 | .block id c,A,m=>match Bb e n c A m with
   |some (.Ai p,f,g)=>if p=id then some (.Cx,f,g)else some (.Ai p,f,g)
   |r=>r
 | .loop c,A,m=>Ed (Bb e n c) n A m
 | .Ai id,A,m=>some (.Ai id,A,m)
 | .DO,A,m=>some (.DO,A,m)
def IQ(m:V)(A:A6):Fy->Bool
 | .AI _=>true
 | .E2 t a n=>Bx m (A t) n&&(a||decide (n=1))
def Ik(m:V)(A:A6):Fy->Value
 | .AI t=>A t
 | .E2 t a n=>DN m a n (A t)
def FM(m:V)(A:A6)(a:List Fy):Bool:=a.all (IQ m A)
def Fg(m:V)(A:A6):List Fy->Value
 |[r]=>Ik m A r
 |a=> .tuple (a.map (Ik m A)).toArray
def Cp(args:List Value):A6:= λt=>args.getD t undef
def FQ(P:Program)(t:TypeId):Option Nat:=(P.info? t).map (·.size)
def IC(P:Program)(t:TypeId):Option (List Value):=
 match P.info? t with
 | some i=>match i.zero with
   | some z=>let cs:=z.cells.toList
     if cs.all BB&&decide (cs.length=i.size)then some cs else none
   |none=>none
 |none=>none
def I0(P:Program)(t:TypeId):Option Bool:=
 match P.underlying t with
 |some (.struct _)=>some true
 |some (.array _ _)=>some true
 |some _=>some false
 |none=>none
def Hw(P:Program)(t:TypeId):Ny:=
 match P.underlying t with
 |some .bool=> .bool
 |some (.pointer _)=> .AA
 |some (.slice _)=> .slice
 |some (.func _ _ _)=> .fn
 |some (.interface _)=> .iface
 |some (.struct _)=> .agg
 |some (.array _ _)=> .agg
 |_=> .Qi
def An:Operand->Bool
 | .tmp _=>true
 | .const v=>Fp v
 | .func _=>true
 | .global _=>false
def Ss:Option Operand->Bool
 |some x=>An x
 |none=>true
def V5(e:TypeId->Option (List IV)):List Field->Nat->Option (List IV)
 |[],_=>some []
 | f ::r,off=>if f.name != "_" &&f.offset==off then
  (match e f.type with
   | some a=>match V5 e r (off+a.length)with
     |some b=>if a.length=0 then none else some (a++b)
     |none=>none
   |none=>none)
   else none
def Lj(P:Program):Nat->TypeId->Option (List IV)
 |0,_=>none
 | d+1,t=>match P.underlying t,FQ P t with
   |some .bool,some n=>if n=1 then some [.bool]else none
   |some (.int _),some n=>if n=1 then some [.int]else none
   |some .string,some n=>if n=1 then some [.str]else none
   | some (.struct fs),some n=>match V5 (Lj P d) fs.toList 0 with
     |some a=>if decide (n=a.length)&& !P.stoodInHeld t then some a else none
     |none=>none
   | some (.array k e),some n=>match Lj P d e with
     |some a=>if decide (n=k*a.length)&&decide (0<a.length)then some (List.replicate k a).flatten else none
     |none=>none
   |_,_=>none
def UQ(P:Program)(fs:Array Field):List (Nat×Operand)->Option (List (Nat×Nat×Operand))
 |[]=>some []
 | (i,x)::r=>match fs[i]? with
   | some f=>match FQ P f.type,UQ P fs r with
     |some n,some ps=>if An x then some ((f.offset,n,x)::ps)else none
     |_,_=>none
   |none=>none
def Qa(z:Nat):List (Nat×Operand)->Option (List (Nat×Nat×Operand))
 |[]=>some []
 | (i,x)::r=>match Qa z r with
   |some ps=>if An x then some ((i*z,z,x)::ps)else none
   |none=>none
def QK(P:Program)(name:String)(t:TypeId):Option (TypeId×Nat×Option (Bool×Nat)):=
 match P.info? t with
 | some i=>match i.methods.find? (·.name==name)with
   | some a=>if a.path.isEmpty then(match a.func with
     | some (f,b)=>match P.underlying t,b with
       |some (.pointer _),true=>some (t,f,none)
       | some (.pointer e),false=>match I0 P e,FQ P e with
         |some c,some n=>some (t,f,some (c,n))
         |_,_=>none
       |_,_=>none
     |none=>none)else none
   |none=>none
 |none=>none
def mJ(P:Program)(name:String):List (TypeId×Nat×Option (Bool×Nat)):=(List.range P.types.size).filterMap (QK P name)
def YV(P:Program)(t:TypeId):Option Value:=
 match P.info? t with
 | some i=>match i.zero with
   |some z=>if BB z then some z else none
   |none=>none
 |none=>none
def ZP(P:Program)(t:TypeId):Option Hj:=
 match P.underlying t with
 |some (.int k)=>some (.int k)
 |some .string=>some .str
 | some (.array n e)=>(match P.underlying e,P.info? e with
   |some (.int k),some _=>if n=2/\P.cellsOf e=1 then some (.EF k)else none
   |_,_=>none)
 |_=>none
def Vi(P:Program)(c:Call):Option K:=
 match c.callee with
 | .invoke (.tmp t) name=>if c.args.toList.all An then some (.Ip (mJ P name) (.tmp t) c.args.toList)else none
 | .value (.func f)=>match P.funcs[f]? with
   |some fn=>if fn.body.isSome&& !(fn.name== "runtime.NumGoroutine")&&c.args.toList.all An then some (.KC f c.args.toList)else none
   |none=>none
 | .value (.tmp t)=>if c.args.toList.all An then some (.Iw (.tmp t) c.args.toList)else none
 | .builtin .len=>match c.args.toList,c.argTypes.toList with
   | [x],[t]=>match P.underlying t with
     |some .string=>if An x then some (.UY x)else none
     |some (.slice _)=>if An x then some (.NR x)else none
     |_=>none
   |_,_=>none
 | .builtin .append=>match c.args.toList,c.argTypes.toList with
   | [x,y],[t,b]=>match P.underlying t with
     | some (.slice e)=>match P.info? e with
       | some i=>if t=b then(if An x&&An y&&(IC P e).isSome then some (.app i.size i.bytes x y)else none)
         else(match P.underlying b,IC P e with
         |some (.int _),some a=>if An x&&An y then some (.KD a.length i.bytes a x y)else none
         |_,_=>none)
       |none=>none
     |_=>none
   |_,_=>none
 | .builtin .min=>match c.args.toList with
   |x::xs=>if An x&&xs.all An then some (.QM false x xs)else none
   |[]=>none
 | .builtin .max=>match c.args.toList with
   |x::xs=>if An x&&xs.all An then some (.QM true x xs)else none
   |[]=>none
 | .builtin .cap=>match c.args.toList,c.argTypes.toList with
   | [x],[t]=>match P.underlying t with
     |some (.slice _)=>if An x then some (.Xv x)else none
     |_=>none
   |_,_=>none
 | .builtin .clear=>match c.args.toList,c.argTypes.toList with
   | [x],[t]=>match P.underlying t with
     | some (.slice e)=>match IC P e with
       |some a=>if An x then some (.Cm a x)else none
       |none=>none
     |_=>none
   |_,_=>none
 |_=>none
def So(P:Program)(o:Oper):Option K:=
 match o.op with
 | .move x=>if An x then some (.F2 x)else none
 | .assign x=>if An x then some (.F2 x)else none
 | .pick c a b=>if An c&&An a&&An b then some (.T0 c a b)else none
 | .nilCheck x=>if An x then some (.Lz x)else none
 | .alloc e=>match IC P e with
   |some z=>some (.IX z)
   |none=>none
 | .box _ x=>if An x then some (.JP x)else none
 | .build t ps=>match P.underlying t,IC P t with
   | some (.struct fs),some z=>match UQ P fs ps.toList with
     |some h=>if(fs.toList.all λf=>(FQ P f.type).isSome)then some (.PR z h)else none
     |none=>none
   | some (.array _ e),some z=>match FQ P e with
     | some n=>match Qa n ps.toList with
       |some h=>some (.PR z h)
       |none=>none
     |none=>none
   |_,_=>none
 | .buildSlice t n ps=>match P.underlying t with
   | some (.slice e)=>match IC P e with
     | some z=>match Qa z.length ps.toList with
       |some h=>if 0<z.length&&n*z.length<=16777216 then some (.HG z.length n (List.replicate n z).flatten h)else none
       |none=>none
     |none=>none
   |_=>none
 | .load t x=>match I0 P t,FQ P t with
   |some a,some n=>if An x then some (.E4 a n x)else none
   |_,_=>none
 | .store t x v=>match FQ P t with
   |some n=>if An x&&An v then some (.store n x v)else none
   |none=>none
 | .binOp op t x y _=>
   if An x&&An y then
    (if Hw P t= .agg then
     (match op,Lj P 8 t with
      | .eql,some j=>if !P.eqGuardType P.depth t then some (.PC false j x y)else none
      | .neq,some j=>if !P.eqGuardType P.depth t then some (.PC true j x y)else none
      |_,_=>none)
    else some (.Jw op (Hw P t) x y))
   else none
 | .unOp op _ x=>if An x then some (.S3 op x)else none
 | .convert s d x=>match P.underlying s,P.underlying d with
   |some (.int _),some (.int k)=>if An x then some (.X1 k x)else none
   |some .string,some .string=>if An x then some (.Zp x)else none
   | some (.slice e),some .string=>match P.underlying e with
     |some (.int .u8)=>if An x then some (.M6 x)else none
     |_=>none
   | some .string,some (.slice e)=>match P.underlying e with
     |some (.int .u8)=>if An x&&false then some (.MS x)else none
     |_=>none
   |_,_=>none
 | .makeSlice t l c=>match P.underlying t with
   | some (.slice e)=>match IC P e,P.info? e with
     |some z,some i=>if An l&&An c then some (.IA z.length i.bytes z l c)else none
     |_,_=>none
   |_=>none
 | .slice t x g X m=>match P.underlying t with
   |some .string=>if An x&&Ss g&&Ss X&&m.isNone then some (.Yj x g X)else none
   | some (.slice e)=>match FQ P e with
     | some z=>match m with
       |none=>if An x&&Ss g&&Ss X then some (.N7 z x g X)else none
       | some q=>match X with
         |some u=>if An x&&Ss g&&An u&&An q then some (.S8 z x g u q)else none
         |none=>none
     |none=>none
   | some (.array n e)=>match FQ P e with
     |some z=>if An x&&g.isNone&&X.isNone&&m.isNone then some (.Nt z n x)else none
     |none=>none
   |_=>none
 | .fieldAddr s x i=>match P.underlying s with
   | some (.struct fs)=>match fs[i]? with
     | some f=>match FQ P f.type with
       |some n=>if An x&&0<n then some (.GV f.offset x)else none
       |none=>none
     |none=>none
   |_=>none
 | .field t x i=>match P.underlying t with
   | some (.struct fs)=>match fs[i]? with
     | some f=>match I0 P f.type,FQ P f.type with
       |some a,some n=>if An x then some (.field a f.offset n x)else none
       |_,_=>none
     |none=>none
   |_=>none
 | .indexAddr t x i=>match P.underlying t with
   | some (.slice e)=>match FQ P e with
     |some z=>if An x&&An i then some (.HN z x i)else none
     |none=>none
   | some (.array len e)=>match FQ P e with
     |some z=>if An x&&An i then some (.Qy z len x i)else none
     |none=>none
   |_=>none
 | .index t x i=>match P.underlying t with
   |some .string=>if An x&&An i then some (.UO x i)else none
   |_=>none
 | .extract x i=>if An x then some (.ext i x)else none
 | .makeInterface t x=>match P.underlying t with
   |some (.interface _)=>none
   |some _=>if An x then some (.XF t x)else none
   |none=>none
 | .typeAssert x _ t ok=>match P.underlying t with
   |some (.interface _)=>none
   |some _=>if An x&& !ok then some (.VC t x)else none
   |none=>none
 | .makeMap t r=>match P.underlying t,r with
   |some (.map _ _),none=>some .LB
   |_,_=>none
 | .lookup t x i ok=>match P.underlying t with
   | some (.map k e)=>match ZP P k,YV P e with
     |some p,some z=>if An x&&An i then some (.Ll p z ok x i)else none
     |_,_=>none
   |_=>none
 | .mapUpdate t x k v=>match P.underlying t with
   | some (.map A _)=>match ZP P A with
     |some p=>if An x&&An k&&An v then some (.Kn p x k v)else none
     |none=>none
   |_=>none
 | .makeFunc fn first w=>if first.toList.all An&&w.toList.all An then some (.Q9 fn first.toList w.toList)else none
 | .call c=>Vi P c
 |_=>none
def l4:K:= .Lz (.const (.pointer none))
def PU(P:Program)(o:Oper):Option K:=match So P o with
 |some k=>some k
 |none=>some l4
theorem sd{m:V}:l4.ok A m=false:=rfl
theorem aL(h:PU P o=some k):So P o=some k\/k=l4:=by
 unfold PU at h;split at h
 ·next b a=>cases h;exact .inl a
 ·cases h;exact .inr rfl
def aX(ops:Array Oper)(o:Oper):Option (Option (Nat×Bool)):=
 match o.guard with
 |none=>some none
 | some (j,b)=>match(ops[j]?).bind (·.dst)with
   |some t=>some (some (t,b))
   |none=>none
def ZF(P:Program)(ops:Array Oper)(b:Nat)(a:Nat):Option Ap:=
 match ops[a]? with
 | some o=>match PU P o,aX ops o with
   |some k,some g=>if(o.dst.all λd=>decide (d<b))then some ⟨a,o.dst,g,k,[]⟩else none
   |_,_=>none
 |none=>none
def Rn(P:Program)(ops:Array Oper)(a:Nat):List Nat->Option (List Ap)
 |[]=>some []
 | b::r=>match ZF P ops a b,Rn P ops a r with
   |some o,some c=>some (o::c)
   |_,_=>none
def K.Fv:K->List Operand
 | .E4 _ _ x=>[x]
 | .Nt _ _ x=>[x]
 | .store _ x _=>[x]
 | .M6 x=>[x]
 | .Cm _ x=>[x]
 | .app _ _ x y=>[x,y]
 |_=>[]
def K.GO:K->List Operand
 | .Cm _ x=>[x]
 | .store _ x _=>[x]
 | .app _ _ x _=>[x]
 |_=>[]
def K.F0:K->Bool
 | .KC _ _| .Iw _ _| .Ip _ _ _=>true
 |_=>false
def K.D6:K->List Operand
 | .F2 x| .Lz x| .JP x| .E4 _ _ x| .S3 _ x| .X1 _ x| .Zp x| .M6 x| .MS x| .GV _ x| .field _ _ _ x| .ext _ x| .UY x| .NR x| .Xv x| .Cm _ x| .Nt _ _ x=>[x]
 | .T0 c a b=>[c,a,b]
 | .IX _=>[]
 | .PR _ ps| .HG _ _ _ ps=>ps.map λp=>p.2.2
 | .store _ x v=>[x,v]
 | .Jw _ _ x y| .PC _ _ x y| .IA _ _ _ x y| .HN _ x y| .Qy _ _ x y| .UO x y| .app _ _ x y| .KD _ _ _ x y=>[x,y]
 | .Yj x l h| .N7 _ x l h=>x::(l.toList++h.toList)
 | .S8 _ x l h e=>x::h::e::l.toList
 | .QM _ x xs=>x::xs
 | .Q9 _ a b=>a++b
 | .KC _ d=>d
 | .Iw x d=>x::d
 | .XF _ x| .VC _ x=>[x]
 | .Ip _ x d=>x::d
 | .LB=>[]
 | .Ll _ _ _ x k=>[x,k]
 | .Kn _ x k v=>[x,k,v]
def Rz(l:List Operand):List Nat:=l.filterMap fun| .tmp t=>some t|_=>none
def Ap.Nk(o:Ap):List Nat:=Rz o.k.D6++(match o.g with|some (t,_)=>[t]|none=>[])
def Ap.wk(o:Ap):List Nat:=Rz (o.Gc.map (·.1))++Rz (o.Gc.map (·.2))
def KZ(l:List Nat)(d:Option Nat):Bool:=match d with|some d=> !l.contains d|none=>true
def ZL:Option Nat->List Operand
 |some d=>[.tmp d]
 |none=>[]
def IZ(k i:Ap):List (Operand×Operand):=
 if i.k.F0 then k.k.Fv.map λx=>(x,x)
 else if k.k.F0 then[]
 else
  ((k.k.GO++(if k.k.Bt then ZL k.d else[])).flatMap λx=>(i.k.Fv++i.k.GO).map λy=>(x,y))
    ++k.k.Fv.flatMap λx=>i.k.GO.map λy=>(x,y)
def Ic(k i:Ap)(c:List Nat):Bool:=
 !k.k.Mg&& !i.k.Mg&&KZ (k.Nk++k.wk) i.d&&KZ i.Nk k.d&&(match k.d,i.d with|some a,some b=>a !=b|_,_=>true)&&
 (if i.k.F0 then !k.k.F0&& !k.k.Bt&&k.k.GO.isEmpty&&(Rz k.k.Fv).all λt=> !c.contains t&&k.d !=some t
  else if k.k.F0 then i.k.Fv.isEmpty&&i.k.GO.isEmpty
  else(!k.k.Bt||(k.d.isSome&&KZ c k.d))&&(Rz (k.k.Fv++k.k.GO)).all λt=> !c.contains t&&k.d !=some t)
def aB(a:List Nat)(o:Oper):Nat:=
 o.after.toList.foldl (λs e=>if Region.binds .any e then s|||2^e.on|||a.getD e.on 0 else s) 0
def PF:List Oper->List Nat->List Nat
 |[],a=>a
 |o::r,a=>PF r (a++[aB a o])
def Lk(a:List Nat)(i:Ap):List Ap->List (Operand×Operand)
 |[]=>[]
 |k::r=>(if(a.getD i.AO 0).testBit k.AO then[]else IZ k i)++Lk a i r
def Xt(a:List Nat)(i:Ap):List Ap->List Nat->Bool
 |[],_=>true
 |k::r,b=>((a.getD i.AO 0).testBit k.AO||Ic k i b)&&Xt a i r (b++k.d.toList)
def xl(ops:Array Oper)(a:Nat)(b:List Ap):Bool:=
 match ops[a]? with
 |some op=>op.after.toList.all λe=> !Region.binds .any e||b.any λk=>k.AO==e.on
 |none=>false
def Uk(P:Program)(ops:Array Oper)(c:Nat)(b:List Nat):List Nat->List Ap->Option (List Ap)
 |[],_=>some []
 | e::r,a=>match ZF P ops c e with
   | some o=>
     let o':Ap:=⟨o.AO,o.d,o.g,o.k,Lk b o a⟩
     if Xt b o' a []&&xl ops e a then
      match Uk P ops c b r (o'::a)with
      |some f=>some (o'::f)
      |none=>none
     else none
   |none=>none
def xk(o:Oper):Nat:=
 match o.op with
 | .alloc _| .box _ _| .buildSlice _ _ _| .makeSlice _ _ _| .makeMap _ _=>2
 | .store _ _ _=>1
 | .convert _ _ _=>0
 | .call {callee:= .builtin .len,..}| .call {callee:= .builtin .cap,..}| .call {callee:= .builtin .min,..}| .call {callee:= .builtin .max,..}=>0
 | .call _=>1
 |_=>0
def vR(ops:Array Oper):Nat->List Nat->List Nat->List Nat
 |0,_,a=>a.reverse
 | n+1,left,a=>
   let b:=left.filter λi=>((ops[i]?).map λo=>o.after.toList.all λe=> !Region.binds .any e||a.contains e.on).getD false
   match(b.find? λi=>((ops[i]?).map xk).getD 0==0).or ((b.find? λi=>((ops[i]?).map xk).getD 0==1).or b.head?)with
   |some i=>vR ops n (left.filter (· !=i)) (i::a)
   |none=>a.reverse
def MK:List Nat->Bool
 |[]=>true
 |x::l=> !l.contains x&&MK l
def l0(n:Nat)(l:List Nat):Bool:=decide (l.length=n)&&MK l&&(l.all λi=>decide (i<n))&&(List.range n).all λi=>l.contains i
def a5j:Operand->Operand->Bool
 | .tmp a,.tmp b=>a==b
 |_,_=>false
def vA(l:List Oper)(x:Operand):Operand:=
 match x with
 | .tmp t=>(match l.find? (λo=>o.dst==some t)with
   | some o=>(match o.op with
     | .move y=>y
     | .assign y=>y
     |_=>x)
   |none=>x)
 |_=>x
def rF(l:List Oper):List Oper->Bool
 |[]=>false
 | o ::r=>(match o.op with
  | .call c=>(match c.callee,c.args.toList with
    | .builtin .append,x::_=>r.any λp=>match p.op with
      | .call a=>(match a.callee with
        | .builtin _=>false
        |_=>a.args.toList.any λy=>a5j (vA l x) (vA l y))
      |_=>false
    |_,_=>false)
  |_=>false)||rF l r
def Wl:List Ap->Option (List Ap×Ap×List Ap)
 |[]=>none
 | o::r=>match o.k with
   | .app _ _ _ _=>some ([],o,r)
   |_=>(Wl r).map λ(a,b,c)=>(o::a,b,c)
def xM(a:List Nat)(n:Nat):Bool:=(List.range n).all λj=>(List.range j).all λi=>(a.getD j 0).testBit i
def rW(ops:Array Oper):Bool:=(List.range ops.size).all λj=>match ops[j]? with
 |some o=>o.after.toList.all λe=> !Region.binds .any e||decide (e.on<j)
 |none=>false
def hy(P:Program)(d:Nat)(ops:Array Oper)(e:Bool):Option D:=
 if rF ops.toList ops.toList&&(!e||(rW ops&&xM (PF ops.toList []) ops.size))then
  (match Rn P ops d (List.range ops.size)with
  |some L=>(Wl L).map λ(a,b,c)=> .Ky a b c
  |none=>none)
 else none
def dV(P:Program)(a:Nat)(ops:Array Oper):Bool->Option D
 | false=>match Rn P ops a (List.range ops.size)with
   |some l=>some (.FI l)
   |none=>none
 | true=>
   let order:=vR ops ops.size (List.range ops.size) []
   if l0 ops.size order then
    match Uk P ops a (PF ops.toList []) order []with
    |some l=>some (.FI l)
    |none=>none
   else none
def JY(P:Program)(d:Nat):Code->Option D
 | .skip=>some .skip
 | .region _ ops e=>match hy P d ops e with
   |some c=>some c
   |none=>dV P d ops e
 | .seq a b=>match JY P d a,JY P d b with
   |some x,some y=>some (.Ez x y)
   |_,_=>none
 | .cond c a b=>match JY P d a,JY P d b with
   |some x,some y=>if An c then some (.Gh c x y)else none
   |_,_=>none
 | .block id c=>match JY P d c with
   |some x=>some (.block id x)
   |none=>none
 | .loop c=>match JY P d c with
   |some x=>some (.loop x)
   |none=>none
 | .exit id=>some (.Ai id)
 | .ret=>some .DO
 |_=>none
def NO(P:Program)(b:Nat):List ResultVar->Option (List Fy)
 |[]=>some []
 | .tmp t::r=>match NO P b r with
   |some l=>if t<b then some (.AI t::l)else none
   |none=>none
 | .cell a t::r=>match I0 P t,FQ P t,NO P b r with
   |some c,some n,some l=>if a<b then some (.E2 a c n::l)else none
   |_,_,_=>none
def AR(P:Program)(f:Nat):Option AN:=
 match P.funcs[f]? with
 | some fn=>if fn.name== "runtime.NumGoroutine" ||fn.name== "slices.Insert[[]int,int]" then none else match fn.body with
   | some c=>match JY P fn.ntmps c,NO P fn.ntmps fn.results.toList with
     |some b,some a=>some ⟨fn.ntmps,a,b⟩
     |_,_=>none
   |none=>none
 |none=>none
end Go.DI
