/-
  A part of the proof, shortened by tools of ours.
-/
import Derived.ChangeKeysEq
import Derived.Test.YtmmkkggfmigppaaGreatZba
set_option linter.all false
set_option maxRecDepth 8000
set_option maxHeartbeats 16000000
namespace Go.DI
open Go Go.RowKit
def kh(P:Program)(o:Oper)(a:Act)(w:World)(v:Value)(w':World):Prop:=
 (execOp a.eval o).run P w= .ok (.value v) w'\/((execOp a.eval o).run P w= .ok .skip w'/\v=undef)
section
variable {P:Program} {o:Oper} {a:Act} {w:World}
theorem aKt{x:Operand}(b2:o.op= .move x):kh P o a w (a.eval x) w:= .inl (by simp[execOp,b2])
theorem aKc{x:Operand}(b2:o.op= .assign x):kh P o a w (a.eval x) w:= .inl (by simp[execOp,b2])
theorem aKv{c x y:Operand}{b:Bool}(b2:o.op= .pick c x y)(av:a.eval c= .bool b):kh P o a w (if b then a.eval x else a.eval y) w:=
 .inl (by simp[execOp,b2,av,asBool])
theorem aKu{x:Operand}(b2:o.op= .nilCheck x)(B:CJ (a.eval x)=true):kh P o a w (a.eval x) w:=by
 refine .inl ?_;simp only[execOp,b2];generalize a.eval x=v at B;cases v<;>simp_all [CJ]
 ·rename_i p;cases p<;>simp_all
 ·rename_i fn _ _;cases fn<;>simp_all
theorem Oj{op:BinOp}{t DD:TypeId}{x y:Operand}{v:Value}(b2:o.op= .binOp op t x y DD)(aH:(eqGuard op t x y (a.eval x) (a.eval y)).run P w= .ok () w)
 (h:(binOp op t (a.eval x) (a.eval y)).run P w= .ok v w):kh P o a w v w:=
 .inl (by simp[execOp,b2,aH,h])
theorem aKy{op:UnOp}{t:TypeId}{x:Operand}(b2:o.op= .unOp op t x)(B:Bj op (a.eval x)=true):kh P o a w (Gl op (a.eval x)) w:=by refine .inl ?_;simp only[execOp,b2];generalize a.eval x=v at B;cases op<;>cases v<;>simp_all [Bj,Gl,Op.unary,Op.intArith]
theorem aKk{x:Operand}{i:Nat}{vs:Array Value}(b2:o.op= .extract x i)(B:a.eval x= .tuple vs)(Y:i<vs.size):kh P o a w (Du (a.eval x) i) w:=by refine .inl ?_;simp[execOp,b2,B,Instr.extract,Y,Du]
theorem aKh{s d:TypeId}{k vc bB:IntKind}{n:Int}{x:Operand}(b2:o.op= .convert s d x)(H:P.underlying s=some (.int vc))(aW:P.underlying d=some (.int k))(B:a.eval x= .int bB n):
 kh P o a w (.int k (k.wrap n)) w:=by
 refine .inl ?_;simp[execOp,b2,B,convert,underlying,H,aW,Conv.intToInt]
theorem aKi{s d:TypeId}{b:ByteArray}{x:Operand}(b2:o.op= .convert s d x)(H:P.underlying s=some .string)(aW:P.underlying d=some .string)(B:a.eval x= .string b):
 kh P o a w (.string b) w:=by
 refine .inl ?_;simp[execOp,b2,B,convert,underlying,H,aW]
theorem aKs{fn:Fn}{x y:Array Operand}(b2:o.op= .makeFunc fn x y):kh P o a w (.func fn (x.map a.eval) (y.map a.eval)) w:=
 .inl (by simp[execOp,b2,Instr.makeFunc])
theorem aKl{s:TypeId}{x:Operand}{i:Nat}{fs:Array Field}{f:Field}{b3:TypeInfo}{c off:Nat}(b2:o.op= .fieldAddr s x i)(H:P.underlying s=some (.struct fs))(bb:fs[i]?=some f)
 (Y:P.info? f.type=some b3) (aj:0<b3.size) (B:a.eval x= .pointer (some ⟨c,off,none⟩)):kh P o a w (.pointer (some ⟨c,off+f.offset,none⟩)) w:=by
 refine .inl ?_;have:b3.size≠0:=by omega
 simp[execOp,b2,B,Instr.fieldAt,underlying,H,bb,Instr.sureAddr,fieldPlace,sizeOf,typeInfo,Y,this,Addr.add]
theorem aKn{t e:TypeId}{x i:Operand}{b3:TypeInfo}{c off len cap:Nat}{k:IntKind}{n:Int}(b2:o.op= .indexAddr t x i)(a8:P.underlying t=some (.slice e))
 (Y:P.info? e=some b3) (B:a.eval x= .slice (some ⟨c,off,none⟩) len cap) (aj:a.eval i= .int k n) (bX:0<=n) (A:n<(len:Int)):
 kh P o a w (.pointer (some ⟨c,off+n.toNat*b3.size,none⟩)) w:=by
 refine .inl ?_;simp[execOp,b2,B,aj,Instr.indexAt,asIntOf,underlying,a8,sizeOf,typeInfo,Y,bX,A,Addr.add]
theorem aKo{t e:TypeId}{x i:Operand}{b3:TypeInfo}{c off len:Nat}{k:IntKind}{n:Int}(b2:o.op= .indexAddr t x i)(a8:P.underlying t=some (.array len e))
 (Y:P.info? e=some b3) (B:a.eval x= .pointer (some ⟨c,off,none⟩)) (aj:a.eval i= .int k n) (bX:0<=n) (A:n<(len:Int)):
 kh P o a w (.pointer (some ⟨c,off+n.toNat*b3.size,none⟩)) w:=by
 refine .inl ?_;simp[execOp,b2,B,aj,Instr.indexAt,asIntOf,underlying,a8,sizeOf,typeInfo,Y,bX,A,Addr.add,Instr.sureAddr]
theorem aKp{t:TypeId}{x i:Operand}{s:ByteArray}{k:IntKind}{n:Int}(b2:o.op= .index t x i)(a8:P.underlying t=some .string)
 (B:a.eval x= .string s) (aj:a.eval i= .int k n) (bX:0<=n) (A:n<(s.size:Int)):
 kh P o a w (.int .u8 ((s.data.toList.getD n.toNat 0).toNat:Nat)) w:=by
 refine .inl ?_;have E:n.toNat<s.size:=by omega
 have ao:s[n.toNat]?=some (s.data.toList.getD n.toNat 0):=by rw[getElem?_pos s n.toNat E];have:n.toNat<s.data.size:=E;simp only[m7,Om,Jm this,Bw];rfl
 simp[execOp,b2,B,aj,Instr.index,asIntOf,underlying,a8,bX,ao]
theorem aKq{c:Call}{x:Operand}{t:TypeId}{s:ByteArray}(b2:o.op= .call c)(av:c.callee= .builtin .len)(ag:c.args.toList=[x])(fm:c.argTypes.toList=[t])
 (a8:P.underlying t=some .string) (B:a.eval x= .string s):kh P o a w (.int .i64 s.size) w:=by
 refine .inl ?_;have kG:c.args= #[x]:=by rw[<-tc (xs:=c.args),ag]
 have An:c.argTypes= #[t]:=by rw[<-tc (xs:=c.argTypes),fm]
 simp[execOp,b2,resolve,av,kG,An,invoke,builtin,Builtin.len_,underlying,a8,B,goInt]
theorem aKr{c:Call}{x:Operand}{t e:TypeId}{p:Option Addr}{l cap:Nat}(b2:o.op= .call c)(av:c.callee= .builtin .len)(ag:c.args.toList=[x])(fm:c.argTypes.toList=[t])
 (a8:P.underlying t=some (.slice e)) (B:a.eval x= .slice p l cap):kh P o a w (.int .i64 l) w:=by
 refine .inl ?_;have kG:c.args= #[x]:=by rw[<-tc (xs:=c.args),ag]
 have An:c.argTypes= #[t]:=by rw[<-tc (xs:=c.argTypes),fm]
 simp[execOp,b2,resolve,av,kG,An,invoke,builtin,Builtin.len_,underlying,a8,B,goInt]
theorem aKg{c:Call}{x:Operand}{t e:TypeId}{p:Option Addr}{l cap:Nat}(b2:o.op= .call c)(av:c.callee= .builtin .cap)(ag:c.args.toList=[x])(fm:c.argTypes.toList=[t])
 (a8:P.underlying t=some (.slice e)) (B:a.eval x= .slice p l cap):kh P o a w (.int .i64 cap) w:=by
 refine .inl ?_;have kG:c.args= #[x]:=by rw[<-tc (xs:=c.args),ag]
 have An:c.argTypes= #[t]:=by rw[<-tc (xs:=c.argTypes),fm]
 simp[execOp,b2,resolve,av,kG,An,invoke,builtin,Builtin.cap_,underlying,a8,B,goInt]
end
section
variable {P:Program} {w:World}
theorem aG1{t:TypeId}(d:Nat)(h:P.underlying t=some .bool)(a b:Bool):(Op.equalIn (d+1) t (.bool a) (.bool b)).run P w= .ok (a==b) w:=by simp[Op.equalIn,run_underlying h]
theorem aG3{t e:TypeId}(d:Nat)(h:P.underlying t=some (.pointer e))(p q:Option Addr)(sJ:p=none\/q=none):(Op.equalIn (d+1) t (.pointer p) (.pointer q)).run P w= .ok (p.isNone&&q.isNone) w:=by
 rcases sJ with rfl|rfl
 ·simp[Op.equalIn,run_underlying h]
 ·cases p<;>simp[Op.equalIn,run_underlying h]
theorem aG4{t e:TypeId}(d:Nat)(h:P.underlying t=some (.slice e))(p q:Option Addr)(l c c7 nF:Nat)(sJ:p=none\/q=none):(Op.equalIn (d+1) t (.slice p l c) (.slice q c7 nF)).run P w= .ok (p.isNone&&q.isNone) w:=by
 rcases sJ with rfl|rfl
 ·simp[Op.equalIn,run_underlying h]
 ·cases p<;>simp[Op.equalIn,run_underlying h]
theorem aG2{t:TypeId}{bz bs:Array TypeId}{aev:Bool}(d:Nat)(h:P.underlying t=some (.func bz bs aev))(x y:Value)
 (u4:(x= .nilFunc/\y= .nilFunc)\/(x= .nilFunc/\ ∃a b c,y= .func a b c)\/(y= .nilFunc/\ ∃a b c,x= .func a b c)):(Op.equalIn (d+1) t x y).run P w= .ok (sQ x&&sQ y) w:=by
 rcases u4 with⟨rfl,rfl⟩|⟨rfl,_,_,_,rfl⟩|⟨rfl,_,_,_,rfl⟩<;>simp[Op.equalIn,run_underlying h,sQ]
theorem aG5{t:TypeId}(h:P.underlying t=some .bool)(a b:Bool):(Op.equal t (.bool a) (.bool b)).run P w= .ok (a==b) w:=aG1 9999 h a b
theorem aqn{t e:TypeId}(h:P.underlying t=some (.pointer e))(p q:Option Addr)(sJ:p=none\/q=none):(Op.equal t (.pointer p) (.pointer q)).run P w= .ok (p.isNone&&q.isNone) w:=aG3 9999 h p q sJ
theorem aqo{t e:TypeId}(h:P.underlying t=some (.slice e))(p q:Option Addr)(l c c7 nF:Nat)(sJ:p=none\/q=none):(Op.equal t (.slice p l c) (.slice q c7 nF)).run P w= .ok (p.isNone&&q.isNone) w:=aG4 9999 h p q l c c7 nF sJ
theorem acZ{t:TypeId}{bz bs:Array TypeId}{aev:Bool}(h:P.underlying t=some (.func bz bs aev))(x y:Value)
 (u4:(x= .nilFunc/\y= .nilFunc)\/(x= .nilFunc/\ ∃a b c,y= .func a b c)\/(y= .nilFunc/\ ∃a b c,x= .func a b c)):(Op.equal t x y).run P w= .ok (sQ x&&sQ y) w:=aG2 9999 h x y u4
theorem aI8{t:TypeId}(h:ru P t= .bool):P.underlying t=some .bool:=by unfold ru at h;split at h<;>first|assumption|cases h
theorem ary{t:TypeId}(h:ru P t= .bC): ∃e,P.underlying t=some (.pointer e):=by unfold ru at h;split at h<;>first|exact⟨_,by assumption⟩|cases h
theorem arz{t:TypeId}(h:ru P t= .slice): ∃e,P.underlying t=some (.slice e):=by unfold ru at h;split at h<;>first|exact⟨_,by assumption⟩|cases h
theorem aek{t:TypeId}(h:ru P t= .fn): ∃a b c,P.underlying t=some (.func a b c):=by unfold ru at h;split at h<;>first|exact⟨_,_,_,by assumption⟩|cases h
theorem TV{op:BinOp}{t:TypeId}{x y:Operand}{bf v:Value}(A:bf≠ .nilIface)(E:wz bf=false):(eqGuard op t x y bf v).run P w= .ok () w:=by
 unfold eqGuard;by_cases b2:op= .eql\/op= .neq
 ·rcases b2 with rfl|rfl<;>simp<;>cases bf<;>simp_all [wz]
 ·cases op<;>simp_all
theorem aG6{op:BinOp}{t:TypeId}{k fk:IntKind}{a b:Int}(h:QG op k fk a b=true):(binOp op t (.int k a) (.int fk b)).run P w= .ok (HD op k a b) w:=by cases op<;>simp_all [QG,binOp,HD,Op.intArith,Op.intDiv,Op.intBits,Op.intCmp,Op.shift]<;>first|rfl|(intro cw;omega)
theorem toList_beq(a b:ByteArray):(a.toList==b.toList)=decide (a=b):=by
 rw[Bool.eq_iff_iff];simp only[ByteArray.toList_eq,beq_iff_eq,eF];constructor
 ·intro h;cases a;cases b;simpa using h
 ·rintro rfl;rfl
theorem aG9{op:BinOp}{t:TypeId}{a b:ByteArray}(h:NX op a b=true):(binOp op t (.string a) (.string b)).run P w= .ok (Dp op a b) w:=by have e:=toList_beq a b;cases op<;>simp_all [NX,binOp,Dp,Op.stringOp];omega
theorem BK{op:BinOp}(pd:op= .eql\/op= .neq){t:TypeId}{bf v:Value}(ba:fu bf=false)(H:m0 bf=false)(Ht:CK bf=true->fu v=false){r:Bool}(bb:(∀k a b,bf≠ .complex k a b)/\ ∀k a,bf≠ .float k a)
 (h:(Op.equal t bf v).run P w= .ok r w):(binOp op t bf v).run P w= .ok (.bool (if op= .eql then r else !r)) w:=by
 rcases pd with rfl|rfl<;>cases bf<;>simp_all [fu,m0,binOp]
theorem aqm{op:BinOp}{t:TypeId}{ak:Ren}{bf v Dw bZ:Value}(pd:op= .eql\/op= .neq)(ax:xk (ru P t) bf v=true)(ba:dX ak bf Dw)(M:dX ak v bZ):
 (binOp op t Dw bZ).run P w= .ok (mU op bf v) w/\Dw≠ .nilIface/\wz Dw=false:=by
 unfold xk at ax;split at ax
 ·rename_i fm;have:=ba.tR;subst this;have:=M.tR;subst this;refine⟨?_,by simp,rfl⟩;rw[BK pd rfl rfl (by simp[CK]) (by simp) (aG5 (aI8 fm) _ _)];rcases pd with rfl|rfl<;>simp[mU,qT]
 ·rename_i p fm;obtain⟨e,aU⟩:=ary fm;have:=ba.hB rfl;subst this;have oq: ∃q,bZ= .pointer q/\q.isNone=p.isNone:=by
   cases p with
   |none=>exact⟨none,M.hB rfl,rfl⟩
   |some a=>obtain⟨l,_,_,h⟩:=M.sO;exact⟨_,h,rfl⟩
  obtain⟨q,rfl,bg⟩:=oq;refine⟨?_,by simp,rfl⟩;rw[BK pd rfl rfl (by simp[CK]) (by simp) (aqn aU _ _ (.inl rfl))];cases p<;>rcases pd with rfl|rfl<;>simp_all [mU,qT,sQ]
 ·rename_i p _ fm;obtain⟨e,aU⟩:=ary fm;have:=M.hB rfl;subst this;have oq: ∃q,Dw= .pointer q/\q.isNone=p.isNone:=by
   cases p with
   |none=>exact⟨none,ba.hB rfl,rfl⟩
   |some a=>obtain⟨l,_,_,h⟩:=ba.sO;exact⟨_,h,rfl⟩
  obtain⟨q,rfl,bg⟩:=oq;refine⟨?_,by simp,rfl⟩;rw[BK pd rfl rfl (by simp[fu]) (by simp) (aqn aU _ _ (.inr rfl))];cases p<;>rcases pd with rfl|rfl<;>simp_all [mU,qT,sQ]
 ·rename_i hS ck p jn c9 fm;obtain⟨e,aU⟩:=arz fm;have Ht:Dw= .slice none hS ck:=(by cases ba with|c4 h=>rfl);subst Ht;have oq: ∃q l c,bZ= .slice q l c/\q.isNone=p.isNone:=by
   cases p with
   |none=>cases M with|c4 h=>exact⟨_,_,_,rfl,rfl⟩
   |some a=>obtain⟨l,ev,cap,_,_,h,_⟩:=M.lv;exact⟨_,_,_,h,rfl⟩
  obtain⟨q,l,c,rfl,bg⟩:=oq;refine⟨?_,by simp,rfl⟩;rw[BK pd rfl rfl (by simp[CK]) (by simp) (aqo aU _ _ _ _ _ _ (.inl rfl))];cases p<;>rcases pd with rfl|rfl<;>simp_all [mU,qT,sQ]
 ·rename_i p hS ck jn c9 _ fm;obtain⟨e,aU⟩:=arz fm;have oq:bZ= .slice none jn c9:=(by cases M with|c4 h=>rfl);subst oq;have Ht: ∃q l c,Dw= .slice q l c/\q.isNone=p.isNone:=by
   cases p with
   |none=>cases ba with|c4 h=>exact⟨_,_,_,rfl,rfl⟩
   |some a=>obtain⟨l,ev,cap,_,_,h,_⟩:=ba.lv;exact⟨_,_,_,h,rfl⟩
  obtain⟨q,l,c,rfl,bg⟩:=Ht;refine⟨?_,by simp,rfl⟩;rw[BK pd rfl rfl (by simp[CK]) (by simp) (aqo aU _ _ _ _ _ _ (.inr rfl))];cases p<;>rcases pd with rfl|rfl<;>simp_all [mU,qT,sQ]
 ·rename_i fm;obtain⟨a,b,c,aU⟩:=aek fm;have:=ba.hB rfl;subst this;have:=M.hB rfl;subst this;refine⟨?_,by simp,rfl⟩;rw[BK pd rfl rfl (by simp[CK]) (by simp) (acZ aU _ _ (.inl ⟨rfl,rfl⟩))];rcases pd with rfl|rfl<;>simp[mU,qT,sQ]
 ·rename_i fm;obtain⟨a,b,c,aU⟩:=aek fm;have:=ba.hB rfl;subst this;obtain⟨ys,ds,rfl,_⟩:=M.ES;refine⟨?_,by simp,rfl⟩;rw[BK pd rfl rfl (by simp[CK]) (by simp) (acZ aU _ _ (.inr (.inl ⟨rfl,_,_,_,rfl⟩)))];rcases pd with rfl|rfl<;>simp[mU,qT,sQ]
 ·rename_i fm;obtain⟨a,b,c,aU⟩:=aek fm;have:=M.hB rfl;subst this;obtain⟨ys,ds,rfl,_⟩:=ba.ES;refine⟨?_,by simp,rfl⟩;rw[BK pd rfl rfl (by simp[CK]) (by simp) (acZ aU _ _ (.inr (.inr ⟨rfl,_,_,_,rfl⟩)))];rcases pd with rfl|rfl<;>simp[mU,qT,sQ]
 ·cases ax
theorem aKd{o:Oper}{a:Act}{op:BinOp}{t DD:TypeId}{x y:Operand}{ak:Ren}{bf v:Value}(b2:o.op= .binOp op t x y DD)(B:dX ak bf (a.eval x))(Z:dX ak v (a.eval y))
 (ax:uI op (ru P t) bf v=true): ∃bZ,kh P o a w bZ w/\dX ak (mU op bf v) bZ:=by
 generalize h6:a.eval x=Dw at B;generalize y2:a.eval y=bZ at Z;cases bf with
 | int k n=>
   cases v<;>simp only[uI]at ax
   case int fk g0=>have:=B.tS;subst this;have:=Z.tS;subst this;refine⟨HD op k n g0,Oj b2 (TV (by simp[h6]) (by simp[h6,wz])) (by rw[h6,y2];exact aG6 ax),?_⟩;simp only[mU];exact .c4 (by cases op<;>rfl)
   all_goals(cases op<;>first|cases ax|(cases av:ru P t<;>simp[av,xk]at ax))
 | string s=>
   cases v<;>simp only[uI]at ax
   case string gY=>have:=B.AG;subst this;have:=Z.AG;subst this;refine⟨Dp op s gY,Oj b2 (TV (by simp[h6]) (by simp[h6,wz])) (by rw[h6,y2];exact aG9 ax),?_⟩;simp only[mU];exact .c4 (by cases op<;>simp_all [Dp,NX,ew])
   all_goals(cases op<;>first|cases ax|(cases av:ru P t<;>simp[av,xk]at ax))
 | _=>
   simp only[uI]at ax;have pd:op= .eql\/op= .neq:=(by cases op<;>first|exact .inl rfl|exact .inr rfl|cases ax);have xA:=ax;rcases pd with rfl|rfl
   ·obtain⟨A,E,ao⟩:=aqm (w:=w) (.inl rfl) xA B Z;exact⟨_,Oj b2 (TV (by rw[h6];exact E) (by rw[h6];exact ao)) (by rw[h6,y2];exact A),.c4 (by simp[mU,ew])⟩
   ·obtain⟨A,E,ao⟩:=aqm (w:=w) (.inr rfl) xA B Z;exact⟨_,Oj b2 (TV (by rw[h6];exact E) (by rw[h6];exact ao)) (by rw[h6,y2];exact A),.c4 (by simp[mU,ew])⟩
end
section
variable {P:Program} {w:World} {o:Oper} {a:Act}
def zQ(x:Option Value)(VJ:Nat)(n:Nat):Prop:=(x=none/\n=VJ)\/ ∃(k:IntKind) (i:Int),x=some (.int k i)/\0<=i/\i.toNat=n
theorem A7{k:IntKind}{i:Int}{y n:Nat}{c:BoundsCode}(bX:0<=i)(A:i.toNat=n)(E:n<=y):(Instr.sliceBound (.int k i) y c).run P w= .ok n w:=by
 have:i<=(y:Int):=by omega
 simp[Instr.sliceBound,asIntOf,bX,this,A]
theorem acX{S5:Bool}{len cap l h:Nat}{bh Y:Option Value}(aA:zQ bh 0 l)(bV:zQ Y len h)(A:l<=h)(E:h<=cap):
 (Instr.sliceBounds S5 len cap bh Y none).run P w= .ok (l,h,cap) w:=by
 rcases aA with⟨rfl,rfl⟩|⟨k,i,rfl,Hd,q0⟩<;>rcases bV with⟨rfl,rfl⟩|⟨fk,du,rfl,K4,pT⟩
 ·simp[Instr.sliceBounds]
 ·simp[Instr.sliceBounds,A7 K4 pT E]
 ·simp[Instr.sliceBounds,A7 Hd q0 A]
 ·simp[Instr.sliceBounds,A7 K4 pT E,A7 Hd q0 A]
theorem aKx{t:TypeId}{x:Operand}{bh Y:Option Operand}{s:ByteArray}{l h:Nat}(b2:o.op= .slice t x bh Y none)(a8:P.underlying t=some .string)(B:a.eval x= .string s)
 (aA:zQ (bh.map a.eval) 0 l) (bV:zQ (Y.map a.eval) s.size h) (A:l<=h) (E:h<=s.size):kh P o a w (.string (s.extract l h)) w:=by
 refine .inl ?_;simp[execOp,b2,B,Instr.sliceAt,Instr.slice,run_underlying a8,acX aA bV A E]
theorem asc{t e:TypeId}{x:Operand}{bh Y:Option Operand}{p:Option Addr}{len cap:Nat}{b3:TypeInfo}{l h:Nat}(b2:o.op= .slice t x bh Y none)(a8:P.underlying t=some (.slice e))(ih:P.info? e=some b3)
 (B:a.eval x= .slice p len cap) (aA:zQ (bh.map a.eval) 0 l) (bV:zQ (Y.map a.eval) len h) (A:l<=h) (E:h<=cap):
 kh P o a w (.slice (if cap=l then p else p.map (·.add (l*b3.size))) (h-l) (cap-l)) w:=by
 refine .inl ?_;simp[execOp,b2,B,Instr.sliceAt,Instr.slice,run_underlying a8,acX aA bV A E,sizeOf,typeInfo,ih]
theorem aKw{t e:TypeId}{x:Operand}{eG:Addr}{n:Nat}{b3:TypeInfo}(b2:o.op= .slice t x none none none)(ag:P.underlying t=some (.array n e))(ih:P.info? e=some b3)
 (B:a.eval x= .pointer (some eG)):kh P o a w (.slice (some (if n=0 then eG else eG.add (0*b3.size))) (n-0) (n-0)) w:=by
 refine .inl ?_;have hb:=acX (P:=P) (w:=w) (S5:=false) (len:=n) (cap:=n) (l:=0) (h:=n) (bh:=none) (Y:=none) (.inl ⟨rfl,rfl⟩) (.inl ⟨rfl,rfl⟩) (gd _) (c8 _);simp[execOp,b2,B,Instr.sliceAt,Instr.sureAddr,run_underlying ag,hb,sizeOf,typeInfo,ih]
theorem aG0{S5:Bool}{len cap l h m:Nat}{bh:Option Value}{Y fP:Value}(aA:zQ bh 0 l)(bV: ∃(k:IntKind) (i:Int),Y= .int k i/\0<=i/\i.toNat=h)(al: ∃(k:IntKind) (i:Int),fP= .int k i/\0<=i/\i.toNat=m)(A:l<=h)(E:h<=m)(ao:m<=cap):
 (Instr.sliceBounds S5 len cap bh (some Y) (some fP)).run P w= .ok (l,h,m) w:=by
 obtain⟨fk,du,rfl,K4,pT⟩:=bV;obtain⟨cC,nT,rfl,Ax,l9⟩:=al;rcases aA with⟨rfl,rfl⟩|⟨k,i,rfl,Hd,q0⟩
 ·simp[Instr.sliceBounds,A7 Ax l9 ao,A7 K4 pT E]
 ·simp[Instr.sliceBounds,A7 Ax l9 ao,A7 K4 pT E,A7 Hd q0 A]
theorem asb{t e:TypeId}{x Y fP:Operand}{bh:Option Operand}{p:Option Addr}{len cap:Nat}{b3:TypeInfo}{l h m:Nat}(b2:o.op= .slice t x bh (some Y) (some fP))(a8:P.underlying t=some (.slice e))(ih:P.info? e=some b3)
 (B:a.eval x= .slice p len cap) (aA:zQ (bh.map a.eval) 0 l) (bV: ∃(k:IntKind) (i:Int),a.eval Y= .int k i/\0<=i/\i.toNat=h) (al: ∃(k:IntKind) (i:Int),a.eval fP= .int k i/\0<=i/\i.toNat=m) (A:l<=h) (E:h<=m) (ao:m<=cap):
 kh P o a w (.slice (if m=l then p else p.map (·.add (l*b3.size))) (h-l) (m-l)) w:=by
 refine .inl ?_;simp[execOp,b2,B,Instr.sliceAt,Instr.slice,run_underlying a8,aG0 aA bV al A E ao,sizeOf,typeInfo,ih]
theorem D0{ak:Ren}{da:Nat}{z:aD}(H:hl ak da z a){x:Option Operand}(B:ID x=true)(ax:p4 z x=true)(d:Nat)(bX:0<=hs z x d):zQ (x.map a.eval) d (hs z x d).toNat:=by
 cases x with
 |none=>exact .inl ⟨rfl,by simp[hs]⟩
 | some x=>
   have ar:=H.S (x:=x) B;simp only[p4]at ax;simp only[hs]at bX⊢;cases M:S z x<;>simp[M,fu]at ax;rw[M]at ar;refine .inr ⟨_,_,by simp[ar.tS];exact⟨rfl,rfl⟩,?_,?_⟩
   ·simpa[M,eZ]using bX
   ·simp[eZ]
theorem ahf(off:Nat): ∀(vs:List Value) (j:Nat) (cs:Array Value),((vs.zipIdx j).foldl (λcs (c,j)=>cs.setIfInBounds (off+j) c) cs).toList=gV cs.toList (off+j) vs
 |[],_,_=>rfl
 | v::vs,j,cs=>by simp only[List.zipIdx_cons,zN,gV];rw[ahf off vs (j+1)];simp[n5]
theorem avu(off:Nat)(v:Value)(cs:Array Value):(v.cells.zipIdx.foldl (λcs (c,j)=>cs.setIfInBounds (off+j) c) cs).toList=gV cs.toList off v.cells.toList:=by have:=ahf off v.cells.toList 0 cs;simp only[ux]at this;rw[<-this,<-Array.foldl_toList];simp[Array.toList_zipIdx]
theorem GN: ∀(vs:List Value) (off:Nat) (cs:List Value),(gV cs off vs).length=cs.length
 |[],_,_=>rfl
 |v::vs,off,cs=>by simp only[gV];rw[GN vs];simp
theorem Vo(p:Value->Prop): ∀(vs:List Value) (off:Nat) (cs:List Value),(∀x∈cs,p x)->(∀x∈vs,p x)-> ∀x∈gV cs off vs,p x
 |[],_,_,h,_=>h
 | v::vs,off,cs,h,E=>by
   simp only[gV];refine Vo p vs _ _ (λx B=> ?_) (λx B=>E x (by simp[B]));rcases Gu B with ao|ao
   ·exact h x ao
   ·subst ao;exact E _ (by simp)
theorem Pz{ak:Ren}{da:Nat}{z:aD}(H:hl ak da z a)(zm:Nat->Option (Nat×Nat)): ∀(ps:List (Nat×Operand)) (h8:List (Nat×Nat×Operand)) (cs:List Value) (ds:Array Value),
 (ps.length=h8.length/\ ∀(i:Nat) p q,ps[i]?=some p->h8[i]?=some q->p.2=q.2.2/\di p.2=true/\zm p.1=some (q.1,q.2.1))->
 dd ak cs ds.toList->(∀x∈cs,ad x=true)->r3 cs z h8=true-> ∃gB:Array Value,Instr.fill zm ds (ps.map λp=>(p.1,a.eval p.2))=some gB/\dd ak (ns cs z h8) gB.toList/\(∀x∈ns cs z h8,ad x=true)
 |[],[],cs,ds,_,ar,aC,_=>⟨ds,rfl,ar,aC⟩
 |[],_::_,_,_,sJ,_,_,_=>by simp at sJ
 |_::_,[],_,_,sJ,_,_,_=>by simp at sJ
 | p::ps,(a9,bW,cA)::h8,cs,ds,sJ,ar,aC,ax=>by obtain⟨aG,aN,ct⟩:=sJ.2 0 p (a9,bW,cA) rfl rfl;dsimp only at aG ct;simp only[r3,m9,a7,eF]at ax;have M:=H.S (x:=p.2) aN;rw[aG]at M;have av:=aeu M;have aA:(a.eval cA).cells.size=bW:=(by have:=av.1;simp only[Array.length_toList]at this;rw[<-this];exact ax.1.1.2);have aW:ds.size=cs.length:=(by have:=ar.1;simp at this;exact this.symm);have wv:dd ak (gV cs a9 (ab (S z cA))) ((a.eval cA).cells.zipIdx.foldl (λcs (c,j)=>cs.setIfInBounds (a9+j) c) ds).toList:=(by rw[avu];exact ar.gV _ av);have hp: ∀x∈gV cs a9 (ab (S z cA)),ad x=true:=Vo (λx=>ad x=true) _ _ _ aC (aet M ax.1.1.1);obtain⟨gB,A,E,ao⟩:=Pz H zm ps h8 _ _ ⟨by simpa using sJ.1,λi x y B Z=>sJ.2 (i+1) x y (by simpa using B) (by simpa using Z)⟩ wv hp (by have ao:=ax.2;simp only[r3,GN]at ao⊢;exact ao);refine⟨gB,?_,by simpa only[ns]using E,by simpa only[ns]using ao⟩;simp only[lW,Instr.fill,aG,ct,aA,ne_eq,not_true_eq_false,decide_false,Bool.false_or];rw[if_neg (by simp;omega)];exact A
theorem ahc{fs:Array Field}: ∀(ps:List (Nat×Operand)) (h8:List (Nat×Nat×Operand)),Kk P fs ps=some h8->
 ps.length=h8.length/\ ∀(i:Nat) p q,ps[i]?=some p->h8[i]?=some q->p.2=q.2.2/\di p.2=true/\ ∃f b3,fs[p.1]?=some f/\P.info? f.type=some b3/\q.1=f.offset/\q.2.1=b3.size
 |[],h8,h=>by simp[Kk]at h;subst h;simp
 | (j,x)::ps,h8,h=>by
   simp only[Kk]at h;split at h
   ·rename_i f bb;split at h
    ·rename_i n cH aj Xy;split at h
     ·rename_i B;cases h;obtain⟨A,E⟩:=ahc ps cH Xy;refine⟨by simp[A],λi p q ae bg=> ?_⟩;cases i with
      | zero=>
        simp at ae bg;subst ae;subst bg;unfold mj at aj;cases Y:P.info? f.type with
        |none=>simp[Y]at aj
        |some b3=>exact⟨rfl,B,f,b3,bb,Y,rfl,by simpa[Y]using aj.symm⟩
      |succ i=>exact E i p q (by simpa using ae) (by simpa using bg)
     ·cases h
    ·cases h
   ·cases h
theorem VW{I:Nat}: ∀(ps:List (Nat×Operand)) (h8:List (Nat×Nat×Operand)),D9 I ps=some h8->
 ps.length=h8.length/\ ∀(i:Nat) p q,ps[i]?=some p->h8[i]?=some q->p.2=q.2.2/\di p.2=true/\q.1=p.1*I/\q.2.1=I
 |[],h8,h=>by simp[D9]at h;subst h;simp
 | (j,x)::ps,h8,h=>by
   simp only[D9]at h;split at h
   ·rename_i cH Xy;split at h
    ·rename_i B;cases h;obtain⟨A,E⟩:=VW ps cH Xy;refine⟨by simp[A],λi p q ae bg=> ?_⟩;cases i with
     |zero=>simp at ae bg;subst ae;subst bg;exact⟨rfl,B,rfl,rfl⟩
     |succ i=>exact E i p q (by simpa using ae) (by simpa using bg)
    ·cases h
   ·cases h
theorem Dv{t:TypeId}{I:List Value}(h:se P t=some I): ∃b3 iJ,P.info? t=some b3/\b3.zero=some iJ/\iJ.cells.toList=I/\I.all ew=true/\I.length=b3.size:=by
 unfold se at h;split at h
 ·rename_i b3 Y;split at h
  ·rename_i iJ bE;simp only at h;split at h
   ·rename_i av;cases h;simp only[a7,eF]at av;exact⟨b3,iJ,Y,bE,rfl,av.1,av.2⟩
   ·cases h
  ·cases h
 ·cases h
theorem vF{t:TypeId}{n:Nat}(h:mj P t=some n): ∃b3,P.info? t=some b3/\b3.size=n:=by
 unfold mj at h;cases Y:P.info? t with
 |none=>simp[Y]at h
 |some b3=>exact⟨b3,rfl,by simpa[Y]using h⟩
theorem aej{t:TypeId}{b:Bool}(h:rr P t=some b):(isAgg t).run P w= .ok b w:=by
 unfold rr at h;unfold isAgg;split at h<;>first|cases h|skip
 ·rename_i ba;simp[run_underlying ba]
 ·rename_i ba;simp[run_underlying ba]
 ·rename_i d A E ba;simp only[Sem.run_bind,run_underlying ba,Result.andThen_ok];rfl
theorem aDW(fs:List Field)(h:fs.all (λf=>(mj P f.type).isSome)=true):
 ∃zl:List (Nat×Nat),(fs.mapM (m:=Sem) λ(f:Field)=>do pure (f.offset,<-sizeOf f.type)).run P w= .ok zl w/\ ∀i:Nat,zl[i]?=(fs[i]?).bind λ(f:Field)=>(P.info? f.type).map λb3=>(f.offset,b3.size):=by
 induction fs with
 |nil=>exact⟨[],by simp,by simp⟩
 | cons f fs cj=>
   simp only[m9,a7]at h;obtain⟨zl,A,E⟩:=cj h.2;obtain⟨n,aj⟩:=Ou.1 h.1;obtain⟨b3,Y,_⟩:=vF aj;refine⟨(f.offset,b3.size)::zl,?_,λi=> ?_⟩
   ·simp[List.mapM_cons,sizeOf,typeInfo,Y]at A⊢;simp[A]
   ·cases i with
    |zero=>simp[Y]
    |succ i=>simpa using E i
end
section
variable {P:Program} {w:World} {o:Oper} {a:Act}
theorem aKe{t:TypeId}{ps:Array (Nat×Operand)}{cells:Array Value}{b3:TypeInfo}{I:Value}{fs:Array Field}(b2:o.op= .build t ps)(Y:P.info? t=some b3)(bE:b3.zero=some I)
 (a8:P.underlying t=some (.struct fs)) (mA:fs.toList.all (λf=>(mj P f.type).isSome)=true)
 (bb: ∀zm:Nat->Option (Nat×Nat),(∀i,zm i=(fs[i]?).bind λ(f:Field)=>(P.info? f.type).map λb3=>(f.offset,b3.size))->Instr.fill zm I.cells (ps.toList.map λp=>(p.1,a.eval p.2))=some cells):
 kh P o a w (.agg cells) w:=by
 refine .inl ?_;obtain⟨zl,A,E⟩:=aDW (P:=P) (w:=w) fs.toList mA;have ao:=bb (λi=>zl.toArray[i]?) (λi=>by simpa using E i);have bI:(fs.mapM (m:=Sem) λ(f:Field)=>do pure (f.offset,<-sizeOf f.type)).run P w= .ok zl.toArray w:=by rw[Array.mapM_eq_mapM_toList];simp only[Sem.run_map,A];rfl
 simp only[execOp,b2,Instr.build,Sem.run_bind,run_underlying a8,zeroValue,typeInfo,run_program,Y,bE,Sem.run_pure,Result.andThen_ok,bI];have cZ:Instr.fill (λx=>zl[x]?) I.cells (List.map (λx=>(x.fst,a.eval x.snd)) ps.toList)=some cells:=by simpa using ao
 simp[cZ]
theorem aKm{t:TypeId}{x:Operand}{i:Nat}{fs:Array Field}{f:Field}{b3:TypeInfo}{b:Bool}{cs:Array Value}(b2:o.op= .field t x i)(a8:P.underlying t=some (.struct fs))(bb:fs[i]?=some f)
 (Y:P.info? f.type=some b3) (hb:rr P f.type=some b) (B:a.eval x= .agg cs) (aj:f.offset+b3.size<=cs.size) (A:b=true\/b3.size=1):
 kh P o a w (if b then .agg (cs.toList.drop f.offset|>.take b3.size).toArray else cs.toList.getD f.offset undef) w:=by
 refine .inl ?_;have E:=aej (w:=w) hb;simp only[execOp,b2,B,Instr.field,Sem.run_bind,run_underlying a8,Result.andThen_ok,bb,asAgg,Sem.run_pure,part,E];cases b
 ·have ao:b3.size=1:=(by simpa using A);have aS:f.offset<cs.size:=(by omega);simp[aS]
 ·simp only[if_true,Sem.run_bind,sizeOf,typeInfo,run_program,Y,Sem.run_pure,Result.andThen_ok];congr 3;apply DK.1;simp[Array.toList_extract]
theorem aKf{t e:TypeId}{n:Nat}{ps:Array (Nat×Operand)}{cells:Array Value}{b3 HC:TypeInfo}{I:Value}(b2:o.op= .build t ps)(Y:P.info? t=some b3)(bE:b3.zero=some I)
 (a8:P.underlying t=some (.array n e)) (aU:P.info? e=some HC)
 (bb:Instr.fill (λi=>some (i*HC.size,HC.size)) I.cells (ps.toList.map λp=>(p.1,a.eval p.2))=some cells):kh P o a w (.agg cells) w:=by
 refine .inl ?_;simp[execOp,b2,Instr.build,run_underlying a8,zeroValue,sizeOf,typeInfo,Y,bE,aU,bb]
theorem aqq(fP:Bool): ∀(xs:List Value) (dY:Value),fu dY=true->(∀x∈xs,fu x=true)->
 (xs.foldlM (m:=Sem) (if fP then Builtin.max2 else Builtin.min2) dY).run P w= .ok (xs.foldl (λdY y=>if fP then pZ dY y else p1 dY y) dY) w
 |[],_,_,_=>by simp
 | x::xs,dY,h,B=>by have A:((if fP then Builtin.max2 else Builtin.min2) dY x).run P w= .ok (if fP then pZ dY x else p1 dY x) w:=(by have XO:=B x (by simp);cases dY<;>simp[fu]at h;cases x<;>simp[fu]at XO;cases fP<;>simp[Builtin.max2,Builtin.min2,pZ,p1]);have E:fu (if fP then pZ dY x else p1 dY x)=true:=(by have XO:=B x (by simp);cases dY<;>simp[fu]at h;cases x<;>simp[fu]at XO;cases fP<;>simp[pZ,p1,fu]);simp only[List.foldlM_cons,Sem.run_bind,A,Result.andThen_ok,zN];exact aqq fP xs _ E (λy Z=>B y (by simp[Z]))
theorem asa{c:Call}{fP:Bool}{x:Operand}{xs:List Operand}(b2:o.op= .call c)(av:c.callee= .builtin (if fP then .max else .min))(ag:c.args.toList=x::xs)
 (A:fu (a.eval x)=true) (E: ∀y∈xs,fu (a.eval y)=true):kh P o a w (xs.foldl (λdY y=>if fP then pZ dY (a.eval y)else p1 dY (a.eval y)) (a.eval x)) w:=by
 refine .inl ?_;have ao:(c.args.map a.eval).toList=a.eval x::xs.map a.eval:=by simp[ag]
 have aS:=aqq (P:=P) (w:=w) fP (xs.map a.eval) (a.eval x) A (by simpa using E);rw[List.foldl_map]at aS;cases fP
 ·simp only[execOp,b2,resolve,av,invoke,builtin,Sem.run_bind,Sem.run_pure,Result.andThen_ok,jO,if_false,Builtin.min_,ao];simp only[jO,if_false]at aS;simp[aS]
 ·simp only[execOp,b2,resolve,av,invoke,builtin,Sem.run_bind,Sem.run_pure,Result.andThen_ok,if_true,Builtin.max_,ao];simp only[if_true]at aS;simp[aS]
theorem O8: ∀(bB cC:List sm) (xs ys:List Value),jF (bB++cC) xs ys=true->jF bB (xs.take bB.length) (ys.take bB.length)=true/\jF cC (xs.drop bB.length) (ys.drop bB.length)=true/\
 od xs ys=(od (xs.take bB.length) (ys.take bB.length)&&od (xs.drop bB.length) (ys.drop bB.length))
 |[],cC,xs,ys,h=>by simpa[jF,od]using h
 |k::bB,cC,[],ys,h=>by simp[jF]at h
 |k::bB,cC,x::xs,[],h=>by simp[jF]at h
 | k::bB,cC,x::xs,y::ys,h=>by simp only[uu,jF,a7]at h;obtain⟨A,E,ao⟩:=O8 bB cC xs ys h.2;exact⟨by simp[jF,h.1,A],by simpa using E,by simp[od,ao,Bool.and_assoc]⟩
theorem O9: ∀(gh:List sm) (xs ys:List Value),jF gh xs ys=true->xs.length=gh.length/\ys.length=gh.length
 |[],[],[],_=>by simp
 |[],[],_::_,h=>by simp[jF]at h
 |[],_::_,_,h=>by simp[jF]at h
 |_::_,[],_,h=>by simp[jF]at h
 |_::_,_::_,[],h=>by simp[jF]at h
 | k::gh,x::xs,y::ys,h=>by simp only[jF,a7]at h;have:=O9 gh xs ys h.2;simp[this]
def w9(dE:Bool)(xs:List Value):Value:=if dE then .agg xs.toArray else xs.headD undef
theorem AO{xs:List Value}(h:xs.length=1): ∃x,xs=[x]:=by
 match xs,h with
 |[x],_=>exact⟨x,rfl⟩
theorem TH{t:TypeId}{b:Bool}{n off:Nat}{xs:List Value}(hb:rr P t=some b)(aj:mj P t=some n)(A:b=true\/n=1)(aA:off+n<=xs.length):
 (part t xs.toArray off).run P w= .ok (w9 b ((xs.drop off).take n)) w:=by
 obtain⟨b3,Y,rfl⟩:=vF aj;simp only[part,Sem.run_bind,aej hb,Result.andThen_ok];cases b
 ·have E:b3.size=1:=(by simpa using A);have ao:off<xs.length:=(by omega);simp only[jO,if_false,w9,E];simp[c6 ao,List.take_one,List.headD]
 ·simp only[if_true,Sem.run_bind,sizeOf,typeInfo,run_program,Y,Sem.run_pure,Result.andThen_ok,w9];congr 2;apply DK.1;simp
theorem Px: ∀(d b1:Nat) (t:TypeId) (gh:List sm) (xs ys:List Value),xj P d t=some gh->d<=b1->jF gh xs ys=true->
 ∃b,rr P t=some b/\mj P t=some gh.length/\(b=true\/gh.length=1)/\(Op.equalIn b1 t (w9 b xs) (w9 b ys)).run P w= .ok (od xs ys) w
 |0,_,_,_,_,_,h,_,_=>by simp[xj]at h
 |d+1,0,_,_,_,_,_,h,_=>by omega
 | d+1,b1+1,t,gh,xs,ys,h,ir,aA=>by
   obtain⟨MT,jJ⟩:=O9 gh xs ys aA;unfold xj at h;split at h
   ·rename_i n ba aj;split at h<;>cases h;rename_i e;subst e;obtain⟨x,rfl⟩:=AO MT;obtain⟨y,rfl⟩:=AO jJ;refine⟨false,by simp[rr,ba],aj,.inr rfl,?_⟩;cases x<;>cases y<;>simp[jF,BP]at aA;simp only[w9,jO,if_false,List.headD_cons,od,qa,Bool.and_true];exact run_equalIn_bool' w b1 t _ _ ba
   ·rename_i k n ba aj;split at h<;>cases h;rename_i e;subst e;obtain⟨x,rfl⟩:=AO MT;obtain⟨y,rfl⟩:=AO jJ;refine⟨false,by simp[rr,ba],aj,.inr rfl,?_⟩;cases x<;>cases y<;>simp[jF,BP]at aA;subst aA;simp only[w9,jO,if_false,List.headD_cons,od,qa,Bool.and_true];exact run_equalIn_int w b1 t _ _ _ _ ba
   ·rename_i n ba aj;split at h<;>cases h;rename_i e;subst e;obtain⟨x,rfl⟩:=AO MT;obtain⟨y,rfl⟩:=AO jJ;refine⟨false,by simp[rr,ba],aj,.inr rfl,?_⟩;cases x<;>cases y<;>simp[jF,BP]at aA;simp only[w9,jO,if_false,List.headD_cons,od,qa,Bool.and_true];rw[run_equalIn_string w b1 t _ _ ba,toList_beq]
   ·rename_i fs n ba aj;split at h
    ·rename_i aSD uX;split at h
     ·rename_i av;cases h;simp only[a7,eF,sj]at av;obtain⟨rfl,kI⟩:=av;refine⟨true,by simp[rr,ba],aj,.inl rfl,?_⟩;simp only[w9,if_true];have tH:P.fieldsOf t=fs:=(by simp[Program.fieldsOf,ba]);rw[run_equalIn_struct w b1 t _ _ (by rw[tH];exact ba) kI,tH]
      -- pF aPy,mK JQ pF ua
      have key: ∀(au:List Field) (off:Nat) (Td:List sm),Kf (xj P d) au off=some Td->jF Td (xs.drop off) (ys.drop off)=true->
       (Op.eqFields b1 xs.toArray ys.toArray au).run P w= .ok (od (xs.drop off) (ys.drop off)) w:=by
       intro au;induction au with
       | nil=>intro off Td A E;simp[Kf]at A;subst A;cases B:xs.drop off<;>cases Z:ys.drop off<;>simp[B,Z,jF]at E;simp[Op.eqFields,od]
       | cons f au cj=>
         intro off Td A E;simp only[Kf]at A;split at A
         ·rename_i av;simp only[a7,bne_iff_ne,ne_eq,beq_iff_eq]at av;obtain⟨ma,Hn⟩:=av;split at A
          ·rename_i bB nP;split at A
           ·rename_i cC q1;split at A<;>cases A;rename_i aiG;obtain⟨aE,a5,ch⟩:=O8 bB cC _ _ E;obtain⟨b,aG,aN,ct,gC⟩:=Px d b1 f.type bB _ _ nP (by omega) aE;have hS:=(O9 _ _ _ E);simp only[Jl,iD]at hS;have dC:=TH (w:=w) (off:=off) (xs:=xs) aG aN ct (by omega);have fK:=TH (w:=w) (off:=off) (xs:=ys) aG aN ct (by omega);simp only[DO]at a5 ch;have ao:=cj (off+bB.length) cC q1 a5;simp only[Op.eqFields,ma,ne_eq,not_false_eq_true,if_true,Sem.run_bind,Hn,dC,fK,Result.andThen_ok,gC,ch,Sem.run_ite,Sem.run_pure,ao];cases od (List.take bB.length (List.drop off xs)) (List.take bB.length (List.drop off ys))<;>simp
           ·cases A
          ·cases A
         ·cases A
      have:=key fs.toList 0 _ uX (by simpa using aA);simpa using this
     ·cases h
    ·cases h
   ·-- Vj array
    rename_i k e n ba aj;split at h
    ·rename_i bB uX;split at h
     ·rename_i av;cases h;simp only[a7,eF]at av;obtain⟨rfl,aiG⟩:=av;have dc: ∀r:Nat,(List.replicate r bB).flatten.length=r*bB.length:=by
       intro r;induction r with
       |zero=>simp
       |succ r cj=>rw[Jp,td,iD,cj,oC];omega
      refine⟨true,by simp[rr,ba],by rw[aj,dc],.inl rfl,?_⟩;simp only[w9,if_true];by_cases xy:k=0
      ·subst xy;simp only[List.replicate_zero,List.flatten_nil]at aA MT jJ;have aG:xs=[]:=si.1 MT;have aN:ys=[]:=si.1 jJ;subst aG aN;simp[Op.equalIn,run_underlying ba,od,sizeOf,typeInfo];cases Y:P.info? e with
       | none=>
         -- pF aPr type CH aSC,bz aSv kinds aOf
         exfalso;cases d with
         |zero=>simp[xj]at uX
         | succ d=>unfold xj at uX;have:mj P e=none:=(by simp[mj,Y]);simp[this]at uX
       |some i=>simp
      ·obtain⟨eX,rfl⟩: ∃eX,k=eX+1:=⟨k-1,by omega⟩;have oP:=aA;rw[Jp,td]at oP;obtain⟨aE,_,_⟩:=O8 bB _ xs ys oP;obtain⟨pM,_,aN,_,_⟩:=Px d b1 e bB _ _ uX (by omega) aE;obtain⟨b3,Y,kk⟩:=vF aN;have Ar:P.cellsOf e=bB.length:=(by simp[Program.cellsOf,Y,kk]);rw[run_equalIn_array w b1 xs.toArray ys.toArray ba Y,Ar,List.range_eq_range']
       have key: ∀(r j:Nat),jF (List.replicate r bB).flatten (xs.drop (j*bB.length)) (ys.drop (j*bB.length))=true->
        (Op.eqItems b1 e bB.length xs.toArray ys.toArray (List.range' j r)).run P w= .ok (od (xs.drop (j*bB.length)) (ys.drop (j*bB.length))) w:=by
        intro r;induction r with
        | zero=>intro j E;simp only[List.replicate_zero,List.flatten_nil]at E;cases B:xs.drop (j*bB.length)<;>cases Z:ys.drop (j*bB.length)<;>simp[B,Z,jF]at E;simp[Op.eqItems,od]
        | succ r cj=>intro j E;rw[Jp,td]at E;obtain⟨aE,a5,ch⟩:=O8 bB _ _ _ E;obtain⟨b,aG,aN,ct,gC⟩:=Px d b1 e bB _ _ uX (by omega) aE;have hS:=O9 _ _ _ E;simp only[Jl,iD]at hS;have dC:=TH (w:=w) (off:=j*bB.length) (xs:=xs) aG aN ct (by omega);have fK:=TH (w:=w) (off:=j*bB.length) (xs:=ys) aG aN ct (by omega);simp only[DO]at a5 ch;have aV:j*bB.length+bB.length=(j+1)*bB.length:=(by rw[oC];omega);rw[aV]at a5 ch;have ao:=cj (j+1) a5;rw[List.range'_succ];simp only[Op.eqItems,Sem.run_bind,dC,fK,Result.andThen_ok,gC,ch,Sem.run_ite,Sem.run_pure,ao];cases od (List.take bB.length (List.drop (j*bB.length) xs)) (List.take bB.length (List.drop (j*bB.length) ys))<;>simp
       have:=key (eX+1) 0 (by simpa using aA);simpa using this
     ·cases h
    ·cases h
   ·cases h
termination_by d=>d
theorem aKj{op:BinOp}{t DD:TypeId}{x y:Operand}{gh:List sm}{xs ys:Array Value}(kx:Bool)(b2:o.op= .binOp op t x y DD)(aU:op=if kx then .neq else .eql)(bb:xj P 8 t=some gh)
 (aH:P.eqGuardType P.depth t=false) (fm:ru P t= .agg) (B:a.eval x= .agg xs) (Z:a.eval y= .agg ys) (aA:jF gh xs.toList ys.toList=true):
 kh P o a w (.bool (if kx then !od xs.toList ys.toList else od xs.toList ys.toList)) w:=by
 obtain⟨b,A,_,_,aS⟩:=Px (P:=P) (w:=w) 8 10000 t gh xs.toList ys.toList bb (by omega) aA;have hb:b=true:=by
  unfold ru at fm;unfold rr at A;split at fm<;>first|cases fm|skip
  ·rename_i ba;simp only[ba]at A;cases A;rfl
  ·rename_i ba;simp only[ba]at A;cases A;rfl
 subst hb;simp only[w9,if_true,tc]at aS;refine Oj b2 (by rw[B,Z];exact run_eqGuard_agg w op t x y xs ys aH) ?_;rw[B,Z];cases kx
 ·simp only[jO,if_false]at aU⊢;subst aU;rw[run_eql_struct,aS];rfl
 ·simp only[if_true]at aU⊢;subst aU;rw[run_neq_struct,aS];rfl
end
def an.pure:an->Bool
 | .nD _| .oK _| .mv _ _ _ _| .hq _ _ _| .s5 _ _ _| .store _ _ _| .pN _| .qb _| .ov _ _ _ _ _| .app _ _ _ _| .o8 _ _ _ _ _| .hW _ _| .l2 _ _| .nc _ _| .mE _ _ _| .re| .rf _ _ _ _ _| .po _ _ _ _=>false
 |_=>true
section
variable {P:Program} {w:World} {o:Oper} {a:Act} {ak:Ren} {da:Nat} {z:aD} {m:G}
theorem Il(H:hl ak da z a): ∀(xs:List Operand),xs.all di=true->dd ak (xs.map (S z)) (xs.map a.eval)
 |xs,h=>dd.Io _ _ xs λx B=>H.S (ei.1 h x B)
theorem anM{v:Value}(h:fu v=true):ew v=true:=by cases v<;>simp[fu]at h<;>rfl
theorem tU{bf v:Value}(h:dX ak bf v)(Y:fu bf=true):v=bf/\ ∃k n,bf= .int k n:=by cases bf<;>simp[fu]at Y;exact⟨h.tS,_,_,rfl⟩
theorem abC(fP:Bool)(H:hl ak da z a): ∀(xs:List Operand) (dY:Value),xs.all di=true->(xs.all λy=>fu (S z y))=true->
 xs.foldl (λdY y=>if fP then pZ dY (a.eval y)else p1 dY (a.eval y)) dY=xs.foldl (λdY y=>if fP then pZ dY (S z y)else p1 dY (S z y)) dY
 |[],_,_,_=>rfl
 | x::xs,dY,A,E=>by simp only[m9,a7]at A E;have:=(tU (H.S A.1) E.1).1;simp only[zN,this];exact abC fP H xs _ A.2 E.2
theorem abB(fP:Bool): ∀(xs:List Operand) (dY:Value),fu dY=true->(xs.all λy=>fu (S z y))=true->
 fu (xs.foldl (λdY y=>if fP then pZ dY (S z y)else p1 dY (S z y)) dY)=true
 |[],_,h,_=>h
 | x::xs,dY,A,E=>by simp only[m9,a7]at E;simp only[zN];refine abB fP xs _ ?_ E.2;cases dY<;>simp[fu]at A;have ao:=E.1;cases B:S z x<;>simp[B,fu]at ao;cases fP<;>simp[pZ,p1,fu]
theorem agn: ∀(gh:List sm) (xs ys dD vs:List Value),jF gh xs ys=true->dd ak xs dD->dd ak ys vs->dD=xs/\vs=ys
 | [],[],[],dD,vs,_,A,E=>by have aG:=A.1;have aN:=E.1;simp at aG aN;exact⟨si.1 aG.symm,si.1 aN.symm⟩
 |[],[],_::_,_,_,h,_,_=>by simp[jF]at h
 |[],_::_,_,_,_,h,_,_=>by simp[jF]at h
 |_::_,[],_,_,_,h,_,_=>by simp[jF]at h
 |_::_,_::_,[],_,_,h,_,_=>by simp[jF]at h
 |_::_,_::_,_::_,[],_,_,h,_=>by simp[dd]at h
 |_::_,_::_,_::_,_::_,[],_,_,h=>by simp[dd]at h
 | k::gh,x::xs,y::ys,bf::dD,v::vs,h,A,E=>by simp only[jF,a7]at h;obtain⟨aG,aN⟩:=agn gh xs ys dD vs h.2 ⟨by simpa using A.1,λi p q ae bg=>A.2 (i+1) p q (by simpa using ae) (by simpa using bg)⟩ ⟨by simpa using E.1,λi p q ae bg=>E.2 (i+1) p q (by simpa using ae) (by simpa using bg)⟩;have eK:=A.2 0 x bf rfl rfl;have gp:=E.2 0 y v rfl rfl;have aA:=h.1;have ej:ew x=true/\ew y=true:=(by cases k<;>cases x<;>cases y<;>simp[BP]at aA<;>exact⟨rfl,rfl⟩);exact⟨by rw[aG,eK.hB ej.1],by rw[aN,gp.hB ej.2]⟩
theorem ag3{op:BinOp}{t DD:TypeId}{x y:Operand}{gh:List sm}(kx:Bool)(b2:o.op= .binOp op t x y DD)(aU:op=if kx then .neq else .eql)(bb:xj P 8 t=some gh)
 (aH:P.eqGuardType P.depth t=false) (fm:ru P t= .agg) (H:hl ak da z a) (B:di x=true) (Z:di y=true) (ax:(an.Af kx gh x y).ok z m=true) (id:Nat):
 ∃bZ,kh P o a w bZ w/\dX ak ((an.Af kx gh x y).val id z m) bZ:=by
 simp only[an.ok,a7]at ax;obtain⟨⟨A,E⟩,ao⟩:=ax;have pz:=H.S B;have rn:=H.S Z;simp only[an.val];cases ba:S z x<;>simp only[ba,wz]at A<;>try cases A
 cases M:S z y<;>simp only[M,wz]at E<;>try cases E
 rename_i xs ys;rw[ba]at pz;rw[M]at rn;obtain⟨dD,aG,eK⟩:=pz.tQ;obtain⟨vs,aN,gp⟩:=rn.tQ;simp only[ba,M,ab]at ao;obtain⟨aE,a5⟩:=agn gh _ _ _ _ ao eK gp;have B3:=DK.1 aE;have xo:=DK.1 a5;subst B3;subst xo;exact⟨_,aKj kx b2 aU bb aH fm aG aN ao,.c4 rfl⟩
theorem UF{bf v:Value}(h:dX ak bf v)(Y:m0 bf=true):v=bf/\ ∃s,bf= .string s:=by cases bf<;>simp[m0]at Y;exact⟨h.AG,_,rfl⟩
theorem aFu{k:an}(O:BM P o=some k)(ae:k.pure=true)(H:hl ak da z a)(ax:k.ok z m=true)(id:Nat):
 ∃bZ,kh P o a w bZ w/\dX ak (k.val id z m) bZ:=by
 rcases O1 O with O|rfl
 rotate_left
 ·rw[arw]at ax;cases ax
 unfold GQ at O;split at O
 ·-- move
  rename_i x b2;split at O<;>cases O;rename_i B;exact⟨_,aKt b2,H.S B⟩
 ·rename_i x b2;split at O<;>cases O;rename_i B;exact⟨_,aKc b2,H.S B⟩
 ·-- vl
  rename_i c x y b2;split at O<;>cases O;rename_i B;simp only[a7]at B;have av:=H.S B.1.1;simp only[an.ok]at ax;cases M:S z c<;>simp[M,wA]at ax;rw[M]at av;refine⟨_,aKv b2 av.tR,?_⟩;simp only[an.val,M,yt];split
  ·exact H.S B.1.2
  ·exact H.S B.2
 ·-- nilCheck
  rename_i x b2;split at O<;>cases O;rename_i B;have ar:=H.S B;simp only[an.ok]at ax;refine⟨_,aKu b2 ?_,ar⟩;generalize S z x=bf at ar ax;generalize a.eval x=v at ar;cases ar<;>simp_all [CJ];rename_i fn _ _ _ _ _ _ _ _;cases fn<;>simp_all
 ·split at O<;>cases O;simp[an.pure]at ae
 ·split at O<;>cases O;simp[an.pure]at ae
 ·-- vQ
  rename_i t ps b2;split at O
  ·rename_i fs I a8 bE;split at O
   ·rename_i h8 Xt;split at O<;>cases O;rename_i mA;obtain⟨b3,iJ,Y,qm,pg,dV,dc⟩:=Dv bE;obtain⟨aE,a5⟩:=ahc _ _ Xt;simp only[an.ok]at ax
    let zm:Nat->Option (Nat×Nat):= λi=>(fs[i]?).bind λ(f:Field)=>(P.info? f.type).map λb3=>(f.offset,b3.size)
    obtain⟨ds,A,E,KB⟩:=Pz H zm ps.toList h8 I iJ.cells ⟨aE,λi p q oQ bg=>by obtain⟨aG,aN,f,X2,ct,gC,mx,l5⟩:=a5 i p q oQ bg;exact⟨aG,aN,by simp[zm,ct,gC,mx,l5]⟩⟩ (by rw[pg];exact dd.c4 ak dV) (λv M=>Ah (ei.1 dV v M)) ax;refine⟨_,aKe (cells:=ds) b2 Y qm a8 mA (λzl hg=>by have:zl=zm:=funext hg;rw[this];exact A),?_⟩;have:=E.agg KB;simp only[tc]at this;exact this
   ·cases O
  ·rename_i n e I a8 bE;split at O
   ·rename_i aYZ kk;split at O<;>cases O;rename_i h8 Xt;obtain⟨b3,iJ,Y,qm,pg,dV,dc⟩:=Dv bE;obtain⟨HC,aU,rfl⟩:=vF kk;obtain⟨aE,a5⟩:=VW _ _ Xt;simp only[an.ok]at ax;obtain⟨ds,A,E,KB⟩:=Pz H (λi=>some (i*HC.size,HC.size)) ps.toList h8 I iJ.cells ⟨aE,λi p q oQ bg=>by
     obtain⟨aG,aN,ct,gC⟩:=a5 i p q oQ bg;exact⟨aG,aN,by simp[ct,gC]⟩⟩ (by rw[pg];exact dd.c4 ak dV) (λv M=>Ah (ei.1 dV v M)) ax
    refine⟨_,aKf (cells:=ds) b2 Y qm a8 aU A,?_⟩;have:=E.agg KB;simp only[tc]at this;exact this
   ·cases O
  ·cases O
 ·repeat (split at O<;>try cases O)
  simp[an.pure]at ae
 ·repeat (split at O<;>try cases O)
  simp[an.pure]at ae
 ·repeat (split at O<;>try cases O)
  simp[an.pure]at ae
 ·-- binOp
  rename_i op t x y DD b2;split at O
  ·rename_i B;simp only[a7]at B;split at O
   ·rename_i fm;split at O
    ·rename_i gh bb;split at O<;>cases O;rename_i aH;exact ag3 false b2 rfl bb (by simpa using aH) fm H B.1 B.2 ax id
    ·rename_i gh bb;split at O<;>cases O;rename_i aH;exact ag3 true b2 rfl bb (by simpa using aH) fm H B.1 B.2 ax id
    ·cases O
   ·cases O;exact aKd b2 (H.S B.1) (H.S B.2) ax
  ·cases O
 ·-- unOp
  rename_i op t x b2;split at O<;>cases O;rename_i B;simp only[an.ok]at ax;have ar:=H.S B;have aU:a.eval x=S z x:=by cases ba:S z x<;>cases op<;>simp[ba,Bj]at ax<;>rw[ba]at ar<;>first|exact ar.tS|exact ar.tR
  refine⟨_,aKy b2 (by rw[aU];exact ax),?_⟩;simp only[an.val,aU];exact .c4 (by cases ba:S z x<;>cases op<;>simp[ba,Bj]at ax<;>simp[Gl,ew])
 ·-- convert
  rename_i s d x b2;split at O
  ·rename_i vc k b8 ir;split at O<;>cases O;rename_i B;simp only[an.ok]at ax;obtain⟨e,fk,n,M⟩:=tU (H.S B) ax;refine⟨_,aKh b2 b8 ir (by rw[e,M]),?_⟩;simp only[an.val,M,eZ];exact .c4 rfl
  ·rename_i b8 ir;split at O<;>cases O;rename_i B;simp only[an.ok]at ax;obtain⟨e,b,M⟩:=UF (H.S B) ax;refine⟨_,aKi b2 b8 ir (by rw[e,M]),?_⟩;simp only[an.val,M];exact .c4 rfl
  ·repeat (split at O<;>try cases O)
   simp[an.pure]at ae
  ·repeat (split at O<;>try cases O)
   simp[an.pure]at ae
  ·cases O
 ·repeat (split at O<;>try cases O)
  simp[an.pure]at ae
 ·-- slice
  rename_i t x bh Y fP b2;split at O
  ·rename_i a8;split at O<;>cases O;rename_i av;simp only[a7,DG]at av;obtain⟨⟨⟨B,lM⟩,yP⟩,rfl⟩:=av;simp only[an.ok,a7,eF]at ax;obtain⟨⟨⟨⟨⟨A,E⟩,ao⟩,aS⟩,bI⟩,cZ⟩:=ax;obtain⟨e,b,M⟩:=UF (H.S B) A;simp only[M,fa]at bI cZ;refine⟨_,aKx b2 a8 (by rw[e,M]) (D0 H lM E 0 (by simpa using aS)) (D0 H yP ao b.size (by omega)) (by simp;omega) (by omega),?_⟩;simp only[an.val,M,w8,fa];exact .c4 rfl
  ·rename_i e a8;split at O
   ·rename_i I bE;split at O
    ·split at O<;>cases O;rename_i av;simp only[a7]at av;obtain⟨⟨B,lM⟩,yP⟩:=av;simp only[an.ok,a7,eF]at ax;obtain⟨⟨⟨⟨⟨A,E⟩,ao⟩,aS⟩,bI⟩,cZ⟩:=ax;obtain⟨b3,ih,rfl⟩:=vF bE;have ar:=H.S B;simp only[an.val];cases ba:S z x<;>simp only[ba,pC]at A<;>try cases A
     rename_i p len c;rw[ba]at ar;simp only[ba,fa]at bI cZ;cases p with
     | none=>simp only[a7,beq_iff_eq]at A;obtain⟨rfl,rfl⟩:=A;have M:=ar.hB rfl;refine⟨_,asc b2 a8 ih M (D0 H lM E 0 (by simpa using aS)) (D0 H yP ao 0 (by omega)) (by simp;omega) (by omega),?_⟩;have ho:(hs z bh (0:Nat)).toNat=0:=(by simp;omega);have aG:(hs z Y (0:Nat)).toNat=0:=(by simp;omega);rw[ho,aG];simp only[sa];exact .c4 rfl
     | some eG=>
       simp only[a7,beq_iff_eq]at A;obtain⟨l,ev,cap,aA,gR,M,aj,xz,qY⟩:=ar.lv;obtain⟨_,rfl⟩:=A;refine⟨_,asc b2 a8 ih M (D0 H lM E 0 (by simpa using aS)) (D0 H yP ao len (by omega)) (by simp;omega) (by omega),?_⟩;simp only[sa,fa];have rW:hs z bh ((0:Nat):Int)=hs z bh 0:=rfl;rw[rW];generalize jx:(hs z bh 0).toNat=L;generalize vY:(hs z Y (len:Int)).toNat=g1;have awG:L<=g1:=(by omega);have aQb:g1<=len:=(by omega);by_cases cq:cap=L
       ·rw[if_pos cq];exact .slice aA (.inl ⟨by omega,by omega⟩) (by omega) (by omega)
       ·rw[if_neg cq];rcases aj with⟨rfl,rfl⟩|⟨rfl,aj⟩
        ·omega
        ·have ag:(⟨l.c,l.o+eG.off,none⟩:Addr).add (L*b3.size)=⟨l.c,l.o+(eG.off+L*b3.size),none⟩:=by
          unfold Addr.add;split
          ·rename_i bX;rw[bX];simp
          ·simp[n5]
         simp only[Option.map_some,ag];refine .slice aA (.inr ⟨rfl,?_⟩) (by omega) (by omega);have:L*b3.size+(cap-L)*b3.size=cap*b3.size:=(by rw[<-oC];congr 1;omega);omega
    ·rename_i jq;split at O
     ·rename_i aC;split at O<;>cases O;rename_i av;simp only[a7]at av;obtain⟨⟨⟨B,lM⟩,yP⟩,rU⟩:=av;simp only[an.ok,a7,eF]at ax;obtain⟨⟨⟨⟨⟨⟨⟨A,E⟩,ao⟩,aS⟩,bI⟩,cZ⟩,eg⟩,hf⟩:=ax;obtain⟨b3,ih,rfl⟩:=vF bE;have ar:=H.S B;simp only[an.val];obtain⟨avb,aCW,cj,aik⟩:=tU (H.S yP) ao;obtain⟨avc,aCY,QE,ail⟩:=tU (H.S rU) aS;simp only[aik,ail,eZ]at cZ eg hf⊢;cases ba:S z x<;>simp only[ba,pC]at A<;>try cases A
      rename_i p len c;rw[ba]at ar;simp only[ba,fa]at hf;have rQ:=D0 H lM E 0 (by simpa using bI);have rW:hs z bh ((0:Nat):Int)=hs z bh 0:=rfl;rw[rW]at rQ;have ahZ: ∃(k:IntKind) (i:Int),a.eval aC= .int k i/\0<=i/\i.toNat=cj.toNat:=⟨aCW,cj,by rw[avb,aik],by omega,rfl⟩;have vZ: ∃(k:IntKind) (i:Int),a.eval jq= .int k i/\0<=i/\i.toNat=QE.toNat:=⟨aCY,QE,by rw[avc,ail],by omega,rfl⟩;cases p with
      | none=>simp only[a7,beq_iff_eq]at A;obtain⟨rfl,rfl⟩:=A;have M:=ar.hB rfl;refine⟨_,asb b2 a8 ih M rQ ahZ vZ (by omega) (by omega) (by omega),?_⟩;have ho:(hs z bh 0).toNat=0:=(by omega);have aG:cj.toNat=0:=(by omega);have aN:QE.toNat=0:=(by omega);rw[ho,aG,aN];simp only[sa];exact .c4 rfl
      | some eG=>
        simp only[a7,beq_iff_eq]at A;obtain⟨l,ev,cap,aA,gR,M,aj,xz,qY⟩:=ar.lv;obtain⟨_,rfl⟩:=A;refine⟨_,asb b2 a8 ih M rQ ahZ vZ (by omega) (by omega) (by omega),?_⟩;simp only[sa];generalize jx:(hs z bh 0).toNat=L;generalize vY:cj.toNat=g1;generalize PV:QE.toNat=DR;have awG:L<=g1:=(by omega);have aQa:g1<=DR:=(by omega);have aQe:DR<=len:=(by omega);by_cases cq:DR=L
        ·rw[if_pos cq];exact .slice aA (.inl ⟨by omega,by omega⟩) (by omega) (by omega)
        ·rw[if_neg cq];rcases aj with⟨rfl,rfl⟩|⟨rfl,aj⟩
         ·omega
         ·have ag:(⟨l.c,l.o+eG.off,none⟩:Addr).add (L*b3.size)=⟨l.c,l.o+(eG.off+L*b3.size),none⟩:=by
           unfold Addr.add;split
           ·rename_i bX;rw[bX];simp
           ·simp[n5]
          simp only[Option.map_some,ag];refine .slice aA (.inr ⟨rfl,?_⟩) (by omega) (by omega);have jj:L*b3.size+(DR-L)*b3.size=DR*b3.size:=(by rw[<-oC];congr 1;omega);have Ek:DR*b3.size<=cap*b3.size:=zK _ (by omega);show eG.off+L*b3.size+(DR-L)*b3.size<=l.n
          replace aj:eG.off+cap*b3.size<=l.n:=aj
          omega
     ·cases O
   ·cases O
  ·(repeat' split at O)<;>cases O
   simp[an.pure]at ae
  ·cases O
 ·-- fieldAddr
  rename_i s x i b2;split at O
  ·rename_i fs a8;split at O
   ·rename_i f bb;split at O
    ·rename_i n aj;split at O<;>cases O;rename_i av;simp only[a7,eF]at av;obtain⟨b3,Y,rfl⟩:=vF aj;simp only[an.ok]at ax;have ar:=H.S av.1;simp only[an.val];cases ba:S z x<;>simp only[ba,sW]at ax<;>try cases ax
     rename_i p;rw[ba]at ar;cases p with
     |none=>cases ax
     | some eG=>obtain⟨l,aA,gR,M⟩:=ar.sO;refine⟨_,aKl b2 a8 bb Y av.2 M,?_⟩;simp only[zn,n5];exact .bC aA
    ·cases O
   ·cases O
  ·cases O
 ·-- field
  rename_i t x i b2;split at O
  ·rename_i fs a8;split at O
   ·rename_i f bb;split at O
    ·rename_i b n hb aj;split at O<;>cases O;rename_i B;obtain⟨b3,Y,rfl⟩:=vF aj;simp only[an.ok,a7,uv,eF]at ax;have ar:=H.S B;simp only[an.val];cases ba:S z x<;>simp only[ba,Kj]at ax<;>try cases ax.1
     rename_i xs;rw[ba]at ar;obtain⟨ys,M,aA⟩:=ar.tQ;have kk:ys.size=xs.size:=(by have:=aA.1;simp at this;exact this.symm);have aQN:f.offset+b3.size<=xs.size:=(by simpa using ax.1);refine⟨_,aKm b2 a8 bb Y hb M (by omega) ax.2,?_⟩;simp only[Py];cases b
     ·simp only[jO,if_false];have A:b3.size=1:=(by simpa using ax.2);have dA:f.offset<xs.toList.length:=(by simp;omega);obtain⟨y,Z,u4⟩:=aA.F (c6 dA);rw[m7,m7,Z,c6 dA];exact u4
     ·simp only[if_true];exact((aA.drop _).take _).agg λx B=>ar.atm x (Bt (DH B))
    ·cases O
   ·cases O
  ·cases O
 ·-- indexAddr
  rename_i t x i b2;split at O
  ·rename_i e a8;split at O
   ·rename_i I bE;split at O<;>cases O;rename_i av;simp only[a7]at av;obtain⟨b3,Y,rfl⟩:=vF bE;simp only[an.ok,a7,eF]at ax;obtain⟨⟨⟨A,E⟩,ao⟩,aS⟩:=ax;obtain⟨aN,k,n,aj⟩:=tU (H.S av.2) E;have ar:=H.S av.1;simp only[an.val];cases ba:S z x<;>simp only[ba,pC]at A<;>try cases A
    rename_i p len c;rw[ba]at ar;simp only[aj,eZ]at ao aS⊢;simp only[ba,fa]at aS;cases p with
    | none=>simp only[a7,beq_iff_eq]at A;omega
    | some eG=>
      simp only[a7,beq_iff_eq]at A;obtain⟨l,ev,cap,aA,gR,M,Cm,xz,qY⟩:=ar.lv;rcases Cm with⟨rfl,rfl⟩|⟨rfl,Cm⟩
      ·omega
      ·refine⟨_,aKn b2 a8 Y M (by rw[aN,aj]) ao aS,?_⟩;simp only[Dj,n5];exact .bC aA
   ·cases O
  ·rename_i len e a8;split at O
   ·rename_i I bE;split at O<;>cases O;rename_i av;simp only[a7]at av;obtain⟨b3,Y,rfl⟩:=vF bE;simp only[an.ok,a7,eF]at ax;obtain⟨⟨⟨A,E⟩,ao⟩,aS⟩:=ax;obtain⟨aN,k,n,aj⟩:=tU (H.S av.2) E;have ar:=H.S av.1;simp only[an.val];cases ba:S z x<;>simp only[ba,sW]at A<;>try cases A
    rename_i p;rw[ba]at ar;simp only[aj,eZ]at ao aS⊢;cases p with
    |none=>cases A
    | some eG=>obtain⟨l,aA,gR,M⟩:=ar.sO;refine⟨_,aKo b2 a8 Y M (by rw[aN,aj]) ao aS,?_⟩;simp only[zn,n5];exact .bC aA
   ·cases O
  ·cases O
 ·-- index
  rename_i t x i b2;split at O
  ·rename_i a8;split at O<;>cases O;rename_i av;simp only[a7]at av;simp only[an.ok,a7,eF]at ax;obtain⟨⟨⟨A,E⟩,ao⟩,aS⟩:=ax;obtain⟨aG,b,M⟩:=UF (H.S av.1) A;obtain⟨aN,k,n,aj⟩:=tU (H.S av.2) E;simp only[aj,eZ]at ao aS;simp only[M,fa]at aS;refine⟨_,aKp b2 a8 (by rw[aG,M]) (by rw[aN,aj]) ao aS,?_⟩;simp only[an.val,M,aj,w8,eZ];exact .c4 rfl
  ·cases O
 ·-- extract
  rename_i x i b2;split at O<;>cases O;rename_i B;have ar:=H.S B;simp only[an.ok]at ax;simp only[an.val];cases ba:S z x<;>simp only[ba,Gj]at ax<;>try cases ax
  rename_i xs;rw[ba]at ar;obtain⟨ys,M,aA⟩:=ar.ET;have Y:i<xs.toList.length:=(by simpa using ax);obtain⟨y,Z,u4⟩:=aA.F (c6 Y);have lu:i<ys.size:=(by have:=aA.1;simp at this Y;omega);refine⟨_,aKk b2 M lu,?_⟩;rw[M];simp only[Du];rw[m7,m7,Z,c6 Y];exact u4
 ·-- makeInterface
  rename_i t x b2;split at O
  ·cases O
  ·rename_i d pU aW;split at O<;>cases O;rename_i B;refine⟨.iface t (a.eval x),.inl ?_,.iface (H.S B)⟩;cases d<;>first|exact absurd rfl (pU _)|simp[execOp,b2,Instr.makeInterface,underlying,aW]
  ·cases O
 ·-- typeAssert
  rename_i x t0 t ok b2;split at O
  ·cases O
  ·rename_i d pU aW;split at O<;>cases O;rename_i B;simp only[a7,sj]at B;obtain⟨B,rfl⟩:=B;have ar:=H.S B;simp only[an.ok]at ax;simp only[an.val];cases ba:S z x<;>simp only[ba,Lp]at ax<;>try cases ax
   rename_i X v;have:=of_decide_eq_true ax;subst this;rw[ba]at ar;obtain⟨y,M,Z⟩:=ar.Lt;refine⟨y,.inl ?_,Z⟩;cases d<;>first|exact absurd rfl (pU _)|simp[execOp,b2,Instr.typeAssert,underlying,aW,M]
  ·cases O
 ·repeat (split at O<;>try cases O)
  simp[an.pure]at ae
 ·repeat (split at O<;>try cases O)
  simp[an.pure]at ae
 ·repeat (split at O<;>try cases O)
  simp[an.pure]at ae
 ·-- makeFunc
  rename_i fn x y b2;split at O<;>cases O;rename_i av;simp only[a7]at av;refine⟨_,aKs b2,?_⟩;simp only[an.val];have eK:=Il H _ av.1;have gp:=Il H _ av.2;exact .func (by simp) (by simpa using eK.2) (by simp) (by simpa using gp.2)
 ·-- l2
  rename_i c b2;unfold JU at O;split at O
  ·split at O<;>cases O;simp[an.pure]at ae
  ·repeat (split at O<;>try cases O)
   simp[an.pure]at ae
  ·repeat (split at O<;>try cases O)
   simp[an.pure]at ae
  ·rename_i av;split at O
   ·rename_i x t ag fm;split at O
    ·rename_i a8;split at O<;>cases O;rename_i B;simp only[an.ok]at ax;obtain⟨e,b,M⟩:=UF (H.S B) ax;refine⟨_,aKq b2 av ag fm a8 (by rw[e,M]),?_⟩;simp only[an.val,M,fa];exact .c4 rfl
    ·rename_i e a8;split at O<;>cases O;rename_i B;simp only[an.ok]at ax;have ar:=H.S B;simp only[an.val];cases ba:S z x<;>simp only[ba,hQ]at ax<;>try cases ax
     rename_i p len c;rw[ba]at ar;have M: ∃q cap,a.eval x= .slice q len cap:=by
      cases p with
      | none=>
        refine⟨none,c,?_⟩;generalize a.eval x=v at ar;cases ar with
        |c4 h=>rfl
      |some eG=>obtain⟨_,_,_,_,_,h,_⟩:=ar.lv;exact⟨_,_,h⟩
     obtain⟨q,cap,M⟩:=M;exact⟨_,aKr b2 av ag fm a8 M,.c4 rfl⟩
    ·cases O
   ·cases O
  ·(repeat' split at O)<;>cases O<;>simp[an.pure]at ae
  ·rename_i av;split at O
   ·rename_i x xs ag;split at O<;>cases O;rename_i B;simp only[a7]at B;simp only[an.ok,a7]at ax;have A:=tU (H.S B.1) ax.1;have E: ∀y∈xs,fu (a.eval y)=true:= λy Z=>by
     have:=ei.1 ax.2 y Z;rw[(tU (H.S (ei.1 B.2 y Z)) this).1];exact this
    refine⟨_,asa (fP:=false) b2 (by simpa using av) ag (by rw[A.1];exact ax.1) E,?_⟩;rw[abC false H xs _ B.2 ax.2,A.1];simp only[an.val];have ao:=abB (z:=z) false xs (S z x) ax.1 ax.2;exact .c4 (anM ao)
   ·cases O
  ·rename_i av;split at O
   ·rename_i x xs ag;split at O<;>cases O;rename_i B;simp only[a7]at B;simp only[an.ok,a7]at ax;have A:=tU (H.S B.1) ax.1;have E: ∀y∈xs,fu (a.eval y)=true:= λy Z=>by
     have:=ei.1 ax.2 y Z;rw[(tU (H.S (ei.1 B.2 y Z)) this).1];exact this
    refine⟨_,asa (fP:=true) b2 (by simpa using av) ag (by rw[A.1];exact ax.1) E,?_⟩;rw[abC true H xs _ B.2 ax.2,A.1];simp only[an.val];have ao:=abB (z:=z) true xs (S z x) ax.1 ax.2;exact .c4 (anM ao)
   ·cases O
  ·-- cap
   rename_i av;split at O
   ·rename_i x t ag fm;split at O
    ·rename_i e a8;split at O<;>cases O;rename_i B;have ar:=H.S B;simp only[an.ok]at ax;have ba:S z x= .slice none 0 0:=S4 ax;rw[ba]at ar;exact⟨_,aKg b2 av ag fm a8 (ar.hB rfl),.c4 rfl⟩
    ·cases O
   ·cases O
  ·(repeat' split at O)<;>cases O<;>simp[an.pure]at ae
  ·cases O
 ·cases O
end
end Go.DI
