/- A part of the proof. -/
import Derived.SizedLaws
import Derived.ChangeOld
import Derived.WideShapes
import Derived.OpenShut
import Derived.Test.YtmmkkggfmigppaaGreatZdg
set_option linter.all false
set_option maxRecDepth 20000
set_option maxHeartbeats 16000000
namespace Go.DI
open Go
variable {m:X} {b I k:Nat} {x y:Option CC} {z:CC}
@[simp] theorem Au:(m.A1 b x).ac=m.ac:=rfl
@[simp] theorem B1:(m.AE k).ac=m.ac+k:=rfl
theorem E(h:m.Y b=some z):b<m.ac:=by
 unfold X.Y at h;split at h
 ·assumption
 ·cases h
theorem AR(h:b<m.ac):(m.A1 b x).Y b=x:=by simp[X.Y,X.A1,h]
theorem A6(h:I≠b):(m.A1 b x).Y I=m.Y I:=by simp[X.Y,X.A1,h]
theorem Ab(h:b<m.ac):(m.AE k).Y b=m.Y b:=by
 have:b<m.ac+k:=by omega
 simp[X.Y,X.AE,h,this]
variable{es:List (Value×Value)}{n o O base:Nat}{G:Bool}{cs args:List Value}{s d:Option Nat}{A0:Type}{K aU:A2->X->Prop}{a7:Value->X->Prop}{J:List Av}{D:List Operand}{bx:List (Operand×Operand)}{cb:List (TypeId×Nat×Option (Bool×Nat))}{aA t:TypeId}{v a0 bG bW a3 a4 fW:Value}
@[simp] theorem aFK:(m.Cw b es).ac=m.ac:=rfl
theorem A9:(∀(m:X) (b:Nat) (x:Option CC),(m.A1 b x).ac=m.ac)/\(∀(m:X) (k:Nat),(m.AE k).ac=m.ac+k)/\ ∀(m:X) (b:Nat) (es:List (Value×Value)),(m.Cw b es).ac=m.ac:=⟨λ_ _ _=>rfl,λ_ _=>rfl,λ_ _ _=>rfl⟩
theorem dI(h:b<m.ac):(m.Cw b es).Y b=some ⟨[],true⟩:=by simp[X.Y,X.Cw,h]
theorem Hs(h:I≠b):(m.Cw b es).Y I=m.Y I:=by simp[X.Y,X.Cw,h]
theorem ZC(h:b<m.ac):(m.Cw b es).Bs b=some es:=by simp[X.Bs,dI h];simp[X.Cw]
theorem Ua(h:I≠b):(m.Cw b es).Bs I=m.Bs I:=by simp[X.Bs,Hs h];simp[X.Cw,h]
theorem Kr(h:I≠b):(m.A1 b x).Bs I=m.Bs I:=by simp[X.Bs,A6 h];rfl
theorem ic(h:b<m.ac):(m.AE k).Bs b=m.Bs b:=by simp[X.Bs,Ab h];rfl
theorem Qm:(m.A1 b x).A1 b y=m.A1 b y:=by simp only[X.A1,X.mk.injEq,true_and,and_true];funext i;by_cases h:i=b<;>simp[h]
theorem Sv(h:m.Y b=some z):m.A1 b (some z)=m:=by
 obtain⟨n,f,g⟩:=m;have a:=E h;simp only[X.Y,X.A1,X.mk.injEq,true_and,and_true]at h a⊢;rw[if_pos a]at h;funext i;by_cases c:i=b
 ·subst c;simp[h]
 ·simp[c]
@[simp] theorem aCf{a:Nat}:Bj m (.pointer (some ⟨a,o,none⟩)) n=(match m.Y a with|some x=>decide (o+n<=x.cells.length)|none=>false):=rfl
@[simp] theorem wq{a:Nat}:Gi m (.pointer (some ⟨a,o,none⟩))=(match m.Y a with|some x=>x.own|none=>false):=rfl
@[simp] theorem a2N{a:Nat}:Co m G n (.pointer (some ⟨a,o,none⟩))=if G then .agg (C3 m a o n).toArray else(C3 m a o 1).headD undef:=rfl
@[simp] theorem xY{a:Nat}:C3 m a o n=match m.Y a with|some x=>(x.cells.drop o).take n|none=>[]:=rfl
@[simp] theorem a85{a:Nat}:Fj m (.pointer (some ⟨a,o,none⟩)) cs=match m.Y a with|some x=>m.A1 a (some ⟨CV x.cells o cs,x.own⟩)|none=>m:=rfl
@[simp] theorem nX{a l c:Nat}:Br m n (.slice (some ⟨a,o,s⟩) l c)=(c==n&&(match m.Y a with|some x=>decide (o+l*n<=x.cells.length)|none=>false)):=rfl
@[simp] theorem aLw:Br m n (.slice none 0 0)=true:=rfl
@[simp] theorem aLQ{a l c:Nat}:Dm m (.slice (some ⟨a,o,s⟩) l c)=(match m.Y a with|some x=>x.own|none=>false):=rfl
@[simp] theorem aJc{l c:Nat}:Dm m (.slice none l c)=true:=rfl
@[simp] theorem aAi{a l c:Nat}:C5 m n (.slice (some ⟨a,o,s⟩) l c)=C3 m a o (l*n):=rfl
@[simp] theorem aEd{l c:Nat}:C5 m n (.slice none l c)=[]:=rfl
@[simp] theorem aGe{a l c:Nat}:EC m (.slice (some ⟨a,o,s⟩) l c)=m.A1 a none:=rfl
@[simp] theorem a4G{a l c z:Nat}:Dj m z (.slice (some ⟨a,o,none⟩) l c) n=false:=rfl
@[simp] theorem aDr{l c z:Nat}:Dj m z (.slice none l c) n=false:=rfl
@[simp] theorem aF6{a l c z k:Nat}:Dj m z (.slice (some ⟨a,o,some k⟩) l c) n=(decide (l+n<=k)&&(match m.Y a with|some x=>decide (o+(l+n)*z<=x.cells.length)|none=>false)):=rfl
@[simp] theorem aJI{a l c:Nat}:Sj (.slice (some ⟨a,o,s⟩) l c) n= .slice (some ⟨a,o,s⟩) (l+n) c:=rfl
@[simp] theorem aDf{a l c z:Nat}:Ga m z (.slice (some ⟨a,o,s⟩) l c) cs=match m.Y a with|some x=>m.A1 a (some ⟨CV x.cells (o+l*z) cs,x.own⟩)|none=>m:=rfl
@[simp] theorem aFx{a l c:Nat}:M5 (.slice (some ⟨a,o,s⟩) l c)= .slice (some ⟨a,o,some l⟩) 0 c:=rfl
@[simp] theorem aH9{l c:Nat}:M5 (.slice none l c)= .slice none 0 0:=rfl
@[simp] theorem aFe:Kp none=false:=rfl
@[simp] theorem aEn:Kp (some (.tmp n))=false:=rfl
@[simp] theorem aH4{k:IntKind}{n:Int}:Kp (some (.const (.int k n)))=(n==0):=rfl
@[simp] theorem aFR{l c:Nat}:EC m (.slice none l c)=m:=rfl
theorem Ac{n:Int}(a: -9223372036854775808<=n)(b:n<=9223372036854775807):IntKind.i64.wrap n=n:=IntWalk.i64_in n ⟨a,b⟩
theorem BZ(h:n<9223372036854775807):IntKind.i64.wrap ((n:Int)+1)=(n:Int)+1:=Ac (by omega) (by omega)
theorem Cb{l:List A0}{i:Nat}(h:i<l.length): ∃x,l[i]?=some x:=⟨_,List.getElem?_eq_getElem h⟩
variable {P:Program} {A:A2} {m:X} {Q:BM->A2->X->Prop}
def M3(K:A2->X->Prop)(Q:BM->A2->X->Prop)(e:BM)(A:A2)(m:X):Prop:=match e with| .CK=>K A m|e=>Q e A m
@[simp] theorem aEf:M3 K Q .CK A m=K A m:=rfl
@[simp] theorem aEB{id:Nat}:M3 K Q (.Ao id) A m=Q (.Ao id) A m:=rfl
@[simp] theorem aGD:M3 K Q .Cz A m=Q .Cz A m:=rfl
theorem Bm{c:CF}(h: ∀K:A2->X->Prop,(∀a u,Az P (.loop c) a u Q->K a u)->Az P c A m (M3 K Q)):Az P (.loop c) A m Q:=by rw[oF];refine(h (λa u=>Az P (.loop c) a u Q) (λ_ _ h=>h)).AD λe a u h=> ?_;cases e<;>exact h
def ZI(P:Program)(v:Value)(args:List Value)(m:X)(a7:Value->X->Prop):Prop:=match v with
 | .func (.func f) first a=>At P f (first.toList++args++a.toList) m a7
 |_=>False
@[simp] theorem aEv{f:Nat}{first a:Array Value}:ZI P (.func (.func f) first a) args m a7=At P f (first.toList++args++a.toList) m a7:=rfl
@[simp] theorem aFS{x:Operand}:
 Bn P base (⟨O,d,none,.JV x D,bx⟩::J) A m aU=ZI P (U A x) (D.map (U A)) m (Lw P base d bx J A m aU):=by
  by_cases a: ∃f first b,U A x= .func (.func f) first b
  ·obtain⟨f,first,b,a⟩:=a;rw[lB a,a];rfl
  ·have c:(M.JV x D).By A m=none:=by
    simp only[M.By];split
    ·rename_i f first b h;exact absurd ⟨f,first,b,h⟩ a
    ·rfl
   have e:ZI P (U A x) (D.map (U A)) m (Lw P base d bx J A m aU)=False:=by
    unfold ZI;split
    ·rename_i f first b h;exact absurd ⟨f,first,b,h⟩ a
    ·rfl
   rw[e];refine propext ⟨λ⟨n,j,u,h,q⟩=> ?_,False.elim⟩;obtain⟨k,l,g,_,_⟩:=JA h;obtain⟨i,_⟩:=cW (o:=⟨O,d,none,.JV x D,bx⟩) rfl c g;cases i
def HW(P:Program)(cb:List (TypeId×Nat×Option (Bool×Nat)))(v:Value)(args:List Value)(m:X)(a7:Value->X->Prop):Prop:=match v with
 | .iface t v=>match cb.find? (λr=>r.1==t)with
   |some (_,f,none)=>At P f (v::args) m a7
   |some (_,f,some (G,n))=>(Bj m v n&&(G||decide (n=1)))=true/\At P f (Co m G n v::args) m a7
   |none=>False
 |_=>False
theorem a8p{x:Operand}:
 Bn P base (⟨O,d,none,.JN cb x D,bx⟩::J) A m aU=HW P cb (U A x) (D.map (U A)) m (Lw P base d bx J A m aU):=by
 have e:(M.JN cb x D).By A m=none->Bn P base (⟨O,d,none,.JN cb x D,bx⟩::J) A m aU=False:= λg=>by refine propext ⟨λ⟨n,j,u,h,q⟩=> ?_,False.elim⟩;obtain⟨k,l,i,_,_⟩:=JA h;obtain⟨a,_⟩:=cW (o:=⟨O,d,none,.JN cb x D,bx⟩) rfl g i;cases a
 unfold HW;split
 ·rename_i t v c;split
  ·rename_i r f b;exact ay (by simp only[M.By,c,b])
  ·rename_i r f G n b;by_cases a:(Bj m v n&&(G||decide (n=1)))=true
   ·rw[ay (f:=f) (args:=Co m G n v::D.map (U A)) (by simp only[M.By,c,b,a,if_true])];simp only[a,true_and]
   ·rw[e (by simp only[M.By,c,b,if_neg a])];exact propext ⟨False.elim,λh=>absurd h.1 a⟩
  ·rename_i b;rw[e (by simp only[M.By,c,b])]
 ·rename_i c;refine e ?_;simp only[M.By]
@[simp] theorem aBA{x:Operand}:
 Bn P base (⟨O,d,none,.JN cb x D,bx⟩::J) A m aU=HW P cb (U A x) (D.map (U A)) m (Lw P base d bx J A m aU):=a8p
@[simp] theorem Ky{f:Nat}:
 HW P ((aA,f,none)::cb) (.iface t v) args m a7=if aA=t then At P f (v::args) m a7 else HW P cb (.iface t v) args m a7:=by
  by_cases h:aA=t
  ·subst h;simp[HW]
  ·simp[HW,h]
@[simp] theorem Kj{f:Nat}:
 HW P ((aA,f,some (G,n))::cb) (.iface t v) args m a7=if aA=t then((Bj m v n&&(G||decide (n=1)))=true/\At P f (Co m G n v::args) m a7)else HW P cb (.iface t v) args m a7:=by
  by_cases h:aA=t
  ·subst h;simp[HW]
  ·simp[HW,h]
@[simp] theorem aGk{d:Value}{l:List Value}:(a0::l)[0]?.getD d=a0:=rfl
@[simp] theorem aL0{d:Value}{l:List Value}:(a0::bG::l)[1]?.getD d=bG:=rfl
@[simp] theorem aJd{d:Value}{l:List Value}:(a0::bG::bW::l)[2]?.getD d=bW:=rfl
@[simp] theorem aIv{d:Value}{l:List Value}:(a0::bG::bW::a3::l)[3]?.getD d=a3:=rfl
@[simp] theorem aFj{d:Value}{l:List Value}:(a0::bG::bW::a3::a4::l)[4]?.getD d=a4:=rfl
@[simp] theorem aDX{d:Value}{l:List Value}:(a0::bG::bW::a3::a4::fW::l)[5]?.getD d=fW:=rfl
@[simp] theorem aEo{d a:Value}{l:List Value}:(a0::bG::bW::a3::a4::fW::a::l)[6]?.getD d=a:=rfl
@[simp] theorem aE9{d b a:Value}{l:List Value}:(a0::bG::bW::a3::a4::fW::b::a::l)[7]?.getD d=a:=rfl
attribute [simp] M.ok M.val M.Cj
variable {p:Option Addr} {a:Addr} {l c z i j:Nat}
@[simp] theorem KQ{s:ByteArray}:DS (.string s)=s.size:=rfl
@[simp] theorem aEa:DS (.slice p l c)=l:=rfl
@[simp] theorem aLp:KP (.slice p l c)=true:=rfl
@[simp] theorem aKJ:CO (.slice p l c)=l:=rfl
@[simp] theorem aIh{b:Nat}:G9 z (.slice (some ⟨b,o,none⟩) l c)=(c==z):=rfl
@[simp] theorem aI5{b:Nat}{n:Int}:PE (.slice (some ⟨b,o,none⟩) l c) z n= .pointer (some ⟨b,o+n.toNat*z,none⟩):=rfl
@[simp] theorem aGZ{b:Nat}:Io (.slice (some ⟨b,o,none⟩) l c) z i j= .slice (some ⟨b,o+i*z,none⟩) (j-i) c:=rfl
@[simp] theorem aES:G9 z (.slice none 0 0)=true:=rfl
@[simp] theorem aL2:Io (.slice none 0 0) z i j= .slice none 0 0:=rfl
@[simp] theorem aGm:min n IntKind.u64.bits=min n 64:=rfl
@[simp] theorem aKL:min n IntKind.u32.bits=min n 32:=rfl
attribute [simp] AR A6 Ab Qm
open Go Go.RowKit
structure Bo(B:Nat->Prop)(br m ah:X):Prop where
 ac:ah.ac=m.ac
 Y5:br.ac<=m.ac
 DY: ∀b,B b->b<m.ac
 off: ∀b,B b->m.Y b=none
 AZ: ∀b,B b->ah.Y b=br.Y b/\ah.mp b=br.mp b
 eq: ∀b,¬B b->ah.Y b=m.Y b
 mp:ah.mp=m.mp
variable {B:Nat->Prop} {br m ah:X}
theorem Bo.Cg(a:Bo B br m ah){b:Nat}{x:CC}(h:m.Y b=some x): ¬B b:= λc=>by rw[a.off b c]at h;cases h
theorem Bo.Y(a:Bo B br m ah){b:Nat}{x:CC}(h:m.Y b=some x):ah.Y b=some x:=by rw[a.eq b (a.Cg h),h]
theorem Bo.Bs(c:Bo B br m ah){b:Nat}{e:List (Value×Value)}(h:m.Bs b=some e):ah.Bs b=some e:=by
 unfold X.Bs at h⊢;cases a:m.Y b with
 |none=>rw[a]at h;cases h
 |some x=>rw[a]at h;rw[c.Y a,c.mp];exact h
theorem Bo.k9(c:Bo B br m ah){b:Nat}{e:List (Value×Value)}(h:m.Bs b=some e): ¬B b:=by
 unfold X.Bs at h;cases a:m.Y b with
 |none=>rw[a]at h;cases h
 |some x=>exact c.Cg a
theorem Bo.A1(a:Bo B br m ah){b:Nat}(hb: ¬B b)(x:Option CC):Bo B br (m.A1 b x) (ah.A1 b x) where
 ac:=a.ac
 Y5:=a.Y5
 DY:=a.DY
 off c d:=by rw[A6 (show c≠b from λh=>hb (h▸d)),a.off c d]
 AZ c d:=⟨by rw[A6 (show c≠b from λh=>hb (h▸d)),(a.AZ c d).1],(a.AZ c d).2⟩
 eq c d:=by
  by_cases h:c=b
  ·subst h;simp only[X.Y,X.A1,a.ac,if_true]
  ·rw[A6 h,A6 h,a.eq c d]
 mp:=a.mp
theorem Bo.Cw(a:Bo B br m ah){b:Nat}(hb: ¬B b)(e:List (Value×Value)):Bo B br (m.Cw b e) (ah.Cw b e) where
 ac:=a.ac
 Y5:=a.Y5
 DY:=a.DY
 off c d:=by rw[Hs (show c≠b from λh=>hb (h▸d)),a.off c d]
 AZ c d:=by refine⟨by rw[Hs (show c≠b from λh=>hb (h▸d)),(a.AZ c d).1],by show(if c=b then some e else ah.mp c)=_;rw[if_neg (show c≠b from λh=>hb (h▸d))];exact(a.AZ c d).2⟩
 eq c d:=by
  by_cases h:c=b
  ·subst h;simp only[X.Y,X.Cw,a.ac,if_true]
  ·rw[Hs h,Hs h,a.eq c d]
 mp:=by show(λi=>if i=b then some e else ah.mp i)=_;rw[a.mp];rfl
theorem Bo.AE(a:Bo B br m ah)(k:Nat):Bo B br (m.AE k) (ah.AE k) where
 ac:=by show ah.ac+k=m.ac+k;rw[a.ac]
 Y5:=by have:=a.Y5;show br.ac<=m.ac+k;omega
 DY b hb:=by have:=a.DY b hb;show b<m.ac+k;omega
 off b hb:=by rw[Ab (a.DY b hb),a.off b hb]
 AZ b hb:=⟨by rw[Ab (by rw[a.ac];exact a.DY b hb),(a.AZ b hb).1],(a.AZ b hb).2⟩
 eq b hb:=by
  by_cases h:b<m.ac
  ·rw[Ab h,Ab (by rw[a.ac];exact h),a.eq b hb]
  ·simp[X.Y,X.AE,a.ac,h]
 mp:=a.mp
theorem Bo.Bj(c:Bo B br m ah)(h:Bj m v n=true):Bj ah v n=true:=by
 unfold DI.Bj at h⊢;split at h
 ·rename_i a;simp only[AF]at h⊢;refine⟨h.1,?_⟩;cases b:m.Y a.block with
  |none=>rw[b]at h;simp at h
  |some x=>rw[b]at h;rw[c.Y b];exact h.2
 ·cases h
theorem Bo.Gi(c:Bo B br m ah)(h:Gi m v=true):Gi ah v=true:=by
 unfold DI.Gi at h⊢;split at h
 ·rename_i a;cases b:m.Y a.block with
  |none=>rw[b]at h;cases h
  |some x=>rw[b]at h;rw[c.Y b];exact h
 ·cases h
theorem Bo.Co(c:Bo B br m ah)(h:DI.Bj m v n=true):Co ah G n v=Co m G n v:=by
 unfold DI.Bj at h;split at h
 ·rename_i a;simp only[AF]at h;cases b:m.Y a.block with
  |none=>rw[b]at h;simp at h
  |some x=>simp only[DI.Co,C3,b,c.Y b]
 ·cases h
theorem Bo.Fj(c:Bo B br m ah)(h:DI.Bj m v n=true):Bo B br (Fj m v cs) (Fj ah v cs):=by
 unfold DI.Bj at h;split at h
 ·rename_i a;simp only[AF]at h;cases b:m.Y a.block with
  |none=>rw[b]at h;simp at h
  |some x=>simp only[DI.Fj,b,c.Y b];exact c.A1 (c.Cg b) _
 ·cases h
theorem Bo.Br(d:Bo B br m ah){z:Nat}(h:Br m z v=true):Br ah z v=true:=by
 unfold DI.Br at h⊢;split at h
 ·exact h
 ·rename_i a l c;simp only[AF]at h⊢;refine⟨h.1,?_⟩;cases b:m.Y a.block with
  |none=>rw[b]at h;simp at h
  |some x=>rw[b]at h;rw[d.Y b];exact h.2
 ·cases h
theorem Bo.Dm(d:Bo B br m ah)(h:Dm m v=true):Dm ah v=true:=by
 unfold DI.Dm at h⊢;split at h
 ·rfl
 ·rename_i a l c;cases b:m.Y a.block with
  |none=>rw[b]at h;cases h
  |some x=>rw[b]at h;rw[d.Y b];exact h
 ·cases h
theorem Bo.C5(d:Bo B br m ah){z:Nat}(h:DI.Br m z v=true):C5 ah z v=C5 m z v:=by
 unfold DI.Br at h;split at h
 ·rfl
 ·rename_i a l c;simp only[AF]at h;cases b:m.Y a.block with
  |none=>rw[b]at h;simp at h
  |some x=>simp only[DI.C5,C3,b,d.Y b]
 ·cases h
theorem Bo.EC(b:Bo B br m ah){z:Nat}(h:DI.Br m z v=true):Bo B br (EC m v) (EC ah v):=by
 unfold DI.Br at h;split at h
 ·exact b
 ·rename_i a l c;simp only[AF]at h;cases d:m.Y a.block with
  |none=>rw[d]at h;simp at h
  |some x=>exact b.A1 (b.Cg d) _
 ·cases h
theorem Bo.H5(b:Bo B br m ah){z:Nat}(h:DI.Br m z v=true):Bo B br (H5 m cs v) (H5 ah cs v):=by
 unfold DI.Br at h;split at h
 ·exact b
 ·rename_i a l c;simp only[AF]at h;cases d:m.Y a.block with
  |none=>rw[d]at h;simp at h
  |some x=>simp only[DI.H5,d,b.Y d];exact b.A1 (b.Cg d) _
 ·cases h
theorem Bo.Dj(e:Bo B br m ah){z:Nat}(h:DI.Br m z v=true):Dj ah z v n=Dj m z v n:=by
 unfold DI.Br at h;split at h
 ·rfl
 ·rename_i a l c;simp only[AF]at h;obtain⟨b,off,f⟩:=a;cases d:m.Y b with
  |none=>simp only[d]at h;simp at h
  |some x=>cases f<;>simp only[DI.Dj,d,e.Y d]
 ·cases h
theorem Bo.Ga(b:Bo B br m ah){z:Nat}(h:DI.Br m z v=true):Bo B br (Ga m z v cs) (Ga ah z v cs):=by
 unfold DI.Br at h;split at h
 ·exact b
 ·rename_i a l c;simp only[AF]at h;cases d:m.Y a.block with
  |none=>rw[d]at h;simp at h
  |some x=>simp only[DI.Ga,d,b.Y d];exact b.A1 (b.Cg d) _
 ·cases h
theorem Bo.FC(a:Bo B br m ah)(h:FC m v=some es):FC ah v=some es:=by
 unfold DI.FC at h⊢;split at h
 ·exact h
 ·exact a.Bs h
 ·cases h
theorem U0(a:Bo B br m ah){k:M}{A:A2}(h:k.ok A m=true):k.ok A ah=true:=by
 cases k with
 |NH z n y=>simp only[M.ok,AF]at h⊢;exact⟨a.Bj h.1,h.2⟩
 |EO G n x=>simp only[M.ok,AF]at h⊢;exact⟨a.Bj h.1,h.2⟩
 |store n x v=>simp only[M.ok,AF]at h⊢;exact⟨⟨⟨a.Bj h.1.1.1,a.Gi h.1.1.2⟩,h.1.2⟩,h.2⟩
 |Lr x=>simp only[M.ok,AF]at h⊢;exact⟨a.Br h.1,by rw[a.C5 h.1];exact h.2⟩
 |app z bytes x y=>simp only[M.ok,AF]at h⊢;exact⟨⟨⟨⟨⟨a.Br h.1.1.1.1.1,a.Dm h.1.1.1.1.2⟩,a.Br h.1.1.1.2⟩,h.1.1.2⟩,h.1.2⟩,h.2⟩
 |Ca z x=>simp only[M.ok,AF]at h⊢;exact⟨⟨a.Br h.1.1,a.Dm h.1.2⟩,h.2⟩
 | LS bx z o x d=>
   simp only[M.ok]at h⊢;cases c:DI.FC m (U A x)with
   |none=>rw[c]at h;cases h
   |some es=>rw[c]at h;rw[a.FC c];exact h
 | Ki bx x d v=>
   simp only[M.ok]at h⊢;split at h
   ·rename_i e b hb;cases c:m.Bs b with
    |none=>rw[c]at h;cases h
    |some es=>rw[c]at h;rw[a.Bs c];exact h
   ·cases h
 |_=>exact h
theorem Wx(a:Bo B br m ah){k:M}{A:A2}{id:Nat}(h:k.ok A m=true):k.val id A ah=k.val id A m:=by
 cases k with
 |EO G n x=>simp only[M.ok,AF]at h;exact a.Co h.1
 |Lr x=>simp only[M.ok,AF]at h;simp only[M.val,a.C5 h.1]
 | app z bytes x y=>simp only[M.ok,AF]at h;simp only[M.val,a.Dj h.1.1.1.1.1]
 | LS bx z o x c=>
   simp only[M.ok]at h;cases b:DI.FC m (U A x)with
   |none=>rw[b]at h;cases h
   |some es=>simp only[M.val,b,a.FC b]
 |_=>rfl
theorem Ue(f:Bo B br m ah){k:M}{A:A2}{id:Nat}(g: ¬B id)(h:k.ok A m=true):Bo B br (k.Cj id A m) (k.Cj id A ah):=by
 cases k with
 |It z=>exact f.A1 g _
 |Ja x=>exact f.A1 g _
 |Hg a b c d=>exact f.A1 g _
 |Mz x=>exact f.A1 g _
 |KZ a b c d e=>exact f.A1 g _
 |Ca z x=>simp only[M.ok,AF]at h;exact f.H5 h.1.1
 |IZ a b c d e=>exact f.A1 g _
 |store n x v=>simp only[M.ok,AF]at h;exact f.Fj h.1.1.1
 | app z bytes x y=>
   simp only[M.ok,AF]at h;simp only[M.Cj,f.Dj h.1.1.1.1.1];split
   ·exact f
   ·rw[f.C5 h.1.1.1.1.1,f.C5 h.1.1.1.2];split
    ·exact f.Ga h.1.1.1.1.1
    ·exact(f.EC h.1.1.1.1.1).A1 g _
 |Kz=>exact f.Cw g _
 | Ki bx x j v=>
   simp only[M.ok]at h;split at h
   ·rename_i l b hb;cases i:m.Bs b with
    |none=>rw[i]at h;cases h
    |some es=>simp only[M.Cj,hb,MX,i,f.Bs i];exact f.Cw (f.k9 i) _
   ·cases h
 |_=>exact f
theorem Yv(b:Bo B br m ah){k:M}{A:A2}{c:Nat×List Value}(h:k.By A m=some c):k.By A ah=some c:=by
 cases k with
 | JN cb x args=>
   simp only[M.By]at h⊢;split at h
   ·split at h
    ·exact h
    ·split at h
     ·rename_i a;simp only[AF]at a;rw[if_pos (by simp only[AF];exact⟨b.Bj a.1,a.2⟩),b.Co a.1];exact h
     ·cases h
    ·cases h
   ·cases h
 |_=>exact h
theorem e3{m ah:X}{k:M}{A:A2}(h:k.By A m=none)(c:k.ok A m=true):k.By A ah=none:=by
 refine L4 ?_;cases k with
 |Kg f a=>simp[M.ok]at c
 |JV f a=>simp[M.ok]at c
 |JN f a b=>simp[M.ok]at c
 |_=>rfl
def dW(B:Nat->Prop)(br:X)(cp:Callee):Prop:= ∀f a m r u,cp f a m=some (r,u)-> ∀ah,Bo B br m ah-> ∃cX,cp f a ah=some (r,cX)/\Bo B br u cX
variable{u:X}{cp:Callee}{f:A2->X->Option (BM×A2×X)}{R:List GF}{r:Value}{xs:List Value}{e:TypeId}
theorem k5{cX:X}(c:Bo B br m ah)(d:Bo B br u cX){A:A2}(h:KF A bx m u):KF A bx ah cX:= λp e b hb=>by
 by_cases a:B b
 ·rw[(c.AZ b a).1,(d.AZ b a).1]
 ·rw[c.eq b a,d.eq b a];exact h p e b hb
theorem er{cp:Callee}(i:dW B br cp)(j:Bo B br m ah){base:Nat}(hb: ∀b,B b->b<base){o:Av}{A d:A2}{u:X}(h:DJ cp base o A m=some (d,u))(a:I7 o A m u):
 ∃cX,DJ cp base o A ah=some (d,cX)/\Bo B br u cX/\I7 o A ah cX:=by
 unfold DJ at h⊢;unfold I7 at a⊢;by_cases e:Bl A o.g=true
 ·rw[if_pos e]at h⊢
  replace a:=a e
  cases l:o.k.By A m with
  | none=>
    grind [e3,U0,Wx,Ue]
  | some n=>
    obtain⟨f,args⟩:=n;rw[l]at h a;simp only at h a;cases c:cp f args m with
    |none=>rw[c]at h;cases h
    | some p=>
      obtain⟨v,q⟩:=p;rw[c]at h;cases h;obtain⟨cX,r,s⟩:=i _ _ _ _ _ c ah j
      grind [Yv,k5]
 ·simp_all
theorem NJ(c:dW B br cp)(hb: ∀b,B b->b<base): ∀{L:List Av} {A d:A2} {m u ah:X},Bo B br m ah->Et cp base L A m=some (d,u)-> ∃cX,Et cp base L A ah=some (d,cX)/\Bo B br u cX
 |[],_,_,_,_,ah,a,h=>by cases h;exact⟨ah,rfl,a⟩
 | _::_,_,_,_,_,ah,a,h=>by obtain⟨p,q,e,f,g⟩:=JA h;obtain⟨r,i,j,k⟩:=er c a hb e f;obtain⟨l,n,o⟩:=NJ c hb j g;exact⟨l,OA i k n,o⟩
theorem WC(b: ∀A m e a u,f A m=some (e,a,u)-> ∀ah,Bo B br m ah-> ∃cX,f A ah=some (e,a,cX)/\Bo B br u cX):
 ∀{n:Nat} {A:A2} {m:X} {e:BM} {a:A2} {u ah:X},Eo f n A m=some (e,a,u)->Bo B br m ah-> ∃cX,Eo f n A ah=some (e,a,cX)/\Bo B br u cX
 |0,_,_,_,_,_,_,h,_=>by simp[Eo]at h
 | n+1,A,m,e,a,u,ah,h,g=>by
   rcases Uq h with⟨p,q,c,d⟩|⟨c,d⟩
   ·obtain⟨r,i,j⟩:=b _ _ _ _ _ c ah g;obtain⟨k,l,o⟩:=WC b d j;exact⟨k,by simp only[Eo,i];exact l,o⟩
   ·grind [Eo]
theorem SZ{m:X}{b:Nat}:(Hb m).Y b=(m.Y b).map SF:=by
 unfold X.Y;show(if b<m.ac then _ else _)=_;by_cases h:b<m.ac
 ·rw[if_pos h,if_pos h];rfl
 ·grind
theorem Bo.Hb(a:Bo B br m ah):Bo B (Hb br) (Hb m) (Hb ah) where
 ac:=a.ac
 Y5:=a.Y5
 DY:=a.DY
 off b hb:=by rw[SZ,a.off b hb];rfl
 AZ b hb:=⟨by rw[SZ,SZ,(a.AZ b hb).1],rfl⟩
 eq b hb:=by rw[SZ,SZ,a.eq b hb]
 mp:=rfl
theorem Bo.HK(d:Bo B br m ah){z:Nat}(h:HK z m v=true):HK z ah v=true:=by
 unfold DI.HK at h⊢;split at h
 ·rename_i a l c;cases b:m.Y a.block with
  |none=>rw[b]at h;cases h
  |some x=>rw[b]at h;rw[d.Y b];exact h
 ·rfl
theorem Bo.HA(a:Bo B br m ah){o:Av}{A:A2}(h:HA o A m=true):HA o A ah=true:=by
 unfold DI.HA at h⊢;simp only[AF]at h⊢;refine⟨⟨h.1.1,?_⟩,U0 a h.2⟩;have:=h.1.2;split at this
 ·exact a.HK this
 ·cases this
theorem Hh(i: ∀br,dW B br cp): ∀{c:CF} {A l:A2} {m u ah:X} {e:BM},Bb cp n c A m=some (e,l,u)->Bo B br m ah-> ∃cX,Bb cp n c A ah=some (e,l,cX)/\Bo B br u cX
 | .skip,_,_,_,_,ah,_,h,d=>by cases h;exact⟨ah,rfl,d⟩
 | .FW ops,A,l,m,u,ah,e,h,d=>by
   simp only[Bb]at h⊢;split at h
   ·rename_i w y D;cases h;have E:Bo B br (Cn ops m) (Cn ops ah):=by
     unfold Cn;split
     ·exact d.AE _
     ·exact d
    obtain⟨cX,g,s⟩:=NJ (i br) (base:=m.ac) (λb hb=>d.DY b hb) E D;refine⟨cX,?_,s⟩;rw[d.ac,g]
   ·cases h
 | .LN I o J,A,l,m,u,ah,e,h,d=>by
   simp only[Bb]at h⊢;split at h
   ·rename_i w y p;split at h
    ·rename_i t;split at h
     ·rename_i K L q;cases h;obtain⟨v,r,j⟩:=NJ (i br) (base:=m.ac) (λb hb=>d.DY b hb) (d.AE _) p;have z:o.k.ok w y=true:=(by unfold DI.HA at t;simp only[AF]at t;exact t.2);obtain⟨F,C,s⟩:=NJ (i _) (base:=m.ac) (λb hb=>d.DY b hb) j.Hb q;rw[d.ac,r];simp only[j.HA t,if_true,Wx j z,C,s.ac,j.ac];exact⟨_,rfl,(Ue j (λG=>by have:=d.DY _ G;omega) z).AE _⟩
     ·cases h
    ·cases h
   ·cases h
 | .El a b,A,l,m,u,ah,e,h,d=>by
   simp only[Bb]at h⊢;split at h
   ·rename_i w y p;obtain⟨v,r,j⟩:=Hh i p d;obtain⟨F,C,s⟩:=Hh i h j
    simp_all
   ·rename_i H;obtain⟨v,r,j⟩:=Hh i h d
    simp_all
 | .HP x a b,A,l,m,u,ah,e,h,d=>by
   simp only[Bb]at h⊢;split at h
   ·rename_i p;rw[if_pos p];split at h
    ·rename_i q;rw[if_pos q];exact Hh i h d
    ·rename_i q;rw[if_neg q];exact Hh i h d
   ·cases h
 | .block id c,A,l,m,u,ah,e,h,d=>by
   simp only[Bb]at h⊢;split at h
   ·rename_i p;obtain⟨v,r,j⟩:=Hh i p d
    grind
   ·rename_i H;obtain⟨v,r,j⟩:=Hh i h d
    simp_all
 | .loop c,A,l,m,u,ah,e,h,d=>by simp only[Bb]at h⊢;exact WC (f:=Bb cp n c) (λA m e l u p ah d=>Hh i p d) h d
 | .Ao id,_,_,_,_,ah,_,h,d=>by cases h;exact⟨ah,rfl,d⟩
 | .Cz,_,_,_,_,ah,_,h,d=>by cases h;exact⟨ah,rfl,d⟩
theorem Qe(a:Bo B br m ah){A:A2}{r:GF}(h:IX m A r=true):IX ah A r=true/\J5 ah A r=J5 m A r:=by
 cases r with
 |AH t=>exact⟨rfl,rfl⟩
 | DE t G n=>simp only[IX,AF]at h⊢;exact⟨⟨a.Bj h.1,h.2⟩,a.Co h.1⟩
theorem dp(a:Bo B br m ah){A:A2}(h:Fi m A R=true):Fi ah A R=true/\Fv ah A R=Fv m A R:=by
 have b: ∀r∈R,IX m A r=true:=by simpa[Fi]using h
 refine⟨by simp only[Fi,BR];exact λr c=>(Qe a (b r c)).1,?_⟩;unfold Fv;split
 ·exact(Qe a (b _ (by simp))).2
 ·rw[Ur λr c=>(Qe a (b r c)).2]
theorem hY(f:Bo B br m ah)(h:LK args m=some (r,u)): ∃cX,LK args ah=some (r,cX)/\Bo B br u cX:=by
 obtain⟨s,i,y,rfl,g,rfl,rfl⟩:=Yl h;simp only[Of,AF]at g;obtain⟨a,b,c,d,e⟩:=g;have j:Of ah s i y=true:=by simp only[Of,AF];exact⟨f.Br a,f.Dm b,f.Br c,f.Dm d,e⟩
 have l: ∀k,k=m.ac-> ¬B k:= λk n=>by intro h;have:=f.DY _ h;omega
 refine⟨((EC ah s).AE 1).A1 m.ac (some ⟨C5 m 1 y++C5 m 1 s,true⟩),?_,((f.EC a).AE 1).A1 (l _ rfl) _⟩;simp only[LK,j,if_true,cE,V4,f.ac,f.C5 a,f.C5 c]
theorem Us{P:Program}: ∀n br,dW B br (Ev P n)
 |0,_=> λf a m r u h=>by simp[Ev]at h
 | n+1,br=> λf a m r u h ah b=>by
   simp only[Ev]at h⊢;split at h
   ·rename_i g i;split at h
    ·rename_i c;rw[if_pos c];split at h
     ·cases h
     ·rename_i e j k l d;obtain⟨o,p,q⟩:=Hh (Us n) d b
      grind [dp]
     ·cases h
    ·cases h
   ·grind [hY]
structure Pk(p m:X):Prop where
 ac:p.ac=m.ac
 mp:p.mp=m.mp
 Y: ∀b x,p.Y b=some x->m.Y b=some x
structure aCI(p m a u:X):Prop where
 part:Pk a u
 ac:m.ac<=u.ac
 Dk: ∀b,b<m.ac->p.Y b=none->u.Y b=m.Y b/\a.Y b=none/\u.mp b=m.mp b
theorem At.frame{P:Program}{f:Nat}{args:List Value}{p m:X}{a7:Value->X->Prop}(c:Pk p m)(h:At P f args p a7):
 At P f args m λr u=> ∃d,a7 r d/\aCI p m d u:=by
 obtain⟨n,r,d,j,q⟩:=h;have k:Bo (λb=>b<p.ac/\p.Y b=none) m p m:=by
  refine⟨c.ac.symm,by rw[c.ac];exact Aj _,λb hb=>hb.1,λb hb=>hb.2,λb _=>⟨rfl,rfl⟩,λb hb=> ?_,c.mp.symm⟩;cases i:p.Y b with
  |some x=>exact c.Y b x i
  | none=>
    have: ¬b<p.ac:= λl=>hb ⟨l,i⟩
    have e: ¬b<m.ac:=by rw[<-c.ac];exact this
    simp only[X.Y,e,if_false]
 obtain⟨u,e,a⟩:=Us n m _ _ _ _ _ j m k;refine⟨n,r,u,e,d,q,⟨a.ac.symm,a.mp.symm,λb x hb=>a.Y hb⟩,?_,λb hb o=> ?_⟩
 ·rw[a.ac];exact a.Y5
 ·have g:b<p.ac/\p.Y b=none:=⟨by rw[c.ac];exact hb,o⟩
  exact⟨(a.AZ b g).1,a.off b g,(a.AZ b g).2⟩
inductive CT where
 |int (k:IntKind)
 |bool
 |str
 |slice (e:CT)
 |unit
 |Eb (a b:CT)
abbrev CT.Fy:CT->Type
 | .int _=>Int
 | .bool=>Bool
 | .str=>ByteArray
 | .slice e=>List e.Fy
 | .unit=>Unit
 | .Eb a b=>a.Fy×b.Fy
def CT.cells:CT->Nat
 | .unit=>0
 | .Eb a b=>a.cells+b.cells
 |_=>1
def CT.DY:CT->Nat
 | .int .u32=>4
 |_=>1
theorem CT.zu(s:CT):1<=s.DY:=by unfold CT.DY;split<;>omega
theorem CT.a6O(s:CT){k:Nat}(h:n*s.DY<=k):n<=k:=E8 (Nat.le_mul_of_pos_right n s.zu) h
def CT.isAgg:CT->Bool
 | .unit| .Eb _ _=>true
 |_=>false
def Jx(P:Program)(h:TypeId->CT->Bool):Nat->List Field->CT->Bool
 |_,[],.unit=>true
 |off,f::fs,.Eb a b=>f.offset==off&&h f.type a&&P.cellsOf f.type==a.cells&&Jx P h (off+a.cells) fs b
 |_,_,_=>false
def K8(h:CT->Bool)(z:Nat):Nat->CT->Bool
 |0,.unit=>true
 |n+1,.Eb a b=>h a&&a.cells==z&&K8 h z n b
 |_,_=>false
def Pd(P:Program):Nat->TypeId->CT->Bool
 |0,_,_=>false
 | n+1,t,s=>match P.underlying t,s with
   |some (.int k),.int b=>decide (k=b)
   |some .bool,.bool=>true
   |some .string,.str=>true
   |some (.slice e),.slice a=>Pd P n e a&&P.cellsOf e==a.cells&&decide (0<a.cells)&&decide (a.DY<=P.bytesOf e)
   |some (.struct fs),s=>s.isAgg&&P.cellsOf t==s.cells&&Jx P (Pd P n) 0 fs.toList s
   |some (.array k e),s=>s.isAgg&&P.cellsOf t==s.cells&&K8 (Pd P n e) (P.cellsOf e) k s
   |_,_=>false
abbrev Iz{e:CT}(l:(CT.slice e).Fy):List e.Fy:=l
def Ju(m:X):(s:CT)->List Value->s.Fy->Prop
 | .int k,cs,n=>cs=[.int k n]/\(Lit.int k n).wf=true
 | .bool,cs,b=>cs=[.bool b]
 | .str,cs,s=>cs=[.string s]/\s.size<=reachBytes
 | .slice e,cs,l=>(cs=[.slice none 0 0]/\Iz l=[])\/ ∃(b:Nat) (cb:List (List Value)),cs=[.slice (some ⟨b,0,none⟩) (Iz l).length e.cells]/\m.Y b=some ⟨cb.flatten,false⟩/\(Iz l).length*e.DY<=reachBytes/\cb.length=(Iz l).length/\(∀(i:Nat) (r:List Value) (d:e.Fy),cb[i]?=some r->(Iz l)[i]?=some d->Ju m e r d)
 | .unit,cs,_=>cs=[]
 | .Eb a b,cs,d=> ∃c f,cs=c++f/\Ju m a c d.1/\Ju m b f d.2
theorem Ju.len{m:X}: ∀{s:CT} {cs:List Value} {d:s.Fy},Ju m s cs d->cs.length=s.cells
 | .int _,_,_,h=>by rw[h.1];rfl
 | .bool,cs,d,h=>by have:cs=[.bool d]:=h;rw[this];rfl
 | .str,_,_,h=>by rw[h.1];rfl
 | .slice _,_,_,h=>by rcases h with⟨rfl,_⟩|⟨b,cb,rfl,_⟩<;>rfl
 | .unit,cs,_,h=>by have:cs=[]:=h;rw[this];rfl
 | .Eb a b,_,_,h=>by obtain⟨f,g,rfl,c,e⟩:=h;simp[CT.cells,c.len,e.len]
theorem Ju.AD{m:X}(c: ∀b x,m.Y b=some x->x.own=false->u.Y b=some x): ∀{s:CT} {cs:List Value} {d:s.Fy},Ju m s cs d->Ju u s cs d
 | .int _,_,_,h=>h
 | .bool,_,_,h=>h
 | .str,_,_,h=>h
 | .slice e,_,_,h=>by
   rcases h with h|⟨b,cb,f,g,j,k,l⟩
   ·exact .inl h
   ·exact .inr ⟨b,cb,f,c _ _ g rfl,j,k,λi r d n o=>(l i r d n o).AD c⟩
 | .unit,_,_,h=>h
 | .Eb a b,_,_,h=>by obtain⟨p,q,t,f,g⟩:=h;exact⟨p,q,t,f.AD c,g.AD c⟩
def R9:(s:CT)->s.Fy->Prop
 | .int k,n=>(Lit.int k n).wf=true
 | .bool,_=>True
 | .str,s=>s.size<=reachBytes
 | .slice e,l=>(Iz l).length*e.DY<=reachBytes/\ ∀x∈Iz l,R9 e x
 | .unit,_=>True
 | .Eb a b,d=>R9 a d.1/\R9 b d.2
theorem Ju.ok{m:X}: ∀{s:CT} {cs:List Value} {d:s.Fy},Ju m s cs d->R9 s d
 | .int _,_,_,h=>h.2
 | .bool,_,_,_=>trivial
 | .str,_,_,h=>h.2
 | .slice e,_,l,h=>by
   rcases h with⟨_,h⟩|⟨b,cb,f,g,j,n,k⟩
   ·subst h;exact⟨by simp[Iz],λx c=>by cases c⟩
   ·refine⟨j,λx c=> ?_⟩;obtain⟨i,o,rfl⟩:=E5 c;exact(k i (cb[i]'(by omega)) _ (by simp) (by simp)).ok
 | .unit,_,_,_=>trivial
 | .Eb a b,_,_,h=>by obtain⟨p,q,r,f,g⟩:=h;exact⟨f.ok,g.ok⟩
def gC(m:X)(s:CT)(v:Value)(d:s.Fy):Prop:= ∃cs,Ju m s cs d/\v=if s.isAgg then .agg cs.toArray else cs.headD undef
inductive Od(m:X):List CT->List Value->Prop
 |nil:Od m [] []
 |cons {s:CT} {v:Value} {d:s.Fy} {py:List CT} {a:List Value} (h:gC m s v d) (b:Od m py a):Od m (s::py) (v::a)
variable {aH:Nat} {C:Ren} {m:X} {w:World}
theorem BF.ud(d:BF aH C m w)(M: ∀b x,m.Y b=some x->x.own=false){l:Pj}(t:l.c<w.heap.size)(u:xs.length<=l.n)
 (y: ∀i v,xs[i]?=some v->F v=true/\ ∃a,w.cell? ⟨l.c,l.o+i,none⟩=some a/\BD C v a):
 BF aH (DN C m.ac l) ((m.AE 1).A1 m.ac (some ⟨xs,false⟩)) w/\CY C (DN C m.ac l)/\(∀b x,m.Y b=some x->((m.AE 1).A1 m.ac (some ⟨xs,false⟩)).Y b=some x)/\
  (∀b x,((m.AE 1).A1 m.ac (some ⟨xs,false⟩)).Y b=some x->x.own=false)/\((m.AE 1).A1 m.ac (some ⟨xs,false⟩)).Y m.ac=some ⟨xs,false⟩:=by
 have z:C m.ac=none:=by
  cases h:C m.ac with
  |none=>rfl
  |some l=>have:=d.Gc _ _ h;omega
 have e:=LM (l:=l) z;have A:((m.AE 1).A1 m.ac (some ⟨xs,false⟩)).Y m.ac=some ⟨xs,false⟩:=AR (by simp)
 have B: ∀b x,m.Y b=some x->((m.AE 1).A1 m.ac (some ⟨xs,false⟩)).Y b=some x:= λb x hb=>by
  grind [E,A6,Ab]
 have D: ∀b x,((m.AE 1).A1 m.ac (some ⟨xs,false⟩)).Y b=some x->(b=m.ac/\x=⟨xs,false⟩)\/m.Y b=some x:= λb x hb=>by
  grind [A6,X.Ab]
 have r: ∀b x,((m.AE 1).A1 m.ac (some ⟨xs,false⟩)).Y b=some x->x.own=false:= λb x hb=>by
  grind
 refine⟨⟨λb f hb=> ?_,λb f hb=> ?_,λb x hb=> ?_,λb x I N G O s g=> ?_,λb es hb=> ?_,λb es hb=> ?_,λb x G s g=>(by rw[r _ _ s]at g;cases g)⟩,e,B,r,A⟩
 ·unfold DN at hb;split at hb
  ·simp_all
  ·have:=d.Gc _ _ hb;simp;omega
 ·unfold DN at hb;split at hb
  ·cases hb;exact t
  ·exact d.Gh _ _ hb
 ·rcases D b x hb with⟨rfl,rfl⟩|h
  ·exact⟨l,by simp[DN],u,λi v j=>by obtain⟨k,a,p,q⟩:=y i v j;exact⟨k,a,p,q.AD e⟩,λh=>by cases h⟩
  ·obtain⟨f,H,J,K,L⟩:=d.GK b x h;exact⟨f,e _ _ H,J,λi v j=>by obtain⟨k,a,p,q⟩:=K i v j;exact⟨k,a,p,q.AD e⟩,L⟩
 ·grind
 ·obtain⟨f,h⟩:=d.NO b es hb;exact⟨f,e _ _ h⟩
 ·grind [X.Bs]
variable {N:Type} {enc:TypeId×Value->N} {P:Program} {fZ:World}
theorem jO{P:Program}{d:DataW N}: ∀{l:List (DataW N)},d∈l->n∈d.weights P e->n∈DataW.weightsAll P e l
 |[],h,_=>by cases h
 | x::r,h,a=>by
   simp only[DataW.weightsAll,D2];rcases CZ.1 h with rfl|h
   ·exact .inl a
   ·exact .inr (jO h a)
structure fD(fZ:World)(C:Ren)(m:X)(s:CT)(cs:List Value)(a:Ren)(u:X)(D:List Value)(d:s.Fy):Prop where
 HG:BF fZ.heap.size a u fZ
 Ot:CY C a
 PO: ∀b x,m.Y b=some x->u.Y b=some x
 own: ∀b x,u.Y b=some x->x.own=false
 M4:Aw a D cs
 Gx: ∀v∈D,F v=true
 S5:Ju u s D d
def YB(fZ:World)(cs:List Value):Prop:= ∀a len cap,.slice (some a) len cap∈cs->0<fZ.heap.size
def Y1(enc:TypeId×Value->N)(P:Program)(fZ:World)(t:TypeId)(s:CT):Prop:=
 ∀H cs x,DataW.trod enc P fZ 0 (λ_=>true) true H t cs=some x->(∀n∈x.1.weights P t,n<=reachBytes)->YB fZ cs-> ∀C m,BF fZ.heap.size C m fZ->(∀b x,m.Y b=some x->x.own=false)-> ∃a u D d,fD fZ C m s cs a u D d
variable{h:TypeId->CT->Bool}{H:Nat}{ps:List MemPlace}{ts:List TypeId}{py:List CT}
theorem oz(o: ∀t s,h t s=true->Y1 enc P fZ t s): ∀(fs:List Field) (s:CT) (off H:Nat) (cs:List Value),Jx P h off fs s=true->off+s.cells<=cs.length->
 (∀f∈fs,∃x,DataW.trod enc P fZ 0 (λ_=>true) true H f.type ((cs.drop f.offset).take (P.cellsOf f.type))=some x/\ ∀n∈x.1.weights P f.type,n<=reachBytes)->YB fZ cs->
 ∀C m,BF fZ.heap.size C m fZ->(∀b x,m.Y b=some x->x.own=false)-> ∃y u D d,fD fZ C m s ((cs.drop off).take s.cells) y u D d
 |[],.unit,off,H,cs,c,p,i,j,C,m,k,l=>⟨C,m,[],(),k,CY.refl C,λ_ _ h=>h,l,by simpa[CT.cells]using Aw.nil C,by simp,rfl⟩
 | f::fs,.Eb a b,off,H,cs,c,p,i,j,C,m,k,l=>by
   simp only[Jx,AF,beq_iff_eq]at c;obtain⟨⟨⟨rfl,z⟩,A⟩,B⟩:=c;simp only[CT.cells]at p⊢;obtain⟨x,q,E⟩:=i f (by simp);rw[A]at q;obtain⟨F,G,r,I,g⟩:=o _ _ z _ _ _ q E (λJ len cap K=>j J len cap (QM (MY K))) C m k l;obtain⟨L,M,w,N,e⟩:=oz o fs b (f.offset+a.cells) H cs B (by omega) (λO Q=>i O (by simp[Q])) j F G g.HG g.own;refine⟨L,M,r++w,(I,N),e.HG,g.Ot.trans e.Ot,λb x hb=>e.PO _ _ (g.PO _ _ hb),e.own,?_,?_,⟨r,w,rfl,g.S5.AD (λb x hb _=>e.PO _ _ hb),e.S5⟩⟩
   ·rw[List.take_add,kn];exact(g.M4.AD e.Ot).JU e.M4
   ·intro v R;rcases D2.1 R with h|h
    ·exact g.Gx v h
    ·exact e.Gx v h
 |[],.int _,_,_,_,c,_,_,_,_,_,_,_=>by simp[Jx]at c
 |[],.bool,_,_,_,c,_,_,_,_,_,_,_=>by simp[Jx]at c
 |[],.str,_,_,_,c,_,_,_,_,_,_,_=>by simp[Jx]at c
 |[],.slice _,_,_,_,c,_,_,_,_,_,_,_=>by simp[Jx]at c
 |[],.Eb _ _,_,_,_,c,_,_,_,_,_,_,_=>by simp[Jx]at c
 |_::_,.int _,_,_,_,c,_,_,_,_,_,_,_=>by simp[Jx]at c
 |_::_,.bool,_,_,_,c,_,_,_,_,_,_,_=>by simp[Jx]at c
 |_::_,.str,_,_,_,c,_,_,_,_,_,_,_=>by simp[Jx]at c
 |_::_,.slice _,_,_,_,c,_,_,_,_,_,_,_=>by simp[Jx]at c
 |_::_,.unit,_,_,_,c,_,_,_,_,_,_,_=>by simp[Jx]at c
theorem uF{h:CT->Bool}{z:Nat}(q: ∀s,h s=true->Y1 enc P fZ e s): ∀(n:Nat) (s:CT) (i H:Nat) (cs:List Value),K8 h z n s=true->i*z+s.cells<=cs.length->
 (∀j,i<=j->j<i+n-> ∃x,DataW.trod enc P fZ 0 (λ_=>true) true H e ((cs.drop (j*z)).take z)=some x/\ ∀n∈x.1.weights P e,n<=reachBytes)->YB fZ cs->
 ∀C m,BF fZ.heap.size C m fZ->(∀b x,m.Y b=some x->x.own=false)-> ∃A u D d,fD fZ C m s ((cs.drop (i*z)).take s.cells) A u D d
 |0,.unit,i,H,cs,c,r,k,l,C,m,o,p=>⟨C,m,[],(),o,CY.refl C,λ_ _ h=>h,p,by simpa[CT.cells]using Aw.nil C,by simp,rfl⟩
 | n+1,.Eb a b,i,H,cs,c,r,k,l,C,m,o,p=>by
   simp only[K8,AF,beq_iff_eq]at c;obtain⟨⟨t,rfl⟩,B⟩:=c;simp only[CT.cells]at r⊢;obtain⟨x,E,F⟩:=k i (Aj _) (by omega);obtain⟨G,I,w,J,g⟩:=q _ t _ _ _ E F (λK len cap L=>l K len cap (QM (MY L))) C m o p;have M:(i+1)*a.cells=i*a.cells+a.cells:=(by rw[IQ];omega);obtain⟨N,O,y,Q,f⟩:=uF q n b (i+1) H cs B (by omega) (λj t S=>k j (by omega) (by omega)) l G I g.HG g.own;refine⟨N,O,w++y,(J,Q),f.HG,g.Ot.trans f.Ot,λb x hb=>f.PO _ _ (g.PO _ _ hb),f.own,?_,?_,⟨w,y,rfl,g.S5.AD (λb x hb _=>f.PO _ _ hb),f.S5⟩⟩
   ·rw[List.take_add,kn,<-M];exact(g.M4.AD f.Ot).JU f.M4
   ·intro v R;rcases D2.1 R with h|h
    ·exact g.Gx v h
    ·exact f.Gx v h
 |0,.int _,_,_,_,c,_,_,_,_,_,_,_=>by simp[K8]at c
 |0,.bool,_,_,_,c,_,_,_,_,_,_,_=>by simp[K8]at c
 |0,.str,_,_,_,c,_,_,_,_,_,_,_=>by simp[K8]at c
 |0,.slice _,_,_,_,c,_,_,_,_,_,_,_=>by simp[K8]at c
 |0,.Eb _ _,_,_,_,c,_,_,_,_,_,_,_=>by simp[K8]at c
 |_+1,.int _,_,_,_,c,_,_,_,_,_,_,_=>by simp[K8]at c
 |_+1,.bool,_,_,_,c,_,_,_,_,_,_,_=>by simp[K8]at c
 |_+1,.str,_,_,_,c,_,_,_,_,_,_,_=>by simp[K8]at c
 |_+1,.slice _,_,_,_,c,_,_,_,_,_,_,_=>by simp[K8]at c
 |_+1,.unit,_,_,_,c,_,_,_,_,_,_,_=>by simp[K8]at c
theorem pS{s:CT}(w:Y1 enc P fZ e s){a:Addr}(E:a.spot=none)(y:0<fZ.heap.size): ∀(k:Nat),(∀i,i<k-> ∃cs x,fZ.cells? 0 (a.add (i*s.cells)) s.cells=some cs/\DataW.trod enc P fZ 0 (λ_=>true) true H e cs=some x/\ ∀n∈x.1.weights P e,n<=reachBytes)->
 ∀C m,BF fZ.heap.size C m fZ->(∀b x,m.Y b=some x->x.own=false)->
 ∃ (p:Ren) (u:X) (cb:List (List Value)) (ds:List s.Fy),BF fZ.heap.size p u fZ/\CY C p/\(∀b x,m.Y b=some x->u.Y b=some x)/\(∀b x,u.Y b=some x->x.own=false)/\cb.length=k/\ds.length=k/\(cb.flatten).length=k*s.cells/\
   (∀i v,cb.flatten[i]?=some v->F v=true/\ ∃j,fZ.cell? ⟨a.block,a.off+i,none⟩=some j/\BD p v j)/\(∀(i:Nat) (r:List Value) (d:s.Fy),cb[i]?=some r->ds[i]?=some d->Ju u s r d)
 |0,_,C,m,q,t=>⟨C,m,[],[],q,CY.refl C,λ_ _ h=>h,t,rfl,rfl,by simp,by simp,by simp⟩
 | k+1,z,C,m,q,t=>by
   obtain⟨G,I,cb,ds,J,K,L,M,A,B,N,O,Q⟩:=pS w E y k (λi l=>z i (by omega)) C m q t;obtain⟨cs,x,R,S,T⟩:=z k (by omega);obtain⟨_,A5,U⟩:=World.cells?_some R;obtain⟨V,W,D,d,o⟩:=w _ _ _ S T (λ_ _ _ _=>y) G I J M;have A6:D.length=s.cells:=o.S5.len;refine⟨V,W,cb++[D],ds++[d],o.HG,K.trans o.Ot,λb x hb=>o.PO _ _ (L _ _ hb),o.own,by simp[A],by simp[B],?_,?_,?_⟩
   ·grind
   ·intro i v f;rw[List.flatten_append,Mk]at f;split at f
    ·obtain⟨Z,j,A0,A1⟩:=O i v f;exact⟨Z,j,A0,A1.AD o.Ot⟩
    ·rename_i l;rw[N]at l f;simp only[I2,List.flatten_nil,Pf]at f;refine⟨o.Gx v (B5 f),?_⟩;obtain⟨j,A2,c⟩:=o.M4.Y f;have A3:i-k*s.cells<s.cells:=(by have:=(Ae.1 f).1;omega);have:=U _ A3;rw[A2]at this;refine⟨j,?_,c⟩;rw[<-this];congr 1;obtain⟨A7,A8,A9⟩:=a
     grind [Addr.add]
   ·intro i r A4 c g;rw[Mk]at c g;rw[A]at c;rw[B]at g;split at c
    ·rename_i l;rw[if_pos l]at g;exact(Q i r A4 c g).AD (λb x hb _=>o.PO _ _ hb)
    ·rename_i l;rw[if_neg l]at g;have:i-k=0:=by
      grind
     rw[this]at c g;simp at c g;subst c;subst g;exact o.S5
theorem vz: ∀(n:Nat) (t:TypeId) (s:CT),Pd P n t s=true->Y1 enc P fZ t s
 |0,_,_,h=>by cases h
 | n+1,t,s,h=>by
   have I:=vz n;intro H cs x u D K C m o p;unfold Pd at h;split at h
   ·rename_i k AW c;simp only[BW]at h;subst h;obtain⟨v,rfl,rfl,S⟩:=DataW.trod_int c u;exact⟨C,m,[.int k v],v,o,CY.refl C,λ_ _ h=>h,p,Aw.cons (.BP rfl) (Aw.nil C),by simp[F],⟨rfl,S⟩⟩
   ·rename_i c;obtain⟨b,rfl,rfl⟩:=DataW.trod_bool c u;exact⟨C,m,[.bool b],b,o,CY.refl C,λ_ _ h=>h,p,Aw.cons (.BP rfl) (Aw.nil C),by simp[F],rfl⟩
   ·rename_i c;obtain⟨v,rfl,rfl,S⟩:=DataW.trod_string c u;exact⟨C,m,[.string v],v,o,CY.refl C,λ_ _ h=>h,p,Aw.cons (.BP rfl) (Aw.nil C),by simp[F],⟨rfl,by have:=D v.data.toList.length (by simp[DataW.weights]);simpa using this⟩⟩
   ·rename_i e g c;simp only[AF,beq_iff_eq,BW]at h;obtain⟨⟨⟨w,z⟩,T⟩,A3⟩:=h;rcases DataW.trod_slice c u with⟨rfl,rfl⟩|⟨a,len,cap,L,J,A,_,rfl,rfl,_,U,A4,AX,A5,E,_⟩
    ·exact⟨C,m,[.slice none 0 0],[],o,CY.refl C,λ_ _ h=>h,p,Aw.cons (.BP rfl) (Aw.nil C),by simp[F],.inl ⟨rfl,rfl⟩⟩
    ·have V:0<fZ.heap.size:=K a len cap (by simp);have A6:len*g.DY<=reachBytes:=by
      have AY:=D ((L.length+J.length)*P.bytesOf e) (by simp[DataW.weights,c]);have AZ:len*g.DY<=(L.length+J.length)*P.bytesOf e:=Nat.mul_le_mul (by omega) A3;omega
     have Aa: ∀y∈L,∀n∈y.1.weights P e,n<=reachBytes:= λy Ab n W=>D n (by
      grind [DataW.weights,jO,List.mem_map_of_mem])
     rw[z]at A5 E;have E:=E rfl

     have A7:0<cap->a.spot=none/\a.block<fZ.heap.size:=by
      intro Ac;have: ∃cs,fZ.cells? 0 a g.cells=some cs:=by
       by_cases B:0<len
       ·grind [Option.bind_eq_some_iff,Addr.add]
       ·have:=E.2 0 (by omega)
        grind [Option.bind_eq_some_iff,Addr.add]
      obtain⟨cs,X⟩:=this;refine⟨?_,World.cells?_block X T⟩;obtain⟨_,B,A8⟩:=World.cells?_some X;have q:=A8 0 T;obtain⟨Y,M⟩: ∃Y,cs[0]?=some Y:=⟨cs[0]'(by omega),by simp⟩;rw[M]at q;simp only[Addr.add,if_true]at q;unfold World.cell? at q;split at q
      ·simp_all
      ·cases q
     by_cases M:cap=0
     ·obtain rfl:len=0:=(by omega);subst M;obtain⟨N,O,G,Q,R⟩:=o.ud p (xs:=[]) (l:=⟨0,0,0⟩) V (Aj _) (by simp);refine⟨_,_,[.slice (some ⟨m.ac,0,none⟩) 0 g.cells],[],N,O,G,Q,Aw.cons (.slice (l:=⟨0,0,0⟩) (by simp[DN]) (.inl ⟨rfl,rfl⟩) (Aj _) (C8 _)) (Aw.nil _),by simp[F],.inr ⟨m.ac,[],rfl,R,by simp[Iz],rfl,by simp⟩⟩
     ·obtain⟨A9,AA⟩:=A7 (by omega);have AB: ∀i,i<len-> ∃cs x,fZ.cells? 0 (a.add (i*g.cells)) g.cells=some cs/\DataW.trod enc P fZ 0 (λ_=>true) true A e cs=some x/\ ∀n∈x.1.weights P e,n<=reachBytes:=by
       grind [Option.bind_eq_some_iff]
      obtain⟨Ae,Z,cb,ds,AE,AI,AJ,AK,Af,AL,AM,AN,AO⟩:=pS (I _ _ w) A9 V len AB C m o p;have AQ:len*g.cells<=cap*g.cells:=KI _ U;have A0:(Iz ds).length=len:=AL;obtain⟨N,O,G,Q,R⟩:=AE.ud AK (xs:=cb.flatten) (l:=⟨a.block,a.off,cap*g.cells⟩) AA (by rw[AM];exact AQ) AN
      refine⟨_,_,[.slice (some ⟨Z.ac,0,none⟩) len g.cells],ds,N,AI.trans O,λb x hb=>G _ _ (AJ _ _ hb),Q,Aw.cons (.slice (l:=⟨a.block,a.off,cap*g.cells⟩) (by simp[DN]) (.inr ⟨?_,by simp⟩) U A4) (Aw.nil _),by simp[F],
       .inr ⟨Z.ac,cb,by rw[A0],R,by rw[A0];exact A6,by omega,λi r d AR AS=>(AO i r d AR AS).AD (λb x hb _=>G _ _ hb)⟩⟩
      obtain⟨Ag,Ah,Ai⟩:=a
      simp_all
   ·rename_i g fs c;simp only[AF,beq_iff_eq]at h;obtain⟨⟨q,w⟩,z⟩:=h;obtain⟨xs,A,_,rfl,B,AT,A1⟩:=DataW.trod_struct c u;have:=oz (λt s h=>I t s h) fs.toList _ 0 A cs z (by rw[B,w];omega) (λf AU=> ?_) K C m o p
    ·grind
    ·obtain⟨i,AV,rfl⟩:=E5 AU;have A2:i<fs.size:=(by simpa using AV);have:=A1 i fs[i] (by simp[A2]);refine⟨xs[i]'(by omega),?_,λn W=>D n ?_⟩
     ·simp_all
     ·simp only[DataW.weights,c];exact DataW.weights_mem_each (j:=i) (t:=fs[i].type) (d:=xs[i].1) (by simp[A2]) (by simp[AP (show i<xs.length by omega)]) n (by simpa using W)
   ·rename_i g k e c;simp only[AF,beq_iff_eq]at h;obtain⟨⟨q,w⟩,z⟩:=h;obtain⟨xs,A,_,rfl,B,AT,A1⟩:=DataW.trod_array c u;have:=uF (λs h=>I e s h) k _ 0 A cs z (by rw[B,w];omega) (λj _ Ak=> ?_) K C m o p
    ·grind
    ·grind [DataW.weights,jO,List.mem_map_of_mem,List.getElem_mem]
   ·cases h
theorem aCP{aH:Nat}(b:Value.okWide P fZ .any aH t v):YB fZ v.cells.toList:=by
 have l: ∀c a len cap,Cell.okWide P fZ .any aH c (.slice (some a) len cap)->0<fZ.heap.size:=by
  intro c a len cap h;unfold Cell.okWide at h;split at h<;>try(rename_i d;cases d)
  unfold Cell.ok at h;split at h<;>rename_i d<;>try cases d
  ·obtain⟨_,_,_,_,m,cells,n,_⟩:=h
   grind [World.shape?]
  ·cases h
 intro a len cap e;unfold Value.okWide at b;split at b
 ·obtain⟨cs,rfl,_,ts,_,_,f⟩:=b;obtain⟨i,g,j⟩:=E5 e;obtain⟨c,_,k⟩:=f i (.slice (some a) len cap) (by
   grind [Value.cells])
  grind
 ·obtain⟨cs,rfl,_,ts,_,_,f⟩:=b;obtain⟨i,g,j⟩:=E5 e;obtain⟨c,_,k⟩:=f i (.slice (some a) len cap) (by
   grind [Value.cells])
  grind
 ·cases v<;>simp[Value.cells]at e
  ·grind
  ·simp_all [Cell.okWide,Cell.ok]
theorem a7R{n:Nat}{t:TypeId}{s:CT}(i:Pd P n t s=true){aH:Nat}{v:Value}{d:DataW N}{ps:List MemPlace}(j:Value.okWide P fZ .any aH t v)(z:DataW.Trod enc P fZ 0 (λ_=>true) true t v d ps)(A: ∀n∈d.weights P t,n<=reachBytes)
 {C:Ren} {m:X} (B:BF fZ.heap.size C m fZ) (E: ∀b x,m.Y b=some x->x.own=false):
 ∃f u y q,BF fZ.heap.size f u fZ/\CY C f/\(∀b x,m.Y b=some x->u.Y b=some x)/\(∀b x,u.Y b=some x->x.own=false)/\BD f y v/\gC u s y q:=by
 obtain⟨H,F⟩:=z;obtain⟨f,u,D,q,o⟩:=vz n t s i H _ _ F A (aCP j) C m B E;refine⟨f,u,if s.isAgg then .agg D.toArray else D.headD undef,q,o.HG,o.Ot,o.PO,o.own,?_,D,o.S5,rfl⟩;cases n with
 |zero=>cases i
 | succ n=>
   unfold Pd at i;have p: ∀w:Value,v.cells.toList=[w]->w=v->s.isAgg=false->BD f (if s.isAgg then .agg D.toArray else D.headD undef) v:=by
    intro w G I r;rw[r];have h:=o.M4;rw[G]at h;have J:=h.1;cases D with
    |nil=>simp at J
    |cons a D=>have:=h.2 0 a w rfl rfl;rw[I]at this;simpa using this
   have agg:(∃cs,v= .agg cs)->s.isAgg=true->BD f (if s.isAgg then .agg D.toArray else D.headD undef) v:=(by rintro⟨cs,rfl⟩ r;rw[r];have h:=o.M4;simp only[Value.cells]at h;have:=h.agg o.Gx;simpa using this);split at i
   ·rename_i k K g;obtain⟨n,rfl⟩:=WideShapes.okWide_int g j;exact p _ rfl rfl rfl
   ·rename_i g;obtain⟨n,rfl⟩:=WideShapes.okWide_bool g j;exact p _ rfl rfl rfl
   ·rename_i g;obtain⟨n,rfl⟩:=WideShapes.okWide_string g j;exact p _ rfl rfl rfl
   ·rename_i e L g;obtain⟨a,l,c,rfl⟩:=WideShapes.okWide_slice g j;exact p _ rfl rfl rfl
   ·grind [WideShapes.okWide_struct]
   ·grind [Value.okWide]
   ·cases i
def Sa(P:Program)(n:Nat):List TypeId->List CT->Bool
 |[],[]=>true
 |t::ts,s::py=>Pd P n t s&&Sa P n ts py
 |_,_=>false
theorem mC{aH:Nat}: ∀(ts:List TypeId) (py:List CT) (f:List Value) (ds:List (DataW N)) (ps:List MemPlace),Sa P n ts py=true->(∀(j:Nat) t v,ts[j]?=some t->f[j]?=some v->Value.okWide P fZ .any aH t v)->
 DataW.TrodAll enc P fZ 0 (λ_=>true) true ts f ds ps->(∀n∈DataW.weightsEach P ts ds,n<=reachBytes)-> ∀C m,BF fZ.heap.size C m fZ->(∀b x,m.Y b=some x->x.own=false)->
 ∃i u g,BF fZ.heap.size i u fZ/\CY C i/\(∀b x,m.Y b=some x->u.Y b=some x)/\Aw i g f/\Od u py g
 |[],[],[],[],_,_,_,_,_,C,m,k,r=>⟨C,m,[],k,CY.refl C,λ_ _ h=>h,Aw.nil C,.nil⟩
 | t::ts,s::py,v::f,d::ds,ps,e,w,c,y,C,m,k,r=>by simp only[Sa,AF]at e;obtain⟨p,q,B,D,rfl⟩:=c;obtain⟨E,F,G,U,H,I,J,K,L,l⟩:=a7R e.1 (w 0 t v rfl rfl) B (λn o=>y n (by simp only[DataW.weightsEach];exact IK _ o)) k r;obtain⟨M,O,g,Q,z,A,R,S⟩:=mC ts py f ds q e.2 (λj t v a b=>w (j+1) t v (by simpa using a) (by simpa using b)) D (λn o=>y n (by simp only[DataW.weightsEach];exact HO _ o)) E F H K;obtain⟨cs,l,T⟩:=l;exact⟨M,O,G::g,Q,I.trans z,λb x hb=>A _ _ (J _ _ hb),Aw.cons (L.AD z) R,.cons ⟨cs,l.AD (λb x hb _=>A _ _ hb),T⟩ S⟩
 |[],_::_,_,_,_,e,_,_,_,_,_,_,_=>by simp[Sa]at e
 |_::_,[],_,_,_,e,_,_,_,_,_,_,_=>by simp[Sa]at e
 |[],[],_::_,_,_,_,_,c,_,_,_,_,_=>by simp[DataW.TrodAll]at c
 |[],[],[],_::_,_,_,_,c,_,_,_,_,_=>by simp[DataW.TrodAll]at c
 |_::_,_::_,[],_,_,_,_,c,_,_,_,_,_=>by simp[DataW.TrodAll]at c
 |_::_,_::_,_::_,[],_,_,_,c,_,_,_,_,_=>by simp[DataW.TrodAll]at c
theorem aAI(i:P.follows .mixedOrders=true){f aH:Nat}(l:Sa P n ts py=true){args:Array Value}{ds:List (DataW N)}
 (d: ∀(j:Nat) t v,ts[j]?=some t->args[j]?=some v->Value.okWide P fZ .any aH t v) (o:DataW.TrodAll enc P fZ 0 (λ_=>true) true ts args.toList ds ps) (p: ∀n∈DataW.weightsEach P ts ds,n<=reachBytes)
 (h: ∀m c,Od m py c->At P f c m λr _=>r= .bool true):
 Calls P f args fZ λe g=>e= .returned (.bool true)/\Below fZ.heap.size fZ g:=by
 obtain⟨C,m,c,q,_,_,s,w⟩:=mC ts py args.toList ds ps l (λj t v a b=>d j t v a (by simpa using b)) o p _ _ BF.empty (λb x h=>by unfold X.Y at h;split at h<;>cases h);obtain⟨k,r,u,y,rfl⟩:=h m c w;have:=(tZ i k fZ.heap.size f c _ _ _ y).2.2.2.2 C fZ args s q (Aj _);refine this.mono λe g z=> ?_;obtain⟨v,A,rfl,_,_,d,_,hb⟩:=z;exact⟨by rw[d.Jk],hb⟩
theorem UP{m:X}{b:Nat}(h:m.ac<=b):m.Y b=none:=by simp[X.Y];omega
section
variable {A0:Type} {m u:X} {v:Value} {l:List A0}
theorem oy{cb:List (List Value)}{z:Nat}(a: ∀x∈cb,x.length=z): ∀{i:Nat} {y:List Value},cb[i]?=some y->(cb.flatten.drop (i*z)).take z=y:=by
 induction cb with
 |nil=>intro i y h;simp at h
 | cons x cb b=>
   intro i y h;have c:=a x (by simp);cases i with
   | zero=>
     simp_all
   | succ i=>
     grind [List.drop_drop,List.drop_left]
variable{z:Nat}
theorem LV{cb:List (List Value)}(a: ∀x∈cb,x.length=z):cb.flatten.length=cb.length*z:=by
 induction cb with
 |nil=>simp
 |cons x cb b=>rw[I2,En,a x (by simp),b (λy c=>a y (by simp[c])),DZ,IQ];omega
variable {p:X} {cb:List (List Value)}
theorem tu{cs:List Value}{z:Nat}: ∀(n o:Nat),o+n*z<=cs.length-> ∃cb:List (List Value),cb.length=n/\cb.flatten=(cs.drop o).take (n*z)/\ ∀i,i<n->cb[i]?=some ((cs.drop (o+i*z)).take z)
 |0,o,_=>⟨[],rfl,by simp,λi a=>by omega⟩
 | n+1,o,h=>by
   rw[IQ]at h;obtain⟨cb,b,c,d⟩:=tu (cs:=cs) (z:=z) n (o+z) (by omega);refine⟨(cs.drop o).take z::cb,by simp[b],?_,λi a=> ?_⟩
   ·grind [Nat.add_mul,List.drop_drop]
   ·cases i with
    |zero=>simp
    | succ i=>
      grind
end
end Go.DI
