/- A part of the proof. -/
import Derived.Test.YtmmkkggfmigppaaGreatZdv
set_option linter.all false
set_option maxRecDepth 20000
set_option maxHeartbeats 16000000
noncomputable section
namespace Go.Proofs.YtmmkkggfmigppaaGreat
open Go Go.DI Go.Big Go.EL
variable{i v d b g4:Nat}{u:AL}{p:Dg}{T:Option CC}{aU:List Nat}{l s c1:List Ah}{t aA:X}{x:Ah}{A J:A2}{R:List Int}{Q:BM->A2->X->Prop}
theorem aDB(h:BS u)(k:v<=1000)(l:i<=1000):AO V 82 [.agg (A7 u).toArray,Z v,Z i] (Z (Ap u v i)):=by
 have m:=h.Cg;have n:=h.EF;have o:=h.D6;refine BQ (Ax (aC:=⟨[],[]⟩) gT.2 ?_);unfold Ap;have a:IntKind.i64.wrap (2+(v:Int))=2+v:=Ac (by omega) (by omega);by_cases c:i=0
 ·subst c;simp[gT,gQ,A7,a]
 ·have q: ¬(i:Int)=0:=(by omega);have r:0<=(v:Int)*((u.A5.length:Int)-1):=MH (by omega) (by omega);have s:(v:Int)*((u.A5.length:Int)-1)<=1000*1000:=NW (Jt (by omega) (by omega)) (SV (by omega) (by omega));have b:IntKind.i64.wrap (2+(u.A3.length:Int))=2+u.A3.length:=Ac (by omega) (by omega);have d:IntKind.i64.wrap ((u.A5.length:Int)-1)=(u.A5.length:Int)-1:=Ac (by omega) (by omega);have e:IntKind.i64.wrap ((v:Int)*((u.A5.length:Int)-1))=(v:Int)*((u.A5.length:Int)-1):=Ac (by omega) (by omega);have f:IntKind.i64.wrap (2+(u.A3.length:Int)+(v:Int)*((u.A5.length:Int)-1))=2+(u.A3.length:Int)+(v:Int)*((u.A5.length:Int)-1):=Ac (by omega) (by omega);have g:IntKind.i64.wrap (2+(u.A3.length:Int)+(v:Int)*((u.A5.length:Int)-1)+i)=2+(u.A3.length:Int)+(v:Int)*((u.A5.length:Int)-1)+i:=Ac (by omega) (by omega);have j:IntKind.i64.wrap (2+(u.A3.length:Int)+(v:Int)*((u.A5.length:Int)-1)+i-1)=2+(u.A3.length:Int)+(v:Int)*((u.A5.length:Int)-1)+i-1:=Ac (by omega) (by omega);simp[gT,gQ,A7,c,b,d,e,f,g,j]
abbrev Ox(u:AL)(h:BS u):AN V:= .B9 82 (Nat×Nat) (λx=>x.1<=1000/\x.2<=1000) (λx=>[.agg (A7 u).toArray,Z x.1,Z x.2]) (λx=>Z (Ap u x.1 x.2)) λ_ a=>aDB h a.1 a.2
@[simp] theorem a1U{h:BS u}(c:v<=1000/\i<=1000):(Ox u h).fn [.agg #[Z u.ext,O (u.Bu.map CS) 4,O (u.Af.map CX) 4,O (u.A5.map Bq) 7,O (u.A4.map Bx) 3,O (u.B7.map BE) 17,O (u.A3.map CW) 2],Z v,Z i]=some (Z (Ap u v i)):=AN.BH (x:=(v,i)) c λ⟨a,b⟩ d=>by simp at d⊢;omega
theorem a4l{h:BS u}(a:v<=1000):(Ox u h).fn [.agg #[Z u.ext,O (u.Bu.map CS) 4,O (u.Af.map CX) 4,O (u.A5.map Bq) 7,O (u.A4.map Bx) 3,O (u.B7.map BE) 17,O (u.A3.map CW) 2],Z v,Z 0]=some (Z (2+v)):=a1U (i:=0) ⟨a,by omega⟩
theorem a3d(h:BS u)(e:d<=1000):AO V 83 [.agg (A7 u).toArray,Z d] (Z (AI u d)):=by have f:=h.Cg;have g:=h.EF;refine BQ (Ax (aC:=⟨[],[]⟩) vv.2 ?_);have j:0<=(u.A3.length:Int)*(u.A5.length:Int):=MH (by omega) (by omega);have k:(u.A3.length:Int)*(u.A5.length:Int)<=1000*1000:=NW (Jt (by omega) (by omega)) (SV (by omega) (by omega));have a:IntKind.i64.wrap ((u.A3.length:Int)*(u.A5.length:Int))=(u.A3.length:Int)*u.A5.length:=Ac (by omega) (by omega);have b:IntKind.i64.wrap (2+(u.A3.length:Int)*u.A5.length)=2+(u.A3.length:Int)*u.A5.length:=Ac (by omega) (by omega);have c:IntKind.i64.wrap (2+(u.A3.length:Int)*u.A5.length+d)=2+(u.A3.length:Int)*u.A5.length+d:=Ac (by omega) (by omega);unfold AI;simp[vv,oJ,A7,a,b,c]
abbrev MI(u:AL)(h:BS u):AN V:= .B9 83 Nat (λx=>x<=1000) (λx=>[.agg (A7 u).toArray,Z x]) (λx=>Z (AI u x)) λ_ a=>a3d h a
@[simp] theorem ei{h:BS u}(a:d<=1000):(MI u h).fn [.agg #[Z u.ext,O (u.Bu.map CS) 4,O (u.Af.map CX) 4,O (u.A5.map Bq) 7,O (u.A4.map Bx) 3,O (u.B7.map BE) 17,O (u.A3.map CW) 2],Z d]=some (Z (AI u d)):=AN.BH (x:=d) a λy b=>by simp at b⊢;omega
abbrev Sp(p:Dg):Value:= .agg #[CU p.name,Z p.k,Z p.m,Z p.q,Z p.Dz.a,Z p.Dz.b,Z p.Dz.c,Z p.Dz.d,Z p.Dz.e,AK p.Af,DU p.Mx,.bool p.KR.Hq,AT p.KR.a,AT p.KR.b,.bool p.KV.Hq,AT p.KV.a,AT p.KV.b]
theorem a20(h:B4 u)(P:v<u.A3.length)(r:u.B7[HY u v]?=some p)(C:d<u.A4.length):AO V 130 [Sp p,.agg (A7 u).toArray,Z d] (.bool (Fk u v d)):=by
 have Q:=h.ok.Es;have R:=h.ok.BV;obtain⟨x,l⟩:=Cb C;have s:=(Ae.1 l).2;obtain⟨S,T,_⟩:=h.ok.LG d x l;have w:Fk u v d=decide (x.model∈p.Af):=by unfold Fk;simp only[r,l]
 obtain⟨_,_,G,J⟩:=h.ok.JS _ p r;have U:=fT u.Af.length p.Af J G;have y:(d:Int)<u.A4.length:=by omega
 refine BQ (Ax (aC:=⟨[],[]⟩) xT.2 ?_);simp[xT,rJ,A7];refine Cc (aC:=⟨[],[]⟩) (λi A t=>x.model∉p.Af.take i/\t.Y 0=some ⟨BE p,true⟩/\t.Y 1=some ⟨A7 u,true⟩/\A 2=Z d/\A 3=AG 0/\A 4=AG 1/\A 7=Z i) p.Af.length ?_ ?_ 0 _ _ (C8 _) ⟨by simp,by simp[BE],by simp[A7],by simp,by simp,by simp,by simp⟩
 ·rintro i A t L ⟨f,a,b,g,c,j,k⟩ W M;obtain⟨m,o⟩:=Cb L;have z:=(Ae.1 o).2;have B:(i:Int)<p.Af.length:=(by omega);have N:=BZ (n:=i) (by omega);have O:=E a;have X:=E b;by_cases e:m=x.model
  ·have q:Fk u v d=true:=(by rw[w];exact decide_eq_true (by rw[<-e];exact B5 o));simp(disch:=first|omega|simp only[DI.AB];omega)[Yz,WQ,g,c,j,k,a,b,BE,A7,Bx,B,z,s,y,e,q]
  ·simp(disch:=first|omega|simp only[DI.AB];omega)[Yz,WQ,g,c,j,k,a,b,BE,A7,Bx,B,N,z,s,y,e,-H,-D,-I,-F,-List.map_map];refine M _ _ ⟨?_,a,b,by simp[g],by simp[c],by simp[j],by simp⟩;rw[N9,o];simp only[Option.toList_some,D2,IA,not_or];exact⟨f,λh=>e h.symm⟩
 ·rintro A t ⟨f,a,b,g,c,j,k⟩;rw[FJ]at f;have q:Fk u v d=false:=(by rw[w];exact Hk f);have O:=E a;simp[Yz,WQ,WQ,c,k,a,BE,q]
abbrev rU(u:AL)(h:B4 u)(v:Nat)(p:Dg)(a:v<u.A3.length)(b:u.B7[HY u v]?=some p):AN V:= .B9 130 Nat (λd=>d<u.A4.length) (λd=>[Sp p,.agg (A7 u).toArray,Z d]) (λd=> .bool (Fk u v d)) λ_ c=>a20 h a b c
@[simp] theorem aKw{h:B4 u}{a:v<u.A3.length}{b:u.B7[HY u v]?=some p}(c:d<u.A4.length):(rU u h v p a b).fn [Sp p,.agg #[Z u.ext,O (u.Bu.map CS) 4,O (u.Af.map CX) 4,O (u.A5.map Bq) 7,O (u.A4.map Bx) 3,O (u.B7.map BE) 17,O (u.A3.map CW) 2],Z d]=some (.bool (Fk u v d)):=AN.BH (x:=d) c λy e=>by simp at e⊢;omega
theorem Vu{q o n a:Nat}{d e C:Int}(p:q≠o)(h:t.Y q=some ⟨[Z d,Z e,Z C,.slice (some ⟨o,0,none⟩) l.length 4],true⟩)(i:t.Y o=some ⟨BI l,true⟩)(g: ∀b∈aU,b≠q/\b≠o/\b<t.ac)(r:a<n)(hb:b<n)(s:a≠b):
 UG t q d e C (l++[x]) aU (((((t.AE n).A1 (t.ac+a) T).A1 o none).A1 (t.ac+b) (some ⟨BI l++BC x,true⟩)).A1 q (some ⟨[Z d,Z e,Z C,.slice (some ⟨t.ac+b,0,none⟩) (l.length+1) 4],true⟩)):=by
 have u:=E h;have v:=E i;refine⟨⟨t.ac+b,by omega,?_,?_,λc f=> ?_⟩,by simp,λc f=> ?_⟩
 ·rw[AR (by simp;omega)];simp
 ·rw[A6 (by omega),AR (by simp;omega),xA]
 ·have:=g c f;exact⟨this.1,by omega,by simp;omega⟩
 ·obtain⟨j,k,m⟩:=g c f;rw[A6 j,A6 (by omega),A6 k,A6 (by omega),Ab m]
structure LB(u:AL)(R:List Int)(v:Nat)(p:Dg)(l:List Ah)(g4:Nat)(A:A2)(t:X):Prop where
 Hu:Ip t 9 (AI u u.A4.length) 0 1 l [0,1,g4]
 DH:t.Y 0=some ⟨A7 u,true⟩
 JK:t.Y 1=some ⟨[Z 0,Z 0,Z 0,.slice none 0 0],true⟩
 ai:t.Y g4=some ⟨BE p,true⟩
 Fe:A 1=AK R
 K2:A 2=AG 0
 Jm:A 4=AG 1
 K1:A 6=AG 9
 KG:A 7=Z v
 Hc:A 8=AG g4
theorem LB.step(h:LB u R v p l g4 A t)(b:UG t 9 (AI u u.A4.length) 0 1 s [0,1,g4] aA)(a: ∀j,j∈[1,2,4,6,7,8]->J j=A j):LB u R v p s g4 J aA:=
 ⟨b.Hu,(b.DL 0 (by simp)).trans h.DH,(b.DL 1 (by simp)).trans h.JK,(b.DL g4 (by simp)).trans h.ai,(a 1 (by simp)).trans h.Fe,(a 2 (by simp)).trans h.K2,(a 4 (by simp)).trans h.Jm,(a 6 (by simp)).trans h.K1,(a 7 (by simp)).trans h.KG,(a 8 (by simp)).trans h.Hc⟩
theorem LB.Lg(h:LB u R v p l g4 A t)(a: ∀j,j∈[1,2,4,6,7,8]->J j=A j):LB u R v p l g4 J t:=
 h.step ⟨h.Hu,Aj _,λ_ _=>rfl⟩ a
theorem a0G(h:B4 u)(AA:v<u.A3.length)(K:u.B7[HY u v]?=some p)(AS:c1.length<=50000)
 (b:LB u R v p (Ff u c1 v 1) g4 A t) (f:A 9=Z 1) (AD: ∀J aA,LB u R v p (Ff u c1 v u.A5.length) g4 J aA->Q (.Ao 2) J aA):Bc V (.loop Th) A t Q:=by
 have AT:=h.ok.Cg;have AU:=h.ok.EF;have AE:=h.ok.D6;obtain⟨AV,L,_,_,M,AW⟩:=SH h.ok AA;rw[K]at L;cases L;simp only[FI,AF,BW]at M;obtain⟨N,O,AX,AY,AZ,Aa,Ab,Af,Ag,Ai⟩:=M;have N:=FV N;have O:=FV O;refine Cc (aC:=⟨[Ox u h.ok],[]⟩) (λi A t=>1<=i/\LB u R v p (Ff u c1 v i) g4 A t/\A 9=Z i) u.A5.length ?_ ?_ 1 A t AE ⟨Aj _,b,f⟩
 ·rintro i A t AI ⟨B,b,f⟩ Al S;obtain⟨d,r⟩:=Cb AI;have T:=(Ae.1 r).2;have U:(i:Int)<u.A5.length:=(by omega);have W:=BZ (n:=i) (by omega);obtain⟨X,g,AJ,s,AK,w,AL,C,D,F⟩:=id b;obtain⟨o,y,l,q,z⟩:=X;have AM:=E g;have Am:=E s;have An:=E l;have Aq:=E q;obtain⟨AN,Ar,As,At,Au⟩:=h.ok.Gc i d (by omega) r;obtain⟨P,G⟩:=Dp AN;obtain⟨a,H⟩:=Dp (by omega:0<=d.Fw);have Av:v<=1000/\P<=1000:=(by omega);have Aw:v<=1000/\i<=1000:=(by omega);have AO:IntKind.i64.wrap (p.k+p.m)=p.k+p.m:=Ac (by omega) (by omega);have Ax:a<5:=(by omega);have Y:(a:Int)<5:=(by omega);have A0:(BE p).length=17:=rfl;have A1:4+a+1<=17:=(by omega);have AP:List.take 1 (BE p).tail=[Z p.k]:=rfl;have Ay:(BE p)[2]?=some (Z p.m):=rfl;have AQ: ∀h,(BE p)[2]'h=Z p.m:= λ_=>rfl;have AR:(BE p)[4+a]?=some (Z (J8 p.Dz a)):=by
   obtain rfl|rfl|rfl|rfl:a=1\/a=2\/a=3\/a=4:=(by omega);all_goals rfl
  have A2: ∀h,(BE p)[4+a]'h=Z (J8 p.Dz a):= λh=>(Ae.1 AR).2;have A4:IF u v i=if J8 p.Dz a=0 then p.k+p.m else J8 p.Dz a:=by have e:Dh u i=(a:Int):=(by unfold Dh;simp only[r,H]);unfold IF;simp only[K,e]
  have A6:D1 u i=P:=(by unfold D1;simp only[r,G,Dx]);have Az:=j3 (u:=u) (c1:=c1) (v:=v) (i:=i);have A8:((Ff u c1 v i).length+1)*32<=140737488355328/\(Ff u c1 v i).length<=9223372036854775806:=(by omega);have A9:List.take ((Ff u c1 v i).length*4) (BI (Ff u c1 v i))=BI (Ff u c1 v i):=DP (by rw[RJ];exact Aj _);have B0: ¬o=9:= λe=>y e.symm;have B1: ¬9=o:=y;have B2: ¬g4=o:=(z g4 (by simp)).2.1;have B3: ¬(0:Nat)=o:=(z 0 (by simp)).2.1;by_cases cs:J8 p.Dz a=0
  ·simp(disch:=first|omega|simp only[DI.AB];omega)[Th,w,C,D,F,f,U,W,AO,T,Bq,G,H,A7,g,s,l,q,Y,A0,A1,AP,AQ,A2,cs,BG,A8,A9];have I:I3 u v i=Ah.mk (Ap u v P) (Ap u v i) (p.k+p.m) 0:=(by rw[I3,A6,A4,if_pos cs]);refine S _ _ ⟨by omega,?_,by simp⟩;rw[hz B,I];refine b.step (Vu (x:=Ah.mk (Ap u v P) (Ap u v i) (p.k+p.m) 0) y l q z ?_ ?_ ?_) (λj c=> ?_)
   ·decide
   ·decide
   ·decide
   ·simp at c;rcases c with rfl|rfl|rfl|rfl|rfl|rfl<;>simp
  ·simp(disch:=first|omega|simp only[DI.AB];omega)[Th,w,C,D,F,f,U,W,T,Bq,G,H,A7,g,s,l,q,Y,A0,A1,A2,cs,BG,A8,A9];have I:I3 u v i=Ah.mk (Ap u v P) (Ap u v i) (J8 p.Dz a) 0:=(by rw[I3,A6,A4,if_neg cs]);refine S _ _ ⟨by omega,?_,by simp⟩;rw[hz B,I];refine b.step (Vu (x:=Ah.mk (Ap u v P) (Ap u v i) (J8 p.Dz a) 0) y l q z ?_ ?_ ?_) (λj c=> ?_)
   ·decide
   ·decide
   ·decide
   ·simp at c;rcases c with rfl|rfl|rfl|rfl|rfl|rfl<;>simp
 ·rintro A t ⟨B,b,f⟩;obtain⟨X,g,AJ,s,AK,w,AL,C,D,F⟩:=id b;have AM:=E g;simp[Th,w,f,g,A7];exact AD _ _ (b.Lg λj c=>by simp at c;rcases c with rfl|rfl|rfl|rfl|rfl|rfl<;>simp)
theorem a1H(h:B4 u)(H:v<u.A3.length)(I:u.B7[HY u v]?=some p)(Y:c1.length<=50000)
 (a:LB u R v p (HD u c1 v 0) g4 A t) (c:A 11=Z 0) (K: ∀J aA,LB u R v p (c1++Gv u v) g4 J aA->Q (.Ao 4) J aA):Bc V (.loop VC) A t Q:=by
 have A0:=h.ok.Cg;have A1:=h.ok.Es;have A2:=h.ok.EF;have A5:=h.ok.D6;refine Cc (aC:=⟨[Ox u h.ok,MI u h.ok,rU u h v p H I],[]⟩) (λi A t=>LB u R v p (HD u c1 v i) g4 A t/\A 11=Z i) u.A4.length ?_ ?_ 0 A t (C8 _) ⟨a,c⟩
 ·rintro i A t L ⟨a,c⟩ A8 y;obtain⟨x,l⟩:=Cb L;have M:=(Ae.1 l).2;obtain⟨A9,AA,a3,a4,AD⟩:=h.ok.LG i x l;obtain⟨g,z⟩:=Dp a3;have N:CI u i=g:=(by unfold CI;simp only[l,z,Dx]);have B:(i:Int)<u.A4.length:=(by omega);have C:=BZ (n:=i) (by omega);obtain⟨D,d,O,f,P,k,S,F,G,m⟩:=id a;obtain⟨o,q,r,s,w⟩:=D;have T:=E d;have AE:=E f;have AF:=E r;have AJ:=E s;have AK:v<=1000/\g<=1000:=(by omega);have AL:i<=1000:=(by omega);have AM:(BE p).length=17:=rfl;have AN:=vG (u:=u) (c1:=c1) (v:=v) (i:=i);have U:((HD u c1 v i).length+1)*32<=140737488355328/\(HD u c1 v i).length<=9223372036854775806:=(by omega);have W:List.take ((HD u c1 v i).length*4) (BI (HD u c1 v i))=BI (HD u c1 v i):=DP (by rw[RJ];exact Aj _);have AO: ¬o=9:= λe=>q e.symm;have AP: ¬9=o:=q;have AQ: ¬g4=o:=(w g4 (by simp)).2.1;have AR: ¬(0:Nat)=o:=(w 0 (by simp)).2.1;have es:=tP (u:=u) (c1:=c1) (v:=v) (i:=i);simp only[BE]at f;cases hb:Fk u v i
  ·rw[hb]at es;simp(disch:=omega)[VC,k,m,c,B,C,A7,d,f,hb];refine y _ _ ⟨?_,by simp⟩;rw[es];simp only[E3,if_false,Pf];exact a.Lg λj b=>by simp at b;rcases b with rfl|rfl|rfl|rfl|rfl|rfl<;>simp
  ·rw[hb]at es;simp(disch:=first|omega|simp only[DI.AB];omega)[VC,k,F,G,m,c,B,C,M,Bx,z,A7,d,f,r,s,hb,U,W];have X:D8 u v i=Ah.mk (Ap u v g) (AI u i) 1 0:=(by rw[D8,N]);refine y _ _ ⟨?_,by simp⟩;rw[es,X];simp only[if_true];refine a.step (Vu (x:=Ah.mk (Ap u v g) (AI u i) 1 0) q r s w ?_ ?_ ?_) (λj b=> ?_)
   ·decide
   ·decide
   ·decide
   ·simp at b;rcases b with rfl|rfl|rfl|rfl|rfl|rfl<;>simp
 ·rintro A t ⟨a,c⟩;rw[mH]at a;obtain⟨D,d,O,f,P,k,S,F,G,m⟩:=id a;have T:=E d;simp[VC,k,c,d,A7];exact K _ _ (a.Lg λj b=>by simp at b;rcases b with rfl|rfl|rfl|rfl|rfl|rfl<;>simp)
structure O0(u:AL)(R:List Int)(l:List Ah)(A:A2)(t:X):Prop where
 Hu:Ip t 9 (AI u u.A4.length) 0 1 l [0,1]
 DH:t.Y 0=some ⟨A7 u,true⟩
 JK:t.Y 1=some ⟨[Z 0,Z 0,Z 0,.slice none 0 0],true⟩
 Fe:A 1=AK R
 K2:A 2=AG 0
 Jm:A 4=AG 1
 K1:A 6=AG 9
theorem O0.step(h:O0 u R l A t)(b:UG t 9 (AI u u.A4.length) 0 1 s [0,1] aA)(a: ∀j,j∈[1,2,4,6]->J j=A j):O0 u R s J aA:=
 ⟨b.Hu,(b.DL 0 (by simp)).trans h.DH,(b.DL 1 (by simp)).trans h.JK,(a 1 (by simp)).trans h.Fe,(a 2 (by simp)).trans h.K2,(a 4 (by simp)).trans h.Jm,(a 6 (by simp)).trans h.K1⟩
theorem a7y(h:B4 u)(f:O0 u R [] A t)(g:A 7=Z 0)
 (AL: ∀J aA,O0 u R (GN u u.A3.length) J aA->Q (.Ao 0) J aA):Bc V (.loop ZW) A t Q:=by
 have As:=h.ok.Cg;have At:=h.ok.Es;have Au:=h.ok.EF;have Av:=h.ok.D6;refine Cc (aC:=⟨[Ox u h.ok],[]⟩) (λv A t=>O0 u R (GN u v) A t/\A 7=Z v) u.A3.length ?_ ?_ 0 A t (C8 _) ⟨f,g⟩
 ·rintro v A t s ⟨f,g⟩ Ax AM;obtain⟨z,i,B,X,w,A0,C⟩:=id f;obtain⟨o,G,K,L,M⟩:=z;obtain⟨x,N⟩:=Cb s;have AN:=(Ae.1 N).2;obtain⟨p,O,Ay,AO,A2,AP⟩:=SH h.ok s;obtain⟨P,A4⟩:=Dp (h.ok.FQ v x N).1;have AQ:HY u v=P:=(by unfold HY;simp only[N,A4,Dx]);have A8:=O;rw[AQ]at O AO;have AS:=(Ae.1 O).2;have A9:=E i;have AT:=E B;have AU:=E K;have AV:=E L;have AW:(v:Int)<u.A3.length:=(by omega);have AX:(P:Int)<u.B7.length:=(by omega);have AY:=BZ (n:=v) (by omega);simp only[FI,AF,BW]at A2;obtain⟨AA,AI,_⟩:=A2;have AA:=FV AA;have AI:=FV AI;have AZ:IntKind.i64.wrap (p.k+p.m)=p.k+p.m:=Ac (by omega) (by omega);have AJ:(GN u v).length<=50000:=(by have:=T2 h.ok v;unfold GN;omega);have Aa:((GN u v).length+1)*32<=140737488355328/\(GN u v).length<=9223372036854775806:=(by omega);have Af:List.take ((GN u v).length*4) (BI (GN u v))=BI (GN u v):=DP (by rw[RJ];exact Aj _);have Az: ¬o=9:= λe=>G e.symm;have B0: ¬9=o:=G;have B1: ¬(0:Nat)=o:=(M 0 (by simp)).2.1;have Ag:=a4l (u:=u) (h:=h.ok) (v:=v) (by omega);simp(disch:=first|omega|simp only[DI.AB];omega)[ZW,w,C,g,AW,AX,AZ,AN,AS,A4,CW,BE,A7,i,K,L,Ag,Aa,Af,-H,-D,-I,-F,-List.map_map];obtain⟨c,q⟩: ∃c,c=(t.AE 12).A1 (t.ac+10) (some ⟨BE p,true⟩):=⟨_,rfl⟩;have y: ∀b,b<t.ac->c.Y b=t.Y b:= λb hb=>by rw[q,A6 (by omega),Ab hb]
  have Ai:c.ac=t.ac+12:=by rw[q];simp
  have Ak: ∀b∈[0,1,t.ac+10],b≠9/\b≠o/\b<c.ac:= λb hb=>by
   simp at hb;rcases hb with rfl|rfl|rfl
   ·have:=M 0 (by simp);omega
   ·have:=M 1 (by simp);omega
   ·omega
  have l:=Vu (t:=c) (n:=15) (a:=11) (b:=12) (aU:=[0,1,t.ac+10]) (x:=Ah.mk 0 (2+v) (p.k+p.m) 0) (T:=some ⟨[Z 0,Z (2+v),Z (p.k+p.m),Z 0],true⟩) G ((y 9 AU).trans K) ((y o AV).trans L) Ak (by decide) (by decide) (by decide);have S:c.Y 0=some ⟨A7 u,true⟩:=(y 0 A9).trans i;have U:c.Y 1=some ⟨[Z 0,Z 0,Z 0,.slice none 0 0],true⟩:=(y 1 AT).trans B;have W:c.Y (t.ac+10)=some ⟨BE p,true⟩:=(by rw[q,AR (by simp)]);rw[Ai,q]at l;rw[q]at S U W;have Al:FR u v=Ah.mk 0 (2+v) (p.k+p.m) 0:=(by rw[FR,AP]);simp only[BE,BC]at l S U W;have Am:=(l.DL 0 (by simp)).trans S;have An:=(l.DL 1 (by simp)).trans U;have Ap:=(l.DL (t.ac+10) (by simp)).trans W;have AK:=l.Hu;rw[<-Al]at AK;simp(disch:=first|omega|simp only[DI.AB];omega)[dv,-H,-D,-I,-F,-List.map_map];refine a0G h (R:=R) s A8 (p:=p) (g4:=t.ac+10) AJ ⟨by simpa[Ff]using AK,Am,An,Ap,by simp[X],by simp[w],by simp[A0],by simp[C],by simp[g],by simp⟩ (by simp) λB2 B3 Aq=> ?_;simp(disch:=omega)[fw];refine a1H h (R:=R) s A8 (p:=p) (g4:=t.ac+10) AJ (by have e:HD u (GN u v) v 0=Ff u (GN u v) v u.A5.length:=(by simp[HD]);rw[e];exact Aq.Lg λj r=>by simp at r;rcases r with rfl|rfl|rfl|rfl|rfl|rfl<;>simp) (by simp) λB5 t3 d=> ?_;have Ar:=d.KG;simp(disch:=omega)[Ar,AY];refine AM _ _ ⟨⟨?_,d.DH,d.JK,by simp[d.Fe],by simp[d.K2],by simp[d.Jm],by simp[d.K1]⟩,by simp⟩;rw[sO];exact d.Hu.AD (Aj _) (λ_ _=>rfl) λb hb=> .inl (by simp at hb⊢;omega)
 ·rintro A t ⟨f,g⟩;obtain⟨z,i,B,X,w,A0,C⟩:=id f;have A9:=E i;simp(disch:=omega)[ZW,dv,fw,w,g,i,A7];exact AL _ _ (f.step ⟨z,Aj _,λ_ _=>rfl⟩ λj r=>by simp at r;rcases r with rfl|rfl|rfl|rfl<;>simp)
theorem a3K(h:B4 u)(a:O0 u R (Hd u R 0) A t)(b:A 12=AK (Ck u R))(c:A 13=Z 0)
 (s: ∀J aA,O0 u R (Ak u R) J aA->Q (.Ao 6) J aA):Bc V (.loop Yy) A t Q:=by
 have N:=h.ok.Cg;have O:=h.ok.Es;have P:=h.ok.EF;have S:=h.ok.D6;refine Cc (aC:=⟨[MI u h.ok],[]⟩) (λi A t=>O0 u R (Hd u R i) A t/\A 12=AK (Ck u R)/\A 13=Z i) u.A4.length ?_ ?_ 0 A t (C8 _) ⟨a,b,c⟩
 ·rintro i A t v ⟨a,b,c⟩ U w;obtain⟨g,d,y,z,k,B,q⟩:=id a;obtain⟨o,l,m,p,r⟩:=g;have C:(Ck u R)[i]?=some (CN u R i):=(by rw[MZ,GH v]);have D: ∀h,(Ck u R)[i]'h=CN u R i:= λh=>(Ae.1 C).2;have F:(Ck u R).length=u.A4.length:=SC;have W:i<(Ck u R).length:=(by omega);have G:(i:Int)<u.A4.length:=(by omega);have H:=BZ (n:=i) (by omega);have I:=E d;have X:=E m;have Y:=E p;have A0:i<=1000:=(by omega);have A1:(Hd u R i).length<=100000:=by
   have:=T2 h.ok u.A3.length;simp only[Hd,GN,En,E9,List.length_range];omega
  have K:((Hd u R i).length+1)*32<=140737488355328/\(Hd u R i).length<=9223372036854775806:=(by omega);have L:List.take ((Hd u R i).length*4) (BI (Hd u R i))=BI (Hd u R i):=DP (by rw[RJ];exact Aj _);have A2: ¬o=9:= λe=>l e.symm;have A5: ¬9=o:=l;have A6: ¬(0:Nat)=o:=(r 0 (by simp)).2.1;simp(disch:=first|omega|simp only[DI.AB];omega)[Yy,k,q,b,c,G,H,D,F,A7,d,m,p,K,L];have M:HX u R i=Ah.mk (AI u i) 1 (CN u R i) 0:=rfl;refine w _ _ ⟨?_,by simp[b],by simp⟩;rw[m9,M];refine a.step (Vu (x:=Ah.mk (AI u i) 1 (CN u R i) 0) l m p r ?_ ?_ ?_) (λj f=> ?_)
  ·decide
  ·decide
  ·decide
  ·simp at f;rcases f with rfl|rfl|rfl|rfl<;>simp
 ·rintro A t ⟨a,b,c⟩;rw[ub]at a;obtain⟨g,d,y,z,k,B,q⟩:=id a;have I:=E d;simp[Yy,k,c,d,A7];exact s _ _ (a.step ⟨g,Aj _,λ_ _=>rfl⟩ λj f=>by simp at f;rcases f with rfl|rfl|rfl|rfl<;>simp)
theorem a6m(h:B4 u):Bh V 81 [.agg (A7 u).toArray,AK R] Cl λv d=> ∃o,v= .tuple #[.agg #[Z (D0 u R).AS,Z 0,Z 1,AM o (Ak u R).length 4],Z 0]/\d.Y o=some ⟨BI (Ak u R),true⟩:=by
 have t:=h.ok.Nz;have w:=h.ok.Cg;have x:=h.ok.Es;have y:=h.ok.EF;have A:=h.ok.D6;have B:u.A3.length<=1000/\u.A5.length<=1000/\u.A4.length<=1000:=by omega
 refine Ax (aC:=⟨[P3 u h.Cu,Ox u h.ok,MI u h.ok,wj u h],[]⟩) tG.2 ?_;simp(disch:=first|omega|simp only[DI.AB];omega)[tG,wH,A7,-H,-D,-I,-F,-List.map_map];refine Nd (o:=9) (j:=3) (z:=4) (cs:=[Z (AI u u.A4.length),Z 0,Z 1,.slice none 0 0]) (by simp(disch:=first|omega|simp only[DI.AB];omega)[-H,-D,-I,-F,-List.map_map]) rfl ?_;refine a7y h (R:=R) ⟨⟨11,by decide,?_,?_,λb hb=> ?_⟩,?_,?_,by simp,by simp,by simp,by simp⟩ (by simp) λG d a=> ?_
 ·simp(disch:=first|omega|simp only[DI.AB];omega)[-H,-D,-I,-F,-List.map_map]
 ·simp(disch:=first|omega|simp only[DI.AB];omega)[BI,-H,-D,-I,-F,-List.map_map]
 ·simp at hb⊢;rcases hb with rfl|rfl<;>simp
 ·simp(disch:=first|omega|simp only[DI.AB];omega)[A7,-H,-D,-I,-F,-List.map_map]
 ·simp(disch:=first|omega|simp only[DI.AB];omega)[-H,-D,-I,-F,-List.map_map]
 have f:=a.DH;have J:=E f;have l:=a.Fe;have m:=a.K2;simp(disch:=first|omega|simp only[DI.AB];omega)[nf,l,m,f,A7,-H,-D,-I,-F,-List.map_map];refine a3K h (R:=R) (a.step ⟨by simpa[Hd]using a.Hu,Aj _,λ_ _=>rfl⟩ λj g=>by simp at g;rcases g with rfl|rfl|rfl|rfl<;>simp) (by simp) (by simp) λK L c=> ?_;obtain⟨o,M,i,n,p⟩:=c.Hu;have k:=c.JK;have N:=E k;have O:=E i;have q:=c.Jm;have r:=c.K1;have s:o≠1:= λe=>(p 1 (by simp)).2.1 e.symm;simp(disch:=first|omega|simp only[DI.AB];omega)[y9,q,r,i,k,-H,-D,-I,-F,-List.map_map];refine⟨o,⟨rfl,rfl⟩,?_⟩;rw[A6 s];exact n
theorem a7E(h:B4 u)(t:X):Bh V 81 [.agg (A7 u).toArray,AK R] t λv aA=>v= .tuple #[.agg #[Z (D0 u R).AS,Z 0,Z 1,AM t.ac (Ak u R).length 4],Z 0]/\aA=C4 t.ac [BI (Ak u R)] (t.AE 1):=by
 refine Qy (n:=1) (r:= λk=> .tuple #[.agg #[Z (D0 u R).AS,Z 0,Z 1,AM k (Ak u R).length 4],Z 0]) (bs:= λ_=>[BI (Ak u R)]) (λ_=>rfl) (λv b=>by simp at b;rcases b with rfl|rfl<;>rfl) ((a6m h).AD λv f ⟨o,b,e⟩=>⟨[o],by simp,rfl,λk=>⟨?_,λi cs c=> ?_⟩⟩) t
 ·rw[b];exact FO.Uc (Cf.cons (FO.U2 (Cf.cons (.DE rfl) (Cf.cons (.DE rfl) (Cf.cons (.DE rfl) (Cf.cons (.slice ⟨0,rfl,rfl⟩) Cf.nil))))) (Cf.cons (.DE rfl) Cf.nil))
 ·cases i with
  | zero=>simp at c;subst c;refine⟨o,_,rfl,e,Cf.cells λv b=> ?_⟩;simp only[BI,Mv,CG]at b;obtain⟨r,⟨a,_,rfl⟩,d⟩:=b;simp[BC]at d;rcases d with rfl|rfl|rfl|rfl<;>rfl
  |succ i=>simp at c
abbrev uE(u:AL)(h:B4 u):Cp V:= .B9 81 (List Int) (λR=>[.agg (A7 u).toArray,AK R]) (λR t=>some (.tuple #[.agg #[Z (D0 u R).AS,Z 0,Z 1,AM t.ac (Ak u R).length 4],Z 0],C4 t.ac [BI (Ak u R)] (t.AE 1))) λR t r aA c a7 d=>by cases c;exact(a7E h t).AD λr aA ⟨a,b⟩=>by rw[a,b];exact d
@[simp] theorem aHI{h:B4 u}:(uE u h).fn [.agg #[Z u.ext,O (u.Bu.map CS) 4,O (u.Af.map CX) 4,O (u.A5.map Bq) 7,O (u.A4.map Bx) 3,O (u.B7.map BE) 17,O (u.A3.map CW) 2],O (R.map λx=>[Z x]) 1] t=some (.tuple #[.agg #[Z (D0 u R).AS,Z 0,Z 1,AM t.ac (Ak u R).length 4],Z 0],C4 t.ac [BI (Ak u R)] (t.AE 1)):=Cp.BH (x:=R) (t:=t) λy a=>by
  have:y=R:=by simpa using a
  rw[this]
open Go Go.DI Go.EL
variable{c W k:Nat}{m:X}{n:Bw}{N:List Int}
@[simp] theorem aEH{p:Option Addr}{l:Nat}:DS (.slice p l c)=l:=rfl
@[simp] theorem aFH{p:Option Addr}{l:Nat}:KP (.slice p l c)=true:=rfl
theorem e7{v:Value}(p:Dc m v n.A0):At V 184 [Ic n v] m λr k=>r= .bool (Db n)/\Aa m k:=by
 rw[a58 (by simp)];obtain⟨e,f⟩:=p.len;have a:Aa m ((m.AE 2).A1 m.ac (some ⟨Cd n v,true⟩)):=((Aa.refl m).AE 2).A1 (Aj _);have q:((m.AE 2).A1 m.ac (some ⟨Cd n v,true⟩)).Y m.ac=some ⟨Cd n v,true⟩:=AR (by simp)
 have j: ∀(x:Int) (a7:Value->X->Prop),At V 234 [Z x,AG m.ac] ((m.AE 2).A1 m.ac (some ⟨Cd n v,true⟩)) a7=a7 (.bool (Dw n x)) ((m.AE 2).A1 m.ac (some ⟨Cd n v,true⟩)):= λx a7=>tC q x a7;by_cases b:n.AS<2
 ·simp(disch:=first|omega|simp only[A9];omega)[O8,b];exact⟨(by first|(simp[Db, *];done)|(simp[Db];intros;omega)),a⟩
 by_cases c:700<n.AS
 ·simp(disch:=first|omega|simp only[A9];omega)[O8,b,c];exact⟨(by first|(simp[Db, *];done)|(simp[Db];intros;omega)),a⟩
 by_cases g:(2500:Int)<n.A0.length
 ·simp(disch:=first|omega|simp only[A9];omega)[O8,e,f,b,c,g];exact⟨(by first|(simp[Db, *];done)|(simp[Db];intros;omega)),a⟩
 by_cases d:Dw n n.Ad=false
 ·simp(disch:=first|omega|simp only[A9];omega)[O8,e,f,j,b,c,g,d];exact⟨(by first|(simp[Db, *];done)|(simp[Db];intros;omega)),a⟩
 by_cases h:Dw n n.Aq=false
 ·simp(disch:=first|omega|simp only[A9];omega)[O8,e,f,j,b,c,g,d,h];exact⟨(by first|(simp[Db, *];done)|(simp[Db];intros;omega)),a⟩
 by_cases l:n.Ad=n.Aq
 ·simp(disch:=first|omega|simp only[A9];omega)[O8,e,f,j,b,c,g,d,h,eq_true l];exact⟨(by first|(simp[Db, *];done)|(simp[Db];intros;omega)),a⟩
 simp(disch:=first|omega|simp only[A9];omega)[O8,e,f,j,b,c,g,d,h,l];refine tT q (p.AD a) (by omega) n.A0.length 0 _ _ (by omega) (Aa.refl _) (by simp) (by simp[]) (by simp) (by simp) (λJ k o i=> ?_) (λJ k o i s=> ?_)
 ·simp;rw[Gn]at i;exact⟨by simp only[Db,i];simp at d h;simp[b,c,d,h,l];omega,a.trans o⟩
 ·simp[s];rw[Gn]at i;exact⟨by simp only[Db,i];simp,a.trans o⟩
theorem vg{v:Value}{l:X}(C:l.Y b=some ⟨Cd n v,true⟩)(F:Dc l v n.A0)(U:n.A0.length<100000): ∀(r i:Nat) (m:X) (A:A2),i+r=n.A0.length->Aa l m->
 A 1=AG b->A 3=Z i->
 (∀J d,Aa l d->(n.A0.drop i).all (GZ n)=true->Q (.Ao 0) J d)->(∀J d,Aa l d->(n.A0.drop i).all (GZ n)=false->J 2= .bool false->Q .Cz J d)->Az V (.loop ML) A m Q
 | 0,i,m,A,W,s,g,j,G,H=>by refine Bm λP R=> ?_;obtain⟨A3,A4⟩:=F.len;have e: ¬i<n.A0.length:=(by omega);have h:=s.some C;simp(disch:=first|omega|simp only[A9];omega)[ML,g,j,e,h,A3,A4];exact G _ _ s (by rw[Jw (by omega)];rfl)
 | r+1,i,m,A,W,s,g,j,G,H=>by
   refine Bm λP R=> ?_;have e:i<n.A0.length:=(by omega);obtain⟨a,I⟩: ∃a,n.A0[i]?=some a:=⟨n.A0[i]'e,by simp⟩;have K:n.A0.drop i=a::n.A0.drop (i+1):=by rw[Ht e];rw[AP e]at I;cases I;rfl
   obtain⟨c,o,rfl,A5⟩:=F.BY e;have p:=s.some A5;have h:=s.some C;have AJ:=E h;have AK:=E p;have AL:=s.ac
   have AM:=E C;have hb:i*4+4<=n.A0.length*4:=(by omega);have u:=Il I;have A6:=BZ (n:=i) (by omega);have next: ∀(J:A2) (d:X),GZ n a=true->Aa l d->J 1=AG b->J 3=Z ((i:Int)+1)->P J d:=by
    intro J d S L A7 A8;refine R _ _ (vg C F U r (i+1) d J (by omega) L A7 (by rw[A8];simp) (λAA AB M N=>G _ _ M ?_) (λAA AB M N AD=>H _ _ M ?_ AD))
    ·rw[K,F3,S,N];rfl
    ·rw[K,F3,S,N];rfl
   have stop: ∀(J:A2) (d:X),GZ n a=false->Aa l d->J 2= .bool false->Q .Cz J d:= λJ d AF L AI=>H _ _ L (by rw[K,F3,AF];rfl) AI;have w: ∀k q y,m.ac<=q->Aa l ((m.AE k).A1 q (some y)):= λk q y AN=>(s.AE k).A1 (by omega)
   by_cases x:a.f<0
   ·simp(disch:=first|omega|simp only[A9];omega)[ML,g,j,e,p,h,hb,u,BC,x];exact stop _ _ (by simp[GZ,Dw];omega) (w _ _ _ (by omega)) (by simp)
   by_cases z:n.AS<=a.f
   ·simp(disch:=first|omega|simp only[A9];omega)[ML,g,j,e,p,h,hb,u,BC,x,z];exact stop _ _ (by simp[GZ,Dw];omega) (w _ _ _ (by omega)) (by simp)
   by_cases B:a.t<0
   ·simp(disch:=first|omega|simp only[A9];omega)[ML,g,j,e,p,h,hb,u,BC,x,z,B];exact stop _ _ (by simp[GZ,Dw];omega) (w _ _ _ (by omega)) (by simp)
   by_cases D:n.AS<=a.t
   ·simp(disch:=first|omega|simp only[A9];omega)[ML,g,j,e,p,h,hb,u,BC,x,z,B,D];exact stop _ _ (by simp[GZ,Dw];omega) (w _ _ _ (by omega)) (by simp)
   by_cases O:a.c<0
   ·simp(disch:=first|omega|simp only[A9];omega)[ML,g,j,e,p,h,hb,u,BC,x,z,B,D,O];exact stop _ _ (by simp[GZ,Dw];omega) (w _ _ _ (by omega)) (by simp)
   by_cases T:2147483647<a.c
   ·simp(disch:=first|omega|simp only[A9];omega)[ML,g,j,e,p,h,hb,u,BC,x,z,B,D,O,T];exact stop _ _ (by simp[GZ,Dw];omega) (w _ _ _ (by omega)) (by simp)
   simp(disch:=first|omega|simp only[A9];omega)[ML,g,j,e,p,h,hb,u,BC,A6,x,z,B,D,O,T];exact next _ _ (by simp[GZ,Dw];omega) (w _ _ _ (by omega)) (by simp[g]) (by simp)
theorem ra{v:Value}(p:Dc m v n.A0):At V 131 [Ic n v] m λr k=>r= .bool (Db n)/\Aa m k:=by
 rw[aCn (by simp)];obtain⟨d,e⟩:=p.len;have a:Aa m ((m.AE 2).A1 m.ac (some ⟨Cd n v,true⟩)):=((Aa.refl m).AE 2).A1 (Aj _);have s:((m.AE 2).A1 m.ac (some ⟨Cd n v,true⟩)).Y m.ac=some ⟨Cd n v,true⟩:=AR (by simp)
 by_cases b:n.AS<2
 ·simp(disch:=first|omega|simp only[A9];omega)[Le,b];exact⟨(by first|(simp[Db,Dw, *];done)|(simp[Db,Dw];intros;omega)),a⟩
 by_cases c:700<n.AS
 ·simp(disch:=first|omega|simp only[A9];omega)[Le,b,c];exact⟨(by first|(simp[Db,Dw, *];done)|(simp[Db,Dw];intros;omega)),a⟩
 by_cases f:(2500:Int)<n.A0.length
 ·simp(disch:=first|omega|simp only[A9];omega)[Le,d,e,b,c,f];exact⟨(by first|(simp[Db,Dw, *];done)|(simp[Db,Dw];intros;omega)),a⟩
 by_cases g:n.Ad<0
 ·simp(disch:=first|omega|simp only[A9];omega)[Le,d,e,b,c,f,g];exact⟨(by first|(simp[Db,Dw, *];done)|(simp[Db,Dw];intros;omega)),a⟩
 by_cases h:n.AS<=n.Ad
 ·simp(disch:=first|omega|simp only[A9];omega)[Le,d,e,b,c,f,g,h];exact⟨(by first|(simp[Db,Dw, *];done)|(simp[Db,Dw];intros;omega)),a⟩
 by_cases j:n.Aq<0
 ·simp(disch:=first|omega|simp only[A9];omega)[Le,d,e,b,c,f,g,h,j];exact⟨(by first|(simp[Db,Dw, *];done)|(simp[Db,Dw];intros;omega)),a⟩
 by_cases l:n.AS<=n.Aq
 ·simp(disch:=first|omega|simp only[A9];omega)[Le,d,e,b,c,f,g,h,j,l];exact⟨(by first|(simp[Db,Dw, *];done)|(simp[Db,Dw];intros;omega)),a⟩
 by_cases q:n.Ad=n.Aq
 ·simp(disch:=first|omega|simp only[A9];omega)[Le,d,e,b,c,f,g,h,j,l,eq_true q];exact⟨(by first|(simp[Db,Dw, *];done)|(simp[Db,Dw];intros;omega)),a⟩
 simp(disch:=first|omega|simp only[A9];omega)[Le,d,e,b,c,f,g,h,j,l,q];refine vg s (p.AD a) (by omega) n.A0.length 0 _ _ (by omega) (Aa.refl _) (by simp) (by simp) (λJ k o i=> ?_) (λJ k o i t=> ?_)
 ·simp;rw[Gn]at i;exact⟨by simp only[Db,i,Dw];simp;omega,a.trans o⟩
 ·simp[t];rw[Gn]at i;exact⟨by simp only[Db,i];simp,a.trans o⟩
def An(W:Nat)(g:Int->Int):List Value:=(List.range W).map λ(x:Nat)=>Z (g x)
@[simp] theorem aEu{g:Int->Int}:(An W g).length=W:=by simp[An]
@[simp] theorem a2s{g:Int->Int}(h:k<(An W g).length):(An W g)[k]'h=Z (g k):=by simp[An]
theorem G5{g:Int->Int}(h:k<W):(An W g)[k]?=some (Z (g k)):=by simp[An,h]
@[simp] theorem FK{g:Int->Int}{c:Int}:(An W g).set k (Z c)=An W (λx=>if x=k then c else g x):=by
  apply Lu
  ·simp
  ·intro i a b;simp at a;rw[List.getElem_set];simp only[a2s];by_cases h:k=i
   ·subst h;simp
   ·have: ¬(i:Int)=k:=(by omega);simp[h,this]
theorem PH:List.replicate W (Z 0)=An W (λ_=>0):=by apply Lu<;>simp[An]
def JI:List Ah->List Int->Bool
 |a::d,b::fs=> !decide (b<0)&& !decide (a.c<b)&&JI d fs
 |_,_=>true
def Oc(n:Bw)(g:Int->Int)(l:List Nat):Bool:=l.all λx=>decide ((x:Int)=n.Ad)||decide ((x:Int)=n.Aq)||decide (g x=0)
def Gb(n:Bw)(N:List Int):Int×Bool:=
 if Db n&&decide (N.length=n.A0.length)&&JI n.A0 N&&Oc n (Cx n.A0 N) (List.range n.AS.toNat)then(value n N,true)else(0,false)
theorem iq: ∀{d:List Ah} {fs:List Int},fs.length=d.length->(JI d fs=true↔ ∀(i:Nat) a e,d[i]?=some a->fs[i]?=some e->0<=e/\e<=a.c)
 |[],[],_=>by simp[JI]
 |[],_::_,h=>by simp at h
 |_::_,[],h=>by simp at h
 | a::d,e::fs,h=>by
   have k:= @iq d fs (by simpa using h);simp only[JI,AF,JQ,OB,k];constructor
   ·rintro⟨⟨l,m⟩,g⟩ i b j hb f;cases i with
    |zero=>simp at hb f;subst hb;subst f;omega
    |succ i=>exact g i b j (by simpa using hb) (by simpa using f)
   ·intro g;have:=g 0 a e rfl rfl;exact⟨⟨by omega,by omega⟩,λi b j hb f=>g (i+1) b j (by simpa using hb) (by simpa using f)⟩
theorem mT(h:(Gb n N).2=true):n.CE/\DT n N/\(Gb n N).1=value n N:=by
 unfold Gb at h⊢;split at h
 ·rename_i a;rw[if_pos a];simp only[AF,BW]at a;obtain⟨⟨⟨e,b⟩,f⟩,c⟩:=a;have g:=QJ.1 e;refine⟨g,⟨⟨b,(iq b).1 f⟩,λx d i j=> ?_⟩,rfl⟩;simp only[Oc,BR,G3,My,BW]at c;obtain⟨k,rfl⟩: ∃k:Nat,x=k:=⟨x.toNat,by have:=d.1;omega⟩;have:=c k (by have:=d.2;omega);rcases this with(h|h)|h
  ·exact absurd h i
  ·exact absurd h j
  ·exact h
 ·cases h
theorem rW(d:n.CE)(a:DT n N):Gb n N=(value n N,true):=by
 unfold Gb;rw[if_pos];simp only[AF,BW];refine⟨⟨⟨QJ.2 d,a.Da.1⟩,(iq a.Da.1).2 a.Da.2⟩,?_⟩;simp only[Oc,BR,G3,My,BW];intro k e;by_cases b:(k:Int)=n.Ad
 ·exact .inl (.inl b)
 ·by_cases c:(k:Int)=n.Aq
  ·exact .inl (.inr c)
  ·exact .inr (a.RV k ⟨by omega,by omega⟩ b c)
theorem xX{n:Bw}(AJ:n.CE){W:Nat}(Ar:n.AS=W){B:Int}(As:B=2147483647){v w:Value}{N:List Int}{b et:Nat}{b1:X}(AK:b1.Y b=some ⟨Cd n v,true⟩)(Ab:Dc b1 v n.A0)(AL:HU b1 w N)(O:N.length=n.A0.length)(At:b1.ac<=et){Q:BM->A2->X->Prop}: ∀(r i:Nat) (m:X) (A:A2) (g:Int->Int),i+r=n.A0.length->Aa b1 m->m.Y et=some ⟨An W g,true⟩->(∀x,-((i:Int)*B)<=g x/\g x<=(i:Int)*B)->
 A 26=v->A 27=Z n.A0.length->A 28=Z i->A 6= .slice (some ⟨et,0,none⟩) W 1->A 1=w->A 2=AG b->
 (∀J p D,Aa b1 p->p.Y et=some ⟨An W D,true⟩->JI (n.A0.drop i) (N.drop i)=true->(∀x,D x=g x+Cx (n.A0.drop i) (N.drop i) x)->J 6= .slice (some ⟨et,0,none⟩) W 1->J 2=AG b->Q (.Ao 0) J p)->
 (∀J p,Aa b1 p->JI (n.A0.drop i) (N.drop i)=false->J 4=Z 0->J 5= .bool false->Q .Cz J p)->Az V (.loop RB) A m Q
 | 0,i,m,A,g,Av,F,P,U,G,C,I,K,H,A3,AM,AN=>by refine Bm λAe Af=> ?_;have u: ¬i<n.A0.length:=(by omega);obtain⟨BL,BN⟩:=AL.len;simp[RB,C,I,u];exact AM _ _ g F P (by rw[Jw (by omega)];rfl) (λx=>by rw[Jw (by omega:n.A0.length<=i)];simp[Cx]) (by simp[K]) (by simp[A3])
 | r+1,i,m,A,g,Av,F,P,U,G,C,I,K,H,A3,AM,AN=>by
   refine Bm λAe Af=> ?_;have u:i<n.A0.length:=(by omega);have AO:i<N.length:=(by omega);obtain⟨a,A4⟩: ∃a,n.A0[i]?=some a:=⟨n.A0[i]'u,by simp⟩;obtain⟨l,Ag⟩: ∃l,N[i]?=some l:=⟨N[i]'AO,by simp⟩;have R: ∀h,N[i]'h=l:= λh=>by rw[AP h]at Ag;simpa using Ag
   have A5:n.A0.drop i=a::n.A0.drop (i+1):=(by rw[Ht u];rw[AP u]at A4;cases A4;rfl);have A6:N.drop i=l::N.drop (i+1):=(by rw[Ht AO];rw[R]);have Aw:=AJ.Gu a (B5 A4);obtain⟨⟨BO,BQ⟩,⟨BR,BS⟩,BT,BU⟩:=Aw;obtain⟨s,L⟩: ∃k:Nat,a.f=k:=⟨a.f.toNat,by omega⟩;obtain⟨j,M⟩: ∃k:Nat,a.t=k:=⟨a.t.toNat,by omega⟩;have A7:s<W:=(by omega);have t3:j<W:=(by omega);have Ah:s+1<=W:=A7;have t4:j+1<=W:=t3;have Ai: ∀g,(An W g)[s]?=some (Z (g s)):= λg=>G5 A7;have Ax: ∀g,(An W g)[j]?=some (Z (g j)):= λg=>G5 t3;obtain⟨c,o,rfl,Aj⟩:=Ab.BY u;obtain⟨d,BV,rfl,Ak⟩:=AL.BY AO;have S:=F.some Aj;have T:=F.some Ak;have Ay:=F.some AK;have BW:=E Ay;have Ba:=E S;have Bb:=E T;have Bc:=E Aj;have Be:=E Ak;have Bf:=E AK;have Bg:=E P;have Bh:=F.ac
   have hb:i*4+4<=n.A0.length*4:=(by omega);have A8:i+1<=n.A0.length:=u;have AA:=Il A4;have Bi:=AJ.Gf;have Al:=BZ (n:=i) (by omega);have stop: ∀(J:A2) (p:X),(l<0\/a.c<l)->Aa b1 p->J 4=Z 0->J 5= .bool false->Q .Cz J p:= λJ p B0 AQ B2 B3=>AN _ _ AQ (by rw[A5,A6];rcases B0 with h|h<;>simp[JI,h]) B2 B3;have AB: ∀k q y,m.ac<=q->Aa b1 ((m.AE k).A1 q (some y)):= λk q y Bj=>(F.AE k).A1 (by omega)
   have Bk:=U s;have Bl:=U j;have Bn:(i:Int)*B<=2500*B:=Jt (by omega) (by omega);have next: ∀(J:A2) (p:X) (D:Int->Int),0<=l->l<=a.c->Aa b1 p->p.Y et=some ⟨An W D,true⟩->(∀x,D x=g x+Bd a.f x l-Bd a.t x l)->J 26= .slice (some ⟨c,0,none⟩) n.A0.length 4->J 27=Z n.A0.length->J 28=Z ((i:Int)+1)->J 6= .slice (some ⟨et,0,none⟩) W 1->J 1= .slice (some ⟨d,0,none⟩) N.length 1->J 2=AG b->Ae J p:=by
    intro J p D Bo Bp AQ B4 Am B6 B7 B8 B9 BA BB;refine Af _ _ (xX AJ Ar As AK Ab AL O At r (i+1) p J D (by omega) AQ B4 ?_ B6 B7 (by rw[B8];simp) B9 BA BB (λBD BE BF AT AU AV AW BH BI=>AM _ _ BF AT AU ?_ ?_ BH BI) (λBD BE AT AU AV AW=>AN _ _ AT ?_ AV AW))
    ·intro x;have z:=U x;rw[Am x];have e:(((i+1:Nat):Int))*B=(i:Int)*B+B:=(by rw[N5,Int.add_mul];simp);rw[e];simp only[Bd];split<;>split<;>omega
    ·rw[A5,A6];simp only[JI,AV,Bool.and_true,AF,JQ,OB];omega
    ·intro x;rw[AW,Am,A5,A6];simp only[Cx];omega
    ·rw[A5,A6];simp only[JI,AU,Bool.and_false]
   by_cases AD:l<0
   ·simp(disch:=first|omega|simp only[A9];omega)[RB,G,C,I,A8,H,u,O,S,T,hb,AA,BC,BG,R,L,M,AD];exact stop _ _ (by omega) (AB _ _ _ (by omega)) (by simp) (by simp)
   by_cases AX:a.c<l
   ·simp(disch:=first|omega|simp only[A9];omega)[RB,G,C,I,A8,H,u,O,S,T,hb,AA,BC,BG,R,L,M,AD,AX];exact stop _ _ (by omega) (AB _ _ _ (by omega)) (by simp) (by simp)
   have Ap:IntKind.i64.wrap (g s+l)=g s+l:=Ac (by omega) (by omega);by_cases BJ:j=s
   ·subst BJ;have AY:IntKind.i64.wrap (g j)=g j:=Ac (by omega) (by omega);simp(disch:=first|omega|simp only[A9];omega)[RB,G,C,I,A8,K,H,u,O,S,T,P,hb,AA,BC,BG,R,L,M,A7,Ah,Ai,Al,AD,AX,Ap,AY];refine next _ _ (λx=>if x=(j:Int)then g j else if x=(j:Int)then g j+l else g x) (by omega) (by omega) (Aa.A1 (AB _ _ _ (by omega)) (by omega)) (by rw[AR (by simp only[Au,B1];omega)]) (λx=> ?_) (by simp[G]) (by simp[C]) (by simp) (by simp[K]) (by simp[H]) (by simp[A3])
    simp only[Bd,L,M];by_cases z:x=(j:Int)
    ·subst z;simp
    ·have AI: ¬(j:Int)=x:= λh=>z h.symm;simp[z,AI]
   ·have Aq: ¬(j:Int)=s:=(by omega);have AY:IntKind.i64.wrap (g j-l)=g j-l:=Ac (by omega) (by omega);simp(disch:=first|omega|simp only[A9];omega)[RB,G,C,I,A8,K,H,u,O,S,T,P,hb,AA,BC,BG,R,L,M,A7,t3,Ah,t4,Ai,Ax,Al,AD,AX,Ap,AY,Aq];refine next _ _ (λx=>if x=(j:Int)then g j-l else if x=(s:Int)then g s+l else g x) (by omega) (by omega) (Aa.A1 (AB _ _ _ (by omega)) (by omega)) (by rw[AR (by simp only[Au,B1];omega)]) (λx=> ?_) (by simp[G]) (by simp[C]) (by simp) (by simp[K]) (by simp[H]) (by simp[A3])
    simp only[Bd,L,M];by_cases z:x=(j:Int)
    ·subst z;have: ¬(s:Int)=j:= λh=>Aq h.symm;simp[this]
    ·have AI: ¬(j:Int)=x:= λh=>z h.symm;by_cases AZ:x=(s:Int)
     ·subst AZ;simp[z,AI]
     ·have BK: ¬(s:Int)=x:= λh=>AZ h.symm;simp[z,AI,AZ,BK]
theorem sG{n:Bw}(AI:n.CE){W:Nat}(Aq:n.AS=W){B:Int}(Ar:B=2147483647){v w:Value}{N:List Int}{b et:Nat}{b1:X}(AJ:b1.Y b=some ⟨Cd n v,true⟩)(AZ:Dc b1 v n.A0)(AK:HU b1 w N)(H:N.length=n.A0.length)(As:b1.ac<=et){Q:BM->A2->X->Prop}: ∀(r i:Nat) (m:X) (A:A2) (g:Int->Int),i+r=n.A0.length->Aa b1 m->m.Y et=some ⟨An W g,true⟩->(∀x,-((i:Int)*B)<=g x/\g x<=(i:Int)*B)->
 A 7=Z i->A 6= .slice (some ⟨et,0,none⟩) W 1->A 1=w->A 2=AG b->
 (∀J p F,Aa b1 p->p.Y et=some ⟨An W F,true⟩->JI (n.A0.drop i) (N.drop i)=true->(∀x,F x=g x+Cx (n.A0.drop i) (N.drop i) x)->J 6= .slice (some ⟨et,0,none⟩) W 1->J 2=AG b->Q (.Ao 0) J p)->
 (∀J p,Aa b1 p->JI (n.A0.drop i) (N.drop i)=false->J 4=Z 0->J 5= .bool false->Q .Cz J p)->Az V (.loop Qt) A m Q
 | 0,i,m,A,g,At,G,O,U,I,K,C,D,AL,AM=>by refine Bm λAb Ae=> ?_;have u: ¬i<n.A0.length:=(by omega);obtain⟨Av,Aw⟩:=AK.len;simp[Qt,I,C,u,Av,Aw,H];exact AL _ _ g G O (by rw[Jw (by omega)];rfl) (λx=>by rw[Jw (by omega:n.A0.length<=i)];simp[Cx]) (by simp[K]) (by simp[D])
 | r+1,i,m,A,g,At,G,O,U,I,K,C,D,AL,AM=>by
   refine Bm λAb Ae=> ?_;have u:i<n.A0.length:=(by omega);have AN:i<N.length:=(by omega);obtain⟨a,A3⟩: ∃a,n.A0[i]?=some a:=⟨n.A0[i]'u,by simp⟩;obtain⟨l,Af⟩: ∃l,N[i]?=some l:=⟨N[i]'AN,by simp⟩;have P: ∀h,N[i]'h=l:= λh=>by rw[AP h]at Af;simpa using Af
   have A4:n.A0.drop i=a::n.A0.drop (i+1):=(by rw[Ht u];rw[AP u]at A3;cases A3;rfl);have A5:N.drop i=l::N.drop (i+1):=(by rw[Ht AN];rw[P]);have Ax:=AI.Gu a (B5 A3);obtain⟨⟨BJ,BK⟩,⟨BL,BN⟩,BO,BQ⟩:=Ax;obtain⟨s,L⟩: ∃k:Nat,a.f=k:=⟨a.f.toNat,by omega⟩;obtain⟨j,M⟩: ∃k:Nat,a.t=k:=⟨a.t.toNat,by omega⟩;have A6:s<W:=(by omega);have t3:j<W:=(by omega);have Ag:s+1<=W:=A6;have t4:j+1<=W:=t3;have Ah: ∀g,(An W g)[s]?=some (Z (g s)):= λg=>G5 A6;have Ay: ∀g,(An W g)[j]?=some (Z (g j)):= λg=>G5 t3;obtain⟨c,o,rfl,Ai⟩:=AZ.BY u;obtain⟨d,BR,rfl,Aj⟩:=AK.BY AN;have R:=G.some Ai;have S:=G.some Aj;have T:=G.some AJ;have BS:=E T;have BT:=E R;have BU:=E S;have BV:=E Ai;have BW:=E Aj;have Ba:=E AJ;have Bb:=E O;have Bc:=G.ac
   have hb:i*4+4<=n.A0.length*4:=(by omega);have A7:i+1<=n.A0.length:=u;have A8:=Il A3;have Be:=AI.Gf;have Ak:=BZ (n:=i) (by omega);have stop: ∀(J:A2) (p:X),(l<0\/a.c<l)->Aa b1 p->J 4=Z 0->J 5= .bool false->Q .Cz J p:= λJ p B0 AO B2 B3=>AM _ _ AO (by rw[A4,A5];rcases B0 with h|h<;>simp[JI,h]) B2 B3;have AA: ∀k q y,m.ac<=q->Aa b1 ((m.AE k).A1 q (some y)):= λk q y Bf=>(G.AE k).A1 (by omega)
   have Bg:=U s;have Bh:=U j;have Bi:(i:Int)*B<=2500*B:=Jt (by omega) (by omega);have next: ∀(J:A2) (p:X) (F:Int->Int),0<=l->l<=a.c->Aa b1 p->p.Y et=some ⟨An W F,true⟩->(∀x,F x=g x+Bd a.f x l-Bd a.t x l)->J 7=Z ((i:Int)+1)->J 6= .slice (some ⟨et,0,none⟩) W 1->J 1= .slice (some ⟨d,0,none⟩) N.length 1->J 2=AG b->Ab J p:=by
    intro J p F Bj Bk AO B4 Al B6 B7 B8 B9;refine Ae _ _ (sG AI Aq Ar AJ AZ AK H As r (i+1) p J F (by omega) AO B4 ?_ (by rw[B6];simp) B7 B8 B9 (λBA BB BD AQ AT AU AV BE BF=>AL _ _ BD AQ AT ?_ ?_ BE BF) (λBA BB AQ AT AU AV=>AM _ _ AQ ?_ AU AV))
    ·intro x;have z:=U x;rw[Al x];have e:(((i+1:Nat):Int))*B=(i:Int)*B+B:=(by rw[N5,Int.add_mul];simp);rw[e];simp only[Bd];split<;>split<;>omega
    ·rw[A4,A5];simp only[JI,AU,Bool.and_true,AF,JQ,OB];omega
    ·intro x;rw[AV,Al,A4,A5];simp only[Cx];omega
    ·rw[A4,A5];simp only[JI,AT,Bool.and_false]
   by_cases AB:l<0
   ·simp(disch:=first|omega|simp only[A9];omega)[Qt,I,A7,C,D,u,H,R,S,T,hb,A8,BC,BG,P,L,M,AB];exact stop _ _ (by omega) (AA _ _ _ (by omega)) (by simp) (by simp)
   by_cases AW:a.c<l
   ·simp(disch:=first|omega|simp only[A9];omega)[Qt,I,A7,C,D,u,H,R,S,T,hb,A8,BC,BG,P,L,M,AB,AW];exact stop _ _ (by omega) (AA _ _ _ (by omega)) (by simp) (by simp)
   have Am:IntKind.i64.wrap (g s+l)=g s+l:=Ac (by omega) (by omega);by_cases BH:j=s
   ·subst BH;have AX:IntKind.i64.wrap (g j)=g j:=Ac (by omega) (by omega);simp(disch:=first|omega|simp only[A9];omega)[Qt,I,A7,K,C,D,u,H,R,S,T,O,hb,A8,BC,BG,P,L,M,A6,Ag,Ah,Ak,AB,AW,Am,AX];refine next _ _ (λx=>if x=(j:Int)then g j else if x=(j:Int)then g j+l else g x) (by omega) (by omega) (Aa.A1 (AA _ _ _ (by omega)) (by omega)) (by rw[AR (by simp only[Au,B1];omega)]) (λx=> ?_) (by simp) (by simp[K]) (by simp[C]) (by simp[D])
    simp only[Bd,L,M];by_cases z:x=(j:Int)
    ·subst z;simp
    ·have AD: ¬(j:Int)=x:= λh=>z h.symm;simp[z,AD]
   ·have Ap: ¬(j:Int)=s:=(by omega);have AX:IntKind.i64.wrap (g j-l)=g j-l:=Ac (by omega) (by omega);simp(disch:=first|omega|simp only[A9];omega)[Qt,I,A7,K,C,D,u,H,R,S,T,O,hb,A8,BC,BG,P,L,M,A6,t3,Ag,t4,Ah,Ay,Ak,AB,AW,Am,AX,Ap];refine next _ _ (λx=>if x=(j:Int)then g j-l else if x=(s:Int)then g s+l else g x) (by omega) (by omega) (Aa.A1 (AA _ _ _ (by omega)) (by omega)) (by rw[AR (by simp only[Au,B1];omega)]) (λx=> ?_) (by simp) (by simp[K]) (by simp[C]) (by simp[D])
    simp only[Bd,L,M];by_cases z:x=(j:Int)
    ·subst z;have: ¬(s:Int)=j:= λh=>Ap h.symm;simp[this]
    ·have AD: ¬(j:Int)=x:= λh=>z h.symm;by_cases AY:x=(s:Int)
     ·subst AY;simp[z,AD]
     ·have BI: ¬(s:Int)=x:= λh=>AY h.symm;simp[z,AD,AY,BI]
end Go.Proofs.YtmmkkggfmigppaaGreat
end
