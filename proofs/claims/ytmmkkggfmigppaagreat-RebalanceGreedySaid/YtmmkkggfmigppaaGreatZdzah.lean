/- A part of the proof. -/
import Derived.Test.YtmmkkggfmigppaaGreatZdzag
set_option linter.all false
set_option maxRecDepth 20000
set_option maxHeartbeats 16000000
noncomputable section
namespace Go.Proofs.YtmmkkggfmigppaaGreat
open Go Go.DI Go.Big Go.EL
variable{l R S:List Int}{x k:Int}{i o:Nat}{u:AL}{a:Ah}{t:X}{w:Bool}{A:A2}{Q:BM->A2->X->Prop}{br:List Value}
theorem aCK(u:l.length<=1000000):AO V 163 [AK l,Z x] (.bool (decide (x∈l))):=by
 refine BQ (Ax (aC:=⟨[],[]⟩) vs.2 ?_);simp[vs,r0];refine Cc (aC:=⟨[],[]⟩) (λi A t=>(∀j (a:j<l.length),j<i-> ¬x=l[j])/\A 0=AK l/\A 1=Z x/\A 5=Z i) l.length ?_ ?_ 0 _ _ (C8 _) ⟨λj a h=>absurd h (Ks _),by simp,by simp,by simp⟩
 ·rintro i A t m ⟨k,b,d,f⟩ v q;obtain⟨y,r⟩:=Cb m;have g:=(Ae.1 r).2;have o:(i:Int)<l.length:=(by omega);have s:=BZ (n:=i) (by omega);by_cases c:y=x
  ·have e:x∈l:=(by rw[<-c,<-g];exact Dq m);simp(disch:=omega)[ab,VI,b,d,f,o,g,eq_true c,e]
  ·simp(disch:=first|omega|simp only[DI.AB];omega)[ab,VI,b,d,f,o,g,c,s,-H,-D,-I,-F,-List.map_map];refine q _ _ ⟨λj a w=> ?_,by simp[b],by simp[d],by simp⟩;by_cases e:j=i
   ·subst e;rw[g];exact λh=>c h.symm
   ·exact k j a (by omega)
 ·rintro A t ⟨k,b,d,f⟩;have e: ¬x∈l:= λh=>by
   obtain⟨j,a,e⟩:=E5 h;exact k j a a e.symm
  simp[ab,VI,VI,b,f,e]
abbrev T1:AN V:= .B9 163 (List Int×Int) (λx=>x.1.length<=1000000) (λx=>[AK x.1,Z x.2]) (λx=> .bool (decide (x.2∈x.1))) λ_ h=>aCK h
@[simp] theorem aGM(h:l.length<=1000000):T1.fn [O (l.map λx=>[Z x]) 1,Z x]=some (.bool (decide (x∈l))):=AN.BH (x:=(l,x)) h λ⟨b,c⟩ a=>by simpa using a
def Mm(u:AL)(a:Ah):Int:=if a.t<AI u 0 then-1 else IL u.A3.length u.A5.length a.f
theorem a0y{v w:Nat}(a:0<i)(b:i<u.A5.length)(e:Ap u v i=Ap u w i):v=w:=by have c:=Uv (u:=u) (v:=v) a b;have d:=Uv (u:=u) (v:=w) a b;rw[e,d]at c;omega
theorem a5U(h:B4 u)(M:1<=u.A3.length)(p:a∈Ak u R):AO V 162 [.agg (A7 u).toArray,.agg #[Z a.f,Z a.t,Z a.c,Z k]] (Z (Mm u a)):=by
 have A6:=h.ok.EF;have A8:=h.ok.Es;have A9:=I6 h.ok;obtain⟨⟨AA,AD,t0,AE⟩,AF⟩:=Ps h.ok p;have AJ:AI u u.A4.length=AI u 0+u.A4.length:=by unfold AI;omega
 have N:IntKind.i64.wrap (a.t-AI u 0)=a.t-AI u 0:=Ac (by omega) (by omega);have z0:(0:Nat)<=1000:=by omega
 have P:(MI u h.ok).fn [.agg #[Z u.ext,O (u.Bu.map CS) 4,O (u.Af.map CX) 4,O (u.A5.map Bq) 7,O (u.A4.map Bx) 3,O (u.B7.map BE) 17,O (u.A3.map CW) 2],Z 0]=some (Z (AI u 0)):=ei (d:=0) (by omega);refine BQ (Ax (aC:=⟨[MI u h.ok],[]⟩) uJ.2 ?_);simp[uJ,vn,A7,P,N];have AK:(0:Int)<u.A3.length:=by omega
 have Q:0<u.A3.length:=M;by_cases c:a.t<AI u 0
 ·refine Ba (aC:=⟨[],[]⟩) λS s=> ?_;have AL: ¬0<=a.t-AI u 0:=(by omega);have T: ¬AI u 0<=a.t:=(by omega);simp[b2,U6,U6,Q,T,Mm,c]
 ·obtain⟨v,d,AM,w,rfl⟩:=ec h.ok p (by omega);obtain⟨y,j⟩:=Cb w;have x: ∀h,u.A4[d]'h=y:= λh=>(Ae.1 j).2;obtain⟨_,_,AN,AP,_⟩:=h.ok.LG d y j;have z:y.Ou=(CI u d:Nat):=(by unfold CI;rw[j];simp only;omega);obtain⟨B,U⟩:=Gq h.ok w;have C:0<CI u d:=by
   rcases Sg (CI u d)with e|e
   ·rw[e]at U;have:=h.ok.Ly.1;omega
   ·exact e
  have AQ:=h.ok.Cg;have W:AI u d-AI u 0=d:=(by unfold AI;omega);have G:(d:Int)<u.A4.length:=(by omega);have J:(0:Int)<=d:=(by omega);have X:Mm u (D8 u v d)=v:=(by unfold Mm;rw[if_neg c];exact Uv C B);rw[show(D8 u v d).t=AI u d from rfl,W];refine Cc (aC:=⟨[Ox u h.ok],[]⟩) (λi A t=>t.Y 0=some ⟨A7 u,true⟩/\t.Y 1=some ⟨[Z (Ap u v (CI u d)),Z (AI u d),Z (D8 u v d).c,Z k],true⟩/\i<=v/\A 2=AG 0/\A 3=AG 1/\A 5=Z d/\A 6=Z i) u.A3.length ?_ ?_ 0 _ _ (C8 _) ⟨by simp[A7],by simp[D8],by omega,by simp,by simp,by simp,by simp⟩
  ·rintro i A t AR ⟨b,g,A0,l,m,o,K⟩ S s;have AS:=E b;have AT:=E g;have L:(i:Int)<u.A3.length:=(by omega);have A1:=BZ (n:=i) (by omega);have AU:i<=1000/\CI u d<=1000:=(by omega);by_cases e:i=v
   ·subst e;simp(disch:=first|omega|simp only[DI.AB];omega)[b2,U6,l,m,o,K,b,g,A7,Bx,L,J,G,x,z];rw[X]
   ·have A2: ¬Ap u v (CI u d)=Ap u i (CI u d):= λq=>e (a0y C B q).symm;simp(disch:=first|omega|simp only[DI.AB];omega)[b2,U6,l,m,o,K,b,g,A7,Bx,L,A1,J,G,x,z,A2,-H,-D,-I,-F,-List.map_map];exact s _ _ ⟨b,g,by omega,by simp[l],by simp[m],by simp[o],by simp⟩
  ·rintro A t ⟨b,g,A0,_⟩;omega
theorem iE(a:t.Y o=some ⟨l.map Z,w⟩):DI.B3 9 t (AM o l.length 1)=some (AK l):=by
 have:=Ww (n:=7) (i:=l.length) a (Aj _)
 rwa [FJ]at this
theorem aCj{a:List Int}(AQ:S.length<=1000)(AS:a.length<=1000)(AA: ∀d∈S,0<=d)(g:t.Y 2=some ⟨List.replicate a.length (Z 0),true⟩)(AD:t.Y 4=some ⟨[],true⟩)(h:A 0=AK a)(k:A 1=AK S)(l:A 5=AM 2 a.length 1)(m:A 6=AM 4 0 1)(o:A 7=Z 0)
 (A2: ∀s O e,O.Y 2=some ⟨(EG S a).1.map Z,true⟩->O.Y e=some ⟨(EG S a).2.map Z,true⟩->e≠2->s 0=AK a->s 1=AK S->s 5=AM 2 a.length 1->s 6=AM e (EG S a).2.length 1->Q (.Ao 0) s O):Bc V (.loop SQ) A t Q:=by
 refine Cc (aC:=⟨[T1],[]⟩) (λi A t=> ∃c Ag e,(a.take i).foldl (EN S) ([],[])=(c,Ag)/\t.Y 2=some ⟨(c++List.replicate (a.length-i) 0).map Z,true⟩/\t.Y e=some ⟨Ag.map Z,true⟩/\e≠2/\Ag.length<=i/\A 0=AK a/\A 1=AK S/\A 5=AM 2 a.length 1/\A 6=AM e Ag.length 1/\A 7=Z i) a.length ?_ ?_ 0 A t (C8 _) ⟨[],[],4,rfl,by simpa using g,by simpa using AD,by omega,by simp,h,k,l,by simpa using m,o⟩
 ·rintro i A t A3 ⟨c,Ag,e,u,g,v,w,AF,h,k,l,m,o⟩ AU P;obtain⟨x,A4⟩:=Cb A3;have R:=(Ae.1 A4).2;have B:(i:Int)<a.length:=(by omega);have T:i+1<=a.length:=A3;have U:=BZ (n:=i) (by omega);have K:=Vq (f:=EN S) (b:=([],[])) A4;rw[u]at K;have A5:c.length=i:=(by have:=O3 (S:=S) (a.take i) ([],[]);rw[u]at this;simp at this;omega);have L:=E g;have AV:=E v;have AI:c++List.replicate (a.length-i) 0=c++(0:Int)::List.replicate (a.length-(i+1)) 0:=(by rw[show a.length-i=(a.length-(i+1))+1 by omega,QY]);rw[AI]at g;obtain⟨j,C⟩: ∃j,j=List.replicate (a.length-(i+1)) (0:Int):=⟨_,rfl⟩;rw[<-C]at g;have AW:j.length=a.length-(i+1):=(by rw[C,Ov]);have AX:i+1<=(c++(0:Int)::j).length:=(by simp;omega);have A7: ∀y:Int,((c++(0:Int)::j).map Z).set i (Z y)=(c++y::j).map Z:= λy=>by rw[Gs,Dl,PN (by rw[E9];exact A5)];simp
  have AJ: ∀y z:Int,((c++z::j).map Z).set i (Z y)=(c++y::j).map Z:= λy z=>by rw[Gs,Dl,PN (by rw[E9];exact A5)];simp
  obtain⟨br,A8⟩: ∃br,br=(c++(0:Int)::j).map Z:=⟨_,rfl⟩;rw[<-A8]at g A7;have W:br.length=a.length:=(by rw[A8];simp;omega);have AY:i+1<=br.length:=(by omega);have M:=A7 (-1);obtain⟨p,G⟩: ∃p,p=(c++(-1:Int)::j).map Z:=⟨_,rfl⟩;rw[<-G]at M;have AZ:p.length=a.length:=(by rw[G];simp;omega);have A0:(t.A1 2 (some ⟨p,true⟩)).Y e=some ⟨Ag.map Z,true⟩:=(by rw[A6 w];exact v);have A9:=iE A0;have Aa:Ag.length<=1000000:=(by omega);have Ac:S.length<=1000000:=(by omega);by_cases r:x∈S
  ·by_cases N:x∈Ag
   ·simp(disch:=first|omega|simp only[DI.AB];omega)[SQ,h,k,l,m,o,B,T,U,R,g,W,M,A9,r,N,-H,-D,-I,-F,-List.map_map];have J:EN S (c,Ag) x=(c++[-1],Ag):=(by unfold EN;rw[if_neg λq=>q.2.2 N]);refine P _ _ ⟨c++[-1],Ag,e,by rw[K,J],?_,by rw[nQ];exact A0,w,by omega,by simp[h],by simp[k],by simp[l],by simp[m],by simp⟩;rw[nQ,AR L,G,C];simp
   ·have AL:i+1<=p.length:=(by omega);have AN:(Ag.length+1)*8<=140737488355328/\Ag.length<=9223372036854775806:=(by omega);simp(disch:=first|omega|simp only[DI.AB];omega)[SQ,h,k,l,m,o,B,T,U,R,g,v,W,M,A9,r,N,AL,AN,-H,-D,-I,-F,-List.map_map];have J:EN S (c,Ag) x=(c++[x],Ag++[x]):=(by unfold EN;rw[if_pos ⟨AA x r,r,N⟩]);have AO:p.set i (Value.int .i64 x)=(c++x::j).map Z:=(by rw[G];exact AJ x (-1));refine P _ _ ⟨c++[x],Ag++[x],t.ac+6,by rw[K,J],?_,?_,by omega,by simp;omega,by simp[h],by simp[k],by simp[l],by simp,by simp⟩
    ·rw[A6 (by omega),A6 (by omega),A6 (by omega),Ab (by show 2<t.ac;exact L),AR (by show 2<t.ac;exact L),AO,C];simp
    ·rw[AR (by simp[X.A1,X.AE]),DP (by simp)];simp
  ·simp(disch:=first|omega|simp only[DI.AB];omega)[SQ,h,k,l,o,B,T,U,R,g,W,M,r,-H,-D,-I,-F,-List.map_map];have J:EN S (c,Ag) x=(c++[-1],Ag):=(by unfold EN;rw[if_neg λq=>r q.2.1]);refine P _ _ ⟨c++[-1],Ag,e,by rw[K,J],?_,A0,w,by omega,by simp[h],by simp[k],by simp[l],by simp[m],by simp⟩;rw[AR L,G,C];simp
 ·rintro A t ⟨c,Ag,e,u,g,v,w,AF,h,k,l,m,o⟩;rw[FJ]at u;have AP:EG S a=(c,Ag):=u;rw[AP]at A2;simp only[Nat.sub_self,List.replicate_zero,Pf]at g;have B: ¬((a.length:Int)<a.length):=(by omega);simp(disch:=first|omega|simp only[DI.AB];omega)[SQ,h,o,B,-H,-D,-I,-F,-List.map_map];exact A2 _ _ e g v w (by simp[h]) (by simp[k]) (by simp[l]) (by simp[m])
theorem wE{n:Nat}(d:br.length=n)(e:i<n)(f:br[i]?=some (Z x))(g: ¬x= -1)(a:t.Y 2=some ⟨br,true⟩)(h:A 5=AM 2 n 1)(j:A 9=Z i)
 (l: ∀b,(∀k∈[1,5,6,8,9],b k=A k)->Q (.Ao 4) b t):Bc V (.loop Q1) A t Q:=by
 refine Ba (aC:=⟨[T1],[]⟩) λr s=> ?_;have u:=E a;have m:(i:Int)<n:=by omega
 have o:i+1<=n:=e;have p:List.take 1 (List.drop i br)=[Z x]:=Kl f;simp[Q1,h,j,a,d,m,o,p,g];exact l _ λk c=>by simp at c;rcases c with rfl|rfl|rfl|rfl|rfl<;>simp
theorem uR{S Ag aH xs:List Int}{i n:Nat}(u:aH.length=i)(A9:i+1+xs.length=n)(AA:S.length<=1000)(AD:Ag.length<=1000)(AE:n<=1000)(W: ∀d∈S,0<=d){p:Nat}(A0:p≠2){Q:BM->A2->X->Prop}: ∀(l:List Int) (j:Nat) (A:A2) (t:X),j<=S.length->S.drop j=l->
 t.Y 2=some ⟨(aH++(-1:Int)::xs).map Z,true⟩->t.Y p=some ⟨Ag.map Z,true⟩->A 1=AK S->A 5=AM 2 n 1->A 6=AM p Ag.length 1->A 8=Z j->A 9=Z i->
 (∀h L (M:Nat),M<=S.length->S.drop M=(Ef Ag l).2->L.Y 2=some ⟨(aH++(Ef Ag l).1::xs).map Z,true⟩->L.Y p=some ⟨Ag.map Z,true⟩->h 1=AK S->h 5=AM 2 n 1->h 6=AM p Ag.length 1->h 8=Z M->h 9=Z i->Q (.Ao 4) h L)->Bc V (.loop Q1) A t Q
 | [],j,A,t,A1,m,a,e,o,f,r,v,g,s=>by
   refine Ba (aC:=⟨[T1],[]⟩) λAI N=> ?_;obtain⟨br,b⟩: ∃br,br=(aH++(-1:Int)::xs).map Z:=⟨_,rfl⟩;have w:br.length=n:=(by rw[b];simp;omega);have O:br[i]?=some (Z (-1)):=(by rw[b,Gs,Ib (by simp;omega)];simp[u]);have B:i<n:=(by omega);have C:(i:Int)<n:=(by omega);have G:i+1<=n:=B;have J:List.take 1 (List.drop i br)=[Z (-1)]:=Kl O;have A3: ∀y:Int,br.set i (Z y)=(aH++y::xs).map Z:= λy=>by rw[b,Gs,Dl,PN (by rw[E9];exact u)];simp
   have P:=a;rw[<-b]at a;have R:=E a;have AJ:=E e;have T:=iE e;have AL:Ag.length<=1000000:=(by omega);have AN:j=S.length:=(by have:=congrArg List.length m;simp at this;omega);have K: ¬((j:Int)<S.length):=(by omega);simp(disch:=first|omega|simp only[DI.AB];omega)[Q1,o,f,v,g,K,a,w,C,G,J];exact s _ _ j A1 (by simpa[Ef]using m) P e (by simp[o]) (by simp[f]) (by simp[r]) (by simp[v]) (by simp[g])
 | d::l,j,A,t,A1,m,a,e,o,f,r,v,g,s=>by
   refine Ba (aC:=⟨[T1],[]⟩) λAI N=> ?_;obtain⟨br,b⟩: ∃br,br=(aH++(-1:Int)::xs).map Z:=⟨_,rfl⟩;have w:br.length=n:=(by rw[b];simp;omega);have O:br[i]?=some (Z (-1)):=(by rw[b,Gs,Ib (by simp;omega)];simp[u]);have B:i<n:=(by omega);have C:(i:Int)<n:=(by omega);have G:i+1<=n:=B;have J:List.take 1 (List.drop i br)=[Z (-1)]:=Kl O;have A3: ∀y:Int,br.set i (Z y)=(aH++y::xs).map Z:= λy=>by rw[b,Gs,Dl,PN (by rw[E9];exact u)];simp
   have P:=a;rw[<-b]at a;have R:=E a;have AJ:=E e;have T:=iE e;have AL:Ag.length<=1000000:=(by omega);have AO:j<S.length:=(by apply MR;intro q;rw[Jw (by omega)]at m;cases m);have A4:S[j]?=some d:=(by have:=congrArg (λk=>k[0]?) m;simpa using this);have A5:=(Ae.1 A4).2;have A7:S.drop (j+1)=l:=(by have:=congrArg (List.drop 1) m;simpa using this);have K:(j:Int)<S.length:=(by omega);have A8:=BZ (n:=j) (by omega);have AP:=W d (B5 A4);by_cases c:d∈Ag
   ·simp(disch:=first|omega|simp only[DI.AB];omega)[Q1,o,f,r,v,g,K,A8,a,w,C,G,J,T,A5,c,-H,-D,-I,-F,-List.map_map];have U:Ef Ag (d::l)=Ef Ag l:=(by simp[Ef,c]);rw[U]at s;exact N _ _ (uR u A9 AA AD AE W A0 l (j+1) _ _ (by omega) A7 P e (by simp[o]) (by simp[f]) (by simp[r]) (by simp) (by simp[g]) s)
   ·simp(disch:=first|omega|simp only[DI.AB];omega)[Q1,o,f,r,v,g,K,A8,a,w,C,G,J,T,A5,c];have U:Ef Ag (d::l)=(d,l):=(by simp[Ef,c]);rw[U]at s;refine N _ _ (wE (br:=br.set i (Z d)) (i:=i) (n:=n) (x:=d) (by rw[Ma];exact w) B (by rw[List.getElem?_set_self (by omega)]) (by omega) (AR R) (by simp[f]) (by simp[g]) λh z=> ?_);refine s _ _ (j+1) (by omega) A7 ?_ ?_ ?_ ?_ ?_ ?_ ?_
    ·rw[AR (show 2<(Ca t (BL 9 t (AM p Ag.length 1))).ac from R),A3 d]
    ·rw[A6 A0];exact e
    ·rw[z 1 (by simp)];simp[o]
    ·rw[z 5 (by simp)];simp[f]
    ·rw[z 6 (by simp)];simp[r]
    ·rw[z 8 (by simp)];simp
    ·rw[z 9 (by simp)];simp[g]
theorem gi{S Ag:List Int}{n:Nat}(l:S.length<=1000)(m:Ag.length<=1000)(o:n<=1000)(p: ∀d∈S,0<=d){q:Nat}(r:q≠2){Q:BM->A2->X->Prop}: ∀(xs a:List Int) (j:Nat) (A:A2) (t:X),j<=S.length->a.length+xs.length=n->(∀x∈xs,x= -1\/0<=x)->
 t.Y 2=some ⟨(a++xs).map Z,true⟩->t.Y q=some ⟨Ag.map Z,true⟩->A 1=AK S->A 5=AM 2 n 1->A 6=AM q Ag.length 1->A 8=Z j->A 9=Z a.length->
 (∀f s,s.Y 2=some ⟨(a++JO Ag xs (S.drop j)).map Z,true⟩->f 5=AM 2 n 1->Q (.Ao 2) f s)->Bc V (.loop Ya) A t Q
 | [],a,j,A,t,u,v,I,g,w,z,b,B,C,e,k=>by refine Ba (aC:=⟨[],[]⟩) λM D=> ?_;have E: ¬((a.length:Int)<n):=(by simp at v;omega);simp[Ya,b,e,E];exact k _ _ (by simpa[JO]using g) (by simp[b])
 | x::xs,a,j,A,t,u,v,I,g,w,z,b,B,C,e,k=>by
   refine Ba (aC:=⟨[],[]⟩) λM D=> ?_;simp only[DZ]at v;have E:(a.length:Int)<n:=(by omega);have J:IntKind.i64.wrap ((a.length:Int)+1)=(a.length:Int)+1:=Ac (by omega) (by omega);have K: ∀y∈xs,y= -1\/0<=y:= λy N=>I y (Pc _ N);simp[Ya,b,e,E];by_cases c:x= -1
   ·subst c;refine uR (xs:=xs) (aH:=a) (n:=n) rfl (by omega) l m o p r (S.drop j) j _ _ u rfl g w (by simp[z]) (by simp[b]) (by simp[B]) (by simp[C]) (by simp[e]) λf s O P R a3 a4 T U W A0 F=> ?_;simp[F,J];refine D _ _ (gi l m o p r xs (a++[(Ef Ag (S.drop j)).1]) O _ _ P (by simp;omega) K (by rw[Nk];exact a3) a4 (by simp[T]) (by simp[U]) (by simp[W]) (by simp[A0]) (by simp) λA1 A3 G H=>k _ _ ?_ H);rw[G,R,Nk];simp[JO]
   ·have A4:((a++x::xs).map Z)[a.length]?=some (Z x):=(by rw[Gs,Ib (by simp)];simp);refine wE (br:=(a++x::xs).map Z) (i:=a.length) (n:=n) (x:=x) (by simp;omega) (by omega) A4 c g (by simp[b]) (by simp[e]) λf h=> ?_;have F:f 9=Z a.length:=(by rw[h 9 (by simp)];simp[e]);simp[F,J];refine D _ _ (gi l m o p r xs (a++[x]) j _ _ u (by simp;omega) K (by rw[Nk];exact g) w ?_ ?_ ?_ ?_ (by simp) λA1 A3 G H=>k _ _ ?_ H)
    ·simp[h 1 (by simp),z]
    ·simp[h 5 (by simp),b]
    ·simp[h 6 (by simp),B]
    ·simp[h 8 (by simp),C]
    ·rw[G,Nk];simp[JO,c]
theorem oa{S:List Int}: ∀(b:List Int) (a:List Int×List Int),(b.foldl (EN S) a).2.length<=a.2.length+b.length
 |[],a=>by simp
 | d::b,a=>by rw[GO,DZ];refine E8 (oa b _) ?_;unfold EN;split<;>simp<;>omega
theorem zk{a:List Int}(c:S.length<=1000)(e:a.length<=1000)(b: ∀d∈S,0<=d)(f:S.Nodup):Bh V 106 [AK a,AK S] Cl λv t=>v=AM 2 a.length 1/\t.Y 2=some ⟨(F0 S a).map Z,true⟩:=by
 refine Ax (aC:=⟨[],[]⟩) na.2 ?_;have g:(0:Int)<=a.length:=by omega
 have h:(a.length:Int)*8<=140737488355328:=by omega
 have i:(a.length:Int)<=9223372036854775807:=by omega
 simp[na,nR,g,h,i];refine aCj c e b ?_ ?_ (by simp) (by simp) (by simp) (by simp) (by simp) λw x y j k l z m n o=> ?_
 ·simp
 ·simp
 have p:(EG S a).1.length=a.length:=by unfold EG;rw[O3];simp
 have q:(EG S a).2.length<=1000:=by have:=oa (S:=S) a ([],[]);simp at this;unfold EG;omega
 simp[pt];refine gi (Ag:=(EG S a).2) c q e b l (EG S a).1 [] 0 _ _ (C8 _) (by simpa using p) (hs a _ (by simp)) (by simpa using j) k (by simp[m]) (by simp[n]) (by simp[o]) (by simp) (by simp) λA B r s=> ?_;simp[qx,s];rw[r,a1A f b];simp
theorem aDI{c:List Int}(e:S.length<=1000)(f:c.length<=1000)(g: ∀d∈S,0<=d)(h:S.Nodup):AO V 106 [AK c,AK S] (AK (F0 S c)):=
 Sq (n:=c.length) (by rw[E9,aa]) K7 (by rw[Jd];exact(zk e f g h).AD λv t ⟨a,b⟩=>⟨2,a,b⟩)
abbrev nY:AN V:= .B9 106 (List Int×List Int) (λx=>(x.2.length<=1000/\x.1.length<=1000)/\(∀d∈x.1,0<=d)/\x.1.Nodup) (λx=>[AK x.2,AK x.1]) (λx=>AK (F0 x.1 x.2)) λ_ h=>aDI h.1.2 h.1.1 h.2.1 h.2.2
theorem a9c{a2:List Int}(h:(a2.length<=1000/\S.length<=1000)/\(∀d∈S,0<=d)/\S.Nodup):nY.fn [O (a2.map λx=>[Z x]) 1,O (S.map λx=>[Z x]) 1]=some (AK (F0 S a2)):=AN.BH (x:=(S,a2)) h λ⟨a,b⟩ c=>by
 have:a=S/\b=a2:=by simpa[and_comm]using c
 rw[this.1,this.2]
open Go Go.DI Go.EL
theorem tb{f:Int}(D:f=1000000000){n:Bw}{N:List Int}{v w:Value}{et:Nat}{p:X}(F:p.Y et=some ⟨Cd n v,true⟩)(G:Dc p v n.A0)(u:HU p w N)(hb:F5 n N)(H:n.CE)(I: ∀a∈n.A0,GC a=true){Q:BM->A2->X->Prop}: ∀(r i:Nat) (e:Int) (m:X) (A:A2),i+r=n.A0.length->Aa p m->0<=e->e<=i*f->
 A 1=w->A 2=AG et->A 9=Z i->A 8=Z e->
 (∀J K,Aa p K->J 8=Z (e+Eg (n.A0.drop i) (N.drop i))->Q (.Ao 0) J K)->Az V (.loop YU) A m Q
 | 0,i,e,m,A,R,g,S,T,q,x,y,z,B=>by refine Bm λU L=> ?_;obtain⟨W,A1⟩:=u.len;have l: ¬(i:Int)<N.length:=(by rw[hb.1];omega);have AK: ¬i<N.length:=(by omega);simp(disch:=omega)[YU,q,y,l,W,A1];exact B _ _ g (by rw[Jw (by omega)];simp[z,Eg])
 | r+1,i,e,m,A,R,g,S,T,q,x,y,z,B=>by
   refine Bm λU L=> ?_;have l:i<n.A0.length:=(by omega);have AL:=H.Gf;obtain⟨a,s⟩: ∃a,n.A0[i]?=some a:=⟨n.A0[i]'l,by simp⟩;have C:i<N.length:=(by rw[hb.1];exact l);obtain⟨aM,t⟩: ∃aM,N[i]?=some aM:=⟨N[i]'C,by simp⟩;have A3: ∀h,N[i]'h=aM:= λh=>by rw[AP h]at t;simpa using t
   have AM:=hb.2 i a aM s t;have A4:=I a (B5 s);simp[GC]at A4;have AN:0<=aM*a.k:=MH (by omega) (by omega);have AO:aM*a.k<=f:=(by rw[D];exact Int.mul_le_mul (a:=aM) (b:=a.k) (c:=1000000) (d:=1000) (by omega) (by omega) (by omega) (by omega));have AQ:(i:Int)*f<=2500*f:=Jt (by omega) (by omega);have AR:((i+1:Nat):Int)*f=i*f+f:=(by push_cast;rw[Int.add_mul];omega);obtain⟨c,o,rfl,A5⟩:=G.BY l;obtain⟨d,o',rfl,A6⟩:=u.BY C;have M:=g.some A5;have O:=g.some A6;have A7:=g.some F;have AS:=E M;have AT:=E O;have AU:=g.ac
   have AV:i*4+3<=n.A0.length*4:=(by omega);have A8:i*4+4<=n.A0.length*4:=(by omega);have AA:(i:Int)<N.length:=(by omega);have AB:i+1<=N.length:=C;have P:=H6 s (j:=3) (by omega);simp[BC]at P;have AD:=BZ (n:=i) (by omega);have AE:IntKind.i64.wrap (aM*a.k)=aM*a.k:=Ac (by omega) (by omega);have AF:IntKind.i64.wrap (e+aM*a.k)=e+aM*a.k:=Ac (by omega) (by omega);simp(disch:=first|omega|simp only[A9];omega)[YU,q,x,y,z,l,M,O,A7,A8,AA,AB,P,BG,A3,AD,AE,AF,Bj,Co,C3,Cn];refine L _ _ (tb D F G u hb H I r (i+1) (e+aM*a.k) _ _ (by omega) g (by omega) (by omega) (by simp[q]) (by simp[x]) (by simp) (by simp) (λAW AX AI AJ=>B _ _ AI ?_));rw[AJ,ru s t,Int.add_assoc]
variable{N:List Int}{m:X}{n:Bw}{v:Value}{bd p c7:Int->Int}{W bX s dc B eX et fP:Nat}{C:Int->CM}{q:List (Int×Int)}{e:CM}{aM:Int}{dP:Bool}
theorem a0P{w:Value}(d:Dc m v n.A0)(h:HU m w N):At V 159 [Ic n v,w] m λr i=>r= .tuple #[Z (Jn n N).1,.bool (Jn n N).2]/\Aa m i:=by
 rw[aA7 (by simp)];have a:Aa m ((m.AE 3).A1 m.ac (some ⟨Cd n v,true⟩)):=((Aa.refl m).AE 3).A1 (Aj _);have k:((m.AE 3).A1 m.ac (some ⟨Cd n v,true⟩)).Y m.ac=some ⟨Cd n v,true⟩:=AR (by simp)
 simp(disch:=first|omega|simp only[A9];omega)[gL,Bj,Co,C3];refine(oS (d.AD a)).AD λr u e=> ?_;obtain⟨rfl,b⟩:=e;have j:=b.some k;cases f:Ik n
 ·simp[];exact⟨by simp[Jn,f],a.trans b⟩
 simp[j,Bj,Co,C3];refine(z6 ((d.AD a).AD b) ((h.AD a).AD b)).AD λr x e=> ?_;obtain⟨rfl,c⟩:=e;have l:=c.some j;cases g:(Gb n N).2
 ·simp[];exact⟨by simp[Jn,g],(a.trans b).trans c⟩
 obtain⟨o,p,_⟩:=mT g;have q:=(bR.1 f).2;simp[];refine tb rfl l (((d.AD a).AD b).AD c) (((h.AD a).AD b).AD c) p.1 o q n.A0.length 0 0 _ _ (by omega) (Aa.refl _) (by omega) (by simp) (by simp) (by simp) (by simp) (by simp) (λy i s t=> ?_);simp[t];exact⟨by simp[Jn,g,f],((a.trans b).trans c).trans s⟩
def De(p bd:Int->Int):Int->Int:= λv=>if bd v<Bt then bd v-p v else Bt
theorem Wb{v:Int}(a:0<=p v):De p bd v<Bt↔bd v<Bt:=by
 unfold De;by_cases h:bd v<Bt
 ·rw[if_pos h];omega
 ·rw[if_neg h];omega
theorem Qf{v:Int}(h:bd v<Bt):De p bd v=bd v-p v:=if_pos h
theorem qw{v:Int}(h: ¬bd v<Bt):De p bd v=Bt:=if_neg h
theorem RC{d:Int}(h:d<Bt):De p (Ai bd x d)=Ai (De p bd) x (d-p x):=by
 funext v;by_cases a:v=x
 ·subst a;rw[EY,Qf (by rw[EY];exact h),EY]
 ·rw[Dt a];unfold De;rw[Dt a]
structure JF(n:Bw)(N:List Int)(p:Int->Int)(W:Nat)(bd:Int->Int)(C:Int->CM)(q:List (Int×Int)):Prop where
 P9:EU n N p W (De p bd) C q
 all: ∀v,bd v<Bt->(v,De p bd v)∈q
 Hj: ∀v,bd v<=Bt
theorem JF.g3(h:JF n N p W bd C q)(e:W<=700)(a: ∀v,0<=p v){v:Int}(b:bd v<Bt):0<=bd v/\bd v<=700000:=by have c:=h.P9.DY v;have d:=h.P9.cap v ((Wb (a v)).2 b);have f:=a v;rw[Qf b]at c d;omega
theorem JF.add(h:JF n N p W bd C q)(o:n.AS=W)(r:W<=700)(s:E0 n N p)(f: ∀v,0<=p v/\p v<=1000000)(i: ∀e,-1000<=Dd n e/\Dd n e<=1000)(t:0<AX n N e)(c:bd (B2 n e)<Bt)(A:bd (B2 n e)+Dd n e<bd (BB n e))(g:n.Ci (BB n e)):
 ∃u,JF n N p W (Ai bd (BB n e) (bd (B2 n e)+Dd n e)) (Ai C (BB n e) e) u/\iQz (G1 (De p (Ai bd (BB n e) (bd (B2 n e)+Dd n e)))) W+1<=iQz (G1 (De p bd)) W:=by
 have B:=h.g3 r (λv=>(f v).1) c;have D:=i e;have E:=f (BB n e);have w:=f (B2 n e);have F:=h.Hj (BB n e);have a:bd (B2 n e)+Dd n e<Bt:=by unfold Bt;omega
 have j:Eh n p e=Dd n e+p (B2 n e)-p (BB n e):=rfl;have x:De p bd (B2 n e)+Eh n p e<De p bd (BB n e):=by
  rw[Qf c,j];by_cases k:bd (BB n e)<Bt
  ·rw[Qf k];omega
  ·rw[qw k];unfold Bt;omega
 have d:=h.P9.add o s (λe=>(i e).2) t ((Wb w.1).2 c) x g;have y:De p bd (B2 n e)+Eh n p e=bd (B2 n e)+Dd n e-p (BB n e):=by rw[Qf c,j];omega
 rw[y,<-RC a]at d;refine⟨_,⟨d,λv l=> ?_,λv=> ?_⟩,?_⟩
 ·by_cases b:v=BB n e
  ·subst b;rw[RC a,EY];exact List.mem_cons_self
  ·rw[Dt b]at l;rw[RC a,Dt b];exact Pc _ (h.all v l)
 ·by_cases b:v=BB n e
  ·subst b;rw[EY];omega
  ·rw[Dt b];exact h.Hj v
 ·rw[RC a];have m:=d.DY (BB n e);have z:=d.cap (BB n e) (by rw[RC a,EY];omega);rw[RC a,EY]at m z;refine nP g.1 (by have:=g.2;omega) m (by omega) ?_;omega
theorem JF.done(h:JF n N p W bd C q)(c:W<=700)(b: ∀v,0<=p v/\p v<=1000000)(d: ∀e,-1000<=Dd n e/\Dd n e<=1000)(f: ∀e,0<AX n N e->bd (B2 n e)<Bt->bd (BB n e)<=bd (B2 n e)+Dd n e):EU n N p W (De p bd) C []:=by refine⟨h.P9.Ad,h.P9.DY,h.P9.Hj,h.P9.cap,h.P9.Ci,by simp,h.P9.Mt,λe g i _=> ?_⟩;have a:=(Wb (b _).1).1 i;have:=f e g a;have k:=h.g3 c (λv=>(b v).1) a;have l:=d e;have j:Eh n p e=Dd n e+p (B2 n e)-p (BB n e):=rfl;rw[Qf a,Qf (by unfold Bt;omega),j];omega
theorem JF.Rh(c:n.CE)(d:n.AS=W)(N:List Int)(b:p n.Ad=0)(C:Int->CM):JF n N p W (Ai (λ_=>Bt) n.Ad 0) C [(n.Ad,0)]:=by
 have e:De p (Ai (λ_=>Bt) n.Ad 0)=Ai (λ_=>Bt) n.Ad 0:=by
  rw[RC (by decide),b];funext v;by_cases a:v=n.Ad
  ·subst a;rw[EY,EY];rfl
  ·rw[Dt a,Dt a];exact qw (by omega)
 refine⟨by rw[e];exact EU.Rh c d N b C,λv a=> ?_,λv=> ?_⟩
 ·rw[e];by_cases h:v=n.Ad
  ·subst h;rw[EY];simp
  ·rw[Dt h]at a;omega
 ·by_cases h:v=n.Ad
  ·subst h;rw[EY];decide
  ·rw[Dt h];exact FM _
theorem a4R(b:n.A0[i]?=some a):B2 n (i,true)=a.f/\BB n (i,true)=a.t/\Dd n (i,true)=a.k/\B2 n (i,false)=a.t/\BB n (i,false)=a.f/\Dd n (i,false)= -a.k:=by simp[B2,BB,Dd,b]
theorem a04(b:n.A0[i]?=some a)(d:N[i]?=some aM):AX n N (i,true)=a.c-aM/\AX n N (i,false)=aM:=by simp[AX,b,d]
def O9:CF->CF
 | .El a _=>a
 |c=>c
def Sb:CF:=O9 Qc
def RK:CF:=Me
theorem r3:Qc= .El Sb RK:=rfl
theorem a2p(A7:n.AS=W)(A8:DS v=n.A0.length)(A9:KP v=true)(AA:n.A0.length<=2500)(AB:i<n.A0.length)
 (j:m.Y fP=some ⟨BC a,true⟩) (AD:m.Y et=some ⟨Cd n v,true⟩) (l:m.Y bX=some ⟨N.map (Value.int .i64 ·),dP⟩) (o:m.Y eX=some ⟨An W bd,true⟩) (L:m.Y dc=some ⟨An W c7,true⟩) (M:N[i]?=some aM) (AE:N.length=n.A0.length) (p:a.f=B) (q:a.t=s) (O:B<W) (P:s<W) (AF:0<=a.k/\a.k<=1000) (R: ∀v,0<=bd v/\bd v<=1099511627776)
 (A2:fP≠eX) (AI:et≠eX) (AJ:dc≠eX) (AK:bX≠eX) (r:A 1= .slice (some ⟨bX,0,none⟩) N.length 1) (AL:A 2=AG et) (F:A 6= .slice (some ⟨eX,0,none⟩) W 1) (A3:A 7= .slice (some ⟨dc,0,none⟩) W 1) (u:A 10=Z i) (w:A 11=AG fP)
 (A4:aM<a.c/\bd B<1099511627776/\bd B+a.k<bd s-> ∀b,(∀t,t<12->t≠9->b t=A t)->b 9= .bool true->Q .CK b ((m.A1 eX (some ⟨An W (Ai bd s (bd B+a.k)),true⟩)).A1 dc (some ⟨An W (Ai c7 s ((i:Int))),true⟩)))
 (G: ¬(aM<a.c/\bd B<1099511627776/\bd B+a.k<bd s)-> ∀b,(∀t,t<12->b t=A t)->Q .CK b m):Az V Sb A m Q:=by
 have y: ∀h,N[i]'h=aM:= λh=>by rw[AP h]at M;simpa using M
 have A5:i<N.length:=by omega
 have z:i+1<=N.length:=A5;have C:(i:Int)<N.length:=by omega
 have H:B+1<=W:=O;have S:s+1<=W:=P;have I:(B:Int)<W:=by omega
 have t3:(s:Int)<W:=by omega
 have T: ∀(g:Int->Int) (x:Nat),x<W->(An W g)[x]?=some (Z (g x)):= λg x A6=>G5 A6;have J:= λg=>T g B O;have U:= λg=>T g s P;have AM:=E o;have AN:=E L;have AO:=R B;have AQ:=R s;have X:IntKind.i64.wrap (bd B+a.k)=bd B+a.k:=Ac (by omega) (by omega);have AR:IntKind.i64.wrap (bd s-a.k)=bd s-a.k:=Ac (by omega) (by omega);have AT:IntKind.i64.wrap ((n.A0.length:Int)+i)=n.A0.length+i:=Ac (by omega) (by omega);by_cases d:aM<a.c
 ·by_cases e:bd B<1099511627776
  ·by_cases D:bd B+a.k<bd s
   ·simp(disch:=omega)[Sb,O9,Qc,Me,r,F,A3,u,w,j,l,o,L,BC,p,q,y,z,C,H,S,I,t3,J,U,BG,X,A2,Cq,bne_iff_ne,La,d,e,D,-FK];exact A4 ⟨d,e,D⟩ _ (λt K AU=>by simp(disch:=omega) only[D3]) (by simp)
   ·simp(disch:=omega)[Sb,O9,Qc,Me,r,F,u,w,j,l,o,BC,p,q,y,z,C,H,S,I,t3,J,U,BG,X,Cq,d,e,D,-FK];exact G (λh=>D h.2.2) _ (λt K=>by simp(disch:=omega) only[D3])
  ·simp(disch:=omega)[Sb,O9,Qc,Me,r,F,u,w,j,l,o,BC,p,q,y,z,C,H,I,J,BG,Cq,d,e,-FK];exact G (λh=>e h.2.1) _ (λt K=>by simp(disch:=omega) only[D3])
 ·simp(disch:=omega)[Sb,O9,Qc,Me,r,u,w,j,l,BC,p,q,y,z,C,BG,Cq,d,-FK];exact G (λh=>d h.1) _ (λt K=>by simp(disch:=omega) only[D3])
theorem a8x(AD:n.AS=W)(X:DS v=n.A0.length)(A2:KP v=true)(AE:n.A0.length<=2500)(AF:i<n.A0.length)
 (w:m.Y fP=some ⟨BC a,true⟩) (A3:m.Y et=some ⟨Cd n v,true⟩) (e:m.Y bX=some ⟨N.map (Value.int .i64 ·),dP⟩) (j:m.Y eX=some ⟨An W bd,true⟩) (J:m.Y dc=some ⟨An W c7,true⟩) (K:N[i]?=some aM) (AI:N.length=n.A0.length) (y:a.f=B) (z:a.t=s) (L:B<W) (M:s<W) (AJ:0<=a.k/\a.k<=1000) (O: ∀v,0<=bd v/\bd v<=1099511627776)
 (A4:fP≠eX) (A5:et≠eX) (AK:dc≠eX) (AL:bX≠eX) (l:A 1= .slice (some ⟨bX,0,none⟩) N.length 1) (A6:A 2=AG et) (C:A 6= .slice (some ⟨eX,0,none⟩) W 1) (A7:A 7= .slice (some ⟨dc,0,none⟩) W 1) (o:A 10=Z i) (D:A 11=AG fP)
 (A8:0<aM/\bd s<1099511627776/\bd s-a.k<bd B-> ∀b,(∀t,t<12->t≠9->b t=A t)->b 9= .bool true->Q .CK b ((m.A1 eX (some ⟨An W (Ai bd B (bd s-a.k)),true⟩)).A1 dc (some ⟨An W (Ai c7 B ((n.A0.length:Int)+i)),true⟩)))
 (F: ¬(0<aM/\bd s<1099511627776/\bd s-a.k<bd B)-> ∀b,(∀t,t<12->b t=A t)->Q .CK b m):Az V RK A m Q:=by
 have p: ∀h,N[i]'h=aM:= λh=>by rw[AP h]at K;simpa using K
 have A9:i<N.length:=by omega
 have q:i+1<=N.length:=A9;have r:(i:Int)<N.length:=by omega
 have P:B+1<=W:=L;have G:s+1<=W:=M;have R:(B:Int)<W:=by omega
 have t3:(s:Int)<W:=by omega
 have S: ∀(g:Int->Int) (x:Nat),x<W->(An W g)[x]?=some (Z (g x)):= λg x AA=>G5 AA;have T:= λg=>S g B L;have H:= λg=>S g s M;have AM:=E j;have AN:=E J;have AO:=O B;have AQ:=O s;have AR:IntKind.i64.wrap (bd B+a.k)=bd B+a.k:=Ac (by omega) (by omega);have U:IntKind.i64.wrap (bd s-a.k)=bd s-a.k:=Ac (by omega) (by omega);have AB:IntKind.i64.wrap ((n.A0.length:Int)+i)=n.A0.length+i:=Ac (by omega) (by omega);by_cases c:0<aM
 ·by_cases d:bd s<1099511627776
  ·by_cases u:bd s-a.k<bd B
   ·simp(disch:=omega)[RK,Me,l,A6,C,A7,o,D,w,A3,e,j,J,BC,y,z,p,X,A2,q,r,P,G,R,t3,T,H,BG,U,AB,A4,A5,Cq,bne_iff_ne,La,c,d,u,-FK];exact A8 ⟨c,d,u⟩ _ (λt I AT=>by simp(disch:=omega) only[D3]) (by simp)
   ·simp(disch:=omega)[RK,Me,l,C,o,D,w,e,j,BC,y,z,p,q,r,P,G,R,t3,T,H,BG,U,Cq,c,d,u,-FK];exact F (λh=>u h.2.2) _ (λt I=>by simp(disch:=omega) only[D3])
  ·simp(disch:=omega)[RK,Me,l,C,o,D,w,e,j,BC,y,z,p,q,r,G,t3,H,BG,Cq,c,d,-FK];exact F (λh=>d h.2.1) _ (λt I=>by simp(disch:=omega) only[D3])
 ·simp(disch:=omega)[RK,Me,l,o,e,p,q,r,BG,Cq,c,-FK];exact F (λh=>c h.1) _ (λt I=>by simp(disch:=omega) only[D3])
structure Ye(n:Bw)(N:List Int)(p:Int->Int)(W a i:Nat)(bd c7:Int->Int)(g:Bool):Prop where
 a68: ∃q,JF n N p W bd (λx=>G7 n.A0.length (c7 x)) q
 F7:g=false->iQz (G1 (De p bd)) W=a/\ ∀e:CM,e.1<i->0<AX n N e->bd (B2 n e)<Bt->bd (BB n e)<=bd (B2 n e)+Dd n e
 wG:g=true->iQz (G1 (De p bd)) W+1<=a
theorem tH{n:Bw}(AZ:n.CE){W:Nat}(AI:n.AS=W){N:List Int}(Ab:F5 n N){p:Int->Int}(Ax:E0 n N p)(Ac: ∀v,0<=p v/\p v<=1000000)(Ay: ∀a∈n.A0,0<=a.k/\a.k<=1000){v:Value}{et bX eX dc:Nat}{dP:Bool}{F:X}(AJ:F.Y et=some ⟨Cd n v,true⟩)(S:Dc F v n.A0)(Ae:F.Y bX=some ⟨N.map (Value.int .i64 ·),dP⟩)(Bq:F.ac<=eX)(Br:F.ac<=dc)(AK:dc≠eX){n4:Nat}{Q:BM->A2->X->Prop}:
 ∀(r i:Nat) (m:X) (A:A2) (bd c7:Int->Int) (g:Bool),i+r=n.A0.length->Aa F m->m.Y eX=some ⟨An W bd,true⟩->m.Y dc=some ⟨An W c7,true⟩->Ye n N p W n4 i bd c7 g->
 A 1= .slice (some ⟨bX,0,none⟩) N.length 1->A 2=AG et->A 6= .slice (some ⟨eX,0,none⟩) W 1->A 7= .slice (some ⟨dc,0,none⟩) W 1->A 9= .bool g->A 10=Z i->
 (∀d l L BQ y,Aa F l->l.Y eX=some ⟨An W L,true⟩->l.Y dc=some ⟨An W BQ,true⟩->Ye n N p W n4 n.A0.length L BQ y->(∀t,t<9->d t=A t)->d 9= .bool y->Q (.Ao 4) d l)->Az V (.loop Xa) A m Q
 | 0,i,m,A,bd,c7,g,Bs,M,A3,A4,O,Af,A5,Ag,Ah,B0,A7,B3=>by refine Bm λBR BS=> ?_;have Ak: ¬(i:Int)<n.A0.length:=(by omega);have CH: ¬i<n.A0.length:=(by omega);obtain rfl:i=n.A0.length:=(by omega);obtain⟨Al,Am⟩:=S.len;have Ap:=M.some AJ;simp[Xa,r3,A5,A7,Ak,Ap,Al,Am];exact B3 _ _ bd c7 g M A3 A4 O (λt z=>by simp(disch:=omega) only[D3]) (by simp[B0])
 | r+1,i,m,A,bd,c7,g,Bs,M,A3,A4,O,Af,A5,Ag,Ah,B0,A7,B3=>by
   refine Bm λBR BS=> ?_;have A8:i<n.A0.length:=(by omega);have Bu:(i:Int)<n.A0.length:=(by omega);obtain⟨a,AL⟩: ∃a,n.A0[i]?=some a:=⟨n.A0[i]'A8,by simp⟩;obtain⟨aM,B4⟩: ∃aM,N[i]?=some aM:=⟨N[i]'(by rw[Ab.1];exact A8),by simp⟩;obtain⟨⟨Bv,Bx⟩,⟨t0,By⟩,CI,CJ⟩:=AZ.Gu a (B5 AL);have BT:=Ay a (B5 AL);have BU:=X5 Ay;have BV:=AZ.Gf;have CL:=AZ.Jy;obtain⟨B,G⟩: ∃k:Nat,a.f=k:=⟨a.f.toNat,by omega⟩;obtain⟨s,H⟩: ∃k:Nat,a.t=k:=⟨a.t.toNat,by omega⟩;have BW:B<W:=(by omega);have Ba:s<W:=(by omega);obtain⟨Al,Am⟩:=S.len;obtain⟨AM,Aq,B6,AN,Ar,B7⟩:=a4R AL;obtain⟨Bb,Bc⟩:=a04 AL B4;obtain⟨c,o,Bz,J⟩:=S.BY A8;have Ap:=M.some AJ;have C0:=M.some Ae;have Bd:=M.some J;have CN:=E Bd;have CO:=E AJ;have CP:=E Ae;have CQ:=E A3;have CR:=E A4;have CS:=M.ac
   have C1:i*4+4<=n.A0.length*4:=(by omega);have C2:=Il AL;have Be:=BZ (n:=i) (by omega);simp(disch:=first|omega|simp only[A9];omega)[Xa,r3,A5,A7,Bu,Ap,Bz,Bd,C1,C2,BC];have I:Aa m ((m.AE 7).A1 (m.ac+5) (some ⟨[Z a.f,Z a.t,Z a.c,Z a.k],true⟩)):=((Aa.refl m).AE 7).A1 (by omega);have As:((m.AE 7).A1 (m.ac+5) (some ⟨[Z a.f,Z a.t,Z a.c,Z a.k],true⟩)).Y (m.ac+5)=some ⟨BC a,true⟩:=AR (by simp only[B1];omega);obtain⟨At,Bf⟩: ∃At,At=(m.AE 7).A1 (m.ac+5) (some ⟨[Z a.f,Z a.t,Z a.c,Z a.k],true⟩):=⟨_,rfl⟩;rw[<-Bf]at I As⊢;have CT:At.ac=m.ac+7:=by rw[Bf];simp
   obtain⟨q,B8⟩:=O.a68;have Bg: ∀{L:Int->Int} {Bh:Int->CM} {Bi},JF n N p W L Bh Bi-> ∀v,0<=L v/\L v<=1099511627776:= λ{L} {Bh} {Bi} h v=>by
    have Ak:=h.Hj v;by_cases S:L v<Bt
    ·have:=h.g3 (by omega) (λv=>(Ac v).1) S;unfold Bt at Ak;omega
    ·unfold Bt at Ak S;omega

   have Bj: ∀(T:X) (AA:A2) (u P:Int->Int) (AB:Bool),Aa F T->At.ac<=T.ac->T.Y (m.ac+5)=some ⟨BC a,true⟩->T.Y eX=some ⟨An W u,true⟩->T.Y dc=some ⟨An W P,true⟩->(∃q,JF n N p W u (λx=>G7 n.A0.length (P x)) q)->
    (AB=false->iQz (G1 (De p u)) W=n4/\ ∀e:CM,(e.1<i\/e=(i,true))->0<AX n N e->u (B2 n e)<Bt->u (BB n e)<=u (B2 n e)+Dd n e)->(AB=true->iQz (G1 (De p u)) W+1<=n4)->
    (∀t,t<9->AA t=A t)->AA 9= .bool AB->AA 10=Z i->AA 11=AG (m.ac+5)-> ∀{B9:BM->A2->X->Prop},(∀d l C D y,Aa F l->l.Y eX=some ⟨An W C,true⟩->l.Y dc=some ⟨An W D,true⟩->Ye n N p W n4 (i+1) C D y->(∀t,t<9->d t=A t)->d 9= .bool y->d 10=Z i->B9 .CK d l)->Az V RK AA T B9:=by
    intro T AA u P AB AO CU C3 BA BD C4 Av Bk AD C5 BE C6 B9 Bl;obtain⟨C7,BF⟩:=C4;have C8:=E BA;refine a8x AI (v:=v) (N:=N) (dP:=dP) (fP:=m.ac+5) (eX:=eX) (dc:=dc) (bX:=bX) (et:=et) (a:=a) (aM:=aM) (bd:=u) (c7:=P) Al Am BV A8 C3 (AO.some AJ) (AO.some Ae) BA BD B4 Ab.1 G H BW Ba BT (Bg BF) (by omega) (by omega) AK (by omega) (by rw[AD 1 (by omega)];exact Af) (by rw[AD 2 (by omega)];exact A5) (by rw[AD 6 (by omega)];exact Ag) (by rw[AD 7 (by omega)];exact Ah) BE C6 (λJ d w BG=> ?_) (λJ d w=> ?_)
    ·obtain⟨Bn,BH,z3⟩:=J;obtain⟨BI,AF,Aw⟩:=BF.add AI (by omega) Ax Ac BU (e:=(i,false)) (by rw[Bc];exact Bn) (by rw[AN,H];exact BH) (by rw[AN,Ar,B7,H,G];omega) (by rw[Ar];exact⟨Bv,Bx⟩);rw[AN,Ar,B7,H,G]at AF Aw;have e:u s+ -a.k=u s-a.k:=(by omega);rw[e]at AF Aw;have BJ:(λx=>G7 n.A0.length (Ai P (B:Int) ((n.A0.length:Int)+i) x))=Ai (λx=>G7 n.A0.length (P x)) (B:Int) (i,false):=by
      funext x;unfold Ai;split
      ·exact a73
      ·rfl
     refine Bl _ _ (Ai u B (u s-a.k)) (Ai P B ((n.A0.length:Int)+i)) true ⟨by have:=AO.ac;simp only[Au];omega,λb hb=>by rw[A6 (by omega),A6 (by omega),AO.Y b hb]⟩ (by rw[A6 (Ne.symm AK),AR C8]) (by rw[AR (by simp only[Au];exact E BD)]) ⟨⟨BI,by rw[BJ];exact AF⟩,(λh=>by cases h),λ_=> ?_⟩ (λt z=>by rw[w t (by omega) (by omega),AD t z]) BG (by rw[w 10 (by omega) (by omega)];exact BE);cases AB
     ·have:=(Av rfl).1;omega
     ·have:=Bk rfl;omega
    ·refine Bl _ _ u P AB AO BA BD ⟨⟨C7,BF⟩,λh=>⟨(Av h).1,λe AP U R=> ?_⟩,Bk⟩ (λt z=>by rw[w t (by omega),AD t z]) (by rw[w 9 (by omega)];exact C5) (by rw[w 10 (by omega)];exact BE);by_cases Bo:e.1<i
     ·exact(Av h).2 e (.inl Bo) U R
     ·obtain⟨j,b⟩:=e;simp only at AP Bo;obtain rfl:j=i:=(by omega);cases b
      ·rw[Bc]at U;rw[AN,H]at R;rw[AN,Ar,B7,H,G];by_cases BK:u s-a.k<u B
       ·exact absurd ⟨U,R,BK⟩ J
       ·omega
      ·exact(Av h).2 _ (.inr rfl) U R
   have Bp: ∀(d:A2) (l:X) (C D:Int->Int) (y:Bool),Aa F l->l.Y eX=some ⟨An W C,true⟩->l.Y dc=some ⟨An W D,true⟩->Ye n N p W n4 (i+1) C D y->(∀t,t<9->d t=A t)->d 9= .bool y->d 10=Z ((i:Int)+1)->BR d l:= λd l C D y AQ AT AU AV K AW AY=>
    BS _ _ (tH AZ AI Ab Ax Ac Ay AJ S Ae Bq Br AK r (i+1) l d C D y (by omega) AQ AT AU AV (by rw[K 1 (by omega)];exact Af) (by rw[K 2 (by omega)];exact A5) (by rw[K 6 (by omega)];exact Ag) (by rw[K 7 (by omega)];exact Ah) AW (by rw[AY];simp) (λBL BN C9 CA CB CC CD v3 v4 CF CG=>B3 BL BN C9 CA CB CC CD v3 v4 (λt z=>by rw[CF t z,K t z]) CG))
   have BO:=M.trans I;refine a2p AI (v:=v) (N:=N) (dP:=dP) (fP:=m.ac+5) (eX:=eX) (dc:=dc) (bX:=bX) (et:=et) (a:=a) (aM:=aM) (bd:=bd) (c7:=c7) Al Am BV A8 As (I.some Ap) (I.some C0) (I.some A3) (I.some A4) B4 Ab.1 G H BW Ba BT (Bg B8) (by omega) (by omega) AK (by omega) (by simp[Af]) (by simp[A5]) (by simp[Ag]) (by simp[Ah]) (by simp[A7]) (by simp) (λJ d w BG=> ?_) (λJ d w=> ?_)
   ·obtain⟨Bn,BH,z3⟩:=J;obtain⟨BI,AF,Aw⟩:=B8.add AI (by omega) Ax Ac BU (e:=(i,true)) (by rw[Bb];omega) (by rw[AM,G];exact BH) (by rw[AM,Aq,B6,H,G];exact z3) (by rw[Aq];exact⟨t0,By⟩);rw[AM,Aq,B6,H,G]at AF Aw;have BJ:(λx=>G7 n.A0.length (Ai c7 (s:Int) (i:Int) x))=Ai (λx=>G7 n.A0.length (c7 x)) (s:Int) (i,true):=by
     funext x;unfold Ai;split
     ·exact a8E A8
     ·rfl
    simp only[Nn];refine Bj _ d (Ai bd s (bd B+a.k)) (Ai c7 s (i:Int)) true ⟨by have:=BO.ac;simp only[Au];omega,λb hb=>by rw[A6 (by omega),A6 (by omega),BO.Y b hb]⟩ (by simp only[Au];omega) (by rw[A6 (by omega),A6 (by omega)];exact As) (by rw[A6 (Ne.symm AK),AR (E (I.some A3))]) (by rw[AR (by simp only[Au];exact E (I.some A4))]) ⟨BI,by rw[BJ];exact AF⟩ (λh=>by cases h) (λ_=> ?_) (λt z=>by rw[w t (by omega) (by omega)];simp(disch:=omega) only[D3]) BG (by rw[w 10 (by omega) (by omega)];simp[A7]) (by rw[w 11 (by omega) (by omega)];simp) (λBL BN C D y AQ AT AU AV K AW AY=> ?_)
    ·cases g
     ·have:=(O.F7 rfl).1;omega
     ·have:=O.wG rfl;omega
    ·simp[AY,Be];exact Bp _ _ C D y AQ AT AU AV (λt z=>by rw[<-K t z];simp(disch:=omega) only[D3]) (by simp[AW]) (by simp)
   ·simp only[Nn];refine Bj _ d bd c7 g BO (Aj _) As (I.some A3) (I.some A4) ⟨q,B8⟩ (λh=>⟨(O.F7 h).1,λe AP U R=> ?_⟩) O.wG (λt z=>by rw[w t (by omega)];simp(disch:=omega) only[D3]) (by rw[w 9 (by omega)];simp[B0]) (by rw[w 10 (by omega)];simp[A7]) (by rw[w 11 (by omega)];simp) (λBL BN C D y AQ AT AU AV K AW AY=> ?_)
    ·rcases AP with AP|rfl
     ·exact(O.F7 h).2 e AP U R
     ·rw[Bb]at U;rw[AM,G]at R;rw[AM,Aq,B6,G,H];by_cases BK:bd B+a.k<bd s
      ·exact absurd ⟨by omega,R,BK⟩ J
      ·omega
    ·simp[AY,Be];exact Bp _ _ C D y AQ AT AU AV (λt z=>by rw[<-K t z];simp(disch:=omega) only[D3]) (by simp[AW]) (by simp)
theorem aBZ(J:n.CE)(P:n.AS=W)(R:F5 n N)(S:E0 n N p)(K: ∀v,0<=p v/\p v<=1000000)(L: ∀a∈n.A0,0<=a.k/\a.k<=1000){c:X}(T:c.Y et=some ⟨Cd n v,true⟩)(U:Dc c v n.A0)(Z:c.Y bX=some ⟨N.map (Value.int .i64 ·),dP⟩)(A1:c.ac<=eX)(A3:c.ac<=dc)(A4:dc≠eX):
 ∀(z:Nat) (m:X) (A:A2) (bd c7:Int->Int) (g:Bool),iQz (G1 (De p bd)) W+(if g=true then 1 else 0)<=z->Aa c m->m.Y eX=some ⟨An W bd,true⟩->m.Y dc=some ⟨An W c7,true⟩->(∃q,JF n N p W bd (λx=>G7 n.A0.length (c7 x)) q)->(g=false-> ∀e,0<AX n N e->bd (B2 n e)<Bt->bd (BB n e)<=bd (B2 n e)+Dd n e)->
 A 1= .slice (some ⟨bX,0,none⟩) N.length 1->A 2=AG et->A 6= .slice (some ⟨eX,0,none⟩) W 1->A 7= .slice (some ⟨dc,0,none⟩) W 1->A 9= .bool g->
 (∀i b d j,Aa c b->b.Y eX=some ⟨An W d,true⟩->b.Y dc=some ⟨An W j,true⟩->EU n N p W (De p d) (λx=>G7 n.A0.length (j x)) []->(∀v,d v<=Bt)->(∀t,t<9->i t=A t)->Q (.Ao 2) i b)->Az V (.loop Tv) A m Q:=by
 intro z;have AQ:=J.Jy
 have done: ∀(m:X) (A:A2) (bd c7:Int->Int),Aa c m->m.Y eX=some ⟨An W bd,true⟩->m.Y dc=some ⟨An W c7,true⟩->(∃q,JF n N p W bd (λx=>G7 n.A0.length (c7 x)) q)->(∀e,0<AX n N e->bd (B2 n e)<Bt->bd (BB n e)<=bd (B2 n e)+Dd n e)->A 9= .bool false->
  (∀i b d j,Aa c b->b.Y eX=some ⟨An W d,true⟩->b.Y dc=some ⟨An W j,true⟩->EU n N p W (De p d) (λx=>G7 n.A0.length (j x)) []->(∀v,d v<=Bt)->(∀t,t<9->i t=A t)->Q (.Ao 2) i b)->Az V (.loop Tv) A m Q:=by
  intro m A bd c7 l o r f w s u;refine Bm λA5 M=> ?_;obtain⟨q,f⟩:=f;simp[Tv,s];exact u _ _ bd c7 l o r (f.done (by omega) K (X5 L) w) f.Hj (λt C=>by simp(disch:=omega) only[D3])
 induction z with
 | zero=>
   intro m A bd c7 g D l o r f w E F G H s u;cases g
   ·exact done m A bd c7 l o r f (w rfl) s u
   ·simp at D
 | succ z A6=>
   intro m A bd c7 g D l o r f w E F G H s u;cases g
   ·exact done m A bd c7 l o r f (w rfl) s u
   refine Bm λA5 M=> ?_;simp only[if_true]at D;simp[Tv,s];refine tH J P R S K L T U Z A1 A3 A4 (n4:=iQz (G1 (De p bd)) W) n.A0.length 0 m _ bd c7 false (by omega) l o r ⟨f,λ_=>⟨rfl,λe I=>by omega⟩,λh=>by cases h⟩ (by simp[E]) (by simp[F]) (by simp[G]) (by simp[H]) (by simp) (by simp) (λi b d j O A7 A8 A9 B y AA=> ?_);simp[];refine M _ _ (A6 b i d j O ?_ A7 A8 A9 B.a68 (λh e I AB=> ?_) (by rw[y 1 (by omega)];simp[E]) (by rw[y 2 (by omega)];simp[F]) (by rw[y 6 (by omega)];simp[G]) (by rw[y 7 (by omega)];simp[H]) AA (λAD AE AF AI AJ AK AL AM AN AO=>u AD AE AF AI AJ AK AL AM AN (λt C=>by rw[AO t C,y t C];simp(disch:=omega) only[D3])))
   ·cases O
    ·have:=(B.F7 rfl).1;simp;omega
    ·have:=B.wG rfl;simp;omega
   ·obtain⟨a,aM,AP,_⟩:=Kt I;exact(B.F7 h).2 e ((Ae.1 AP).1) I AB
theorem mq{n:Bw}{v:Value}{et W eX:Nat}(f:n.AS=W)(y:W<100000)(s:et≠eX){Q:BM->A2->X->Prop}: ∀(r i:Nat) (m:X) (A:A2) (g:Int->Int),i+r=W->m.Y et=some ⟨Cd n v,true⟩->m.Y eX=some ⟨An W g,true⟩->(∀v:Nat,v<i->g (v:Int)=Bt)->A 2=AG et->A 8=Z i->A 6= .slice (some ⟨eX,0,none⟩) W 1->
 (∀a,(∀t,t<8->a t=A t)->Q (.Ao 0) a (m.A1 eX (some ⟨An W (λ_=>Bt),true⟩)))->Az V (.loop cw) A m Q
 | 0,i,m,A,g,z,b,c,j,d,k,l,o=>by refine Bm λB u=> ?_;have w: ¬i<W:=(by omega);have p: ¬(i:Int)<W:=(by omega);have e:An W g=An W (λ_=>Bt):=jn λv C=>j v (by omega);simp[cw,d,k,b,f,p];have:=o;rw[<-e,Sv c]at this;exact this _ (λt x=>by simp(disch:=omega) only[D3])
 | r+1,i,m,A,g,z,b,c,j,d,k,l,o=>by
   refine Bm λB u=> ?_;have w:i<W:=(by omega);have p:(i:Int)<W:=(by omega);have D:i+1<=W:=w;have F:=E c;have G:=BZ (n:=i) (by omega);simp[cw,d,k,l,b,f,p,D,c,G,La,-FK];refine u _ _ (mq (n:=n) (v:=v) f y s r (i+1) _ _ (Ai g i 1099511627776) (by omega) (by rw[A6 s];exact b) (AR F) (λv C=> ?_) (by simp[d]) (by simp) (by simp[l]) (λa q=> ?_))
   ·by_cases h:(v:Int)=i
    ·rw[h,EY];rfl
    ·rw[Dt h];exact j v (by omega)
   ·rw[Qm];exact o a (λt x=>by rw[q t x];simp(disch:=omega) only[D3])
theorem a8d(d:n.CE)(l:n.AS=W)(D:F5 n N)(F:E0 n N p)(G:p n.Ad=0)(H: ∀v,0<=p v/\p v<=1000000)(I: ∀a∈n.A0,0<=a.k/\a.k<=1000)(w:Dc m v n.A0)(y:m.Y bX=some ⟨N.map (Value.int .i64 ·),dP⟩):
 At V 165 [Ic n v,.slice (some ⟨bX,0,none⟩) N.length 1] m λr o=>Aa m o/\ ∃(eX dc:Nat) (bd c7:Int->Int),r= .tuple #[.slice (some ⟨eX,0,none⟩) W 1,.slice (some ⟨dc,0,none⟩) W 1]/\m.ac<=eX/\m.ac<=dc/\o.Y eX=some ⟨An W bd,true⟩/\o.Y dc=some ⟨An W c7,true⟩/\EU n N p W (De p bd) (λx=>G7 n.A0.length (c7 x)) []/\ ∀v,bd v<=Bt:=by
 rw[aBW (by simp)];obtain⟨J,AJ⟩:=d.Ad;have AK:=d.Jy;have AL:=E y;obtain⟨e,K⟩: ∃k:Nat,n.Ad=k:=⟨n.Ad.toNat,by omega⟩;have L:e<W:=by omega
 have M:e+1<=W:=L;have O:n.Ad<(W:Int):=by omega
 have P:n.Ad.toNat=e:=by omega
 have Q:n.AS.toNat=W:=by omega
 have z0:0<=n.AS:=by omega
 have R:n.AS*8<=140737488355328:=by omega
 have S:n.AS<=9223372036854775807:=by omega
 simp(disch:=first|omega|simp only[A9];omega)[eY,Q,z0,R,S,PH,-FK];obtain⟨c,f⟩: ∃c,c=(m.AE 3).A1 m.ac (some ⟨[Z n.AS,Z n.Ad,Z n.Aq,v],true⟩):=⟨_,rfl⟩
 have s:Aa m c:=by rw[f];exact((Aa.refl m).AE 3).A1 (Aj _)
 have t:c.Y m.ac=some ⟨Cd n v,true⟩:=by rw[f];exact AR (by simp)
 have AM:c.ac=m.ac+3:=by rw[f];simp
 rw[<-f];refine mq (n:=n) (v:=v) (et:=m.ac) (W:=W) (eX:=m.ac+3+2) l (by omega) (by omega) W 0 _ _ (λ_=>0) (by omega) (by simp(disch:=first|omega|(simp only[Au,B1];omega)) only[A6,Ab];exact t) (by simp(disch:=first|omega|(simp only[Au,B1];omega)) only[AR,A6]) (λv w=>by omega) (by simp) (by simp) (by simp) (λg q=> ?_);have T:g 1= .slice (some ⟨bX,0,none⟩) N.length 1:=by rw[q 1 (by omega)];simp
 have z:g 2=AG m.ac:=by rw[q 2 (by omega)];simp
 have u:g 6= .slice (some ⟨m.ac+3+2,0,none⟩) W 1:=by rw[q 6 (by omega)];simp
 have A:g 7= .slice (some ⟨m.ac+3+5,0,none⟩) W 1:=by rw[q 7 (by omega)];simp
 simp(disch:=first|omega|simp only[A9];omega)[z,u,t,J,M,O,P,La,-FK];generalize i:((((c.AE 8).A1 (m.ac+3+2) (some ⟨An W (λ_=>0),true⟩)).A1 (m.ac+3+5) (some ⟨An W (λ_=>0),true⟩)).A1 (m.ac+3+2) (some ⟨An W (Ai (λ_=>Bt) (e:Int) 0),true⟩))=j;have U:Aa c j:=⟨by rw[<-i];simp only[Au,B1];omega,λb hb=>by rw[<-i];simp(disch:=first|omega|(simp only[Au,B1];omega)) only[A6,Ab]⟩;have X:j.Y (m.ac+3+2)=some ⟨An W (Ai (λ_=>Bt) n.Ad 0),true⟩:=by rw[<-i,K];simp(disch:=first|omega|(simp only[Au,B1];omega)) only[AR]
 have A2:j.Y (m.ac+3+5)=some ⟨An W (λ_=>0),true⟩:=by rw[<-i];simp(disch:=first|omega|(simp only[Au,B1];omega)) only[AR,A6]
 refine aBZ d l D F H I (bX:=bX) (dP:=dP) (et:=m.ac) (eX:=m.ac+3+2) (dc:=m.ac+3+5) t (w.AD s) (s.some y) (by omega) (by omega) (by omega) (iQz (G1 (De p (Ai (λ_=>Bt) n.Ad 0))) W+1) j _ (Ai (λ_=>Bt) n.Ad 0) (λ_=>0) true (by simp) U X A2 ⟨_,JF.Rh d l N G _⟩ (λh=>by cases h) (by simp[T]) (by simp[z]) (by simp[u]) (by simp[A]) (by simp) (λB AN A3 A4 A5 A7 A8 AA AB C=> ?_);have AF:B 6= .slice (some ⟨m.ac+3+2,0,none⟩) W 1:=by rw[C 6 (by omega)];simp[u]
 have AI:B 7= .slice (some ⟨m.ac+3+5,0,none⟩) W 1:=by rw[C 7 (by omega)];simp[A]
 simp(disch:=omega)[AF,AI];exact⟨s.trans A5,_,_,⟨rfl,rfl⟩,by omega,by omega,A3,A7,A4,A8,AA,AB⟩
end Go.Proofs.YtmmkkggfmigppaaGreat
end
