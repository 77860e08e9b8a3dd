/- A part of the proof. -/
import Derived.Test.YtmmkkggfmigppaaGreatZdo
set_option linter.all false
set_option maxRecDepth 20000
set_option maxHeartbeats 16000000
noncomputable section
namespace Go.Proofs.YtmmkkggfmigppaaGreat
open Go Go.DI Go.Big
def PM(a:Nat)(x:SX):Bool:=C1 x.ext 1 16&&(C1 x.aAp 1 64&&C1 x.a5n 0 ((a:Int)-1))
def Vc(ds:List Ct)(m:Int):Bool:=match ds[m.toNat]? with
 |some q=>decide (q.Fw=4)
 |none=>false
def PD(BV:Nat)(ds:List Ct)(x:HJ):Bool:=C1 x.model 0 ((BV:Int)-1)&&(C1 x.Ou 0 ((ds.length:Int)-1)&&Vc ds x.Ou)
def RR(a:Nat)(x:Jl):Bool:=C1 x.JS 0 ((a:Int)-1)
def KM:List Nat:=[1,3,4,5,6,7]
variable{A J C:A2}{d i n o:Nat}{G:Type}{c1 Pv L:List ByteArray}{B:Nat->List ByteArray}{e2:Nat->Nat}{t t0:X}{u:AL}{Q:BM->A2->X->Prop}{aC:HC V}{S c:CF}{v:Value}{ds:List Ct}
theorem Kx(c:1≠d->J 1=A 1)(e:3≠d->J 3=A 3)(f:4≠d->J 4=A 4)(g:5≠d->J 5=A 5)(h:6≠d->J 6=A 6)(i:7≠d->J 7=A 7): ∀k∈KM,k≠d->J k=A k:= λk b a=>by
 simp only[KM,CZ,EK,or_false]at b;rcases b with rfl|rfl|rfl|rfl|rfl|rfl
 ·exact c a
 ·exact e a
 ·exact f a
 ·exact g a
 ·exact h a
 ·exact i a
theorem GR(b:J 1=A 1)(c:J 3=A 3)(d:J 4=A 4)(e:J 5=A 5)(f:J 6=A 6)(g:J 7=A 7): ∀k∈KM,J k=A k:= λk a=>by simp only[KM,CZ,EK,or_false]at a;rcases a with rfl|rfl|rfl|rfl|rfl|rfl<;>assumption
theorem qo{f:Nat->G}{a b:G}:DD (DD f d a) d b=DD f d b:=by
 funext k;by_cases h:k=d
 ·subst h;simp
 ·rw[Jv h,Jv h,Jv h]
theorem qy{l:List G}{f:G->ByteArray}{x:G}(a:l[i]?=some x):(c1++(l.take i).map f)++[f x]=c1++(l.take (i+1)).map f:=by rw[Nl a];simp
structure DG(u:AL)(e2:Nat->Nat)(B:Nat->List ByteArray)(A:A2)(t:X):Prop where
 Fe:A 1=AG 0
 Hc:A 8= .bool true
 DH:t.Y 0=some ⟨A7 u,true⟩
 Zs: ∀k,3<=k->k<=7->A k= .slice (some ⟨e2 k,0,none⟩) (B k).length 1
 g: ∀k,3<=k->k<=7->t.Y (e2 k)=some ⟨DR (B k),true⟩
 inj: ∀i j,3<=i->i<=7->3<=j->j<=7->e2 i=e2 j->i=j
 Wj: ∀k,3<=k->k<=7->e2 k≠0
theorem DG.KS(h:DG u e2 B A t)(b:J 8=A 8)(a: ∀k∈KM,J k=A k):DG u e2 B J t:=
 ⟨(a 1 (by decide)).trans h.Fe,b.trans h.Hc,h.DH,λk c d=>by have:k=3\/k=4\/k=5\/k=6\/k=7:=(by omega);have e:k∈KM:=(by rcases this with rfl|rfl|rfl|rfl|rfl<;>decide);exact(a k e).trans (h.Zs k c d),h.g,h.inj,h.Wj⟩
theorem DG.step(h:DG u e2 B C t0)(d:Nat)(m:3<=d)(p:d<=7)(y:Pv.length=n)
 (w: ∀k∈KM,k≠d->A k=C k) (z:A 8= .bool true) (D:A d= .slice (some ⟨o,0,none⟩) ((B d).length+n) 1) (F:t.Y o=some ⟨DR (B d++Pv),true⟩) (r:o=e2 d\/t0.ac<=o) (I:t0.ac<=t.ac) (x: ∀b,b<t0.ac->b≠e2 d->t.Y b=t0.Y b):
 DG u (DD e2 d o) (DD B d (B d++Pv)) A t:=by
 have s: ∀k,3<=k->k<=7->e2 k<t0.ac:= λk a b=>E (h.g k a b)
 have G:=E h.DH;refine⟨(w 1 (by decide) (by omega)).trans h.Fe,z,?_,λk a b=> ?_,λk a b=> ?_,λi j a b c e f=> ?_,λk a b=> ?_⟩
 ·rw[x 0 G (Ne.symm (h.Wj d m p))];exact h.DH
 ·by_cases e:k=d
  ·subst e;rw[OJ,OJ,D,En,y]
  ·rw[Jv e,Jv e];have:k=3\/k=4\/k=5\/k=6\/k=7:=(by omega);have H:k∈KM:=(by rcases this with rfl|rfl|rfl|rfl|rfl<;>decide);exact(w k H e).trans (h.Zs k a b)
 ·by_cases e:k=d
  ·subst e;rw[OJ,OJ];exact F
  ·rw[Jv e,Jv e,x _ (s k a b) (λf=>e (h.inj k d a b m p f))];exact h.g k a b
 ·by_cases v:i=d
  ·by_cases q:j=d
   ·omega
   ·rw[v,OJ,Jv q]at f;rcases r with l|l
    ·rw[l]at f;have:=h.inj d j m p c e f;omega
    ·have:=s j c e;omega
  ·by_cases q:j=d
   ·rw[q,OJ,Jv v]at f;rcases r with l|l
    ·rw[l]at f;have:=h.inj i d a b m p f;omega
    ·have:=s i a b;omega
   ·rw[Jv v,Jv q]at f;exact h.inj i j a b c e f
 ·by_cases e:k=d
  ·subst e;rw[OJ];rcases r with l|l
   ·rw[l];exact h.Wj k a b
   ·omega
  ·rw[Jv e];exact h.Wj k a b
theorem RX{l:List G}{BV:G->ByteArray}{a b c D:Nat}(s:3<=d)(w:d<=7)(A6:l.length<=1000)(K:DG u e2 B C t0)(A8:(B d).length<=10000)
 (m:C a=v) (p:C b=Z l.length) (q:C c=Z 0)
 (body: ∀(i:Nat) (y:i<l.length) (A:A2) (t:X) (o n:Nat) (r:List Value),l[i]?=some l[i]->(i:Int)<l.length->IntKind.i64.wrap ((i:Int)+1)=(i:Int)+1->A 1=AG 0->A 8= .bool true->A d= .slice (some ⟨o,0,none⟩) n 1->t.Y 0=some ⟨A7 u,true⟩->t.Y o=some ⟨r,true⟩->0<t.ac->o<t.ac->o≠0->r.length=n->r.take n=r->(n+1)*16<=140737488355328/\n<=9223372036854775806->A a=v->A b=Z l.length->A c=Z i-> ∀x:A2->X->Prop,
  (∀J h o',(∀k∈KM,k≠d->J k=A k)->J 8= .bool true->J d= .slice (some ⟨o',0,none⟩) (n+1) 1->h.Y o'=some ⟨r++[CU (BV l[i])],true⟩->t.ac<=o'->t.ac<=h.ac->(∀b,b<t.ac->b≠o->h.Y b=t.Y b)->J a=v->J b=Z l.length->J c=Z ((i:Int)+1)->x J h)->ER aC S A t (M3 x Q))
 (done: ∀(A:A2) (t:X),A a=v->A b=Z l.length->A c=Z l.length->(∀J,(∀k∈KM,J k=A k)->J 8=A 8->Q (.Ao D) J t)->ER aC S A t (M3 (λ_ _=>False) Q))
 (L: ∀A t j,DG u j (DD B d (B d++l.map BV)) A t->Q (.Ao D) A t):Bc V (.loop S) C t0 Q:=by
 refine Cc (aC:=aC) (λi A t=> ∃j,DG u j (DD B d (B d++(l.take i).map BV)) A t/\A a=v/\A b=Z l.length/\A c=Z i) l.length ?_ ?_ 0 C t0 (C8 _) ⟨e2,?_,m,p,q⟩
 ·rintro i A t y ⟨j,f,m,p,q⟩ x M;have F:l[i]?=some l[i]:=AP y;have z:=f.g d s w;have H:=f.Zs d s w;have I:= λ(o':Nat) (J:A2) (h:X)=>DG.step f d s w (o:=o') (A:=J) (t:=h) (Pv:=[BV l[i]]) (n:=1) rfl;rw[OJ]at z H I;have A9:(B d++(l.take i).map BV).length<20000:=(by rw[En,E9,IG];omega);refine body i y A t (j d) _ _ F (by omega) (Ac (by omega) (by omega)) f.Fe f.Hc H f.DH z (E f.DH) (E z) (f.Wj d s w) vO (DP (by rw[vO];omega)) ⟨by omega,by omega⟩ m p q x λJ h o' N O P R T U W A0 A1 A3=> ?_;have:=I o' J h N O (by rw[P]) (by rw[ry];exact R) (.inr T) U W;rw[qo,qy F]at this;exact M _ _ ⟨_,this,A0,A1,A3⟩
 ·rintro A t ⟨j,f,m,p,q⟩;rw[FJ]at f;exact done A t m p q λJ A4 A5=>L _ _ j (f.KS A5 A4)
 ·have:DD B d (B d++(l.take 0).map BV)=B:=by
   funext k;by_cases e:k=d
   ·subst e;simp
   ·rw[Jv e]
  rw[this];exact K
theorem yX(h:AL.Cu u)(g:u.Bu.all F9.Mo=true)(j:DG u e2 B C t0)(k:(B 3).length<=10000)(c:C 67=O (u.Bu.map CS) 4)(a:C 68=Z u.Bu.length)(e:C 69=Z 0)
 (l: ∀A t m,DG u m (DD B 3 (B 3++u.Bu.map (·.name))) A t->Q (.Ao 0) A t):Bc V (.loop XA) C t0 Q:=by
 refine RX (aC:=⟨[mF],[]⟩) (by decide) (by decide) h.e9 j k c a e ?_ ?_ l
 ·intro i f A t o n L M p q N r s P v R S T w x y c a e U z;have W:=h.Bu _ (Dq f);have E:=BR.1 g _ (Dq f);simp(disch:=first|omega|simp only[DI.AB];omega)[XA,uN,CS,r,s,c,a,e,v,p,q,w,x,y,E,-H,-D,-I,-F,-List.map_map];refine z _ _ (t.ac+4+4) (Kx (d:=3) ?_ ?_ ?_ ?_ ?_ ?_) ?_ ?_ ?_ (by omega) ?_ (λb hb G=> ?_) ?_ ?_ ?_
  all_goals first
   |(intro J;first|(exact absurd rfl J)|(simp;done))
   |(simp(disch:=first|omega|simp only[DI.AB];omega)[c,a,-H,-D,-I,-F,-List.map_map];done)
   |(simp(disch:=first|omega|simp only[DI.AB];omega)[hb,G,-H,-D,-I,-F,-List.map_map];done)
   |(simp(disch:=first|omega|simp only[DI.AB];omega)[-H,-D,-I,-F,-List.map_map];omega)
 ·intro A t c a e K;simp(disch:=first|omega|simp only[DI.AB];omega)[XA,a,e,-H,-D,-I,-F,-List.map_map];exact K _ (GR (by simp) (by simp) (by simp) (by simp) (by simp) (by simp)) (by simp)
theorem aCJ(h:AL.Cu u)(g:u.Af.all (PM u.Bu.length)=true)(j:DG u e2 B C t0)(k:(B 4).length<=10000)(c:C 85=O (u.Af.map CX) 4)(a:C 86=Z u.Af.length)(e:C 87=Z 0)
 (l: ∀A t m,DG u m (DD B 4 (B 4++u.Af.map (·.name))) A t->Q (.Ao 2) A t):Bc V (.loop XM) C t0 Q:=by
 refine RX (aC:=⟨[LH],[]⟩) (by decide) (by decide) h.BV j k c a e ?_ ?_ l
 ·intro i p A t o n T U q r s v w x y W X Y z E G c a e A0 J;have K:IntKind.i64.wrap ((u.Bu.length:Int)-1)=(u.Bu.length:Int)-1:=Ac (by omega) (by have:=h.e9;omega);have f:=BR.1 g _ (Dq p);simp only[PM,AF]at f;obtain⟨L,M,N⟩:=f;simp(disch:=first|omega|simp only[DI.AB];omega)[XM,vy,A7,CX,s,v,w,c,a,e,x,y,q,r,z,E,G,K,L,M,N,-H,-D,-I,-F,-List.map_map];refine J _ _ (t.ac+4+4) (Kx (d:=4) ?_ ?_ ?_ ?_ ?_ ?_) ?_ ?_ ?_ (by omega) ?_ (λb hb P=> ?_) ?_ ?_ ?_
  all_goals first
   |(intro R;first|(exact absurd rfl R)|(simp;done))
   |(simp(disch:=first|omega|simp only[DI.AB];omega)[c,a,-H,-D,-I,-F,-List.map_map];done)
   |(simp(disch:=first|omega|simp only[DI.AB];omega)[hb,P,-H,-D,-I,-F,-List.map_map];done)
   |(simp(disch:=first|omega|simp only[DI.AB];omega)[-H,-D,-I,-F,-List.map_map];omega)
 ·intro A t c a e S;simp(disch:=first|omega|simp only[DI.AB];omega)[XM,a,e,-H,-D,-I,-F,-List.map_map];exact S _ (GR (by simp) (by simp) (by simp) (by simp) (by simp) (by simp)) (by simp)
theorem a2V(h:AL.Cu u)(f:ds.length<=1000)(g:DG u e2 B C t0)(j:(B 5).length<=10000)(c:C 119=O (ds.map Bq) 7)(a:C 120=Z ds.length)(e:C 121=Z 0)
 (k: ∀A t l,DG u l (DD B 5 (B 5++ds.map (·.name))) A t->Q (.Ao 4) A t):Bc V (.loop cV) C t0 Q:=by
 refine RX (aC:=⟨[],[]⟩) (by decide) (by decide) f g j c a e ?_ ?_ k
 ·intro i J A t o n K L m p M q r N s P R S v w x c a e T y;simp(disch:=first|omega|simp only[DI.AB];omega)[cV,yG,Bq,r,c,a,e,s,m,p,v,w,x,-H,-D,-I,-F,-List.map_map];refine y _ _ (t.ac+4+4) (Kx (d:=5) ?_ ?_ ?_ ?_ ?_ ?_) ?_ ?_ ?_ (by omega) ?_ (λb hb z=> ?_) ?_ ?_ ?_
  all_goals first
   |(intro E;first|(exact absurd rfl E)|(simp;done))
   |(simp(disch:=first|omega|simp only[DI.AB];omega)[q,c,a,-H,-D,-I,-F,-List.map_map];done)
   |(simp(disch:=first|omega|simp only[DI.AB];omega)[hb,z,-H,-D,-I,-F,-List.map_map];done)
   |(simp(disch:=first|omega|simp only[DI.AB];omega)[-H,-D,-I,-F,-List.map_map];omega)
 ·intro A t c a e G;simp(disch:=first|omega|simp only[DI.AB];omega)[cV,a,e,-H,-D,-I,-F,-List.map_map];exact G _ (GR (by simp) (by simp) (by simp) (by simp) (by simp) (by simp)) (by simp)
theorem yn(h:AL.Cu u)(m:u.A4.all (PD u.Af.length u.A5)=true)(p:DG u e2 B C t0)(q:(B 5).length<=10000)(c:C 132=O (u.A4.map Bx) 3)(a:C 133=Z u.A4.length)(e:C 134=Z 0)
 (r: ∀A t s,DG u s (DD B 5 (B 5++u.A4.map (·.name))) A t->Q (.Ao 6) A t):Bc V (.loop Wy) C t0 Q:=by
 refine RX (aC:=⟨[LH],[]⟩) (by decide) (by decide) h.Es p q c a e ?_ ?_ r
 ·intro i v A t o n A2 A3 w x y z E G J A6 A8 A9 K L M c a e AA N;have P:IntKind.i64.wrap ((u.Af.length:Int)-1)=(u.Af.length:Int)-1:=Ac (by omega) (by have:=h.BV;omega);have R:IntKind.i64.wrap ((u.A5.length:Int)-1)=(u.A5.length:Int)-1:=Ac (by omega) (by have:=h.Cg;omega);have f:=BR.1 m _ (Dq v);simp only[PD,AF]at f;obtain⟨S,j,k⟩:=f;obtain⟨g,l⟩:=Dp (KU.1 j).1;rw[l]at j k;have T:g<u.A5.length:=(by have:=KU.1 j;omega);have U:(g:Int)<u.A5.length:=(by omega);have W:u.A5[g]?=some u.A5[g]:=AP T;have X:u.A5[g].Fw=4:=(by unfold Vc at k;rw[Dx,W]at k;simpa using k);simp(disch:=first|omega|simp only[DI.AB];omega)[Wy,xg,A7,Bx,y,z,E,c,a,e,G,J,w,x,K,L,M,P,R,Bq,S,j,l,U,X,-H,-D,-I,-F,-List.map_map];refine N _ _ (t.ac+4+4) (Kx (d:=5) ?_ ?_ ?_ ?_ ?_ ?_) ?_ ?_ ?_ (by omega) ?_ (λb hb Y=> ?_) ?_ ?_ ?_
  all_goals first
   |(intro A0;first|(exact absurd rfl A0)|(simp;done))
   |(simp(disch:=first|omega|simp only[DI.AB];omega)[c,a,-H,-D,-I,-F,-List.map_map];done)
   |(simp(disch:=first|omega|simp only[DI.AB];omega)[hb,Y,-H,-D,-I,-F,-List.map_map];done)
   |(simp(disch:=first|omega|simp only[DI.AB];omega)[-H,-D,-I,-F,-List.map_map];omega)
 ·intro A t c a e A1;simp(disch:=first|omega|simp only[DI.AB];omega)[Wy,a,e,-H,-D,-I,-F,-List.map_map];exact A1 _ (GR (by simp) (by simp) (by simp) (by simp) (by simp) (by simp)) (by simp)
theorem a3I(h:AL.Cu u)(g:u.B7.all (K3 · u.Af.length)=true)(j:DG u e2 B C t0)(k:(B 6).length<=10000)(c:C 174=O (u.B7.map BE) 17)(a:C 175=Z u.B7.length)(e:C 176=Z 0)
 (l: ∀A t m,DG u m (DD B 6 (B 6++u.B7.map (·.name))) A t->Q (.Ao 8) A t):Bc V (.loop cG) C t0 Q:=by
 refine RX (aC:=⟨[pv u.Af.length (by have:=h.BV;omega)],[]⟩) (by decide) (by decide) h.eB j k c a e ?_ ?_ l
 ·intro i f A t o n M N p q r s v w x P R S y z E c a e T G;have U:Dg.Cu u.B7[i]/\K3 u.B7[i] u.Af.length=true:=⟨h.B7 _ (Dq f),BR.1 g _ (Dq f)⟩;simp(disch:=first|omega|simp only[DI.AB];omega)[cG,xP,A7,BE,r,s,v,c,a,e,w,x,p,q,y,z,E,-H,-D,-I,-F,-List.map_map];refine G _ _ (t.ac+4+4) (Kx (d:=6) ?_ ?_ ?_ ?_ ?_ ?_) ?_ ?_ ?_ (by omega) ?_ (λb hb J=> ?_) ?_ ?_ ?_
  all_goals first
   |(intro K;first|(exact absurd rfl K)|(simp;done))
   |(simp(disch:=first|omega|simp only[DI.AB];omega)[c,a,-H,-D,-I,-F,-List.map_map];done)
   |(simp(disch:=first|omega|simp only[DI.AB];omega)[hb,J,-H,-D,-I,-F,-List.map_map];done)
   |(simp(disch:=first|omega|simp only[DI.AB];omega)[-H,-D,-I,-F,-List.map_map];omega)
 ·intro A t c a e L;simp(disch:=first|omega|simp only[DI.AB];omega)[cG,a,e,-H,-D,-I,-F,-List.map_map];exact L _ (GR (by simp) (by simp) (by simp) (by simp) (by simp) (by simp)) (by simp)
theorem a3S(h:AL.Cu u)(g:u.A3.all (RR u.B7.length)=true)(j:DG u e2 B C t0)(k:(B 7).length<=10000)(c:C 195=O (u.A3.map CW) 2)(a:C 196=Z u.A3.length)(e:C 197=Z 0)
 (l: ∀A t m,DG u m (DD B 7 (B 7++u.A3.map (·.name))) A t->Q (.Ao 10) A t):Bc V (.loop YX) C t0 Q:=by
 refine RX (aC:=⟨[LH],[]⟩) (by decide) (by decide) h.EF j k c a e ?_ ?_ l
 ·intro i p A t o n P R q r s v w x y S T U z E G c a e W J;have K:IntKind.i64.wrap ((u.B7.length:Int)-1)=(u.B7.length:Int)-1:=Ac (by omega) (by have:=h.eB;omega);have f:=BR.1 g _ (Dq p);simp only[RR]at f;simp(disch:=first|omega|simp only[DI.AB];omega)[YX,sF,A7,CW,s,v,w,c,a,e,x,y,q,r,z,E,G,K,f,-H,-D,-I,-F,-List.map_map];refine J _ _ (t.ac+4+4) (Kx (d:=7) ?_ ?_ ?_ ?_ ?_ ?_) ?_ ?_ ?_ (by omega) ?_ (λb hb L=> ?_) ?_ ?_ ?_
  all_goals first
   |(intro M;first|(exact absurd rfl M)|(simp;done))
   |(simp(disch:=first|omega|simp only[DI.AB];omega)[c,a,-H,-D,-I,-F,-List.map_map];done)
   |(simp(disch:=first|omega|simp only[DI.AB];omega)[hb,L,-H,-D,-I,-F,-List.map_map];done)
   |(simp(disch:=first|omega|simp only[DI.AB];omega)[-H,-D,-I,-F,-List.map_map];omega)
 ·intro A t c a e N;simp(disch:=first|omega|simp only[DI.AB];omega)[YX,a,e,-H,-D,-I,-F,-List.map_map];exact N _ (GR (by simp) (by simp) (by simp) (by simp) (by simp) (by simp)) (by simp)
theorem v8(F:A 1=AG 0)(G:A 8= .bool true)(H:A 3= .slice none 0 0)(I:A 4= .slice none 0 0)(K:A 5= .slice none 0 0)(L:A 6= .slice none 0 0)(M:A 7= .slice none 0 0)
 (o:t.Y 0=some ⟨A7 u,true⟩) (h: ∀J p e2,DG u e2 (λ_=>[]) J p->(∀k,8<k->J k=A k)->Bc V c J p Q):Bc V c A t Q:=by
 have T:=E o;obtain⟨f,q⟩: ∃f,t.ac=f:=⟨_,rfl⟩
 refine Vs 3 1 H λN U r O=> ?_;refine Vs 4 1 (by simpa using I) λP W s v=> ?_;refine Vs 5 1 (by simpa using K) λR X w n=> ?_;refine Vs 6 1 (by simpa using L) λS Z x l=> ?_;refine Vs 7 1 (by simpa using M) λm A0 y g=> ?_;have z:N.ac=f+1:=by omega
 have B:P.ac=f+2:=by omega
 have C:R.ac=f+3:=by omega
 have D:S.ac=f+4:=by omega
 rw[q]at r;rw[z]at s;rw[B]at w;rw[C]at x;rw[D]at y;rw[q,z,B,C,D];refine h _ _ (λk=>f+(k-3)) ⟨by simpa using F,by simpa using G,?_,λk a b=> ?_,λk a b=> ?_,λi j a b c d e=>by omega,λk a b=>by omega⟩ (λk A1=>by simp only[Fg,show¬k=3 by omega,show¬k=4 by omega,show¬k=5 by omega,show¬k=6 by omega,show¬k=7 by omega,if_false])
 ·rw[g 0 (by omega),l 0 (by omega),n 0 (by omega),v 0 (by omega),O 0 (by omega)];exact o
 ·have:k=3\/k=4\/k=5\/k=6\/k=7:=(by omega);rcases this with rfl|rfl|rfl|rfl|rfl<;>simp
 ·have:k=3\/k=4\/k=5\/k=6\/k=7:=(by omega);rcases this with rfl|rfl|rfl|rfl|rfl
  ·show m.Y f=_;rw[g f (by omega),l f (by omega),n f (by omega),v f (by omega)];exact r
  ·show m.Y (f+1)=_;rw[g _ (by omega),l _ (by omega),n _ (by omega)];exact s
  ·show m.Y (f+2)=_;rw[g _ (by omega),l _ (by omega)];exact w
  ·show m.Y (f+3)=_;rw[g _ (by omega)];exact x
  ·exact y
def Hl(u:AL):Bool:=C1 u.ext 1 4&&(decide (u.Bu.length<=4)&&(decide (u.Af.length<=4)&&(decide (u.A5.length<=40)&&(decide (u.A4.length<=24)&&(decide (u.B7.length<=4)&&(decide (u.A3.length<=12)&&(Kw u.A5&&(u.Bu.all F9.Mo&&(u.Af.all (PM u.Bu.length)&&(u.A4.all (PD u.Af.length u.A5)&&(u.B7.all (K3 · u.Af.length)&&(u.A3.all (RR u.B7.length)&&(EW (u.Bu.map (·.name))&&(EW (u.Af.map (·.name))&&(EW (u.A5.tail.map (·.name)++u.A4.map (·.name))&&(EW (u.B7.map (·.name))&&EW (u.A3.map (·.name))))))))))))))))))
theorem DG.Gx(a:DG u e2 B A t)(d:Nat)(b:3<=d)(f:d<=7)(e:B d=L)(h:L.length<1000000)(i:EW L=true):
 ∃o c,∃l:List ByteArray,A d= .slice (some ⟨o,0,none⟩) l.length 1/\t.Y o=some ⟨c,true⟩/\(l.length<1000000/\EW l=true)/\(∀t,C6 (C6 (DI.B3 8 t)) (Fc 1 l.length c)=some (l.map λs=>[CU s]))/\(∀t,c.flatMap (BL 8 t)=[])/\c.length=l.length:=
 ⟨e2 d,_,L,e▸a.Zs d b f,e▸a.g d b f,⟨h,i⟩,rB rfl⟩
theorem uY{u:AL}(h:AL.Cu u)(e:Hl u=true):AO V 62 [.agg (A7 u).toArray] (Z 0):=by
 simp only[Hl,AF,BW]at e;obtain⟨i,AJ,AK,f,AM,AN,AP,c,j,k,a3,a4,l,m,n,g,o,p⟩:=e;refine BQ (Ax (aC:=⟨[LH,xv u h c,tY],[]⟩) vM.2 ?_);have q: ¬(4:Int)<u.Bu.length:=by omega
 have r: ¬(4:Int)<u.Af.length:=by omega
 have s: ¬(40:Int)<u.A5.length:=by omega
 have v: ¬(24:Int)<u.A4.length:=by omega
 have w: ¬(4:Int)<u.B7.length:=by omega
 have x: ¬(12:Int)<u.A3.length:=by omega
 obtain⟨R,ds,b⟩: ∃R ds,u.A5=R::ds:=by
  cases y:u.A5 with
  |nil=>rw[y]at c;cases c
  |cons R ds=>exact⟨R,ds,rfl⟩
 have AQ:ds.length<=39:=by rw[b]at f;simp at f;omega
 have z:u.A5.tail=ds:=by rw[b];rfl
 rw[z]at g;simp(disch:=first|omega|simp only[DI.AB];omega)[vM,nN,xa,A7,i,q,r,s,v,w,x,-H,-D,-I,-F,-List.map_map];refine v8 (u:=u) (by simp) (by simp) (by simp) (by simp) (by simp) (by simp) (by simp) (by simp(disch:=first|omega|simp only[DI.AB];omega)[A7,-H,-D,-I,-F,-List.map_map]) λA t e2 a d=> ?_;refine yX h j a (by simp) (by rw[d 67 (by decide)];simp) (by rw[d 68 (by decide)];simp) (by rw[d 69 (by decide)];simp) λA t e2 a=> ?_;simp(disch:=first|omega|simp only[DI.AB];omega)[qc,A7,a.Fe,a.DH,-H,-D,-I,-F,-List.map_map];refine aCJ h k (a.KS (by simp) (GR (by simp) (by simp) (by simp) (by simp) (by simp) (by simp))) (by simp[DD]<;>omega) (by simp) (by simp) (by simp) λA t e2 a=> ?_;have B:(List.take u.A5.length (u.A5.map Bq)).tail=ds.map Bq:=by rw[DP (by simp),b];rfl
 have C:u.A5.length-1=ds.length:=by rw[b];rfl
 have AR:1<=u.A5.length:=by rw[b];simp
 have E:(1:Int)<=u.A5.length:=by omega
 simp(disch:=first|omega|simp only[DI.AB];omega)[sM,A7,a.Fe,a.DH,E,-H,-D,-I,-F,-List.map_map];rw[B,C];refine a2V h (ds:=ds) (by omega) (a.KS (by simp) (GR (by simp) (by simp) (by simp) (by simp) (by simp) (by simp))) (by simp[DD]<;>omega) (by simp) (by simp) (by simp) λA t e2 a=> ?_;simp(disch:=first|omega|simp only[DI.AB];omega)[lr,A7,a.Fe,a.DH,-H,-D,-I,-F,-List.map_map];refine yn h a3 (a.KS (by simp) (GR (by simp) (by simp) (by simp) (by simp) (by simp) (by simp))) (by simp[DD]<;>omega) (by simp) (by simp) (by simp) λA t e2 a=> ?_;simp(disch:=first|omega|simp only[DI.AB];omega)[qn,A7,a.Fe,a.DH,-H,-D,-I,-F,-List.map_map];refine a3I h a4 (a.KS (by simp) (GR (by simp) (by simp) (by simp) (by simp) (by simp) (by simp))) (by simp[DD]<;>omega) (by simp) (by simp) (by simp) λA t e2 a=> ?_;simp(disch:=first|omega|simp only[DI.AB];omega)[tQ,A7,a.Fe,a.DH,-H,-D,-I,-F,-List.map_map];refine a3S h l (a.KS (by simp) (GR (by simp) (by simp) (by simp) (by simp) (by simp) (by simp))) (by simp[DD]<;>omega) (by simp) (by simp) (by simp) λA t e2 a=> ?_;obtain⟨AS,AT,AU,G,J,AV,K,L,M⟩:=a.Gx 3 (by decide) (by decide) (by simp[DD]) (by simp<;>omega) m;obtain⟨AW,AX,AY,N,O,AZ,P,Q,S⟩:=a.Gx 4 (by decide) (by decide) (by simp[DD]) (by simp<;>omega) n;obtain⟨Aa,Ab,Ac,T,U,Ae,W,X,Y⟩:=a.Gx 5 (by decide) (by decide) (by simp[DD]) (by simp<;>omega) g;obtain⟨Ag,Ah,Ai,A0,A1,Aj,A2,A6,A8⟩:=a.Gx 6 (by decide) (by decide) (by simp[DD]) (by simp<;>omega) o;obtain⟨Ak,Al,Am,A9,AA,An,AD,AE,AI⟩:=a.Gx 7 (by decide) (by decide) (by simp[DD]) (by simp<;>omega) p;simp(disch:=first|omega|simp only[DI.AB];omega)[yI,a.Hc,G,J,K,L,M,N,O,P,Q,S,T,U,W,X,Y,A0,A1,A2,A6,A8,A9,AA,AD,AE,AI,RD,OO,-H,-D,-I,-F,-List.map_map]
end Go.Proofs.YtmmkkggfmigppaaGreat
namespace Go.DI
open Go
variable {P:Program} {u:C0} {K:Be} {t m M:X}
theorem BN.lb(c:BN K u t m)(f:m.ac<=M.ac)(h: ∀b,(∃o,K o=some b)\/u b≠none->M.Y b=m.Y b/\M.mp b=m.mp b):BN K u t M where
 Ee o x g:=by
  rcases c.Ee o x g with⟨b,cs,w,a,d,e,i⟩|a
  ·exact .inl ⟨b,cs,w,a,by rw[(h b (.inl ⟨o,a⟩)).1];exact d,e,i⟩
  ·exact .inr a
 maps o es j:=by obtain⟨b,k,a,d,e⟩:=c.maps o es j;obtain⟨l,n⟩:=h b (.inl ⟨o,a⟩);obtain⟨p,q⟩:=DO d;exact⟨b,k,a,Ec (by rw[l];exact p) (by rw[n];exact q),e⟩
 Ek:=c.Ek
 inj:=c.inj
 B0 o b hb:=⟨(c.B0 o b hb).1,GV (c.B0 o b hb).2 f⟩
 AZ b cs hb:=by obtain⟨⟨w,a⟩,d⟩:=c.AZ b cs hb;exact⟨⟨w,by rw[(h b (.inr (by rw[hb];simp))).1];exact a⟩,d⟩
variable{U:Be}{N:C0}
theorem Bi.lb{g a c:X}{i d:Nat}(h:Bi i d K u t m U N g a)(j:a.ac<=c.ac)(k: ∀b,b<d->c.Y b=a.Y b):Bi i d K u t m U N g c:=
 ⟨h.e,h.f,h.LX,h.fn,h.HB,E8 h.HL j,λb hb l=>by rw[k b hb];exact h.DL b hb l,h.Vd,h.TO⟩
end Go.DI
namespace Go.Proofs.YtmmkkggfmigppaaGreat
open Go Go.DI Go.Big
def Lk(l:List ByteArray)(s:ByteArray):Bool:=Ie s&&(H9 s l).isNone
variable{l T c1:List ByteArray}{s:ByteArray}{i o q:Nat}{aY:Value}{m t t0:X}{a7:Value->X->Prop}{A J C:A2}{Q:BM->A2->X->Prop}{v:Int}{x:Dg}{u:AL}{G:Type}{aC:HC V}{B:Nat->List ByteArray}{e2:Nat->Nat}{S:CF}{R:Ct}{ds:List Ct}
theorem Xs:Lk l s=if Ie s then decide (PK s l<0)else false:=by unfold Lk PK;cases Ie s<;>cases h:H9 s l<;>simp
def a0T(m:X)(aY:Value)(l:List ByteArray):Prop:=(∃b,aY= .slice (some ⟨b,0,none⟩) l.length 1/\m.Y b=some ⟨DR l,true⟩)\/(aY= .slice none 0 0/\l=[])
theorem Ob:DR l=l.map CU:=by
 unfold DR;induction l with
 |nil=>rfl
 |cons x l a=>rw[Dl,I2,a];rfl
theorem ez:(DR l).length=l.length:=by rw[Ob,E9]
theorem a4i(h:l[i]?=some s):(DR l)[i]?=some (CU s):=by rw[Ob,GX,h];rfl
theorem u4(o:(∃b w,aY= .slice (some ⟨b,0,none⟩) l.length 1/\m.Y b=some ⟨DR l,w⟩)\/(aY= .slice none 0 0/\l=[]))(g:l.length<1000000):
 At V 189 [aY,CU s] m λr _=>r=Z (PK s l):=by
 rcases o with⟨b,w,rfl,hb⟩|⟨rfl,rfl⟩
 ·have a:AY (λx=>if x=b then some (DR l)else none) Ea (Q6 l) (.slice (some ⟨b,0,none⟩) l.length 1):=by
   have:=AY.QI (u:= λx=>if x=b then some (DR l)else none) (K:=Ea) (v:=Q6 l) (b:=b) (off:=0) (z:=1) (cs:=DR l) (cb:=l.map λs=>[CU s]) rfl (by simp) (by simp[ez]) (λi r h=>by
    simp only[GX,KH]at h;obtain⟨_,_,rfl⟩:=h;rfl) (λi j r x y k f n=>by
    simp only[GX,KH]at k;obtain⟨q,p,rfl⟩:=k;have t:j=0:=(by have:=(Ae.1 f).1;simpa using this);subst t;simp at f;subst f;rw[show 0+i*1+0=i by omega,a4i p]at n;cases n;exact .BP rfl)
   simpa using this
  refine(pz g _ m _ (λc cs d=> ?_) (AJ.cons a (AJ.cons (.BP rfl) AJ.nil))).AD λr M h=> ?_
  ·split at d
   ·next e=>cases d;subst e;exact⟨w,hb⟩
   ·cases d
  ·obtain⟨_,_,N,_,_,a⟩:=h;exact a.Hp
 ·refine(pz g (λ_=>none) m [.slice none 0 0,CU s] (λc cs d=>by cases d) (AJ.cons (.OW rfl) (AJ.cons (.BP rfl) AJ.nil))).AD λr M h=> ?_;obtain⟨_,_,N,_,_,a⟩:=h;exact a.Hp
theorem qa(f:a0T m aY l)(d:l.length<1000000):At V 136 [aY,CU s] m λr M=>r= .tuple #[.slice (some ⟨m.ac+3,0,none⟩) (l.length+1) 1,.bool (Lk l s)]/\
 ∃k,M=((EC ((m.AE 14).A1 (m.ac+2) (some ⟨[CU s],true⟩)) aY).A1 (m.ac+3) (some ⟨DR l++[CU s],true⟩)).AE k:=by
 rw[aCy (by simp)];rcases f with⟨b,rfl,hb⟩|⟨rfl,rfl⟩
 ·have g:=E hb;have e:List.take l.length (DR l)=DR l:=DP (by rw[ez];omega);simp[ZH];rw[wc];simp(disch:=first|omega|simp only[A9];omega)[HA,DI.HK,hb,ez];refine⟨⟨by omega,by omega⟩,?_⟩;rw[pQ,V1];cases a:Ie s
  ·simp(disch:=first|omega|simp only[A9];omega)[UL,a,Xs,hb,e,C3];exact⟨_,rfl⟩
  ·simp[];refine(u4 (.inl ⟨b,false,rfl,by simp(disch:=omega)[SZ,hb,SF]⟩) d).AD λr M c=> ?_;subst c;rw[V1];simp(disch:=first|omega|simp only[A9];omega)[UL,Xs,a,hb,e,C3];exact⟨_,rfl⟩
 ·simp[ZH];rw[wc];simp[HA,DI.HK];rw[pQ,V1];cases a:Ie s
  ·simp(disch:=first|omega|simp only[A9];omega)[UL,a,Xs,Ob];exact⟨_,rfl⟩
  ·simp(disch:=first|omega|simp only[A9];omega)[];refine(u4 (l:=[]) (.inr ⟨rfl,rfl⟩) d).AD λr M c=> ?_;subst c;rw[V1];simp(disch:=first|omega|simp only[A9];omega)[UL,Xs,a,Ob];exact⟨_,rfl⟩
theorem r6{u:C0}{K:Be}: ∀{xs ys:List Value},AJ u K xs ys->(∀x∈xs,∃s,x=CU s)->ys=xs
 |[],ys,h,_=>Ii.1 h.1.symm
 |x::xs,[],h,_=>by have:=h.1;simp at this
 | x::xs,y::ys,h,c=>by obtain⟨s,rfl⟩:=c x (by simp);have d:=(h.2 0 (CU s) y rfl rfl).O5;rw[d,r6 (xs:=xs) (ys:=ys) ⟨by simpa using h.1,λi a b p q=>h.2 (i+1) a b (by simpa using p) (by simpa using q)⟩ λz e=>c z (by simp[e])]
theorem a8N: ∀x∈DR l,∃s,x=CU s:=by rw[Ob];intro x a;obtain⟨s,_,rfl⟩:=CG.1 a;exact⟨s,rfl⟩
def Ll(o:Nat)(l:List ByteArray)(s:ByteArray)(t:X):X:=((t.AE 14).A1 o none).A1 t.ac (some ⟨DR (l++[s]),true⟩)
theorem aAb{K:Be}{u:C0}{t m bH bz:X}(a:BN K u t m)(c:bH.ac=t.ac+14)(d:bz.ac=m.ac+14):DI.KE K u bH bz t.ac (m.ac+3) where
 e :=by
  cases h:K t.ac with
  |none=>rfl
  |some b=>have:=(a.B0 _ _ h).1;omega
 b o h:=by have:=(a.B0 _ _ h).2;omega
 f :=by
  cases h:u (m.ac+3)with
  |none=>rfl
  |some cs=>obtain⟨⟨w,g⟩,_⟩:=a.AZ _ _ h;have:=E g;omega
 MN:=by omega
 L0:=by omega
theorem zy(y:l.length<1000000)(j:t.Y o=some ⟨DR l,true⟩)
 (H:a7 (.tuple #[.slice (some ⟨t.ac,0,none⟩) (l.length+1) 1,.bool (Lk l s)]) (Ll o l s t)):Bh V 136 [.slice (some ⟨o,0,none⟩) l.length 1,CU s] t a7:=by
 intro K u AA m f I;obtain⟨aY,w,rfl,J,L⟩:=I.eS;have O:=L.O5;subst O;have P:=E j;have n:=iR f 14;have z:(t.AE 14).Y o=some ⟨DR l,true⟩:=by rw[DI.Ab P];exact j
 have A:DR (l++[s])=DR l++[CU s]:=ry;have Q: ∀{K:Be},AJ u K (DR (l++[s])) (DR l++[CU s]):=by rw[A,<-A,Ob];exact AJ.BP (by simp[BJ])
 have R: ∀c,((∃p,CL K t.ac (m.ac+3) p=some c)\/u c≠none)->c=m.ac+3\/(c<m.ac/\((∃p,K p=some c)\/u c≠none)):=by
  rintro c (⟨p,h⟩|a)
  ·unfold CL at h;split at h
   ·cases h;exact .inl rfl
   ·exact .inr ⟨(f.B0 _ _ h).2,.inl ⟨p,h⟩⟩
  ·obtain⟨cs,S⟩:=Option.ne_none_iff_exists'.1 a;obtain⟨⟨w,g⟩,_⟩:=f.AZ _ _ S;exact .inr ⟨E g,.inr a⟩
 have B: ∀(d:X) (k:Nat) (cX:X),d.ac=m.ac+14->d.mp=m.mp->(∀c,c<m.ac->cX.Y c=d.Y c)->cX.ac=d.ac+k->cX.mp=d.mp->cX.Y (m.ac+3)=some ⟨DR l++[CU s],true⟩->
  BN K u ((t.AE 14).A1 o none) d->DI.Bi t.ac m.ac K u t m K u ((t.AE 14).A1 o none) d->
  ∃U N r q,a7 r q/\BN U N q cX/\AY N U r (.tuple #[.slice (some ⟨m.ac+3,0,none⟩) (l.length+1) 1,.bool (Lk l s)])/\DI.Bi t.ac m.ac K u t m U N q cX:=by
  intro d k cX T AB C AF D W Z A0;have F:=aAb (bH:=(t.AE 14).A1 o none) (bz:=d) f rfl T;have A2:=YW Z F Q;have A3:DI.Bi t.ac m.ac K u t m (CL K t.ac (m.ac+3)) u (Ll o l s t) (d.A1 (m.ac+3) (some ⟨DR l++[CU s],true⟩)):=A0.trans (n2 F (Aj _) (by omega))
  refine⟨_,u,_,Ll o l s t,H,A2.lb (by rw[Au];omega) (λc a=> ?_),AJ.tuple (AJ.cons (.slice (by simp[CL])) (AJ.cons (.BP rfl) AJ.nil)),A3.lb (by rw[Au];omega) (λc a=> ?_)⟩
  ·rcases R c a with rfl|⟨a,_⟩
   ·rw[AR (by omega),W];exact⟨rfl,by rw[D];rfl⟩
   ·rw[A6 (by omega),C c a,D];exact⟨rfl,rfl⟩
  ·rw[A6 (by omega),C c a]
 rcases J.Fl with⟨b,hb,_,rfl⟩|⟨_,_,A4,rfl⟩
 ·have G:m.Y b=some ⟨DR l,true⟩:=by
   rcases f.Ee o _ j with⟨AL,cs,w,i,A5,A7,A8⟩|⟨i,_⟩
   ·rw[hb]at i;cases i;rw[A5,A7 rfl,r6 A8 a8N]
   ·rw[hb]at i;cases i
  have AM:=E G;refine(qa (.inl ⟨b,rfl,G⟩) y).AD λA9 M ⟨v,k,x⟩=> ?_;subst v;subst x;refine B ((m.AE 14).A1 b none) k _ rfl rfl (λc a=> ?_) rfl rfl ?_ (w7 n hb z rfl) ((Xv f 14).trans (UW n hb z rfl))
  ·rw[X.Ab,A6 (by omega)];by_cases e:c=b
   ·subst e;show(((m.AE 14).A1 (m.ac+2) _).A1 c none).Y c=_;rw[AR (by simp;omega),AR (by simp;omega)]
   ·show(((m.AE 14).A1 (m.ac+2) _).A1 b none).Y c=_;rw[A6 e,A6 e,A6 (by omega)]
  ·rw[X.Ab,AR];show m.ac+3<m.ac+14
   omega
 ·obtain rfl:l=[]:=Ii.1 A4;refine(qa (.inr ⟨rfl,rfl⟩) y).AD λA9 M ⟨v,k,x⟩=> ?_;subst v;subst x;refine B (m.AE 14) k _ rfl rfl (λc a=> ?_) rfl rfl ?_ (vm n) ((Xv f 14).trans ly)
  ·rw[X.Ab,A6 (by omega)];show((m.AE 14).A1 (m.ac+2) _).Y c=_;rw[A6 (by omega)]
  ·rw[X.Ab,AR];show m.ac+3<m.ac+14
   omega
theorem a8j:DR l=DR T↔l=T:=by rw[Ob,Ob];exact OZ λa b h=>by cases h;rfl
open Classical in
def Uj(o n:Nat)(s:ByteArray)(t:X)(x:Option CC):Option (Value×X):=
 if h: ∃l:List ByteArray,l.length=n/\n<1000000/\x=some ⟨DR l,true⟩then some (.tuple #[.slice (some ⟨t.ac,0,none⟩) (n+1) 1,.bool (Lk h.choose s)],Ll o h.choose s t)else none
@[simp] theorem aDj(h:l.length<1000000):
 Uj o l.length s t (some ⟨DR l,true⟩)=some (.tuple #[.slice (some ⟨t.ac,0,none⟩) (l.length+1) 1,.bool (Lk l s)],Ll o l s t):=by
  have a: ∃T:List ByteArray,T.length=l.length/\l.length<1000000/\some (⟨DR l,true⟩:CC)=some ⟨DR T,true⟩:=⟨l,rfl,h,rfl⟩;have b:a.choose=l:=by have:=congrArg (λx:Option CC=>(x.map CC.cells).getD []) a.choose_spec.2.2;exact(a8j.1 this).symm
  simp only[Uj,dif_pos a,b]
abbrev R5:Cp V:= .B9 136 (Nat×Nat×ByteArray) (λ⟨o,n,s⟩=>[.slice (some ⟨o,0,none⟩) n 1,CU s])
 (λ⟨o,n,s⟩ t=>Uj o n s t (t.Y o))
 λ⟨o,n,s⟩ t r f h a7 a=>by
   simp only[Uj]at h;split at h
   ·next b=>cases h;obtain⟨c,e,d⟩:=b.choose_spec;generalize b.choose=l at c d a;subst c;exact zy e d a
   ·cases h
@[simp] theorem aEe{n:Nat}:R5.fn [.slice (some ⟨o,0,none⟩) n 1,CU s] t=Uj o n s t (t.Y o):=
  Cp.BH (x:=(o,n,s)) (t:=t) λ⟨b,c,d⟩ a=>by simp at a;obtain⟨⟨rfl,rfl⟩,rfl⟩:=a;rfl
theorem a8C:EW (l++[s])=(EW l&&Lk l s):=by
 rw[Bool.eq_iff_iff];unfold EW Lk;have i:(H9 s l).isNone=true↔s∉l:=by
  constructor
  ·intro h f;have:=qD f;rw[S2]at h;exact this h
  ·intro h;rw[eN h];rfl
 simp only[AF,BW,List.all_append,LD,i,F3,List.all_nil,and_true];constructor
 ·rintro⟨⟨a,b⟩,c,_,d⟩;exact⟨⟨a,c⟩,b,λf=>d s f s (by simp) rfl⟩
 ·rintro⟨⟨a,c⟩,b,d⟩;exact⟨⟨a,b⟩,c,by simp,λx j y g=>by simp at g;subst g;exact λe=>d (e▸j)⟩
theorem vP(h:EW (l++T)=true):EW l=true:=by unfold EW at*;simp only[AF,BW,List.all_append,LD]at*;exact⟨h.1.1,h.2.1⟩
def O4:List Nat:=[1,3,4,5,6,7,17,18]
theorem Ub(b:J 1=A 1)(c:J 3=A 3)(d:J 4=A 4)(e:J 5=A 5)(f:J 6=A 6)(g:J 7=A 7)(h:J 17=A 17)(i:J 18=A 18): ∀k∈O4,J k=A k:= λk a=>by simp only[O4,CZ,EK,or_false]at a;rcases a with rfl|rfl|rfl|rfl|rfl|rfl|rfl|rfl<;>assumption
theorem SD{a:A2}(h: ∀k∈O4,J k=A k)(c: ∀k∈O4,a k=J k): ∀k∈O4,a k=A k:= λk b=>(c k b).trans (h k b)
theorem a75{j:Nat}(f:x.Af[j]?=some v)(l:v∉x.Af.take j)(E:x.Af.length<1000000)(m:t0.Y q=some ⟨BE x,true⟩)(g:C 18=AG q)(h:C 19=Z j)(o:C 20=Z 0)(p:C 8= .bool true)
 (r: ∀A,(∀k∈O4,A k=C k)->A 19=C 19->A 8= .bool true->Q (.Ao 12) A t0):Bc V (.loop YH) C t0 Q:=by
 have G:j<x.Af.length:=(Ae.1 f).1;have s:(j:Int)<x.Af.length:=by omega
 have u:=(Ae.1 f).2;refine Cc (aC:=⟨[],[]⟩) (λk A t=>t=t0/\(∀k∈O4,A k=C k)/\A 19=Z j/\A 20=Z k/\A 8= .bool true) j ?_ ?_ 0 C t0 (C8 _) ⟨rfl,λ_ _=>rfl,h,o,p⟩
 ·rintro k A t J ⟨rfl,a,b,c,d⟩ K w;have L:x.Af[k]?=some x.Af[k]:=AP (by omega);have y:=BZ (n:=k) (by omega);have z:(k:Int)<j:=(by omega);have B:(k:Int)<x.Af.length:=(by omega);have i:A 18=AG q:=(a 18 (by decide)).trans g;have e: ¬x.Af[k]=v:= λe=>l (List.mem_iff_getElem.2 ⟨k,by rw[IG];omega,by rw[List.getElem_take];exact e⟩);simp(disch:=first|omega|simp only[A9];omega)[YH,BE,i,b,c,d,m,z,s,B,y,u,e,-H,-D,-I,-F,-List.map_map];exact w _ _ ⟨rfl,SD a (Ub (by simp) (by simp) (by simp) (by simp) (by simp) (by simp) (by simp) (by simp)),by simp[b],by simp,by simp⟩
 ·rintro A t ⟨rfl,a,b,c,d⟩;have i:A 18=AG q:=(a 18 (by decide)).trans g;simp(disch:=first|omega|simp only[A9];omega)[YH,b,c,-H,-D,-I,-F,-List.map_map];exact r _ (SD a (Ub (by simp) (by simp) (by simp) (by simp) (by simp) (by simp) (by simp) (by simp))) (by simp[b,h]) (by simp[d])
def js(a:List Int)(n:Nat):Bool:=(a.all λm=>C1 m 0 ((n:Int)-1))&&decide a.Nodup
theorem a7Y(i:AL.Cu u)(d:js x.Af u.Af.length=true)(l:x.Af.length<1000000)(m:t0.Y 0=some ⟨A7 u,true⟩)(e:t0.Y q=some ⟨BE x,true⟩)(o:C 1=AG 0)(h:C 18=AG q)(p:C 19=Z 0)(r:C 8= .bool true)
 (s: ∀A,(∀k∈O4,A k=C k)->A 8= .bool true->Q (.Ao 10) A t0):Bc V (.loop Zh) C t0 Q:=by
 have v:IntKind.i64.wrap ((u.Af.length:Int)-1)=(u.Af.length:Int)-1:=Ac (by omega) (by have:=i.BV;omega);simp only[js,AF,BR,BW]at d;refine Cc (aC:=⟨[Li],[]⟩) (λj A t=>t=t0/\(∀k∈O4,A k=C k)/\A 19=Z j/\A 8= .bool true) x.Af.length ?_ ?_ 0 C t0 (C8 _) ⟨rfl,λ_ _=>rfl,p,r⟩
 ·rintro j A t f ⟨rfl,a,b,g⟩ M w;have y:x.Af[j]?=some x.Af[j]:=AP f;have z:=BZ (n:=j) (by omega);have B:(j:Int)<x.Af.length:=(by omega);have c:A 18=AG q:=(a 18 (by decide)).trans h;have E:A 1=AG 0:=(a 1 (by decide)).trans o;have G:=d.1 _ (Dq f);simp(disch:=first|omega|simp only[A9];omega)[Zh,BE,A7,E,c,b,g,e,m,B,v,G,-H,-D,-I,-F,-List.map_map];refine a75 y (xy d.2 f) l e (by simp[c]) (by simp[b]) (by simp) (by simp) λN J K L=> ?_;simp(disch:=omega)[K,b,z];refine w _ _ ⟨rfl,SD (SD (SD a (Ub ?_ ?_ ?_ ?_ ?_ ?_ ?_ ?_)) J) (Ub ?_ ?_ ?_ ?_ ?_ ?_ ?_ ?_),?_,?_⟩;all_goals simp[L]
 ·rintro A t ⟨rfl,a,b,g⟩;have c:A 18=AG q:=(a 18 (by decide)).trans h;simp(disch:=omega)[Zh,BE,c,b,e];exact s _ (SD a (Ub (by simp) (by simp) (by simp) (by simp) (by simp) (by simp) (by simp) (by simp))) (by simp[g])
theorem aBx{l:List G}{f:G->ByteArray}{x:G}(b:l[i]?=some x)(a:EW (c1++l.map f)=true):Lk (c1++(l.take i).map f) (f x)=true:=by
 have e:c1++l.map f=((c1++(l.take i).map f)++[f x])++(l.drop (i+1)).map f:=by
  conv=>lhs;rw[<-List.take_append_drop (i+1) l,Nl b]
  simp
 rw[e]at a;have:=vP a;rw[a8C,AF]at this;exact this.2
theorem Rp{l:List G}{BV:G->ByteArray}{d c w off:Nat}(m:3<=d)(p:d<=7)(A0:l.length<=1000)(z:DG u e2 B C t0)(A1:(B d).length<=10000)(D:EW (B d++l.map BV)=true)
 (j:C c=Z off) (A3:off<=1)
 (body: ∀(i k:Nat) (A4:k=i+off) (r:i<l.length) (A:A2) (t:X) (o:Nat) (L:List ByteArray),l[i]?=some l[i]->IntKind.i64.wrap ((k:Int)+1)=(k:Int)+1->A 1=AG 0->A 8= .bool true->A d= .slice (some ⟨o,0,none⟩) L.length 1->t.Y 0=some ⟨A7 u,true⟩->t.Y o=some ⟨DR L,true⟩->0<t.ac->o<t.ac->o≠0->L.length<1000000->Lk L (BV l[i])=true->A c=Z k-> ∀q:A2->X->Prop,
  (∀J f o',(∀k∈KM,k≠d->J k=A k)->J 8= .bool true->J d= .slice (some ⟨o',0,none⟩) (L.length+1) 1->f.Y o'=some ⟨DR (L++[BV l[i]]),true⟩->t.ac<=o'->t.ac<=f.ac->(∀b,b<t.ac->b≠o->f.Y b=t.Y b)->J c=Z ((k:Int)+1)->q J f)->ER aC S A t (M3 q Q))
 (done: ∀(A:A2) (t:X) (k:Nat),k=l.length+off->A 1=AG 0->A 8= .bool true->t.Y 0=some ⟨A7 u,true⟩->0<t.ac->A c=Z k->(∀J,(∀k∈KM,J k=A k)->J 8=A 8->Q (.Ao w) J t)->ER aC S A t (M3 (λ_ _=>False) Q))
 (F: ∀A t h,DG u h (DD B d (B d++l.map BV)) A t->Q (.Ao w) A t):Bc V (.loop S) C t0 Q:=by
 refine Cc (aC:=aC) (λi A t=> ∃h,DG u h (DD B d (B d++(l.take i).map BV)) A t/\A c=Z ((i+off:Nat):Int)) l.length ?_ ?_ 0 C t0 (C8 _) ⟨e2,?_,by simpa using j⟩
 ·rintro i A t r ⟨h,a,j⟩ q H;have s:l[i]?=some l[i]:=AP r;have v:=a.g d m p;have x:=a.Zs d m p;have y:= λ(o':Nat) (J:A2) (f:X)=>DG.step a d m p (o:=o') (A:=J) (t:=f) (Pv:=[BV l[i]]) (n:=1) rfl;rw[OJ]at v x y;have A5:(B d++(l.take i).map BV).length<20000:=(by rw[En,E9,IG];omega);refine body i (i+off) rfl r A t (h d) _ s (Ac (by omega) (by omega)) a.Fe a.Hc x a.DH v (E a.DH) (E v) (a.Wj d m p) (by omega) (aBx s D) j q λJ f o' I K M N O P R T=> ?_;have:=y o' J f I K (by rw[M]) N (.inr O) P R;rw[qo,qy s]at this;exact H _ _ ⟨_,this,by rw[T];congr 1;omega⟩
 ·rintro A t ⟨h,a,j⟩;rw[FJ]at a;exact done A t _ rfl a.Fe a.Hc a.DH (E a.DH) j λJ U W=>F _ _ h (a.KS W U)
 ·have:DD B d (B d++(l.take 0).map BV)=B:=by
   funext k;by_cases e:k=d
   ·subst e;simp
   ·rw[Jv e]
  rw[this];exact z
theorem zL(h:AL.Cu u)(l:u.Bu.all F9.Mo=true)(m:DG u e2 B C t0)(n:(B 3).length<=10000)(p:EW (B 3++u.Bu.map (·.name))=true)(a:C 9=Z 0)
 (q: ∀A t r,DG u r (DD B 3 (B 3++u.Bu.map (·.name))) A t->Q (.Ao 0) A t):Bc V (.loop ba) C t0 Q:=by
 refine Rp (off:=0) (aC:=⟨[uK],[R5]⟩) (by decide) (by decide) h.e9 m n p (by simpa using a) (by decide) ?_ ?_ q
 ·intro i k f g A t o L O s c j v e w x P R S y a T z;obtain rfl:k=i:=f;have E:(k:Int)<u.Bu.length:=(by omega);have U:=h.Bu _ (Dq g);have G:=BR.1 l _ (Dq g);simp(disch:=first|omega|simp only[DI.AB];omega)[ba,eD,A7,CS,Ll,c,j,a,v,e,w,E,s,y,G,-H,-D,-I,-F,-List.map_map];refine z _ _ (t.ac) (Kx (d:=3) ?_ ?_ ?_ ?_ ?_ ?_) ?_ ?_ ?_ (by omega) ?_ (λb hb J=> ?_) ?_
  all_goals first
   |(intro K;first|(exact absurd rfl K)|(simp;done))
   |(simp(disch:=first|omega|simp only[DI.AB];omega)[-H,-D,-I,-F,-List.map_map];done)
   |(simp(disch:=first|omega|simp only[DI.AB];omega)[hb,J,-H,-D,-I,-F,-List.map_map];done)
   |(simp(disch:=first|omega|simp only[DI.AB];omega)[-H,-D,-I,-F,-List.map_map];omega)
 ·intro A t k f c j e x a M;have N: ¬(k:Int)<u.Bu.length:=(by omega);simp(disch:=first|omega|simp only[DI.AB];omega)[ba,eD,A7,c,a,e,N,-H,-D,-I,-F,-List.map_map];exact M _ (GR (by simp) (by simp) (by simp) (by simp) (by simp) (by simp)) (by simp)
theorem aCQ(h:AL.Cu u)(l:u.Af.all (PM u.Bu.length)=true)(m:DG u e2 B C t0)(n:(B 4).length<=10000)(p:EW (B 4++u.Af.map (·.name))=true)(a:C 10=Z 0)
 (q: ∀A t r,DG u r (DD B 4 (B 4++u.Af.map (·.name))) A t->Q (.Ao 2) A t):Bc V (.loop XB) C t0 Q:=by
 refine Rp (off:=0) (aC:=⟨[Li],[R5]⟩) (by decide) (by decide) h.BV m n p (by simpa using a) (by decide) ?_ ?_ q
 ·intro i k g s A t o L T v c j w e x y U W X z a Y E;obtain rfl:k=i:=g;have G:(k:Int)<u.Af.length:=(by omega);have J:IntKind.i64.wrap ((u.Bu.length:Int)-1)=(u.Bu.length:Int)-1:=Ac (by omega) (by have:=h.e9;omega);have f:=BR.1 l _ (Dq s);simp only[PM,AF]at f;obtain⟨K,M,N⟩:=f;simp(disch:=first|omega|simp only[DI.AB];omega)[XB,A7,CX,Ll,c,j,a,w,e,x,G,v,z,J,K,M,N,-H,-D,-I,-F,-List.map_map];refine E _ _ (t.ac+7) (Kx (d:=4) ?_ ?_ ?_ ?_ ?_ ?_) ?_ ?_ ?_ (by omega) ?_ (λb hb O=> ?_) ?_
  all_goals first
   |(intro P;first|(exact absurd rfl P)|(simp;done))
   |(simp(disch:=first|omega|simp only[DI.AB];omega)[-H,-D,-I,-F,-List.map_map];done)
   |(simp(disch:=first|omega|simp only[DI.AB];omega)[hb,O,-H,-D,-I,-F,-List.map_map];done)
   |(simp(disch:=first|omega|simp only[DI.AB];omega)[-H,-D,-I,-F,-List.map_map];omega)
 ·intro A t k g c j e y a R;have S: ¬(k:Int)<u.Af.length:=(by omega);simp(disch:=first|omega|simp only[DI.AB];omega)[XB,A7,c,a,e,S,-H,-D,-I,-F,-List.map_map];exact R _ (GR (by simp) (by simp) (by simp) (by simp) (by simp) (by simp)) (by simp)
theorem a6o(h:AL.Cu u)(q:u.A4.all (PD u.Af.length u.A5)=true)(r:DG u e2 B C t0)(s:(B 5).length<=10000)(v:EW (B 5++u.A4.map (·.name))=true)(a:C 15=Z 0)
 (w: ∀A t x,DG u x (DD B 5 (B 5++u.A4.map (·.name))) A t->Q (.Ao 6) A t):Bc V (.loop XF) C t0 Q:=by
 refine Rp (off:=0) (aC:=⟨[Li],[R5]⟩) (by decide) (by decide) h.Es r s v (by simpa using a) (by decide) ?_ ?_ w
 ·intro i k m y A t o L A2 z j n E l G J A3 A6 A8 K a A9 M;obtain rfl:k=i:=m;have N:(k:Int)<u.A4.length:=(by omega);have O:IntKind.i64.wrap ((u.Af.length:Int)-1)=(u.Af.length:Int)-1:=Ac (by omega) (by have:=h.BV;omega);have P:IntKind.i64.wrap ((u.A5.length:Int)-1)=(u.A5.length:Int)-1:=Ac (by omega) (by have:=h.Cg;omega);have f:=BR.1 q _ (Dq y);simp only[PD,AF]at f;obtain⟨R,e,g⟩:=f;obtain⟨c,p⟩:=Dp (KU.1 e).1;rw[p]at e g;have S:c<u.A5.length:=(by have:=KU.1 e;omega);have T:(c:Int)<u.A5.length:=(by omega);have U:u.A5[c]?=some u.A5[c]:=AP S;have W:u.A5[c].Fw=4:=(by unfold Vc at g;rw[Dx,U]at g;simpa using g);simp(disch:=first|omega|simp only[DI.AB];omega)[XF,A7,Bx,Ll,j,n,a,E,l,G,N,z,K,O,P,Bq,R,e,p,T,W,-H,-D,-I,-F,-List.map_map];refine M _ _ (t.ac+7) (Kx (d:=5) ?_ ?_ ?_ ?_ ?_ ?_) ?_ ?_ ?_ (by omega) ?_ (λb hb X=> ?_) ?_
  all_goals first
   |(intro Y;first|(exact absurd rfl Y)|(simp;done))
   |(simp(disch:=first|omega|simp only[DI.AB];omega)[-H,-D,-I,-F,-List.map_map];done)
   |(simp(disch:=first|omega|simp only[DI.AB];omega)[hb,X,-H,-D,-I,-F,-List.map_map];done)
   |(simp(disch:=first|omega|simp only[DI.AB];omega)[-H,-D,-I,-F,-List.map_map];omega)
 ·intro A t k m j n l J a A0;have A1: ¬(k:Int)<u.A4.length:=(by omega);simp(disch:=first|omega|simp only[DI.AB];omega)[XF,A7,j,a,l,A1,-H,-D,-I,-F,-List.map_map];exact A0 _ (GR (by simp) (by simp) (by simp) (by simp) (by simp) (by simp)) (by simp)
theorem a3L(h:AL.Cu u)(l:u.A3.all (RR u.B7.length)=true)(m:DG u e2 B C t0)(n:(B 7).length<=10000)(p:EW (B 7++u.A3.map (·.name))=true)(a:C 21=Z 0)
 (q: ∀A t r,DG u r (DD B 7 (B 7++u.A3.map (·.name))) A t->Q (.Ao 14) A t):Bc V (.loop Yc) C t0 Q:=by
 refine Rp (off:=0) (aC:=⟨[Li],[R5]⟩) (by decide) (by decide) h.EF m n p (by simpa using a) (by decide) ?_ ?_ q
 ·intro i k f s A t o L P v c g w e x y R S T z a U E;obtain rfl:k=i:=f;have G:(k:Int)<u.A3.length:=(by omega);have J:IntKind.i64.wrap ((u.B7.length:Int)-1)=(u.B7.length:Int)-1:=Ac (by omega) (by have:=h.eB;omega);have j:=BR.1 l _ (Dq s);simp only[RR]at j;simp(disch:=first|omega|simp only[DI.AB];omega)[Yc,A7,CW,Ll,c,g,a,w,e,x,G,v,z,J,j,-H,-D,-I,-F,-List.map_map];refine E _ _ (t.ac) (Kx (d:=7) ?_ ?_ ?_ ?_ ?_ ?_) ?_ ?_ ?_ (by omega) ?_ (λb hb K=> ?_) ?_
  all_goals first
   |(intro M;first|(exact absurd rfl M)|(simp;done))
   |(simp(disch:=first|omega|simp only[DI.AB];omega)[-H,-D,-I,-F,-List.map_map];done)
   |(simp(disch:=first|omega|simp only[DI.AB];omega)[hb,K,-H,-D,-I,-F,-List.map_map];done)
   |(simp(disch:=first|omega|simp only[DI.AB];omega)[-H,-D,-I,-F,-List.map_map];omega)
 ·intro A t k f c g e y a N;have O: ¬(k:Int)<u.A3.length:=(by omega);simp(disch:=first|omega|simp only[DI.AB];omega)[Yc,A7,c,a,e,O,-H,-D,-I,-F,-List.map_map];exact N _ (GR (by simp) (by simp) (by simp) (by simp) (by simp) (by simp)) (by simp)
theorem a4E(h:AL.Cu u)(a:u.A5=R::ds)(z:Kw u.A5=true)(E:DG u e2 B C t0)(G:(B 5).length<=10000)(J:EW (B 5++ds.map (·.name))=true)(f:C 13=Z 1)
 (K: ∀A t M,DG u M (DD B 5 (B 5++ds.map (·.name))) A t->Q (.Ao 4) A t):Bc V (.loop cm) C t0 Q:=by
 refine Rp (off:=1) (aC:=⟨[Li,eH],[R5]⟩) (by decide) (by decide) (by have:=h.Cg;rw[a]at this;simp at this;omega) E G J (by simpa using f) (by decide) ?_ ?_ K
 ·intro i k v AE A t o L c N m w O n P S AI AJ AK p f AM q;have AN:u.A5.length=ds.length+1:=(by rw[a];rfl);have j:=rk (a▸z) c;rw[<-a]at j;obtain⟨e,l⟩: ∃e,e=ds[i]:=⟨_,rfl⟩;rw[<-l]at c p q j;have c:u.A5[k]?=some e:=(by rw[v,a,MO];exact c);have AO:k<u.A5.length:=(by omega);have T:=(Ae.1 c).2;have U:IntKind.i64.wrap ((k:Int)-1)=(i:Int):=(by rw[show(k:Int)-1=i by omega];exact Ac (by have:=h.Cg;omega) (by have:=h.Cg;omega));have W:(k:Int)<u.A5.length:=(by omega);have X:e.Hm.BA:=h.A5 e (B5 c);clear l;obtain⟨AQ,r,AR,AS,⟨AT,AU,AV⟩⟩:=e;simp only[O2,AF]at j X p q;obtain⟨x,s,y,Y,A0⟩:=j;have AW:=KU.1 y;have A1:IntKind.i64.wrap (r-1)=r-1:=Ac (by omega) (by omega);have A2:=KU.1 x;obtain⟨g,rfl⟩:=Dp A2.1;have A3:g<u.A5.length:=(by omega);have A4:(g:Int)<u.A5.length:=(by omega);have A6:u.A5[g]?=some u.A5[g]:=AP A3;have A8:u.A5[g].Fw=r-1:=(by unfold Vl at s;simp only[Dx,A6]at s;simpa using s);simp(disch:=first|omega|simp only[DI.AB];omega)[cm,A7,Bq,Ll,m,w,f,O,n,P,W,N,p,U,T,y,x,A1,A4,A8,Y,A0,-H,-D,-I,-F,-List.map_map];refine q _ _ (t.ac+7) (Kx (d:=5) ?_ ?_ ?_ ?_ ?_ ?_) ?_ ?_ ?_ (by omega) ?_ (λb hb A9=> ?_) ?_
  all_goals first
   |(intro AA;first|(exact absurd rfl AA)|(simp;done))
   |(simp(disch:=first|omega|simp only[DI.AB];omega)[-H,-D,-I,-F,-List.map_map];done)
   |(simp(disch:=first|omega|simp only[DI.AB];omega)[hb,A9,-H,-D,-I,-F,-List.map_map];done)
   |(simp(disch:=first|omega|simp only[DI.AB];omega)[-H,-D,-I,-F,-List.map_map];omega)
 ·intro A t k v m w n S f l;have AD: ¬(k:Int)<u.A5.length:=(by rw[a];simp;omega);simp(disch:=first|omega|simp only[DI.AB];omega)[cm,A7,m,f,n,AD,-H,-D,-I,-F,-List.map_map];exact l _ (GR (by simp) (by simp) (by simp) (by simp) (by simp) (by simp)) (by simp)
theorem a6i(h:AL.Cu u)(U:u.B7.all (K3 · u.Af.length)=true)(W:DG u e2 B C t0)(X:(B 6).length<=10000)(Y:EW (B 6++u.B7.map (·.name))=true)(g:C 17=Z 0)
 (A0: ∀A t A1,DG u A1 (DD B 6 (B 6++u.B7.map (·.name))) A t->Q (.Ao 8) A t):Bc V (.loop aN) C t0 Q:=by
 refine Rp (off:=0) (aC:=⟨[wg,rE],[R5]⟩) (by decide) (by decide) h.eB W X Y (by simpa using g) (by decide) ?_ ?_ A0
 ·intro i k K M A t o L A2 A3 j N A4 l A5 A6 AS AT AU p g AV r;obtain rfl:k=i:=K;have A8:(k:Int)<u.B7.length:=(by omega);have s:=BR.1 U _ (Dq M);obtain⟨v,w,y,z⟩:=h.B7 _ (Dq M);obtain⟨x,E⟩: ∃x,x=u.B7[k]:=⟨_,rfl⟩;rw[<-E]at A2 p r s v w y z;have A9:u.B7[k]=x:=E.symm;clear E;obtain⟨BV,AA,m,q,⟨a,b,c,d,e⟩,n,G,⟨O,P,R⟩,⟨S,T,hb⟩⟩:=x;simp only[K3,AF,JQ]at s v w y z p r;obtain⟨J,AD,AE,AI⟩:=s;have AW: ¬n.length=0:= λe=>by rw[<-List.isEmpty_iff_length_eq_zero,AD]at e;cases e
  have AX:(0:Int)<n.length:=(by omega);have AJ:0<n.length:=(by omega);have AY:(0<=m/\m<=4)/\((∀x∈G,x.BA)/\G.length<1000000)/\(Am.mk O P R).BA/\(Am.mk S T hb).BA:=⟨KU.1 (by simp only[FI,AF]at J;exact J.2.1),v,w,y⟩;simp(disch:=first|omega|simp only[DI.AB];omega)[aN,A7,BE,Ll,j,N,g,A4,l,A5,A8,p,A9,J,AE,AJ,-H,-D,-I,-F,-List.map_map];refine a7Y h (x:=⟨BV,AA,m,q,⟨a,b,c,d,e⟩,n,G,⟨O,P,R⟩,⟨S,T,hb⟩⟩) (q:=t.ac+5) (by simpa only[js,AF]using AI) z (by simp(disch:=first|omega|simp only[DI.AB];omega)[l,-H,-D,-I,-F,-List.map_map]) (by simp(disch:=first|omega|simp only[DI.AB];omega)[BE,-H,-D,-I,-F,-List.map_map]) (by simp[j]) (by simp) (by simp) (by simp) λAK f AM=> ?_;have AN:AK 17=Z k:=(f 17 (by decide)).trans (by simp[g]);simp(disch:=first|omega|simp only[DI.AB];omega)[AN,A3,-H,-D,-I,-F,-List.map_map];refine r _ _ (t.ac+7) (Kx (d:=6) ?_ ?_ ?_ ?_ ?_ ?_) ?_ ?_ ?_ (by omega) ?_ (λb hb AO=> ?_) ?_
  all_goals first
   |(intro AP;first|(exact absurd rfl AP)|(simp[f 1 (by decide),f 3 (by decide),f 4 (by decide),f 5 (by decide),f 7 (by decide)];done))
   |(simp(disch:=first|omega|simp only[DI.AB];omega)[f 6 (by decide),AM,-H,-D,-I,-F,-List.map_map];done)
   |(simp(disch:=first|omega|simp only[DI.AB];omega)[hb,AO,-H,-D,-I,-F,-List.map_map];done)
   |(simp(disch:=first|omega|simp only[DI.AB];omega)[-H,-D,-I,-F,-List.map_map];omega)
 ·intro A t k K j N l A6 g AQ;have AR: ¬(k:Int)<u.B7.length:=(by omega);simp(disch:=first|omega|simp only[DI.AB];omega)[aN,A7,j,g,l,AR,-H,-D,-I,-F,-List.map_map];exact AQ _ (GR (by simp) (by simp) (by simp) (by simp) (by simp) (by simp)) (by simp)
end Go.Proofs.YtmmkkggfmigppaaGreat
end
