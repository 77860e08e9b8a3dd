/- A part of the proof. -/
import Derived.Test.YtmmkkggfmigppaaGreatZcs
set_option linter.all false
set_option maxRecDepth 8000
set_option maxHeartbeats 16000000
namespace Go.Proofs.YtmmkkggfmigppaaGreat
open Go Go.DI Go.Big
def F5(ds:List Dj)(k:Nat)(v:Int):Prop:= ∃q,ds[k]?=some q/\q.EH=v
variable{k p o dW w Z n P R s9 ag:Nat}{v kb y z m:Int}{x d:Dj}{A N:A6}{a7:Value->V->Prop}{Q:BM->A6->V->Prop}{aF:List Nat}{iJ:List Int}{ps:List Dw}{oK oL:Value}{u:List Je}{B:D}
theorem F5.app{ds:List Dj}(h:F5 ds k v):F5 (ds++[x]) k v:=by obtain⟨q,a,b⟩:=h;exact⟨q,by rw[L8 (AX.1 a).1];exact a,b⟩
theorem F5.B7{ds:List Dj}(h:F5 ds k v):k<ds.length:=by obtain⟨q,a,_⟩:=h;exact(AX.1 a).1
structure Jr(ds:List Dj):Prop where
 Lv:ds[0]?=some ⟨⟨#[]⟩,0,-1,0,C9 0 1⟩
 Fq: ∀(i:Nat) (d:Dj),0<i->ds[i]?=some d->d.name=Eu 110 i/\0<=d.parent/\d.parent<i/\F5 ds d.parent.toNat (d.EH-1)/\1<=d.EH/\d.EH<=4/\1<=d.SF/\d.SF<=64/\d.HH=C9 0 1
theorem Jr.HV{ds:List Dj}(h:Jr ds):0<ds.length:=(AX.1 h.Lv).1
theorem Jr.add{ds:List Dj}(h:Jr ds){fD:Int}(b:F5 ds p (fD-1))(f:1<=fD)(g:fD<=4)(j:1<=kb)(k:kb<=64):Jr (ds++[Db ds.length fD p kb]) where
 Lv:=by rw[L8 h.HV];exact h.Lv
 Fq i d l a:=by
  by_cases c:i<ds.length
  ·rw[L8 c]at a;obtain⟨m,n,a3,a4,o⟩:=h.Fq i d l a;exact⟨m,n,a3,a4.app,o⟩
  ·have q:=(AX.1 a).1;simp only[Ds,Df,Jx]at q;have e:i=ds.length:=(by omega);subst e;rw[KM (Ao _)]at a;simp at a;subst a;have:=b.B7;exact⟨rfl,by simp[Db],by simp[Db];omega,by simpa[Db]using b.app,f,g,j,k,rfl⟩
theorem MP{ds:List Dj}{fD:Int}{p:Int}:F5 (ds++[Db ds.length fD p kb]) ds.length fD:=⟨Db ds.length fD p kb,by simp,rfl⟩
def JE(ds:List Dj)(g:List IM):Prop:= ∀(i:Nat) (x:IM),g[i]?=some x->x.name=Eu 100 i/\0<=x.model/\x.model<2/\ ∃m:Nat,x.Qz=m/\F5 ds m 4
theorem JE.app{ds:List Dj}{g:List IM}(h:JE ds g):JE (ds++[d]) g:= λi x j=>by obtain⟨a,b,c,m,e,f⟩:=h i x j;exact⟨a,b,c,m,e,f.app⟩
theorem JE.add{ds:List Dj}{g:List IM}(h:JE ds g){m:Nat}(b:F5 ds m 4)(d:0<=y)(f:y<2):JE ds (g++[⟨Eu 100 g.length,y,m⟩]):= λi x a=>by
 by_cases c:i<g.length
 ·rw[L8 c]at a;exact h i x a
 ·have j:=(AX.1 a).1;simp only[Ds,Df,Jx]at j;have e:i=g.length:=(by omega);subst e;rw[KM (Ao _)]at a;simp at a;subst a;exact⟨rfl,d,f,m,rfl,b⟩
def Oq:List Value:=[Y 0,.slice none 0 0,.slice none 0 0,.slice none 0 0,.slice none 0 0,.slice none 0 0,.slice none 0 0]
structure a0y(l:List Int)(i:Nat)(J:Int)(g4 g5 ke iu:Value)(ds:List Dj)(g:List IM)(a or:Nat)(t:V):Prop where
 Cr:t.W 0=some ⟨[AH l,Y i],true⟩
 OJ:t.W 1=some ⟨Oq,true⟩
 aLc:t.W 6=some ⟨[Y J,g4,g5,AQ a ds.length 7,AQ or g.length 3,ke,iu],true⟩
 Z7:t.W a=some ⟨(ds.map Bd).flatten,true⟩
 KV:t.W or=some ⟨(g.map CB).flatten,true⟩
 a39:a≠0/\a≠1/\a≠6
 Ph:or≠0/\or≠1/\or≠6
 aBE:a≠or
def FC(l:List Int)(i:Nat)(J:Int)(g4 g5 ke iu:Value)(ds:List Dj)(g:List IM)(t:V):Prop:= ∃a or,a0y l i J g4 g5 ke iu ds g a or t
theorem a02{l:List IM}:(l.map CB).flatten.length=l.length*3:=by rw[JQ (z:=3) λr a=>by obtain⟨x,_,rfl⟩:=CP.1 a;rfl,Eb]
def Tr:List Nat:=[0,1,4,5,6,7,8,9,10,11]
theorem Y5(b:N 0=A 0)(c:N 1=A 1)(d:N 4=A 4)(e:N 5=A 5)(f:N 6=A 6)(g:N 7=A 7)(h:N 8=A 8)(i:N 9=A 9)(j:N 10=A 10)(l:N 11=A 11): ∀k∈Tr,N k=A k:= λk a=>by simp only[Tr,CM,EK,or_false]at a;rcases a with rfl|rfl|rfl|rfl|rfl|rfl|rfl|rfl|rfl|rfl<;>assumption
theorem a71{l:List Int}(A5:l.length<=140737488355328){J:Int}{g4 g5 ke iu:Value}{ds:List Dj}{m:Nat}(A7:F5 ds m 4): ∀(k i:Nat) (g:List IM),JE ds g->g.length<=9->i+k<1000000->
 ∃ b dW,JE ds b/\b.length<=9/\min (g.length+min k 1) 9<=b.length/\dW<=i+k/\ ∀(A:A6) (t:V) (Q:BM->A6->V->Prop),A 0=AA 0->A 5=AA 6->A 11=Y m->A 12=Y k->FC l i J g4 g5 ke iu ds g t->
   (∀N u,(∀s∈Tr,N s=A s)->FC l dW J g4 g5 ke iu ds b u->Q (.Ai 2) N u)->BY U (.loop Qo) A t Q:=by
 intro k;induction k with
 | zero=>intro i g v D A8;refine⟨g,i,v,D,by omega,by omega,λA t Q j c n d o p=> ?_⟩;refine BU (an:=⟨[GB],[EM]⟩) λP w=> ?_;simp(disch:=first|omega|simp only[AD];omega)[Qo,d,-H,-E,-I,-G,-List.map_map];exact p _ _ (Y5 (by simp) (by simp) (by simp) (by simp) (by simp) (by simp) (by simp) (by simp) (by simp) (by simp)) o
 | succ k A9=>
   intro i g v D A8;have R:IntKind.i64.wrap (k:Int)=(k:Int):=Ah (by omega) (by omega);have K:(0:Int)<(k:Int)+1:=(by omega);by_cases AY:g.length<9
   case neg=>refine⟨g,i,v,D,by omega,by omega,λA t Q j c n d o p=> ?_⟩;refine BU (an:=⟨[GB],[EM]⟩) λP w=> ?_;obtain⟨f,or,S⟩:=o;have h:=S.aLc;have AB:=F h;have x: ¬(g.length:Int)<9:=(by omega);simp(disch:=first|omega|simp only[AD];omega)[Qo,c,d,K,x,h,-H,-E,-I,-G,-List.map_map];exact p _ _ (Y5 (by simp) (by simp) (by simp) (by simp) (by simp) (by simp) (by simp) (by simp) (by simp) (by simp)) ⟨f,or,S⟩
   obtain⟨y,q⟩: ∃y:Int,y=if Bq l i 4=0 then 1 else 0:=⟨_,rfl⟩
   have T:0<=y/\y<2:=(by rw[q];split<;>omega);obtain⟨b,dW,AE,AF,a3,a4,AG⟩:=A9 (i+1) (g++[⟨Eu 100 g.length,y,m⟩]) (v.add A7 T.1 T.2) (by simp;omega) (by omega);refine⟨b,dW,AE,AF,by simp only[Ds,Df,Jx]at a3;omega,by omega,λA t Q j c n d o p=> ?_⟩;obtain⟨f,or,⟨L,X,h,Z,M,AJ,AK,AZ⟩⟩:=o;refine BU (an:=⟨[GB],[EM]⟩) λP w=> ?_;have x:(g.length:Int)<9:=(by omega);have Aa:=F L;have Ab:=F X;have AB:=F h;have Ac:=F Z;have Ad:=F M;obtain⟨AL,n21,AM⟩:=AK;obtain⟨AN,AO,AP⟩:=AJ;have Ae:0≠or:= λe=>AL e.symm;have Af:6≠or:= λe=>AM e.symm;have Ag:i<1000000/\l.length<=140737488355328/\(4:Int)<=1000000:=⟨by omega,A5,by decide⟩;have A0:GB.fn [.int .u8 100,Y g.length]=some (.string (Eu 100 g.length)):=cC (C:=100) rfl ⟨by decide,by omega⟩;have A1:=a02 (l:=g);have A2:(g.length+1)*32<=140737488355328/\g.length<=9223372036854775806:=by omega
   have A3: ∀(r:A6) (a:V),(∀s∈Tr,r s=A s)->r 12=Y k->a.W 0=some ⟨[AH l,Y (i+1:Nat)],true⟩->a.W 1=t.W 1->a.W 6=some ⟨[Y J,g4,g5,AQ f ds.length 7,AQ (t.next+10) (g.length+1) 3,ke,iu],true⟩->a.W f=t.W f->
    a.W (t.next+10)=some ⟨(g.map CB).flatten++[CU (Eu 100 g.length),Y y,Y m],true⟩->BY U (.loop Qo) r a Q:= λr a z AR AS AT AU AV AW=>by
    refine AG r a Q ((z 0 (by decide)).trans j) ((z 5 (by decide)).trans c) ((z 11 (by decide)).trans n) AR ⟨f,t.next+10,⟨AS,AT.trans X,?_,AV.trans Z,?_,⟨AN,AO,AP⟩,⟨by omega,by omega,by omega⟩,by omega⟩⟩ λN u AX=>p N u λs A4=>(AX s A4).trans (z s A4)
    ·rw[AU];simp
    ·rw[AW];simp[CB]
   by_cases B:Bq l i 4=0
   ·rw[if_pos B]at q;subst q;simp(disch:=first|omega|simp only[AD];omega)[Qo,j,c,n,d,K,x,L,h,M,A0,A1,A2,B,R,-H,-E,-I,-G,-List.map_map];refine w _ _ (A3 _ _ (Y5 (by simp) (by simp) (by simp) (by simp) (by simp) (by simp) (by simp) (by simp) (by simp) (by simp)) (by simp[]) ?_ ?_ ?_ ?_ ?_)
    ·simp(disch:=first|omega|simp only[AD];omega)[-H,-E,-I,-G,-List.map_map]
    ·simp(disch:=first|omega|simp only[AD];omega)[-H,-E,-I,-G,-List.map_map]
    ·simp(disch:=first|omega|simp only[AD];omega)[-H,-E,-I,-G,-List.map_map]
    ·simp(disch:=first|omega|simp only[AD];omega)[-H,-E,-I,-G,-List.map_map]
    ·simp(disch:=first|omega|simp only[AD];omega)[-H,-E,-I,-G,-List.map_map];exact DV (by omega)
   ·rw[if_neg B]at q;subst q;simp(disch:=first|omega|simp only[AD];omega)[Qo,j,c,n,d,K,x,L,h,M,A0,A1,A2,B,R,-H,-E,-I,-G,-List.map_map];refine w _ _ (A3 _ _ (Y5 (by simp) (by simp) (by simp) (by simp) (by simp) (by simp) (by simp) (by simp) (by simp) (by simp)) (by simp[]) ?_ ?_ ?_ ?_ ?_)
    ·simp(disch:=first|omega|simp only[AD];omega)[-H,-E,-I,-G,-List.map_map]
    ·simp(disch:=first|omega|simp only[AD];omega)[-H,-E,-I,-G,-List.map_map]
    ·simp(disch:=first|omega|simp only[AD];omega)[-H,-E,-I,-G,-List.map_map]
    ·simp(disch:=first|omega|simp only[AD];omega)[-H,-E,-I,-G,-List.map_map]
    ·simp(disch:=first|omega|simp only[AD];omega)[-H,-E,-I,-G,-List.map_map];exact DV (by omega)
theorem FZ{n:Int}{t:V}{l:List Int}(h:0<=z/\z<1000000/\l.length<=140737488355328/\n<=1000000):Tf o n t (some ⟨[M (l.map λx=>[Y x]) 1,.int .i64 z],true⟩)=some (Y (Bq l z.toNat n),t.A0 o (some ⟨[AH l,Y (z+1)],true⟩)):=by obtain⟨i,rfl⟩:=DP h.1;rw[EE];exact a2t (i:=i) ⟨by omega,h.2.2⟩
variable {l:List Int} {i:Nat} {J:Int} {g4 g5 ke iu:Value} {ds:List Dj} {g:List IM} {t:V}
theorem FC.at(h:FC l i J g4 g5 ke iu ds g t)(c:z=dW):FC l dW J g4 g5 ke iu ds g (t.A0 0 (some ⟨[AH l,Y z],true⟩)):=by subst c;obtain⟨d,or,⟨e,f,j,k,m,a,b,n⟩⟩:=h;exact⟨d,or,AT (F e),by rw[A3 (by decide)];exact f,by rw[A3 (by decide)];exact j,by rw[A3 a.1];exact k,by rw[A3 b.1];exact m,a,b,n⟩
theorem PN(h:FC l i J g4 g5 ke iu ds g t)(p:ds.length<1000){f j:Int}(q: ∀a,FC l i J g4 g5 ke iu (ds++[Db ds.length f j kb]) g a->a7 (Y ds.length) a):Bv U 108 [AA 6,Y f,Y j,Y kb] t a7:=by
 obtain⟨x,or,⟨k,m,n,r,b,c,o,s⟩⟩:=h;refine a3K n r c.2.2 p λa u y z v w d=>q a ⟨u,or,?_,?_,v,w,?_,?_,o,?_⟩
 ·rw[d 0 (F k) (by decide) (λe=>c.1 e.symm)];exact k
 ·rw[d 1 (F m) (by decide) (λe=>c.2.1 e.symm)];exact m
 ·rw[d or (F b) o.2.2 (λe=>s e.symm)];exact b
 ·have:=F n;exact⟨by omega,by omega,by omega⟩
 ·have:=F b;omega
def kA:List Nat:=[0,1,4,5,6,7,8,9,10]
theorem zu: ∀k∈kA,k∈Tr:=by decide
theorem Zo{l:List Int}(B:l.length<=140737488355328){J:Int}{g4 g5 ke iu:Value}{ds:List Dj}{g:List IM}{i:Nat}(C:Jr ds)(D:JE ds g)(K:g.length<=9)(AE:i+10<1000000)(L:F5 ds w 3)(AF:ds.length<900):
 ∃ c b dW,Jr c/\JE c b/\(b.length<=9/\1<=b.length)/\c.length=ds.length+1/\dW<=i+4/\(∀a v,F5 ds a v->F5 c a v)/\ ∀(A:A6) (t:V) (Q:BM->A6->V->Prop),A 0=AA 0->A 5=AA 6->A 9=Y w->FC l i J g4 g5 ke iu ds g t->
   (∀N e,(∀s∈kA,N s=A s)->FC l dW J g4 g5 ke iu c b e->Q .Cx N e)->ED (P:=U) ⟨[GB],[EM]⟩ kv A t Q:=by
 have AG:=En (l:=l) (i:=i) (n:=9) (by decide);have M:=En (l:=l) (i:=i+1) (n:=2) (by decide);obtain⟨d,O⟩: ∃d,d=8+Bq l i 9:=⟨_,rfl⟩;obtain⟨k,u⟩:=DP (show 0<=1+Bq l (i+1) 2 by omega);have R:=C.add (fD:=4) (kb:=d) (p:=w) L (by decide) (by decide) (by omega) (by omega);obtain⟨b,dW,S,T,a3,a4,W⟩:=a71 (l:=l) B (J:=J) (g4:=g4) (g5:=g5) (ke:=ke) (iu:=iu) (ds:=ds++[Db ds.length 4 w d]) (m:=ds.length) MP k (i+2) g D.app K (by omega);refine⟨_,b,dW,R,S,⟨T,by omega⟩,by simp,by omega,λa v h=>h.app,λA t Q f x X Z A0=> ?_⟩;obtain⟨A1,or,y⟩:=Z;have z:=y.Cr;have AJ:=F z;have A2:IntKind.i64.wrap (8+Bq l i 9)=8+Bq l i 9:=Ah (by omega) (by omega);simp(disch:=first|omega|simp only[AD];omega)[kv,f,x,X,z,FZ,A2,-H,-E,-I,-G,-List.map_map];rw[<-O];refine PN (FC.at ⟨A1,or,y⟩ (dW:=i+1) (by omega)) (by omega) λAK A3=> ?_;obtain⟨A4,A5,j⟩:=A3;obtain⟨o,A7⟩: ∃o,o=i+1:=⟨_,rfl⟩;have q:=j.Cr;rw[<-A7]at q j u M;have AL:=F q;have A8:IntKind.i64.wrap (1+Bq l o 2)=(k:Int):=by rw[u];exact Ah (by omega) (by omega)
 simp(disch:=first|omega|simp only[AD];omega)[f,q,FZ,A8,-H,-E,-I,-G,-List.map_map];refine W _ _ _ (by simp[f]) (by simp[x]) (by simp) (by simp) (FC.at ⟨A4,A5,j⟩ (dW:=i+2) (by omega)) λN e A9 AB=> ?_;simp;exact A0 _ _ (λs r=>(A9 s (zu s r)).trans (by simp only[kA,CM,EK,or_false]at r;rcases r with rfl|rfl|rfl|rfl|rfl|rfl|rfl|rfl|rfl<;>simp)) AB
theorem a1O:IntKind.i64.wrap 1=1:=Ah (by decide) (by decide)
def Nr:List Nat:=[0,1,4,5,6]
theorem a7Q{l:List Int}(AM:l.length<=140737488355328){J:Int}{g4 g5 ke iu:Value}{ds:List Dj}{g:List IM}{i j Ab:Nat}(A7:Jr ds)(AN:JE ds g)(AO:g.length<=9)(Av:j<1000)(Aw:i+30<1000000)(Ax:ds.length<800)(Ap:j=0\/(F5 ds Ab 2/\F5 ds w 3)):
 ∃ (e:List Dj) (m:List IM) (dW Ak Al:Nat),Jr e/\JE e m/\(m.length<=9/\1<=m.length)/\e.length<=ds.length+4/\dW<=i+9/\F5 e Ak 2/\F5 e Al 3/\ ∀(A:A6) (t:V) (Q:BM->A6->V->Prop),A 0=AA 0->A 5=AA 6->A 8=Y Ab->A 9=Y w->A 10=Y j->FC l i J g4 g5 ke iu ds g t->
   (∀N A8,(∀s∈Nr,N s=A s)->N 8=Y Ak->N 9=Y Al->N 10=Y (j+1:Nat)->FC l dW J g4 g5 ke iu e m A8->Q .Cx N A8)->ED (P:=U) ⟨[GB],[EM]⟩ TP A t Q:=by
 have AP:=BX (n:=j) (by omega);by_cases A9:j=0
 ·subst A9;have A9:(0:Int)=0:=rfl;have j:Nat:=0;have Aq:=En (l:=l) (i:=i) (n:=17) (by decide);have AQ:=En (l:=l) (i:=i+1) (n:=17) (by decide);have a3:=En (l:=l) (i:=i+2) (n:=9) (by decide);obtain⟨b,AR⟩: ∃k,k=16+Bq l i 17:=⟨_,rfl⟩;obtain⟨c,AH⟩: ∃k,k=16+Bq l (i+1) 17:=⟨_,rfl⟩;obtain⟨f,C⟩: ∃k,k=8+Bq l (i+2) 9:=⟨_,rfl⟩;have AS:F5 ds 0 (1-1):=⟨_,A7.Lv,rfl⟩;have AT:=A7.add (fD:=1) (kb:=b) (p:=0) AS (by decide) (by decide) (by omega) (by omega);have AJ:=AT.add (fD:=2) (kb:=c) (p:=ds.length) MP (by decide) (by decide) (by omega) (by omega);have y:=AJ.add (fD:=3) (kb:=f) (p:=(ds++[Db ds.length 1 (0:Nat) b]).length) MP (by decide) (by decide) (by omega) (by omega);have D:(ds++[Db ds.length 1 ((0:Nat):Int) b]).length=ds.length+1:=(by simp);have K:(ds++[Db ds.length 1 ((0:Nat):Int) b]++[Db (ds.length+1) 2 (ds.length:Int) c]).length=ds.length+2:=(by simp);rw[D]at AJ y;rw[K]at y;have L:F5 (ds++[Db ds.length 1 ((0:Nat):Int) b]++[Db (ds.length+1) 2 (ds.length:Int) c]) (ds.length+1) 2:=by
   have:=MP (ds:=ds++[Db ds.length 1 ((0:Nat):Int) b]) (fD:=2) (kb:=c) (p:=ds.length);rw[D]at this;exact this
  have B:F5 (ds++[Db ds.length 1 ((0:Nat):Int) b]++[Db (ds.length+1) 2 (ds.length:Int) c]++[Db (ds.length+2) 3 ((ds.length+1:Nat):Int) f]) (ds.length+2) 3:=(by have:=MP (ds:=ds++[Db ds.length 1 ((0:Nat):Int) b]++[Db (ds.length+1) 2 (ds.length:Int) c]) (fD:=3) (kb:=f) (p:=(ds.length+1:Nat));rw[K]at this;exact this);obtain⟨e,m,dW,M,O,R,AB,AU,o,S⟩:=Zo (l:=l) AM (J:=J) (g4:=g4) (g5:=g5) (ke:=ke) (iu:=iu) (i:=i+3) y AN.app.app.app AO (by omega) B (by simp;omega);refine⟨e,m,dW,ds.length+1,ds.length+2,M,O,R,by simp at AB;omega,by omega,o _ _ (L.app),o _ _ B,λA t Q d h AE AF q T W=> ?_⟩;obtain⟨X,or,r⟩:=T;have u:=r.Cr;have AV:=F u;have AW:IntKind.i64.wrap (16+Bq l i 17)=b:=(by rw[AR];exact Ah (by omega) (by omega));simp(disch:=omega)[TP,d,h,q,u,FZ,AW];refine PN (FC.at ⟨X,or,r⟩ (dW:=i+1) (by omega)) (by omega) λAm AK=> ?_;obtain⟨AX,AY,Z⟩:=AK;obtain⟨A0,AZ⟩: ∃A0,A0=i+1:=⟨_,rfl⟩;have A1:=Z.Cr;have Ar:=F A1;rw[<-AZ]at A1 Z AH AQ;have Aa:IntKind.i64.wrap (16+Bq l A0 17)=c:=(by rw[AH];exact Ah (by omega) (by omega));simp(disch:=omega)[UT,d,h,A1,FZ,Aa];refine PN (ds:=ds++[Db ds.length 1 ((0:Nat):Int) b]) (FC.at ⟨AX,AY,Z⟩ (dW:=i+2) (by omega)) (by omega) λAs Ac=> ?_;obtain⟨Ad,Ae,z⟩:=Ac;obtain⟨A2,Af⟩: ∃A2,A2=i+2:=⟨_,rfl⟩;have A3:=z.Cr;have At:=F A3;rw[<-Af]at A3 z C a3;rw[D]at z⊢;have AG:IntKind.i64.wrap (8+Bq l A2 9)=f:=(by rw[C];exact Ah (by omega) (by omega));simp(disch:=omega)[d,h,A3,FZ,AG];refine PN (ds:=ds++[Db ds.length 1 ((0:Nat):Int) b]++[Db (ds.length+1) 2 (ds.length:Int) c]) (FC.at ⟨Ad,Ae,z⟩ (dW:=i+3) (by omega)) (by omega) λt3 AL=> ?_;rw[K]at AL⊢;simp;refine S _ _ _ (by simp[d]) (by simp[h]) (by simp) AL λN A8 a A4=> ?_;have A5:=(a 10 (by decide)).trans (show _=Y (0:Nat) by simp[q]);simp[A5];exact W _ _ (λs v=>by
   simp only[Nr,CM,EK,or_false]at v;rcases v with rfl|rfl|rfl|rfl|rfl
   ·simpa using a 0 (by decide)
   ·simpa using a 1 (by decide)
   ·simpa using a 4 (by decide)
   ·simpa using a 5 (by decide)
   ·simpa using a 6 (by decide)) (by simpa using a 8 (by decide)) (by simpa using a 9 (by decide)) (by simp[a1O]) A4
 obtain⟨L,B⟩:=Ap.resolve_left A9;by_cases Ag:Bq l i 4=0
 ·skip
  have Aq:=En (l:=l) (i:=(i+1)) (n:=17) (by decide);have AQ:=En (l:=l) (i:=(i+1)+1) (n:=17) (by decide);have a3:=En (l:=l) (i:=(i+1)+2) (n:=9) (by decide);obtain⟨b,AR⟩: ∃k,k=16+Bq l (i+1) 17:=⟨_,rfl⟩;obtain⟨c,AH⟩: ∃k,k=16+Bq l ((i+1)+1) 17:=⟨_,rfl⟩;obtain⟨f,C⟩: ∃k,k=8+Bq l ((i+1)+2) 9:=⟨_,rfl⟩;have AS:F5 ds 0 (1-1):=⟨_,A7.Lv,rfl⟩;have AT:=A7.add (fD:=1) (kb:=b) (p:=0) AS (by decide) (by decide) (by omega) (by omega);have AJ:=AT.add (fD:=2) (kb:=c) (p:=ds.length) MP (by decide) (by decide) (by omega) (by omega);have y:=AJ.add (fD:=3) (kb:=f) (p:=(ds++[Db ds.length 1 (0:Nat) b]).length) MP (by decide) (by decide) (by omega) (by omega);have D:(ds++[Db ds.length 1 ((0:Nat):Int) b]).length=ds.length+1:=(by simp);have K:(ds++[Db ds.length 1 ((0:Nat):Int) b]++[Db (ds.length+1) 2 (ds.length:Int) c]).length=ds.length+2:=(by simp);rw[D]at AJ y;rw[K]at y;have L:F5 (ds++[Db ds.length 1 ((0:Nat):Int) b]++[Db (ds.length+1) 2 (ds.length:Int) c]) (ds.length+1) 2:=(by have:=MP (ds:=ds++[Db ds.length 1 ((0:Nat):Int) b]) (fD:=2) (kb:=c) (p:=ds.length);rw[D]at this;exact this);have B:F5 (ds++[Db ds.length 1 ((0:Nat):Int) b]++[Db (ds.length+1) 2 (ds.length:Int) c]++[Db (ds.length+2) 3 ((ds.length+1:Nat):Int) f]) (ds.length+2) 3:=(by have:=MP (ds:=ds++[Db ds.length 1 ((0:Nat):Int) b]++[Db (ds.length+1) 2 (ds.length:Int) c]) (fD:=3) (kb:=f) (p:=(ds.length+1:Nat));rw[K]at this;exact this);obtain⟨e,m,dW,M,O,R,AB,AU,o,S⟩:=Zo (l:=l) AM (J:=J) (g4:=g4) (g5:=g5) (ke:=ke) (iu:=iu) (i:=(i+1)+3) y AN.app.app.app AO (by omega) B (by simp;omega);refine⟨e,m,dW,ds.length+1,ds.length+2,M,O,R,by simp at AB;omega,by omega,o _ _ (L.app),o _ _ B,λA t Q d h AE AF q T W=> ?_⟩;obtain⟨X,or,r⟩:=T;have u:=r.Cr;have AV:=F u;have AW:IntKind.i64.wrap (16+Bq l (i+1) 17)=b:=(by rw[AR];exact Ah (by omega) (by omega));simp(disch:=omega)[TP,d,h,q,u,FZ,A9,Ag,AW];refine PN (FC.at ⟨X,or,r⟩ (dW:=(i+1)+1) (by omega)) (by omega) λAm AK=> ?_;obtain⟨AX,AY,Z⟩:=AK;obtain⟨A0,AZ⟩: ∃A0,A0=(i+1)+1:=⟨_,rfl⟩;have A1:=Z.Cr;have Ar:=F A1;rw[<-AZ]at A1 Z AH AQ;have Aa:IntKind.i64.wrap (16+Bq l A0 17)=c:=(by rw[AH];exact Ah (by omega) (by omega));simp(disch:=omega)[UT,d,h,A1,FZ,Aa];refine PN (ds:=ds++[Db ds.length 1 ((0:Nat):Int) b]) (FC.at ⟨AX,AY,Z⟩ (dW:=(i+1)+2) (by omega)) (by omega) λAs Ac=> ?_;obtain⟨Ad,Ae,z⟩:=Ac;obtain⟨A2,Af⟩: ∃A2,A2=(i+1)+2:=⟨_,rfl⟩;have A3:=z.Cr;have At:=F A3;rw[<-Af]at A3 z C a3;rw[D]at z⊢;have AG:IntKind.i64.wrap (8+Bq l A2 9)=f:=(by rw[C];exact Ah (by omega) (by omega));simp(disch:=omega)[d,h,A3,FZ,AG];refine PN (ds:=ds++[Db ds.length 1 ((0:Nat):Int) b]++[Db (ds.length+1) 2 (ds.length:Int) c]) (FC.at ⟨Ad,Ae,z⟩ (dW:=(i+1)+3) (by omega)) (by omega) λt3 AL=> ?_;rw[K]at AL⊢;simp;refine S _ _ _ (by simp[d]) (by simp[h]) (by simp) AL λN A8 a A4=> ?_;have A5:=(a 10 (by decide)).trans (show _=Y j by simp[q]);simp[A5,AP];exact W _ _ (λs v=>by
   simp only[Nr,CM,EK,or_false]at v;rcases v with rfl|rfl|rfl|rfl|rfl
   ·simpa using a 0 (by decide)
   ·simpa using a 1 (by decide)
   ·simpa using a 4 (by decide)
   ·simpa using a 5 (by decide)
   ·simpa using a 6 (by decide)) (by simpa using a 8 (by decide)) (by simpa using a 9 (by decide)) (by simp[]) A4
 by_cases An:Bq l (i+1) 2=0
 ·skip
  have a3:=En (l:=l) (i:=i+2) (n:=9) (by decide);obtain⟨f,C⟩: ∃k,k=8+Bq l (i+2) 9:=⟨_,rfl⟩;have y:=A7.add (fD:=3) (kb:=f) (p:=Ab) L (by decide) (by decide) (by omega) (by omega);have Ao:F5 (ds++[Db ds.length 3 (Ab:Int) f]) ds.length 3:=MP;obtain⟨e,m,dW,M,O,R,AB,AU,o,S⟩:=Zo (l:=l) AM (J:=J) (g4:=g4) (g5:=g5) (ke:=ke) (iu:=iu) (i:=i+3) y AN.app AO (by omega) Ao (by simp;omega);refine⟨e,m,dW,Ab,ds.length,M,O,R,by simp at AB;omega,by omega,o _ _ L.app,o _ _ Ao,λA t Q d h AE AF q T W=> ?_⟩;obtain⟨X,or,r⟩:=T;have u:=r.Cr;have AV:=F u;have AG:IntKind.i64.wrap (8+Bq l (i+2) 9)=f:=(by rw[C];exact Ah (by omega) (by omega));have Au:((i:Int)+1+1).toNat=i+2:=(by omega);have Ay:IntKind.i64.wrap (8+Bq l (i+1+1) 9)=f:=AG;simp(disch:=omega)[TP,UT,d,h,AE,q,u,FZ,A9,Ag,An,AG,Au];refine PN (FC.at ⟨X,or,r⟩ (dW:=i+3) (by omega)) (by omega) λAm AK=> ?_;simp;refine S _ _ _ (by simp[d]) (by simp[h]) (by simp) AK λN A8 a A4=> ?_;have A5:=(a 10 (by decide)).trans (show _=Y j by simp[q]);simp(disch:=omega)[A5,AP];exact W _ _ (λs v=>by
   simp only[Nr,CM,EK,or_false]at v;rcases v with rfl|rfl|rfl|rfl|rfl
   ·simpa using a 0 (by decide)
   ·simpa using a 1 (by decide)
   ·simpa using a 4 (by decide)
   ·simpa using a 5 (by decide)
   ·simpa using a 6 (by decide)) (by simpa[AE]using a 8 (by decide)) (by simpa[AF]using a 9 (by decide)) (by simp[]) A4
 ·skip
  obtain⟨e,m,dW,M,O,R,AB,AU,o,S⟩:=Zo (l:=l) AM (J:=J) (g4:=g4) (g5:=g5) (ke:=ke) (iu:=iu) (i:=i+2) A7 AN AO (by omega) B (by omega);refine⟨e,m,dW,Ab,w,M,O,R,by omega,by omega,o _ _ L,o _ _ B,λA t Q d h AE AF q T W=> ?_⟩;obtain⟨X,or,r⟩:=T;have u:=r.Cr;have AV:=F u;simp(disch:=first|omega|simp only[AD];omega)[TP,UT,d,q,u,FZ,A9,Ag,An,-H,-E,-I,-G,-List.map_map];refine S _ _ _ (by simp[d]) (by simp[h]) (by simp[AF]) (FC.at ⟨X,or,r⟩ (dW:=i+2) (by omega)) λN A8 a A4=> ?_;have A5:=(a 10 (by decide)).trans (show _=Y j by simp[q]);simp[A5,AP];exact W _ _ (λs v=>by
   simp only[Nr,CM,EK,or_false]at v;rcases v with rfl|rfl|rfl|rfl|rfl
   ·simpa using a 0 (by decide)
   ·simpa using a 1 (by decide)
   ·simpa using a 4 (by decide)
   ·simpa using a 5 (by decide)
   ·simpa using a 6 (by decide)) (by simpa[AE]using a 8 (by decide)) (by simpa[AF]using a 9 (by decide)) (by simp[]) A4
theorem zz{l:List Int}(E:l.length<=140737488355328){J:Int}{g4 g5 ke iu:Value}(AL:Z<=100): ∀(r j i:Nat) (ds:List Dj) (g:List IM) (Ab w:Nat),j+r=Z->Jr ds->JE ds g->g.length<=9->ds.length<=1+4*j->i+10*r+100<1000000->(j=0\/(F5 ds Ab 2/\F5 ds w 3))->
 ∃ (b:List Dj) (d:List IM) (dW:Nat),Jr b/\JE b d/\(d.length<=9/\(1<=r+g.length->1<=d.length))/\b.length<=1+4*Z/\dW<=i+10*r/\ ∀(A:A6) (t:V) (Q:BM->A6->V->Prop),A 0=AA 0->A 5=AA 6->A 6=Y Z->A 8=Y Ab->A 9=Y w->A 10=Y j->FC l i J g4 g5 ke iu ds g t->
   (∀N f,(∀s∈Nr,N s=A s)->FC l dW J g4 g5 ke iu b d f->Q (.Ai 0) N f)->BY U (.loop Zx) A t Q:=by
 intro r;induction r with
 | zero=>intro j i ds g Ab w F n o p G H y;refine⟨ds,g,i,n,o,⟨p,by omega⟩,by omega,by omega,λA t Q q u h z B k v x=> ?_⟩;refine BU (an:=⟨[GB],[EM]⟩) λK C=> ?_;have c: ¬(j:Int)<Z:=(by omega);have L: ¬j<Z:=(by omega);simp[Zx,h,k,c];exact x _ _ (λs m=>by simp only[Nr,CM,EK,or_false]at m;rcases m with rfl|rfl|rfl|rfl|rfl<;>simp) v
 | succ r M=>intro j i ds g Ab w F n o p G H y;obtain⟨O,P,R,S,T,W,X,a3,a4,AM,A0,A1,A2⟩:=a7Q (l:=l) E (J:=J) (g4:=g4) (g5:=g5) (ke:=ke) (iu:=iu) (i:=i) (j:=j) n o p (by omega) (by omega) (by omega) y;obtain⟨A3,A4,A5,A7,A8,D,A9,AN,AB⟩:=M (j+1) R O P S T (by omega) W X a3.1 (by omega) (by omega) (.inr ⟨A0,A1⟩);refine⟨A3,A4,A5,A7,A8,⟨D.1,λ_=>D.2 (by have:=a3.2;omega)⟩,A9,by omega,λA t Q q u h z B k v x=> ?_⟩;refine BU (an:=⟨[GB],[EM]⟩) λK C=> ?_;have c:(j:Int)<Z:=(by omega);have L:j<Z:=(by omega);simp[Zx,h,k,c];refine A2 _ _ _ (by simp[q]) (by simp[u]) (by simp[z]) (by simp[B]) (by simp[k]) v λN f m AD AE AF AG=> ?_;have e: ∀s∈Nr,N s=A s:= λs a=>(m s a).trans (by simp only[Nr,CM,EK,or_false]at a;rcases a with rfl|rfl|rfl|rfl|rfl<;>simp);simp;exact C _ _ (AB N f Q ((e 0 (by decide)).trans q) ((e 5 (by decide)).trans u) ((e 6 (by decide)).trans h) AD AE AF AG λAH AJ AK=>x AH AJ λs a=>(AK s a).trans (e s a))
theorem a6b:Fl 1 2:=by unfold Fl;omega
theorem aA6:(((List.replicate n (C9 1 2)).map BO).flatten).length=n*3:=by rw[a0i,Ps]
def XX:List Nat:=[0,1,4,5,14,15,16,17]
theorem a7d(b:N 0=A 0)(c:N 1=A 1)(d:N 4=A 4)(e:N 5=A 5)(f:N 14=A 14)(g:N 15=A 15)(h:N 16=A 16)(i:N 17=A 17): ∀k∈XX,N k=A k:= λk a=>by simp only[XX,CM,EK,or_false]at a;rcases a with rfl|rfl|rfl|rfl|rfl|rfl|rfl|rfl<;>assumption
theorem aAC{a0 bA bX a3 a4 fJ ju lo oN pU dA ea gk hi nZ:Value}(AK:(R:Int)=if m<1 then 1 else m)(AL:R<=100)(K: ∀b∈aF,b≠P/\b≠s9)(S:s9≠P):
 ∀ (r n:Nat) (d:Nat) (A:A6) (t:V),n+r=R->A 16=Y m->A 17=AA P->A 18=Y n->t.W P=some ⟨[a0,bA,bX,a3,a4,fJ,ju,lo,oN,AQ s9 iJ.length 1,AQ d n 3,pU,dA,ea,gk,hi,nZ],true⟩->t.W s9=some ⟨iJ.map Y,true⟩->t.W d=some ⟨((List.replicate n (C9 1 2)).map BO).flatten,true⟩->
   d≠P->d≠s9->(∀b∈aF,b≠d/\b<t.next)->
   (∀N f,(∀s∈XX,N s=A s)->t.next<=f.next->(∀b∈aF,f.W b=t.W b)->f.W P=some ⟨[a0,bA,bX,a3,a4,fJ,ju,lo,oN,AH iJ,DZ (List.replicate R (C9 1 2)),pU,dA,ea,gk,hi,nZ],true⟩->Q (.Ai 6) N f)->BY U (.loop WT) A t Q:=by
 intro r;induction r with
 | zero=>
   intro n d A t T k v w g h i l y q B;have X:n=R:=(by omega);subst X;have C:=F g;have L:=F h;have Z:=F i;refine LO (o:=s9) (p:=P) (j:=9) (z:=1) (b5:=iJ.map λx=>[Y x]) (by rw[K6];exact h) KT g (by simp) S ?_;refine LO (o:=d) (p:=P) (j:=10) (z:=3) (b5:=(List.replicate n (C9 1 2)).map BO) (cells:=[a0,bA,bX,a3,a4,fJ,ju,lo,oN,AH iJ,AQ d n 3,pU,dA,ea,gk,hi,nZ]) ?_ u3 ?_ (by simp) l ?_
   ·rw[A3 l,A3 y];exact i
   ·rw[AT (by simpa using C)];simp
   refine BU (an:=⟨[GB,Nl],[EM]⟩) λA2 M=> ?_;have c: ¬((n:Int)<if m<1 then 1 else m):=(by omega);simp(disch:=omega)[WT,gP,k,w,c];refine B _ _ (a7d (by simp) (by simp) (by simp) (by simp) (by simp) (by simp) (by simp) (by simp)) (by simp) (λb hb=> ?_) ?_
   ·obtain⟨u,O⟩:=K b hb;obtain⟨D,A4⟩:=q b hb;rw[A3 u,A3 D,A3 u,A3 O]
   ·rw[AT (by simpa using C)];simp
 | succ r A5=>
   intro n d A t T k v w g h i l y q B;refine BU (an:=⟨[GB,Nl],[EM]⟩) λA2 M=> ?_;have C:=F g;have L:=F h;have Z:=F i;have c:(n:Int)<if m<1 then 1 else m:=by omega
   have AM:=a6b;have A7:=BX (n:=n) (by omega);have A8:=aA6 (n:=n);have AN:(List.replicate n [Value.bool (C9 1 2).HY,AP (C9 1 2).a,AP (C9 1 2).b]).flatten.length=n*3:=(by simpa[BO]using A8);have A9:(n+1)*56<=140737488355328/\n<=9223372036854775806:=(by omega);have AO:P≠d:= λe=>l e.symm;have AB:s9≠d:= λe=>y e.symm;simp(disch:=first|omega|simp only[AD];omega)[WT,gP,k,v,w,c,g,i,BO,A9,A7,-H,-E,-I,-G,-List.map_map];refine M _ _ (A5 (n+1) (t.next+4) _ _ (by omega) (by simp[k]) (by simp[v]) (by simp) ?_ ?_ ?_ (by omega) (by omega) (λb hb=> ?_) λN f AE AF AG AJ=>B N f (λs J=>(AE s J).trans ?_) (by simp at AF;omega) (λb hb=>(AG b hb).trans ?_) AJ)
   ·rw[AT (by simp;omega)]
   ·rw[A3 (by omega),A3 (by omega),A3 AB,A3 (by omega),AU L];exact h
   ·rw[A3 (by omega),AT (by simp),DV (by omega),List.replicate_succ'];simp[BO]
   ·have:=(q b hb).2;exact⟨by omega,by simp;omega⟩
   ·simp only[XX,CM,EK,or_false]at J;rcases J with rfl|rfl|rfl|rfl|rfl|rfl|rfl|rfl<;>simp
   ·obtain⟨u,O⟩:=K b hb;obtain⟨D,A4⟩:=q b hb;rw[A3 u,A3 (by omega),A3 D,A3 (by omega),V.AU]
theorem q3{a0 bA bX a3 a4 fJ ju lo oN pU dA ea gk hi nZ:Value}(g:(R:Int)=if m<1 then 1 else m)(h:R<=100){t:V}(i:A 16=Y m)(k:A 17=AA P)(l:A 18=Y 0)
 (d:t.W P=some ⟨[a0,bA,bX,a3,a4,fJ,ju,lo,oN,AQ s9 iJ.length 1,.slice none 0 0,pU,dA,ea,gk,hi,nZ],true⟩) (e:t.W s9=some ⟨iJ.map Y,true⟩) (f:s9≠P) (c: ∀b∈aF,b≠P/\b≠s9/\b<t.next)
 (n: ∀N a,(∀s∈XX,N s=A s)->t.next<=a.next->(∀b∈aF,a.W b=t.W b)->a.W P=some ⟨[a0,bA,bX,a3,a4,fJ,ju,lo,oN,AH iJ,DZ (List.replicate R (C9 1 2)),pU,dA,ea,gk,hi,nZ],true⟩->Q (.Ai 6) N a):BY U (.loop WT) A t Q:=by
 have y:=F d;have p:=F e;refine Oa (o:=P) (j:=10) (z:=3) d rfl ?_;refine aAC (P:=P) (s9:=s9) (aF:=aF) (a0:=a0) (bA:=bA) (bX:=bX) (a3:=a3) (a4:=a4) (fJ:=fJ) (ju:=ju) (lo:=lo) (oN:=oN) (pU:=pU) (dA:=dA) (ea:=ea) (gk:=gk) (hi:=hi) (nZ:=nZ) (iJ:=iJ) g h (λb hb=>⟨(c b hb).1,(c b hb).2.1⟩) f R 0 t.next _ _ (by omega) i k (by simpa using l) ?_ ?_ ?_ (by omega) (by omega) (λb hb=> ?_) λN a q r u v=>n N a q (by simp at r;omega) (λb hb=>(u b hb).trans ?_) v
 ·rw[AT (by simp;omega)];rfl
 ·rw[A3 f,A3 (by omega),AU p];exact e
 ·rw[A3 (by omega),AT (by simp)];simp
 ·have:=(c b hb).2.2;exact⟨by omega,by simp;omega⟩
 ·obtain⟨w,B,x⟩:=c b hb;rw[A3 w,A3 (by omega),AU x]
structure Xg(x:Dw)(n:Nat):Prop where
 BP:x.name=Eu 112 n
 k:1<=x.k/\x.k<=2
 m:0<=x.m/\x.m<=2
 q:x.k<=x.q/\x.q<=x.k+x.m
 D9:x.D9.a=0/\x.D9.b=0/\x.D9.c=0/\0<=x.D9.d/\x.D9.d<=3/\0<=x.D9.e/\x.D9.e<=2
 aQU:x.Aa=[0,1]\/x.Aa=[0]
 Mi: ∃R:Nat,(R:Int)=(if x.m<1 then 1 else x.m)/\x.Mi=List.replicate R (C9 1 2)
 Kf:x.Kf=C9 1 1000
 KW:x.KW=C9 30 1
theorem sZ{k q a b:Int}(e:1<=k/\k<=2)(f:0<=m/\m<=2)(g:k<=q/\q<=k+m)(c:0<=a/\a<=3)(d:0<=b/\b<=2)(h:iJ=[0,1]\/iJ=[0])(i:(R:Int)=if m<1 then 1 else m):Xg ⟨Eu 112 n,k,m,q,⟨0,0,0,a,b⟩,iJ,List.replicate R (C9 1 2),C9 1 1000,C9 30 1⟩ n:=
 ⟨rfl,e,f,g,⟨rfl,rfl,rfl,c.1,c.2,d.1,d.2⟩,h,⟨R,i,rfl⟩,rfl,rfl⟩
def SA(ps:List Dw)(ag:Nat):Prop:= ∀(i:Nat) (x:Dw),ps[i]?=some x->Xg x (ag-i)
theorem SA.add{x:Dw}(h:SA ps ag)(b:Xg x (ag-ps.length)):SA (ps++[x]) ag:= λi y a=>by
 by_cases c:i<ps.length
 ·rw[L8 c]at a;exact h i y a
 ·have d:=(AX.1 a).1;simp only[Ds,Df,Jx]at d;have e:i=ps.length:=(by omega);subst e;rw[KM (Ao _)]at a;simp at a;subst a;exact b
structure a4U(l:List Int)(i:Nat)(J:Int)(g4 g5 oK oL iu:Value)(ps:List Dw)(op:Nat)(t:V):Prop where
 Cr:t.W 0=some ⟨[AH l,Y i],true⟩
 OJ:t.W 1=some ⟨Oq,true⟩
 aLc:t.W 6=some ⟨[Y J,g4,g5,oK,oL,AQ op ps.length 17,iu],true⟩
 Ij:t.W op=some ⟨(ps.map B3).flatten,true⟩
 xn:op≠0
 a39:op≠1
 aQR:op≠6
def Zl(l:List Int)(i:Nat)(J:Int)(g4 g5 oK oL iu:Value)(ps:List Dw)(t:V):Prop:= ∃op,a4U l i J g4 g5 oK oL iu ps op t
def Qd:List Nat:=[0,1,4,5]
theorem tu{l:List Dw}:(l.map B3).flatten.length=l.length*17:=by rw[JQ (z:=17) λr a=>by obtain⟨x,_,rfl⟩:=CP.1 a;rfl,Eb]
theorem aEx{l:List Int}(BK:l.length<=140737488355328){J:Int}{g4 g5 iu:Value}(BL:ag<=100): ∀(r i:Nat) (ps:List Dw),ps.length+r=ag->SA ps ag->i+10*r+100<1000000->
 ∃ (h:List Dw) (dW:Nat),SA h ag/\h.length=ag/\dW<=i+10*r/\ ∀(A:A6) (t:V) (Q:BM->A6->V->Prop),A 0=AA 0->A 5=AA 6->A 14=Y r->Zl l i J g4 g5 oK oL iu ps t->
   (∀N d,(∀s∈Qd,N s=A s)->Zl l dW J g4 g5 oK oL iu h d->Q (.Ai 4) N d)->BY U (.loop Vl) A t Q:=by
 intro r;induction r with
 | zero=>intro i ps Ap A1 Aq;refine⟨ps,i,A1,by omega,by omega,λA t Q g v j w x=> ?_⟩;refine BU (an:=⟨[GB,Nl],[EM]⟩) λAX A2=> ?_;simp[Vl,j];exact x _ _ (λs c=>by simp only[Qd,CM,EK,or_false]at c;rcases c with rfl|rfl|rfl|rfl<;>simp) w
 | succ r AY=>
   intro i ps Ap A1 Aq;have BN:=En (l:=l) (i:=i) (n:=2) (by decide);have As:=En (l:=l) (i:=i+1) (n:=3) (by decide);obtain⟨k,At⟩: ∃k,1+Bq l i 2=k:=⟨_,rfl⟩;obtain⟨m,A5⟩: ∃m,Bq l (i+1) 3=m:=⟨_,rfl⟩;rw[A5]at As;have Au:=En (l:=l) (i:=i+2) (n:=m+1) (by omega);obtain⟨AZ,A7⟩: ∃q,Bq l (i+2) (m+1)=q:=⟨_,rfl⟩;rw[A7]at Au;obtain⟨q,Av⟩: ∃q,k+AZ=q:=⟨_,rfl⟩;have Aw:=En (l:=l) (i:=i+3) (n:=4) (by decide);obtain⟨A3,A8⟩: ∃m,Bq l (i+3) 4=m:=⟨_,rfl⟩;rw[A8]at Aw;have Ax:=En (l:=l) (i:=i+4) (n:=3) (by decide);obtain⟨A4,A9⟩: ∃m,Bq l (i+4) 3=m:=⟨_,rfl⟩;rw[A9]at Ax;obtain⟨R,y⟩: ∃R:Nat,(R:Int)=if m<1 then 1 else m:=⟨(if m<1 then 1 else m).toNat,by split<;>omega⟩
   have BP:R<=2:=(by split at y<;>omega);have Aa:IntKind.i64.wrap (1+Bq l i 2)=k:=(by rw[Ah (by omega) (by omega)];exact At);have Ab:IntKind.i64.wrap (m+1)=m+1:=Ah (by omega) (by omega);have Ac:IntKind.i64.wrap (k+AZ)=q:=(by rw[Ah (by omega) (by omega)];exact Av);have Ad:IntKind.i64.wrap (r:Int)=(r:Int):=Ah (by omega) (by omega);have Ae:(0:Int)<(r:Int)+1:=(by omega);have Af:((i:Int)+1).toNat=i+1:=(by omega);have Ag:((i:Int)+1+1).toNat=i+2:=(by omega);have Ak:((i:Int)+1+1+1).toNat=i+3:=(by omega);have Al:((i:Int)+1+1+1+1).toNat=i+4:=(by omega);have Am:((i:Int)+1+1+1+1+1).toNat=i+5:=(by omega);have An:GB.fn [.int .u8 112,.int .i64 ((r:Int)+1)]=some (.string (Eu 112 (r+1))):=cC (n:=r+1) (C:=112) rfl ⟨by decide,by omega⟩;have BQ:Fl 1 1000:=(by unfold Fl;omega);have BS:Fl 30 1:=(by unfold Fl;omega);by_cases Ao:Bq l (i+5) 5=0
   ·skip
    obtain⟨h,dW,z,B,AB,D⟩:=AY (i+6) (ps++[⟨Eu 112 (r+1),k,m,q,⟨0,0,0,A3,A4⟩,[0],List.replicate R (C9 1 2),C9 1 1000,C9 30 1⟩]) (by simp;omega) (A1.add (by have:ag-ps.length=r+1:=(by omega);rw[this];exact sZ ⟨by omega,by omega⟩ ⟨by omega,by omega⟩ ⟨by omega,by omega⟩ ⟨by omega,by omega⟩ ⟨by omega,by omega⟩ (.inr rfl) y)) (by omega);refine⟨h,dW,z,B,by omega,λA t Q g v j w x=> ?_⟩;obtain⟨op,⟨K,L,M,O,AE,AF,AG⟩⟩:=w;refine BU (an:=⟨[GB,Nl],[EM]⟩) λAX A2=> ?_;have Ay:=F K;have Az:=F L;have B0:=F M;have B1:=F O;simp(disch:=first|omega|simp only[AD];omega)[Vl,iR,g,j,Ae,K,FZ,An,BO,Aa,Ab,Ac,A5,A7,A8,A9,Af,Ag,Ak,Al,Am,Ao];refine q3 (P:=t.next+14) (s9:=t.next+16) (aF:=[0,1,6,op]) (a0:=CU (Eu 112 (r+1))) (bA:=Y k) (bX:=Y m) (a3:=Y q) (a4:=Y 0) (fJ:=Y 0) (ju:=Y 0) (lo:=Y A3) (oN:=Y A4) (pU:= .bool (C9 1 1000).HY) (dA:=AP (C9 1 1000).a) (ea:=AP (C9 1 1000).b) (gk:= .bool (C9 30 1).HY) (hi:=AP (C9 30 1).a) (nZ:=AP (C9 30 1).b) (iJ:=[0]) (m:=m) (R:=R) y (by omega) (by simp) (by simp) (by simp) (by simp(disch:=first|omega|simp only[AD];omega)[-H,-E,-I,-G,-List.map_map]) (by simp(disch:=first|omega|simp only[AD];omega)[-H,-E,-I,-G,-List.map_map]) (by omega) (λb hb=> ?_) λN d c AJ f o=> ?_
    ·simp only[CM,EK,or_false]at hb;simp only[Ar,BC];omega
    have BB: ¬0=op:= λe=>AE e.symm;have BD: ¬1=op:= λe=>AF e.symm;have BE: ¬6=op:= λe=>AG e.symm;have S:d.W 0=some ⟨[AH l,Y (i+6:Nat)],true⟩:=(f 0 (by simp)).trans (by simp(disch:=first|omega|simp only[AD];omega)[-H,-E,-I,-G,-List.map_map];omega);have AK:d.W 1=some ⟨Oq,true⟩:=(f 1 (by simp)).trans (by simp(disch:=first|omega|simp only[AD];omega)[L,-H,-E,-I,-G,-List.map_map]);have T:d.W 6=some ⟨[Y J,g4,g5,oK,oL,AQ op ps.length 17,iu],true⟩:=(f 6 (by simp)).trans (by simp(disch:=first|omega|simp only[AD];omega)[M,-H,-E,-I,-G,-List.map_map]);have X:d.W op=some ⟨(ps.map B3).flatten,true⟩:=(f op (by simp)).trans (by simp(disch:=first|omega|simp only[AD];omega)[O,-H,-E,-I,-G,-List.map_map]);have z0:N 0=AA 0:=(c 0 (by decide)).trans (by simp[g]);have AL:N 1=A 1:=(c 1 (by decide)).trans (by simp);have z4:N 4=A 4:=(c 4 (by decide)).trans (by simp);have p:N 5=AA 6:=(c 5 (by decide)).trans (by simp[v]);have AM:N 14=Y ((r:Int)+1):=(c 14 (by decide)).trans (by simp[j]);have Z:N 17=AA (t.next+14):=(c 17 (by decide)).trans (by simp);clear c f AJ;obtain⟨P,AN⟩: ∃P,P=t.next+14:=⟨_,rfl⟩
    have A0:P≠0/\P≠1/\P≠6/\P≠op:=(by omega);rw[<-AN]at o Z;obtain⟨A0,BF,BG,pp⟩:=A0;have BH:=F S;have BI:=F T;have mp:=F X;have BJ:=F o;have AO:=tu (l:=ps);have AR:(ps.length+1)*240<=140737488355328/\ps.length<=9223372036854775806:=(by omega);simp(disch:=first|omega|simp only[AD];omega)[p,AM,Z,T,X,o,AO,AR,Ad,-H,-E,-I,-G,-List.map_map];refine A2 _ _ (D _ _ _ (by simp[z0]) (by simp[p]) (by simp) ⟨d.next+4,?_,?_,?_,?_,by omega,by omega,by omega⟩ λAS AT AU AV=>x AS AT (λs u=>(AU s u).trans ?_) AV)
    ·simp(disch:=omega)[S]
    ·simp(disch:=omega)[AK]
    ·simp(disch:=first|omega|simp only[AD];omega)[-H,-E,-I,-G,-List.map_map]
    ·simp(disch:=first|omega|simp only[AD];omega)[-H,-E,-I,-G,-List.map_map];rw[DV (by omega)];simp[B3]
    ·simp only[Qd,CM,EK,or_false]at u;rcases u with rfl|rfl|rfl|rfl<;>simp[z0,AL,z4,p,g,v]
   ·skip
    obtain⟨h,dW,z,B,AB,D⟩:=AY (i+6) (ps++[⟨Eu 112 (r+1),k,m,q,⟨0,0,0,A3,A4⟩,[0,1],List.replicate R (C9 1 2),C9 1 1000,C9 30 1⟩]) (by simp;omega) (A1.add (by have:ag-ps.length=r+1:=(by omega);rw[this];exact sZ ⟨by omega,by omega⟩ ⟨by omega,by omega⟩ ⟨by omega,by omega⟩ ⟨by omega,by omega⟩ ⟨by omega,by omega⟩ (.inl rfl) y)) (by omega);refine⟨h,dW,z,B,by omega,λA t Q g v j w x=> ?_⟩;obtain⟨op,⟨K,L,M,O,AE,AF,AG⟩⟩:=w;refine BU (an:=⟨[GB,Nl],[EM]⟩) λAX A2=> ?_;have Ay:=F K;have Az:=F L;have B0:=F M;have B1:=F O;simp(disch:=first|omega|simp only[AD];omega)[Vl,iR,g,j,Ae,K,FZ,An,BO,Aa,Ab,Ac,A5,A7,A8,A9,Af,Ag,Ak,Al,Am,Ao];refine q3 (P:=t.next+14) (s9:=t.next+10) (aF:=[0,1,6,op]) (a0:=CU (Eu 112 (r+1))) (bA:=Y k) (bX:=Y m) (a3:=Y q) (a4:=Y 0) (fJ:=Y 0) (ju:=Y 0) (lo:=Y A3) (oN:=Y A4) (pU:= .bool (C9 1 1000).HY) (dA:=AP (C9 1 1000).a) (ea:=AP (C9 1 1000).b) (gk:= .bool (C9 30 1).HY) (hi:=AP (C9 30 1).a) (nZ:=AP (C9 30 1).b) (iJ:=[0,1]) (m:=m) (R:=R) y (by omega) (by simp) (by simp) (by simp) (by simp(disch:=first|omega|simp only[AD];omega)[-H,-E,-I,-G,-List.map_map]) (by simp(disch:=first|omega|simp only[AD];omega)[-H,-E,-I,-G,-List.map_map]) (by omega) (λb hb=> ?_) λN d c AJ f o=> ?_
    ·simp only[CM,EK,or_false]at hb;simp only[Ar,BC];omega
    have BB: ¬0=op:= λe=>AE e.symm;have BD: ¬1=op:= λe=>AF e.symm;have BE: ¬6=op:= λe=>AG e.symm;have S:d.W 0=some ⟨[AH l,Y (i+6:Nat)],true⟩:=(f 0 (by simp)).trans (by simp(disch:=first|omega|simp only[AD];omega)[-H,-E,-I,-G,-List.map_map];omega);have AK:d.W 1=some ⟨Oq,true⟩:=(f 1 (by simp)).trans (by simp(disch:=first|omega|simp only[AD];omega)[L,-H,-E,-I,-G,-List.map_map]);have T:d.W 6=some ⟨[Y J,g4,g5,oK,oL,AQ op ps.length 17,iu],true⟩:=(f 6 (by simp)).trans (by simp(disch:=first|omega|simp only[AD];omega)[M,-H,-E,-I,-G,-List.map_map]);have X:d.W op=some ⟨(ps.map B3).flatten,true⟩:=(f op (by simp)).trans (by simp(disch:=first|omega|simp only[AD];omega)[O,-H,-E,-I,-G,-List.map_map]);have z0:N 0=AA 0:=(c 0 (by decide)).trans (by simp[g]);have AL:N 1=A 1:=(c 1 (by decide)).trans (by simp);have z4:N 4=A 4:=(c 4 (by decide)).trans (by simp);have p:N 5=AA 6:=(c 5 (by decide)).trans (by simp[v]);have AM:N 14=Y ((r:Int)+1):=(c 14 (by decide)).trans (by simp[j]);have Z:N 17=AA (t.next+14):=(c 17 (by decide)).trans (by simp);clear c f AJ;obtain⟨P,AN⟩: ∃P,P=t.next+14:=⟨_,rfl⟩
    have A0:P≠0/\P≠1/\P≠6/\P≠op:=(by omega);rw[<-AN]at o Z;obtain⟨A0,BF,BG,pp⟩:=A0;have BH:=F S;have BI:=F T;have mp:=F X;have BJ:=F o;have AO:=tu (l:=ps);have AR:(ps.length+1)*240<=140737488355328/\ps.length<=9223372036854775806:=(by omega);simp(disch:=first|omega|simp only[AD];omega)[p,AM,Z,T,X,o,AO,AR,Ad,-H,-E,-I,-G,-List.map_map];refine A2 _ _ (D _ _ _ (by simp[z0]) (by simp[p]) (by simp) ⟨d.next+4,?_,?_,?_,?_,by omega,by omega,by omega⟩ λAS AT AU AV=>x AS AT (λs u=>(AU s u).trans ?_) AV)
    ·simp(disch:=omega)[S]
    ·simp(disch:=omega)[AK]
    ·simp(disch:=first|omega|simp only[AD];omega)[-H,-E,-I,-G,-List.map_map]
    ·simp(disch:=first|omega|simp only[AD];omega)[-H,-E,-I,-G,-List.map_map];rw[DV (by omega)];simp[B3]
    ·simp only[Qd,CM,EK,or_false]at u;rcases u with rfl|rfl|rfl|rfl<;>simp[z0,AL,z4,p,g,v]
def TB(u:List Je)(ag a:Nat):Prop:= ∀(i:Nat) (x:Je),u[i]?=some x->x.name=Eu 118 (ag-i)/\0<=x.JD/\x.JD<a
theorem TB.add{b:Nat}{x:Je}(h:TB u ag b)(d:x.name=Eu 118 (ag-u.length)/\0<=x.JD/\x.JD<b):TB (u++[x]) ag b:= λi y a=>by
 by_cases c:i<u.length
 ·rw[L8 c]at a;exact h i y a
 ·have f:=(AX.1 a).1;simp only[Ds,Df,Jx]at f;have e:i=u.length:=(by omega);subst e;rw[KM (Ao _)]at a;simp at a;subst a;exact d
structure Og(l:List Int)(i:Nat)(J:Int)(g4 g5 oK oL ke:Value)(u:List Je)(a:Nat)(t:V):Prop where
 Cr:t.W 0=some ⟨[AH l,Y i],true⟩
 OJ:t.W 1=some ⟨Oq,true⟩
 aLc:t.W 6=some ⟨[Y J,g4,g5,oK,oL,ke,AQ a u.length 2],true⟩
 aQN:t.W a=some ⟨(u.map Cd).flatten,true⟩
 xn:a≠0
 a39:a≠1
 aQR:a≠6
def iU(l:List Int)(i:Nat)(J:Int)(g4 g5 oK oL ke:Value)(u:List Je)(t:V):Prop:= ∃a,Og l i J g4 g5 oK oL ke u a t
theorem a6n{l:List Je}:(l.map Cd).flatten.length=l.length*2:=by rw[JQ (z:=2) λr a=>by obtain⟨x,_,rfl⟩:=CP.1 a;rfl,Eb]
theorem a0X{l:List Int}(AB:l.length<=140737488355328){J:Int}{g4 g5:Value}(AE:1<=ps.length/\ps.length<=1000)(AF:ag<=1000): ∀(r i:Nat) (u:List Je),u.length+r=ag->TB u ag ps.length->i+r+100<1000000->
 ∃ (a:List Je) (dW:Nat),TB a ag ps.length/\a.length=ag/\dW<=i+r/\ ∀(A:A6) (t:V) (Q:BM->A6->V->Prop),A 0=AA 0->A 5=AA 6->A 19=Y r->iU l i J g4 g5 oK oL (M (ps.map B3) 17) u t->
   (∀N m,(∀s∈Qd,N s=A s)->iU l dW J g4 g5 oK oL (M (ps.map B3) 17) a m->Q (.Ai 8) N m)->BY U (.loop cX) A t Q:=by
 intro r;induction r with
 | zero=>intro i u D b K;refine⟨u,i,b,by omega,by omega,λA t Q c d f g h=> ?_⟩;refine BU (an:=⟨[GB],[EM]⟩) λO o=> ?_;simp[cX,f];exact h _ _ (λs p=>by simp only[Qd,CM,EK,or_false]at p;rcases p with rfl|rfl|rfl|rfl<;>simp) g
 | succ r P=>
   intro i u D b K;have q:=En (l:=l) (i:=i) (n:=(ps.length:Int)) (by omega);obtain⟨y,v⟩: ∃y,Bq l i (ps.length:Int)=y:=⟨_,rfl⟩;rw[v]at q;have R:IntKind.i64.wrap (r:Int)=(r:Int):=Ah (by omega) (by omega);have S:(0:Int)<(r:Int)+1:=(by omega);have T:GB.fn [.int .u8 118,.int .i64 ((r:Int)+1)]=some (.string (Eu 118 (r+1))):=cC (n:=r+1) (C:=118) rfl ⟨by decide,by omega⟩;obtain⟨a,dW,W,X,AG,Z⟩:=P (i+1) (u++[⟨Eu 118 (r+1),y⟩]) (by simp;omega) (b.add (by have:ag-u.length=r+1:=(by omega);rw[this];exact⟨rfl,q⟩)) (by omega);refine⟨a,dW,W,X,by omega,λA t Q c d f g h=> ?_⟩;obtain⟨j,⟨w,x,z,B,A0,A1,A2⟩⟩:=g;refine BU (an:=⟨[GB],[EM]⟩) λO o=> ?_;have AH:=F w;have AJ:=F x;have AK:=F z;have AL:=F B;have AM: ¬0=j:= λe=>A0 e.symm;have AN: ¬1=j:= λe=>A1 e.symm;have AO: ¬6=j:= λe=>A2 e.symm;have A3:=a6n (l:=u);have A4:(u.length+1)*24<=140737488355328/\u.length<=9223372036854775806:=(by omega);simp(disch:=first|omega|simp only[AD];omega)[cX,c,d,f,S,w,z,B,FZ,T,v,A3,A4,R,h9,jf,-H,-E,-I,-G,-List.map_map];refine o _ _ (Z _ _ _ (by simp[c]) (by simp[d]) (by simp) ⟨t.next+11,?_,?_,?_,?_,by omega,by omega,by omega⟩ λA5 A7 A8 A9=>h A5 A7 (λs k=>(A8 s k).trans ?_) A9)
   ·simp(disch:=first|omega|simp only[AD];omega)[-H,-E,-I,-G,-List.map_map]
   ·simp(disch:=omega)[x]
   ·simp(disch:=first|omega|simp only[AD];omega)[-H,-E,-I,-G,-List.map_map]
   ·simp(disch:=first|omega|simp only[AD];omega)[-H,-E,-I,-G,-List.map_map];rw[DV (by omega)];simp[Cd]
   ·simp only[Qd,CM,EK,or_false]at k;rcases k with rfl|rfl|rfl|rfl<;>simp
theorem aAN{l:List Dj}: ∀r∈l.map Bd,r.length=7/\ ∀v∈r,Co v=true:= λr b=>by obtain⟨x,_,rfl⟩:=CP.1 b;exact⟨rfl,λv a=>by simp[Bd]at a;rcases a with rfl|rfl|rfl|rfl|rfl|rfl|rfl<;>rfl⟩
theorem aCD{l:List IM}: ∀r∈l.map CB,r.length=3/\ ∀v∈r,Co v=true:= λr b=>by obtain⟨x,_,rfl⟩:=CP.1 b;exact⟨rfl,λv a=>by simp[CB]at a;rcases a with rfl|rfl|rfl<;>rfl⟩
theorem a1v{l:List Dw}: ∀r∈l.map B3,r.length=17/\ ∀v∈r,Co v=true:= λr b=>by obtain⟨x,_,rfl⟩:=CP.1 b;exact⟨rfl,λv a=>by simp[B3]at a;rcases a with rfl|rfl|rfl|rfl|rfl|rfl|rfl|rfl|rfl|rfl|rfl|rfl|rfl|rfl|rfl|rfl|rfl<;>rfl⟩
theorem rM{l:List Je}: ∀r∈l.map Cd,r.length=2/\ ∀v∈r,Co v=true:= λr b=>by obtain⟨x,_,rfl⟩:=CP.1 b;exact⟨rfl,λv a=>by simp[Cd]at a;rcases a with rfl|rfl<;>rfl⟩
theorem aF1{l:List RT}: ∀r∈l.map Ce,r.length=4/\ ∀v∈r,Co v=true:= λr b=>by obtain⟨x,_,rfl⟩:=CP.1 b;exact⟨rfl,λv a=>by simp[Ce]at a;rcases a with rfl|rfl|rfl|rfl<;>rfl⟩
theorem aCd{l:List F1}: ∀r∈l.map Cc,r.length=4/\ ∀v∈r,Co v=true:= λr b=>by obtain⟨x,_,rfl⟩:=CP.1 b;exact⟨rfl,λv a=>by simp[Cc]at a;rcases a with rfl|rfl|rfl|rfl<;>rfl⟩
def Qe:ByteArray:=⟨#[100,105,115,107]⟩
def U8:ByteArray:=⟨#[98,105,103]⟩
def X3:ByteArray:=⟨#[111,108,100]⟩
def Lh(z:Int):F1:=⟨Qe,[C9 1 1],[[C9 0 1]],[C9 1 z]⟩
def Ln:Value:= .slice none 0 0
structure a5y(l:List Int)(i:Nat)(J z a b c d:Int)(t:V):Prop where
 Cr:t.W 0=some ⟨[AH l,Y i],true⟩
 OJ:t.W 1=some ⟨Oq,true⟩
 aLc:t.W 6=some ⟨[Y J,AQ 19 1 4,AQ 36 2 4,AQ 41 1 7,.slice none 0 0,.slice none 0 0,.slice none 0 0],true⟩
 a0S:t.W 9=some ⟨BO (C9 1 1),true⟩
 aQS:t.W 11=some ⟨BO (C9 0 1),true⟩
 aGR:t.W 12=some ⟨[AQ 11 1 3],true⟩
 aQO:t.W 17=some ⟨BO (C9 1 z),true⟩
 aQV:t.W 19=some ⟨[CU Qe,AQ 9 1 3,AQ 12 1 1,AQ 17 1 3],true⟩
 aQL:t.W 36=some ⟨[CU U8,Y a,Y b,Y 0,CU X3,Y c,Y d,Y 0],true⟩
 aQH:t.W 41=some ⟨Bd ⟨⟨#[]⟩,0,-1,0,C9 0 1⟩,true⟩
def LR(a b c d:Int):List RT:=[⟨U8,a,b,0⟩,⟨X3,c,d,0⟩]
theorem ia{x:Ac}: ∀r∈[BO x],r.length=3/\ ∀v∈r,Co v=true:= λr a=>by simp at a;subst a;exact⟨rfl,λv b=>by simp[BO]at b;rcases b with rfl|rfl|rfl<;>rfl⟩
theorem aDO{l:List Int}{i:Nat}{J a b c d:Int}{t:V}(h:a5y l i J z a b c d t)(e:t.next=44)
 (n: ∀g,FC l i J (M ([Lh z].map Cc) 4) (M ((LR a b c d).map Ce) 4) Ln Ln [⟨⟨#[]⟩,0,-1,0,C9 0 1⟩] [] g->BY U B A g Q):BY U B A t Q:=by
 obtain⟨q,s,u,w,x,y,C,D,E,F⟩:=h;refine LO (o:=11) (p:=12) (j:=0) (z:=3) (b5:=[BO (C9 0 1)]) (by rw[x];simp) ia y rfl (by decide) ?_;refine LO (o:=9) (p:=19) (j:=1) (z:=3) (b5:=[BO (C9 1 1)]) (cells:=[CU Qe,AQ 9 1 3,AQ 12 1 1,AQ 17 1 3]) ?_ ia ?_ rfl (by decide) ?_
 ·rw[A3 (by decide),A3 (by decide),w];simp
 ·rw[A3 (by decide),A3 (by decide),D]
 refine LO (o:=12) (p:=19) (j:=2) (z:=1) (b5:=[[DZ [C9 0 1]]]) (cells:=[CU Qe,DZ [C9 1 1],AQ 12 1 1,AQ 17 1 3]) ?_ ?_ ?_ rfl (by decide) ?_
 ·rw[A3 (by decide),A3 (by decide),AT (by simp[e])];simp
 ·intro r k;simp at k;subst k;exact⟨rfl,λv m=>by simp at m;subst m;rfl⟩
 ·rw[AT (by simp[e])];simp
 refine LO (o:=17) (p:=19) (j:=3) (z:=3) (b5:=[BO (C9 1 z)]) (cells:=[CU Qe,DZ [C9 1 1],M [[DZ [C9 0 1]]] 1,AQ 17 1 3]) ?_ ia ?_ rfl (by decide) ?_
 ·repeat rw[A3 (by decide)]
  rw[C];simp
 ·rw[AT (by simp[e])];simp
 refine LO (o:=19) (p:=6) (j:=1) (z:=4) (b5:=[Lh z].map Cc) (cells:=[Y J,AQ 19 1 4,AQ 36 2 4,AQ 41 1 7,.slice none 0 0,.slice none 0 0,.slice none 0 0]) ?_ aCd ?_ rfl (by decide) ?_
 ·rw[AT (by simp[e])];simp[Cc,Lh]
 ·repeat rw[A3 (by decide)]
  rw[u]
 refine LO (o:=36) (p:=6) (j:=2) (z:=4) (b5:=(LR a b c d).map Ce) (cells:=[Y J,M ([Lh z].map Cc) 4,AQ 36 2 4,AQ 41 1 7,.slice none 0 0,.slice none 0 0,.slice none 0 0]) ?_ aF1 ?_ rfl (by decide) ?_
 ·repeat rw[A3 (by decide)]
  rw[E];simp[Ce,LR]
 ·rw[AT (by simp[e])];simp
 refine Oa (o:=6) (j:=4) (z:=3) (cs:=[Y J,M ([Lh z].map Cc) 4,M ((LR a b c d).map Ce) 4,AQ 41 1 7,.slice none 0 0,.slice none 0 0,.slice none 0 0]) ?_ rfl ?_
 ·rw[AT (by simp[e])];simp
 refine n _ ⟨41,44,⟨?_,?_,?_,?_,?_,by decide,by decide,by decide⟩⟩
 ·simp only[Ar,e];repeat rw[A3 (by decide)]
  rw[AU (by simp[e])];repeat rw[A3 (by decide)]
  exact q
 ·simp only[Ar,e];repeat rw[A3 (by decide)]
  rw[AU (by simp[e])];repeat rw[A3 (by decide)]
  exact s
 ·simp only[Ar,e];rw[AT (by simp[e])];simp[Ln]
 ·simp only[Ar,e];repeat rw[A3 (by decide)]
  rw[AU (by simp[e])];repeat rw[A3 (by decide)]
  rw[F];simp
 ·simp only[Ar,e];rw[A3 (by decide),AT (by simp[e])];simp
theorem a4X{l:List Int}{i:Nat}{J:Int}{g4 g5 iu:Value}{ds:List Dj}{g:List IM}{t:V}(h:FC l i J g4 g5 Ln iu ds g t)
 (m: ∀a,Zl l i J g4 g5 (M (ds.map Bd) 7) (M (g.map CB) 3) iu [] a->BY U B A a Q):BY U B A t Q:=by
 obtain⟨n,or,⟨b,c,d,q,r,s,u,v⟩⟩:=h;obtain⟨w,x,y⟩:=s;obtain⟨C,n21,f⟩:=u;have E:=F b;have G:=F c;have k:=F d;refine LO (o:=n) (p:=6) (j:=3) (z:=7) (b5:=ds.map Bd) q aAN d (by simp) y ?_;refine LO (o:=or) (p:=6) (j:=4) (z:=3) (b5:=g.map CB) (cells:=[Y J,g4,g5,M (ds.map Bd) 7,AQ or g.length 3,Ln,iu]) ?_ aCD ?_ (by simp) f ?_
 ·rw[A3 f,A3 (λe=>v e.symm)];exact r
 ·rw[AT (by simpa using k)];simp
 refine Oa (o:=6) (j:=5) (z:=17) (cs:=[Y J,g4,g5,M (ds.map Bd) 7,M (g.map CB) 3,Ln,iu]) ?_ rfl ?_
 ·rw[AT (by simpa using k)];simp
 refine m _ ⟨t.next,⟨?_,?_,?_,?_,by omega,by omega,by omega⟩⟩
 ·simp only[Ar];rw[A3 (by decide),A3 (by omega),AU (by simp;omega),A3 (by decide),A3 (λe=>C e.symm),A3 (by decide),A3 (λe=>w e.symm)];exact b
 ·simp only[Ar];rw[A3 (by decide),A3 (by omega),AU (by simp;omega),A3 (by decide),A3 (λe=>n21 e.symm),A3 (by decide),A3 (λe=>x e.symm)];exact c
 ·simp only[Ar];rw[AT (by simp;omega)];simp
 ·simp only[Ar];rw[A3 (by omega),AT (by simp)];simp
theorem aBR{l:List Int}{i:Nat}{J:Int}{g4 g5:Value}{t:V}(h:Zl l i J g4 g5 oK oL Ln ps t)
 (f: ∀a,iU l i J g4 g5 oK oL (M (ps.map B3) 17) [] a->BY U B A a Q):BY U B A t Q:=by
 obtain⟨op,⟨b,c,d,g,k,m,n⟩⟩:=h;have r:=F b;have s:=F c;have q:=F d;refine LO (o:=op) (p:=6) (j:=5) (z:=17) (b5:=ps.map B3) g a1v d (by simp) n ?_;refine Oa (o:=6) (j:=6) (z:=2) (cs:=[Y J,g4,g5,oK,oL,M (ps.map B3) 17,Ln]) ?_ rfl ?_
 ·rw[AT (by simpa using q)];simp
 refine f _ ⟨t.next,⟨?_,?_,?_,?_,by omega,by omega,by omega⟩⟩
 ·simp only[Ar];rw[A3 (by decide),A3 (by omega),AU (by simp;omega),A3 (by decide),A3 (λe=>k e.symm)];exact b
 ·simp only[Ar];rw[A3 (by decide),A3 (by omega),AU (by simp;omega),A3 (by decide),A3 (λe=>m e.symm)];exact c
 ·simp only[Ar];rw[AT (by simp;omega)];simp
 ·simp only[Ar];rw[A3 (by omega),AT (by simp)];simp
end Go.Proofs.YtmmkkggfmigppaaGreat
