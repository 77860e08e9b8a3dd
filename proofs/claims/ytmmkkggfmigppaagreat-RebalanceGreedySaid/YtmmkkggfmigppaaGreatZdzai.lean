/- A part of the proof. -/
import Derived.Test.YtmmkkggfmigppaaGreatZdzah
set_option linter.all false
set_option maxRecDepth 20000
set_option maxHeartbeats 16000000
noncomputable section
namespace Go.Proofs.YtmmkkggfmigppaaGreat
open Go Go.DI Go.EL
def I1(P:Int->Int):Int->Nat:= λv=>(P v+1000000).toNat
theorem ye(P:Int->Int)(x d:Int):I1 (Ai P x d)=Ai (I1 P) x (d+1000000).toNat:=by
 funext v;by_cases h:v=x
 ·subst h;simp only[I1,EY]
 ·simp only[I1,Dt h]
structure Lp(a P:Int->Int):Prop where
 DY: ∀v,a v-1000000<=P v
 Hj: ∀v,P v<=0
variable{P p:Int->Int}{W bX s B fP i mA et f o:Nat}{A:A2}{N:List Int}{Q:BM->A2->X->Prop}{a:Ah}{aM gO:Int}{dP:Bool}{m b1 t:X}{n:Bw}{v:Value}{C:List Bool}
theorem Lp.add{a:Int->Int}(h:Lp a P)(c: ∀v,0<=a v/\a v<=1000000){x d:Int}(f:0<=x)(g:x<W)(i:a x-1000000<=d)(j:d<P x):Lp a (Ai P x d)/\iQz (I1 (Ai P x d)) W+1<=iQz (I1 P) W:=by
 refine⟨⟨λv=> ?_,λv=> ?_⟩,?_⟩
 ·by_cases b:v=x
  ·subst b;rw[EY];exact i
  ·rw[Dt b];exact h.DY v
 ·by_cases b:v=x
  ·subst b;rw[EY];have:=h.Hj v;omega
  ·rw[Dt b];exact h.Hj v
 ·rw[ye];have:=hh (I1 P) x (d+1000000).toNat f W g;have e:(d+1000000).toNat+1<=I1 P x:=(by unfold I1;have:=c x;omega);omega
def VA:CF:=O9 TQ
def Rs:CF:=Oe
theorem va:TQ= .El VA Rs:=rfl
theorem a7G(A4:n.AS=W)(A5:i<n.A0.length)
 (j:m.Y fP=some ⟨BC a,true⟩) (l:m.Y bX=some ⟨N.map (Value.int .i64 ·),dP⟩) (o:m.Y mA=some ⟨An W P,true⟩) (D:N[i]?=some aM) (A6:N.length=n.A0.length) (p:a.f=B) (q:a.t=s) (F:B<W) (G:s<W) (A7:0<=a.k/\a.k<=1000) (H: ∀v,-1000000<=P v/\P v<=0)
 (A8:fP≠mA) (A9:bX≠mA) (r:A 1= .slice (some ⟨bX,0,none⟩) N.length 1) (I:A 5= .slice (some ⟨mA,0,none⟩) W 1) (u:A 7=Z i) (w:A 8=AG fP)
 (X:aM<a.c/\P B+a.k<P s-> ∀b,(∀t,t<9->t≠6->b t=A t)->b 6= .bool true->Q .CK b (m.A1 mA (some ⟨An W (Ai P s (P B+a.k)),true⟩)))
 (J: ¬(aM<a.c/\P B+a.k<P s)-> ∀b,(∀t,t<9->b t=A t)->Q .CK b m):Az V VA A m Q:=by
 have y: ∀h,N[i]'h=aM:= λh=>by rw[AP h]at D;simpa using D
 have A2:i<N.length:=by omega
 have z:i+1<=N.length:=A2;have C:(i:Int)<N.length:=by omega
 have K:B+1<=W:=F;have L:s+1<=W:=G;have M:(B:Int)<W:=by omega
 have t3:(s:Int)<W:=by omega
 have O: ∀(g:Int->Int) (x:Nat),x<W->(An W g)[x]?=some (Z (g x)):= λg x A3=>G5 A3;have R:= λg=>O g B F;have S:= λg=>O g s G;have AA:=E o;have AB:=H B;have AD:=H s;have T:IntKind.i64.wrap (P B+a.k)=P B+a.k:=Ac (by omega) (by omega);have AE:IntKind.i64.wrap (P s-a.k)=P s-a.k:=Ac (by omega) (by omega);by_cases d:aM<a.c
 ·by_cases e:P B+a.k<P s
  ·simp(disch:=omega)[VA,O9,TQ,Oe,r,I,u,w,j,l,o,BC,p,q,y,z,C,K,L,M,t3,R,S,BG,T,Cq,La,d,e,-FK];exact X ⟨d,e⟩ _ (λt U AF=>by simp(disch:=omega) only[D3]) (by simp)
  ·simp(disch:=omega)[VA,O9,TQ,Oe,r,I,u,w,j,l,o,BC,p,q,y,z,C,K,L,M,t3,R,S,BG,T,Cq,d,e,-FK];exact J (λh=>e h.2) _ (λt U=>by simp(disch:=omega) only[D3])
 ·simp(disch:=omega)[VA,O9,TQ,Oe,r,u,w,j,l,BC,p,q,y,z,C,BG,Cq,d,-FK];exact J (λh=>d h.1) _ (λt U=>by simp(disch:=omega) only[D3])
theorem zx(A3:n.AS=W)(A4:i<n.A0.length)
 (u:m.Y fP=some ⟨BC a,true⟩) (e:m.Y bX=some ⟨N.map (Value.int .i64 ·),dP⟩) (j:m.Y mA=some ⟨An W P,true⟩) (w:N[i]?=some aM) (A5:N.length=n.A0.length) (y:a.f=B) (z:a.t=s) (C:B<W) (D:s<W) (A6:0<=a.k/\a.k<=1000) (F: ∀v,-1000000<=P v/\P v<=0)
 (A7:fP≠mA) (A8:bX≠mA) (l:A 1= .slice (some ⟨bX,0,none⟩) N.length 1) (G:A 5= .slice (some ⟨mA,0,none⟩) W 1) (o:A 7=Z i) (H:A 8=AG fP)
 (U:0<aM/\P s-a.k<P B-> ∀b,(∀t,t<9->t≠6->b t=A t)->b 6= .bool true->Q .CK b (m.A1 mA (some ⟨An W (Ai P B (P s-a.k)),true⟩)))
 (I: ¬(0<aM/\P s-a.k<P B)-> ∀b,(∀t,t<9->b t=A t)->Q .CK b m):Az V Rs A m Q:=by
 have p: ∀h,N[i]'h=aM:= λh=>by rw[AP h]at w;simpa using w
 have X:i<N.length:=by omega
 have q:i+1<=N.length:=X;have r:(i:Int)<N.length:=by omega
 have J:B+1<=W:=C;have K:s+1<=W:=D;have L:(B:Int)<W:=by omega
 have t3:(s:Int)<W:=by omega
 have M: ∀(g:Int->Int) (x:Nat),x<W->(An W g)[x]?=some (Z (g x)):= λg x A2=>G5 A2;have O:= λg=>M g B C;have R:= λg=>M g s D;have A9:=E j;have AA:=F B;have AB:=F s;have AD:IntKind.i64.wrap (P B+a.k)=P B+a.k:=Ac (by omega) (by omega);have S:IntKind.i64.wrap (P s-a.k)=P s-a.k:=Ac (by omega) (by omega);by_cases c:0<aM
 ·by_cases d:P s-a.k<P B
  ·simp(disch:=omega)[Rs,Oe,l,G,o,H,u,e,j,BC,y,z,p,q,r,J,K,L,t3,O,R,BG,S,Cq,La,c,d,-FK];exact U ⟨c,d⟩ _ (λt T AE=>by simp(disch:=omega) only[D3]) (by simp)
  ·simp(disch:=omega)[Rs,Oe,l,G,o,H,u,e,j,BC,y,z,p,q,r,J,K,L,t3,O,R,BG,S,Cq,c,d,-FK];exact I (λh=>d h.2) _ (λt T=>by simp(disch:=omega) only[D3])
 ·simp(disch:=omega)[Rs,Oe,l,o,e,p,q,r,BG,Cq,c,-FK];exact I (λh=>c h.1) _ (λt T=>by simp(disch:=omega) only[D3])
theorem mh{n:Bw}(AN:n.CE){W:Nat}(AO:n.AS=W){N:List Int}(A3:F5 n N){p:Int->Int}(Am:E0 n N p)(A4: ∀v,0<=p v/\p v<=1000000)(Ap: ∀a∈n.A0,0<=a.k/\a.k<=1000){v:Value}{et bX mA:Nat}{dP:Bool}{b1:X}(AP:b1.Y et=some ⟨Cd n v,true⟩)(AQ:Dc b1 v n.A0)(A5:b1.Y bX=some ⟨N.map (Value.int .i64 ·),dP⟩)(B9:b1.ac<=mA){n4:Nat}{Q:BM->A2->X->Prop}:
 ∀(r i:Nat) (m:X) (A:A2) (P:Int->Int) (g:Bool),i+r=n.A0.length->Aa b1 m->m.Y mA=some ⟨An W P,true⟩->Lp p P->iQz (I1 P) W+(if g=true then 1 else 0)<=n4->
 A 1= .slice (some ⟨bX,0,none⟩) N.length 1->A 2=AG et->A 5= .slice (some ⟨mA,0,none⟩) W 1->A 6= .bool g->A 7=Z i->
 (∀e u j q,Aa b1 u->u.Y mA=some ⟨An W j,true⟩->Lp p j->iQz (I1 j) W+(if q=true then 1 else 0)<=n4->(∀t,t<6->e t=A t)->e 6= .bool q->Q (.Ao 2) e u)->Az V (.loop bA) A m Q
 | 0,i,m,A,P,g,BA,z,F,G,AT,A7,A8,AA,AU,H,AV=>by refine Bm λAq Ar=> ?_;have As: ¬(i:Int)<n.A0.length:=(by omega);have Ba: ¬i<n.A0.length:=(by omega);obtain⟨BB,BD⟩:=AQ.len;have AB:=z.some AP;simp[bA,va,A8,H,As,AB,BB,BD];exact AV _ _ P g z F G AT (λt w=>by simp(disch:=omega) only[D3]) (by simp[AU])
 | r+1,i,m,A,P,g,BA,z,F,G,AT,A7,A8,AA,AU,H,AV=>by
   refine Bm λAq Ar=> ?_;have L:i<n.A0.length:=(by omega);have BE:(i:Int)<n.A0.length:=(by omega);obtain⟨a,AD⟩: ∃a,n.A0[i]?=some a:=⟨n.A0[i]'L,by simp⟩;obtain⟨aM,AW⟩: ∃aM,N[i]?=some aM:=⟨N[i]'(by rw[A3.1];exact L),by simp⟩;obtain⟨⟨Bb,Bc⟩,⟨t0,Bd⟩,Be,Bf⟩:=AN.Gu a (B5 AD);have At:=Ap a (B5 AD);have Bg:=AN.Gf;obtain⟨B,AX⟩: ∃k:Nat,a.f=k:=⟨a.f.toNat,by omega⟩;obtain⟨s,AY⟩: ∃k:Nat,a.t=k:=⟨a.t.toNat,by omega⟩;have Av:B<W:=(by omega);have Aw:s<W:=(by omega);obtain⟨Ax,Ay⟩:=Am.A0 AD AW;rw[AX,AY]at Ax Ay;obtain⟨c,o,BF,D⟩:=AQ.BY L;have AB:=z.some AP;have BG:=z.some A5;have B0:=z.some D;have Bh:=E B0;have Bi:=E AB;have Bj:=E A5;have Bk:=E F;have Bl:=z.ac
   have BH:i*4+4<=n.A0.length*4:=(by omega);have BI:=Il AD;have B2:=BZ (n:=i) (by omega);simp(disch:=first|omega|simp only[A9];omega)[bA,va,A8,H,BE,AB,BF,B0,BH,BI,BC];have I:Aa m ((m.AE 7).A1 (m.ac+5) (some ⟨[Z a.f,Z a.t,Z a.c,Z a.k],true⟩)):=((Aa.refl m).AE 7).A1 (by omega);have AF:((m.AE 7).A1 (m.ac+5) (some ⟨[Z a.f,Z a.t,Z a.c,Z a.k],true⟩)).Y (m.ac+5)=some ⟨BC a,true⟩:=AR (by simp only[B1];omega);obtain⟨AI,B3⟩: ∃AI,AI=(m.AE 7).A1 (m.ac+5) (some ⟨[Z a.f,Z a.t,Z a.c,Z a.k],true⟩):=⟨_,rfl⟩;rw[<-B3]at I AF⊢;have Bn:AI.ac=m.ac+7:=by rw[B3];simp
   have B4: ∀{j:Int->Int},Lp p j-> ∀v,-1000000<=j v/\j v<=0:= λh v=>by have As:=h.DY v;have Bo:=h.Hj v;have Bp:=A4 v;omega
   have B6: ∀(e:A2) (u:X) (j:Int->Int) (q:Bool),Aa b1 u->u.Y mA=some ⟨An W j,true⟩->Lp p j->iQz (I1 j) W+(if q=true then 1 else 0)<=n4->(∀t,t<6->e t=A t)->e 6= .bool q->e 7=Z ((i:Int)+1)->Aq e u:= λe u j q M O R S C T U=>
    Ar _ _ (mh AN AO A3 Am A4 Ap AP AQ A5 B9 r (i+1) u e j q (by omega) M O R S (by rw[C 1 (by omega)];exact A7) (by rw[C 2 (by omega)];exact A8) (by rw[C 5 (by omega)];exact AA) T (by rw[U];simp) (λAZ Ab BJ BK BL BN v3 v4 BO BQ=>AV AZ Ab BJ BK BL BN v3 v4 (λt w=>by rw[BO t w,C t w]) BQ))
   have B7: ∀(J:X) (K:A2) (y:Int->Int) (AJ:Bool),Aa b1 J->AI.ac<=J.ac->J.Y (m.ac+5)=some ⟨BC a,true⟩->J.Y mA=some ⟨An W y,true⟩->Lp p y->iQz (I1 y) W+(if AJ=true then 1 else 0)<=n4->
    (∀t,t<6->K t=A t)->K 6= .bool AJ->K 7=Z i->K 8=AG (m.ac+5)-> ∀{Ac:BM->A2->X->Prop},(∀e u j q,Aa b1 u->u.Y mA=some ⟨An W j,true⟩->Lp p j->iQz (I1 j) W+(if q=true then 1 else 0)<=n4->(∀t,t<6->e t=A t)->e 6= .bool q->e 7=Z i->Ac .CK e u)->Az V Rs K J Ac:=by
    intro J K y AJ AK Bq BR Ae AL BS AM BT Af BU Ac B8;refine zx AO (N:=N) (dP:=dP) (fP:=m.ac+5) (mA:=mA) (bX:=bX) (a:=a) (aM:=aM) (P:=y) L BR (AK.some A5) Ae AW A3.1 AX AY Av Aw At (B4 AL) (by omega) (by omega) (by rw[AM 1 (by omega)];exact A7) (by rw[AM 5 (by omega)];exact AA) Af BU (λD e l Ag=> ?_) (λD e l=> ?_)
    ·obtain⟨Ah,z3⟩:=D;have BV:=AL.DY (s:Int);have:=Ay Ah;obtain⟨Ak,BW⟩:=AL.add A4 (W:=W) (x:=B) (d:=y s-a.k) (by omega) (by omega) (by omega) z3;refine B8 _ _ (Ai y B (y s-a.k)) true ⟨by have:=AK.ac;simp only[Au];omega,λb hb=>by rw[A6 (by omega),AK.Y b hb]⟩ (by rw[AR (E Ae)]) Ak (by simp;omega) (λt w=>by rw[l t (by omega) (by omega),AM t w]) Ag (by rw[l 7 (by omega) (by omega)];exact Af)
    ·exact B8 _ _ y AJ AK Ae AL BS (λt w=>by rw[l t (by omega),AM t w]) (by rw[l 6 (by omega)];exact BT) (by rw[l 7 (by omega)];exact Af)
   have Al:=z.trans I;refine a7G AO (N:=N) (dP:=dP) (fP:=m.ac+5) (mA:=mA) (bX:=bX) (a:=a) (aM:=aM) (P:=P) L AF (I.some BG) (I.some F) AW A3.1 AX AY Av Aw At (B4 G) (by omega) (by omega) (by simp[A7]) (by simp[AA]) (by simp[H]) (by simp) (λD e l Ag=> ?_) (λD e l=> ?_)
   ·obtain⟨Ah,z3⟩:=D;have BV:=G.DY (B:Int);have:=Ax Ah;obtain⟨Ak,BW⟩:=G.add A4 (W:=W) (x:=s) (d:=P B+a.k) (by omega) (by omega) (by omega) z3;simp only[Nn];refine B7 _ e (Ai P s (P B+a.k)) true ⟨by have:=Al.ac;simp only[Au];omega,λb hb=>by rw[A6 (by omega),Al.Y b hb]⟩ (by simp only[Au];omega) (by rw[A6 (by omega)];exact AF) (by rw[AR (E (I.some F))]) Ak (by simp;omega) (λt w=>by rw[l t (by omega) (by omega)];simp(disch:=omega) only[D3]) Ag (by rw[l 7 (by omega) (by omega)];simp[H]) (by rw[l 8 (by omega) (by omega)];simp) (λAZ Ab j q M O R S C T U=> ?_);simp[U,B2];exact B6 _ _ j q M O R S (λt w=>by rw[<-C t w];simp(disch:=omega) only[D3]) (by simp[T]) (by simp)
   ·simp only[Nn];refine B7 _ e P g Al (Aj _) AF (I.some F) G AT (λt w=>by rw[l t (by omega)];simp(disch:=omega) only[D3]) (by rw[l 6 (by omega)];simp[AU]) (by rw[l 7 (by omega)];simp[H]) (by rw[l 8 (by omega)];simp) (λAZ Ab j q M O R S C T U=> ?_);simp[U,B2];exact B6 _ _ j q M O R S (λt w=>by rw[<-C t w];simp(disch:=omega) only[D3]) (by simp[T]) (by simp)
theorem aCx(x:n.CE)(y:n.AS=W)(z:F5 n N)(B:E0 n N p)(C: ∀v,0<=p v/\p v<=1000000)(D: ∀a∈n.A0,0<=a.k/\a.k<=1000)(E:b1.Y et=some ⟨Cd n v,true⟩)(F:Dc b1 v n.A0)(G:b1.Y bX=some ⟨N.map (Value.int .i64 ·),dP⟩)(H:b1.ac<=mA):
 ∀(b:Nat) (m:X) (A:A2) (P:Int->Int) (g:Bool),iQz (I1 P) W+(if g=true then 1 else 0)<=b->Aa b1 m->m.Y mA=some ⟨An W P,true⟩->Lp p P->
 A 1= .slice (some ⟨bX,0,none⟩) N.length 1->A 2=AG et->A 5= .slice (some ⟨mA,0,none⟩) W 1->A 6= .bool g->
 (∀e c f,Aa b1 c->e 5= .slice (some ⟨mA,0,none⟩) W 1->c.Y mA=some ⟨An W f,true⟩->Lp p f->Q (.Ao 0) e c)->Az V (.loop UR) A m Q:=by
 intro b;induction b with
 | zero=>
   intro m A P g q h i j r s d l o;cases g
   ·refine Bm λw t=> ?_;simp[UR,l];exact o _ _ P h (by simp[d]) i j
   ·simp at q
 | succ b I=>
   intro m A P g q h i j r s d l o;cases g
   ·refine Bm λw t=> ?_;simp[UR,l];exact o _ _ P h (by simp[d]) i j
   refine Bm λw t=> ?_;simp only[if_true]at q;simp[UR,l];refine mh x y z B C D E F G H (n4:=b) n.A0.length 0 m _ P false (by omega) h i j (by simp;omega) (by simp[r]) (by simp[s]) (by simp[d]) (by simp) (by simp) (λe c f J K L M O u R=> ?_);simp[];refine t _ _ (I c e f J O K L M (by rw[u 1 (by omega)];simp[r]) (by rw[u 2 (by omega)];simp[s]) (by rw[u 5 (by omega)];simp[d]) R o)
def aA0(W:Nat)(m:X)(r:Value)(b:X):Prop:=Aa m b/\ ∃(a:Nat) (q:Int->Int),r= .slice (some ⟨a,0,none⟩) W 1/\m.ac<=a/\b.Y a=some ⟨(JE W q).map (Value.int .i64 ·),true⟩/\ ∀v,-1000000<=q v/\q v<=0
theorem a3y(c:n.CE)(h:n.AS=W)(i:F5 n N)(j:E0 n N p)(d: ∀v,0<=p v/\p v<=1000000)(l: ∀a∈n.A0,0<=a.k/\a.k<=1000)(o:Dc m v n.A0)(f:m.Y bX=some ⟨N.map (Value.int .i64 ·),dP⟩):
 At V 166 [Ic n v,.slice (some ⟨bX,0,none⟩) N.length 1] m (aA0 W m):=by
 rw[a33 (by simp)];have z:=c.Jy;have A:=c.Lq;have B:=E f;have q:n.AS.toNat=W:=by omega
 have z0:0<=n.AS:=by omega
 have r:n.AS*8<=140737488355328:=by omega
 have s:n.AS<=9223372036854775807:=by omega
 simp(disch:=first|omega|simp only[A9];omega)[hW,q,z0,r,s,PH,-FK];obtain⟨b1,b⟩: ∃b1,b1=(m.AE 2).A1 m.ac (some ⟨[Z n.AS,Z n.Ad,Z n.Aq,v],true⟩):=⟨_,rfl⟩
 have e:Aa m b1:=by rw[b];exact((Aa.refl m).AE 2).A1 (Aj _)
 have t:b1.Y m.ac=some ⟨Cd n v,true⟩:=by rw[b];exact AR (by simp)
 have C:b1.ac=m.ac+2:=by rw[b];simp
 rw[<-b];refine aCx c h i j d l (bX:=bX) (dP:=dP) (et:=m.ac) (mA:=m.ac+2+2) t (o.AD e) (e.some f) (by omega) (iQz (I1 (λ_=>0)) W+1) _ _ (λ_=>0) true (by simp) ?_ (AR (by simp only[B1];omega)) ⟨λv=>by have:=d v;omega,λv=>FM _⟩ (by simp) (by simp) (by simp) (by simp) (λD F u w x y g=> ?_)
 ·exact((Aa.refl b1).AE _).A1 (by omega)
 ·simp(disch:=first|omega|simp only[A9];omega)[x];exact⟨e.trans w,_,u,rfl,by omega,by rw[y,rg],λv=>⟨by have:=g.DY v;have:=d v;omega,g.Hj v⟩⟩
theorem xf{n:Bw}(y:n.CE){W:Nat}(AM:n.AS=W){N:List Int}(I:F5 n N){v:Value}{et bX A1:Nat}{r:Int->Int}{m:X}(A3:Dc m v n.A0)(B:m.Y et=some ⟨Cd n v,true⟩)(J:m.Y bX=some ⟨N.map (Value.int .i64 ·),true⟩)(hb:m.Y A1=some ⟨An W r,true⟩){Q:BM->A2->X->Prop}:
 ∀(l:List CM) (x d:Int) (A:A2),Gt n (λx=>G7 n.A0.length (r x)) x l->(∀e∈l,0<AX n N e)->A 2=AG et->A 8= .slice (some ⟨bX,0,none⟩) N.length 1->A 11= .slice (some ⟨A1,0,none⟩) W 1->A 12=Z d->A 13=Z x->
 (∀g,(∀t,t<12->g t=A t)->g 12=Z (M7 n N d l)->Q (.Ao 2) g m)->Az V (.loop UO) A m Q
 | [],x,d,A,K,M,s,C,D,E,F,O=>by refine Bm λA4 A5=> ?_;have G:=hQ K;subst G;simp[UO,s,F,B];exact O _ (λt q=>by simp(disch:=omega) only[D3]) (by simp[E,M7])
 | e::l,x,d,A,K,M,s,C,D,E,F,O=>by
   refine Bm λA4 A5=> ?_;have A6:=M e (by simp);obtain⟨G,u,q,AN,AO,A7⟩:=s0 y K A6;obtain⟨Ag,Ah⟩:=AO;obtain⟨k,rfl⟩: ∃k:Nat,x=k:=⟨x.toNat,by omega⟩;have H:k<W:=(by omega);have A8:k+1<=W:=H;have AA:(An W r)[k]?=some (Z (r k)):=G5 H;have next: ∀(g:A2),(∀t,t<12->g t=A t)->g 12=Z (if AX n N e<d then AX n N e else d)->g 13=Z (B2 n e)->A4 g m:= λg w AQ AR=>
    A5 _ _ (xf y AM I A3 B J hb l _ _ g AN (λe u=>M e (by simp[u])) (by rw[w 2 (by omega)];exact s) (by rw[w 8 (by omega)];exact C) (by rw[w 11 (by omega)];exact D) AQ AR (λAT AU AV=>O AT (λt q=>by rw[AU t q,w t q]) AV))
   obtain⟨a,aM,b,p⟩:=Kt A6;have AB: ∀h,N[e.1]'h=aM:= λh=>by rw[AP h]at p;simpa using p
   have Ai:=(y.Gu a (B5 b)).2.2;have Aj:=I.2 _ a aM b p;have Ak:=I.1;have Al:=y.Gf;obtain⟨c,o,rfl,AD⟩:=A3.BY A7;have P:=H6 b (j:=0) (by omega);have AE:=H6 b (j:=1) (by omega);have AF:=H6 b (j:=2) (by omega);rw[MG]at P;simp only[BC]at P;simp[BC]at AE AF;have AW:e.1*4+1<=n.A0.length*4:=(by omega);have AY:e.1*4+2<=n.A0.length*4:=(by omega);have AZ:e.1*4+3<=n.A0.length*4:=(by omega);have AI:(e.1:Int)<n.A0.length:=(by omega);have AJ:(e.1:Int)<N.length:=(by omega);have AK:e.1+1<=N.length:=(by omega);have Am:e.1<N.length:=(by omega);have Ap:IntKind.i64.wrap (e.1:Int)=e.1:=Ac (by omega) (by omega);have Aa:IntKind.i64.wrap ((n.A0.length:Int)+e.1-n.A0.length)=e.1:=(by rw[Ac (by omega) (by omega)];omega);have Ab: ¬(n.A0.length:Int)+e.1<n.A0.length:=(by omega);have AL:(BI n.A0)[e.1*4]?=some (Z a.f):=P;have w: ∀h:e.1*4<(BI n.A0).length,(BI n.A0)[e.1*4]'h=Z a.f:= λh=>by have:=AL;rw[AP h]at this;simpa using this
   rcases nT (L:=n.A0.length) (z:=r k) (by rw[<-u];exact A7)with⟨i,Ae,R,S⟩|⟨i,Ae,R,S⟩
   ·obtain rfl:e=(i,true):=(by rw[u];exact S);have T:B2 n (i,true)=a.f:=(by simp[B2,b]);have U:AX n N (i,true)=a.c-aM:=(by simp at b p;simp[AX,b,p]);simp only at*;have Af:IntKind.i64.wrap (a.c-aM)=a.c-aM:=Ac (by omega) (by omega);rw[U,T]at next
    simp(disch:=first|omega|simp only[A9];omega)[UO,s,C,D,E,F,Af,B,J,hb,AD,G,AA,H,A8,R,AL,AF,AW,AZ,AI,AJ,AK,AB,BG];exact next _ (λt q=>by simp(disch:=omega) only[D3]) (by simp) (by simp)
   ·obtain rfl:e=(i,false):=(by rw[u];exact S);have T:B2 n (i,false)=a.t:=(by simp[B2,b]);have U:AX n N (i,false)=aM:=(by simp at b p;simp[AX,b,p]);simp only at*;rw[U,T]at next
    simp(disch:=first|omega|simp only[A9];omega)[UO,s,C,D,E,F,Aa,Ab,B,J,hb,AD,G,AA,H,A8,R,AE,AY,AI,AJ,AK,AB,BG];exact next _ (λt q=>by simp(disch:=omega) only[D3]) (by simp) (by simp)
theorem nO{n:Bw}(G:n.CE){W:Nat}(Ae:n.AS=W){v:Value}{et bX dc:Nat}{u:Int->Int}{d:Int}(AI:0<=d)(AJ:et≠bX)(AK:dc≠bX)(S: ∀b l c,v= .slice (some ⟨b,0,none⟩) l c->b≠bX){Q:BM->A2->X->Prop}:
 ∀(l:List CM) (x:Int) (N:List Int) (m:X) (A:A2),F5 n N->Dc m v n.A0->m.Y et=some ⟨Cd n v,true⟩->m.Y bX=some ⟨N.map (Value.int .i64 ·),true⟩->m.Y dc=some ⟨An W u,true⟩->Gt n (λx=>G7 n.A0.length (u x)) x l->(∀e∈l,0<AX n N e/\d<=AX n N e)->(l.map Prod.fst).Nodup->
 A 2=AG et->A 8= .slice (some ⟨bX,0,none⟩) N.length 1->A 11= .slice (some ⟨dc,0,none⟩) W 1->A 12=Z d->A 15=Z x->
 (∀p,(∀t,t<13->p t=A t)->Q (.Ao 4) p (m.A1 bX (some ⟨(G6 N l d).map (Value.int .i64 ·),true⟩)))->Az V (.loop Wd) A m Q
 | [],x,N,m,A,H,T,w,y,hb,U,A3,I,B,J,K,M,O,A4=>by refine Bm λAL AM=> ?_;have P:=hQ U;subst P;simp[Wd,B,O,w];have h:=A4;simp only[G6,List.foldl_nil]at h;rw[Sv y]at h;exact h _ (λt C=>by simp(disch:=omega) only[D3])
 | e::l,x,N,m,A,H,T,w,y,hb,U,A3,I,B,J,K,M,O,A4=>by
   refine Bm λAL AM=> ?_;obtain⟨D,A5⟩:=A3 e (by simp);obtain⟨P,A7,C,Af,Ag,AN⟩:=s0 G U D;obtain⟨Ay,B0⟩:=Ag;obtain⟨k,rfl⟩: ∃k:Nat,x=k:=⟨x.toNat,by omega⟩;have R:k<W:=(by omega);have AO:k+1<=W:=R;have AQ:(An W u)[k]?=some (Z (u k)):=G5 R;have Ah:=bB H D AI A5;have Ai:(push N e d).length=N.length:=cu;simp only[Dl,J9]at I;have Aj: ∀F∈l,0<AX n (push N e d) F/\d<=AX n (push N e d) F:=by intro F AT;rw[Tf (λh=>I.1 (CG.2 ⟨F,AT,h⟩))];exact A3 F (by simp[AT])
   have Ak:=E y;have next: ∀(p:A2) (A8:X),A8=m.A1 bX (some ⟨(push N e d).map (Value.int .i64 ·),true⟩)->(∀t,t<13->p t=A t)->p 15=Z (B2 n e)->AL p A8:=by
    intro p A8 Al s Am;subst Al;refine AM _ _ (nO G Ae AI AJ AK S l _ (push N e d) _ p Ah ?_ (by rw[A6 AJ];exact w) (AR Ak) (by rw[A6 AK];exact hb) Af Aj I.2 (by rw[s 2 (by omega)];exact B) (by rw[s 8 (by omega),Ai];exact J) (by rw[s 11 (by omega)];exact K) (by rw[s 12 (by omega)];exact M) Am (λAp g=> ?_))
    ·rcases T with h|⟨b,o,h,Aq⟩
     ·exact .inl h
     ·exact .inr ⟨b,o,h,by rw[A6 (S _ _ _ h)];exact Aq⟩
    ·rw[Qm];exact A4 Ap (λt C=>by rw[g t C,s t (by omega)])
   have Ar: ∀aM,N[e.1]?=some aM->push N e d=N.set e.1 (if e.2 then aM+d else aM-d):= λaM r=>by unfold push;rw[r]
   obtain⟨a,aM,q,r⟩:=Kt D;have AU: ∀h,N[e.1]'h=aM:= λh=>by rw[AP h]at r;simpa using r
   have B1:=(G.Gu a (B5 q)).2.2;have B3:=H.2 _ a aM q r;have B4:=H.1;have B6:=G.Gf;obtain⟨c,o,rfl,AV⟩:=T.BY AN;have AA:=H6 q (j:=0) (by omega);have AW:=H6 q (j:=1) (by omega);have As:=H6 q (j:=2) (by omega);rw[MG]at AA;simp only[BC]at AA;simp[BC]at AW As;have At:e.1*4+1<=n.A0.length*4:=(by omega);have Au:e.1*4+2<=n.A0.length*4:=(by omega);have B7:e.1*4+3<=n.A0.length*4:=(by omega);have AY:(e.1:Int)<n.A0.length:=(by omega);have AZ:(e.1:Int)<N.length:=(by omega);have Aa:e.1+1<=N.length:=(by omega);have B8:e.1<N.length:=(by omega);have B9:IntKind.i64.wrap (e.1:Int)=e.1:=Ac (by omega) (by omega);have Av:IntKind.i64.wrap ((n.A0.length:Int)+e.1-n.A0.length)=e.1:=(by rw[Ac (by omega) (by omega)];omega);have Aw: ¬(n.A0.length:Int)+e.1<n.A0.length:=(by omega);have Ab:(BI n.A0)[e.1*4]?=some (Z a.f):=AA;have s: ∀h:e.1*4<(BI n.A0).length,(BI n.A0)[e.1*4]'h=Z a.f:= λh=>by have:=Ab;rw[AP h]at this;simpa using this
   have BA:c≠bX:=S _ _ _ rfl;rw[Ar aM r,<-dV]at next
   unfold AX at D A5;simp only[q,r]at D A5;rcases nT (L:=n.A0.length) (z:=u k) (by rw[<-A7];exact AN)with⟨i,Ax,AB,AD⟩|⟨i,Ax,AB,AD⟩
   ·obtain rfl:e=(i,true):=(by rw[A7];exact AD);have AE:B2 n (i,true)=a.f:=(by simp[B2,q]);rw[AE]at next
    simp only[if_true]at*;have AF:IntKind.i64.wrap (aM+d)=aM+d:=Ac (by omega) (by omega);simp(disch:=first|omega|simp only[A9];omega)[Wd,B,J,K,M,O,AF,w,y,hb,AV,P,AQ,R,AO,AB,Ab,At,AY,AZ,Aa,AU,BG];exact next _ _ rfl (λt C=>by simp(disch:=omega) only[D3]) (by simp)
   ·obtain rfl:e=(i,false):=(by rw[A7];exact AD);have AE:B2 n (i,false)=a.t:=(by simp[B2,q]);rw[AE]at next
    simp only[E3,if_false]at*;have AF:IntKind.i64.wrap (aM-d)=aM-d:=Ac (by omega) (by omega);simp(disch:=first|omega|simp only[A9];omega)[Wd,B,J,K,M,O,AF,Av,Aw,w,y,hb,AV,P,AQ,R,AO,AB,AW,Au,AY,AZ,Aa,AU,BG];exact next _ _ rfl (λt C=>by simp(disch:=omega) only[D3]) (by simp)
theorem a1h(j:n.CE)(A6:n.AS=W)(AM: ∀a∈n.A0,0<=a.k/\a.k<=1000)(Ak:b1.ac<=bX)(AN:b1.Y et=some ⟨Cd n v,true⟩)(AO:Dc b1 v n.A0)
 {g:List Int} (AP:DT n g) (BK:gO<=1000000000):
 ∀(O:Nat) (left:Int) (N:List Int) (p:Int->Int) (m:X) (A:A2),left<=O->0<=left->DT n N->0<=value n N->value n N=gO-left->E0 n N p->p n.Ad=0->(∀v,0<=p v/\p v<=p n.Aq)->p n.Aq<=1000*W->Aa b1 m->m.Y bX=some ⟨N.map (Value.int .i64 ·),true⟩->
 A 2=AG et->A 8= .slice (some ⟨bX,0,none⟩) N.length 1->A 9=Z left->
 (∀i t F A7,Aa b1 t->DT n F->value n F=gO->E0 n F A7->(∀v,0<=A7 v/\A7 v<=1000000)->t.Y bX=some ⟨F.map (Value.int .i64 ·),true⟩->i 2=AG et->i 8= .slice (some ⟨bX,0,none⟩) F.length 1->Q (.Ao 0) i t)->
 (value n g<gO-> ∀i t,Aa b1 t->i 4= .slice none 0 0->i 5=Z 0->i 6= .slice none 0 0->i 7=Z 12->Q .Cz i t)->Az V (.loop U5) A m Q:=by
 intro O;have BL:=j.Jy;have Al:=X5 AM;have BM:=E AN;have Am: ∀b l c,v= .slice (some ⟨b,0,none⟩) l c->b≠bX:=by
  intro b l c q;rcases AO with⟨h,_⟩|⟨BN,o,h,hb⟩
  ·rw[h]at q;cases q
  ·rw[h]at q;cases q;have:=E hb;omega
 induction O with
 | zero=>intro left N p m A Ap Ar s As At y A8 P Au w z u B C R A9;obtain rfl:left=0:=(by omega);refine Bm λAQ AA=> ?_;simp[U5,C];exact R _ _ N p w s (by omega) y (λv=>by have:=P v;omega) z (by simp[u]) (by simp[B])
 | succ O Av=>
   intro left N p m A Ap Ar s As At y A8 P Au w z u B C R A9;have D: ∀v,0<=p v/\p v<=1000000:= λv=>by have:=P v;omega
   by_cases Aw:left=0
   ·subst Aw;refine Bm λAQ AA=> ?_;simp[U5,C];exact R _ _ N p w s (by omega) y D z (by simp[u]) (by simp[B])
   refine Bm λAQ AA=> ?_;have AT:0<left:=(by omega);have AU:=w.some AN;have AV:=AO.AD w;simp[U5,C,u,B,AT,AU];refine(a8d j A6 s.Da y A8 D AM AV z).AD λr Ax Ay=> ?_;obtain⟨G,BO,AB,f,BQ,rfl,BR,BS,AW,AX,x,B0⟩:=Ay;have H:=G.some AU;have AE:=G.some z;have AY:=AV.AD G;have BT:=E z;have AF:=x.QW (by omega) (λv=>(D v).1) (λe=>(Al e).2) (λv=>(D v).2);have BU: ∀k:Nat,n.Aq=k->k<W->(An W f)[k]?=some (Z (f n.Aq)):= λk I J=>by rw[G5 J,I]
   obtain⟨AZ,BV⟩:=j.Aq;obtain⟨k,B1⟩: ∃k:Nat,n.Aq=k:=⟨n.Aq.toNat,by omega⟩;have t3:n.Aq.toNat=k:=(by omega);have t4:k<W:=(by omega);have Ab:n.Aq<(W:Int):=(by omega);have Ae:k+1<=W:=t4;have B2:(k:Int)=n.Aq:=B1.symm;have Af:(An W f)[k]?=some (Z (f n.Aq)):=(by rw[G5 t4,B2]);cases K:GM (De p f) n.Aq
   ·have L:=AF.Ti j s K;have AI:=JL j AP AF.Ad K;have AJ:f n.Aq=1099511627776:=by
     have I:=B0 n.Aq;have J: ¬f n.Aq<Bt:= λh=>by have:=NV.2 ((Wb (D n.Aq).1).2 h);rw[K]at this;cases this
     unfold Bt at I J;omega
    simp[u,H,AW,AZ,t3,Ab,Ae,Af,AJ,BG];exact A9 (by omega) _ _ (w.trans G) (by simp) (by simp) (by simp) (by simp)
   have S:=NV.1 K;have AJ:=(Wb (D n.Aq).1).1 S;obtain⟨l,T,U,Ag⟩:=AF.path K;have BW:=x.cap _ S;have BY:=x.DY n.Aq;have B3: ¬f n.Aq=1099511627776:=(by unfold Bt at AJ;omega);obtain⟨BZ,Ba,Ah⟩:=mg (n:=n) (N:=N) l left AT U;simp[u,C,H,AW,AZ,t3,Ab,Ae,Af,B3,BG];refine xf j A6 s.Da AY H AE AX l n.Aq left _ T U (by simp[u]) (by simp[B]) (by simp) (by simp) (by simp) (λA3 L AI=> ?_);have AK:A3 2=AG et:=(by rw[L 2 (by omega)];simp[u]);have Ai:A3 8= .slice (some ⟨bX,0,none⟩) N.length 1:=(by rw[L 8 (by omega)];simp[B]);have B4:A3 9=Z left:=(by rw[L 9 (by omega)];simp[C]);have B5:A3 11= .slice (some ⟨AB,0,none⟩) W 1:=(by rw[L 11 (by omega)];simp);simp[AK,H];refine nO j A6 (d:=M7 n N left l) (by omega) (v:=v) (et:=et) (bX:=bX) (dc:=AB) (by omega) (by omega) Am l n.Aq N Ax _ s.Da AY H AE AX T (λe q=>⟨U e q,Ah e q⟩) Ag (by simp[AK]) (by simp[Ai]) (by simp[B5]) (by simp[AI]) (by simp) (λA4 A5=> ?_);have M:=Xf j s T (d:=M7 n N left l) (by omega) (λe q=>⟨U e q,Ah e q⟩) Ag;have Bb:=MU j M.1;have Bc:=MU j AP;have B6:(G6 N l (M7 n N left l)).length=N.length:=(by rw[M.1.Da.1,s.Da.1]);generalize Bd:M7 n N left l=d at*;have B7:IntKind.i64.wrap (left-d)=left-d:=Ac (by omega) (by omega);have B8:A4 2=AG et:=(by rw[A5 2 (by omega)];simp[AK]);have B9:A4 8= .slice (some ⟨bX,0,none⟩) (G6 N l d).length 1:=(by rw[A5 8 (by omega),B6];simp[Ai]);have BA:A4 9=Z left:=(by rw[A5 9 (by omega)];simp[B4]);have BB:A4 12=Z d:=(by rw[A5 12 (by omega)];simp[AI]);simp[BA,BB,B7];have BC:=x.uB y S;have BD:=x.HK y S T (FM _);have AL: ∀v,H3 p (De p f) (De p f n.Aq) v=p v+(if De p f v<De p f n.Aq then De p f v else De p f n.Aq):= λv=>rfl;have Aj:H3 p (De p f) (De p f n.Aq) n.Aq=p n.Aq+De p f n.Aq:=(by rw[AL];split<;>omega);have BE:H3 p (De p f) (De p f n.Aq) n.Ad=0:=(by rw[AL,x.Ad,A8];split<;>omega);refine AA _ _ (Av (left-d) (G6 N l d) (H3 p (De p f) (De p f n.Aq)) _ _ (by omega) (by omega) M.1 (by rw[M.2];omega) (by rw[M.2];omega) (BC.push BD d) BE (λv=> ?_) (by rw[Aj];omega) ((w.trans G).A1 Ak) (AR (E AE)) (by simp[B8]) (by simp[B9]) (by simp) R (λBF i t I J BH BI BJ=>A9 BF i t I J BH BI BJ));rw[Aj,AL];have:=P v;have:=x.DY v;split<;>omega
def w0(n:Bw)(gO:Int)(m:X)(r:Value)(b:X):Prop:=Aa m b/\ ∃g C,Nm n g C/\
 ((value n g<gO/\r= .tuple #[.slice none 0 0,Z 0,.slice none 0 0,Z 12])\/
  (gO<=value n g/\ ∃(bX a:Nat) (N:List Int) (p q:Int->Int),r= .tuple #[.slice (some ⟨bX,0,none⟩) N.length 1,Z (Eg n.A0 N),.slice (some ⟨a,0,none⟩) n.AS.toNat 1,Z 0]/\m.ac<=bX/\m.ac<=a/\a≠bX/\b.Y bX=some ⟨N.map (Value.int .i64 ·),true⟩/\b.Y a=some ⟨(JE n.AS.toNat q).map (Value.int .i64 ·),true⟩/\DT n N/\value n N=gO/\E0 n N p/\(∀v,0<=p v/\p v<=1000000)/\ ∀v,-1000000<=q v/\q v<=0))
theorem a3W(u:Ik n=true)(w:Dc m v n.A0){g:List Int}(d:Nm n g C)(L:0<=gO)(M:gO<=1000000000):At V 105 [Ic n v,Z gO] m (w0 n gO m):=by
 have O:=d.OH;rw[a5R (by simp)];obtain⟨b,P⟩:=bR.1 u;have x: ∀a∈n.A0,0<=a.k/\a.k<=1000:= λa i=>o9 (P a i);obtain⟨Q,R⟩:=w.len;have z:Aa m ((m.AE 5).A1 m.ac (some ⟨Cd n v,true⟩)):=((Aa.refl m).AE 5).A1 (Aj _);simp(disch:=first|omega|simp only[A9];omega)[g9];refine(oS (w.AD z)).AD λr c S=> ?_;obtain⟨rfl,A⟩:=S;have l:=z.trans A;have o:c.Y m.ac=some ⟨Cd n v,true⟩:=A.some (AR (by simp))
 have AJ:=E o;have B:=w.AD l;obtain⟨W,D⟩: ∃W:Nat,n.AS=W:=⟨n.AS.toNat,by have:=b.Lq;omega⟩;have AK:=b.Gf;have i: ¬gO<0:=by omega
 have z3:(n.A0.length:Int)*8<=140737488355328:=by omega
 have z4:(n.A0.length:Int)<=9223372036854775807:=by omega
 have AL:n.A0.length*8<=140737488355328:=by omega
 have AM:n.A0.length<=9223372036854775807:=by omega
 obtain⟨T,AN⟩:=eP b;have U:E0 n (List.replicate n.A0.length 0) (λ_=>0):=E0.zero b (λa i=>(x a i).1);simp(disch:=first|omega|simp only[A9];omega)[u,i,o,Q,R,z3,z4];have X:Aa c ((c.AE 5).A1 (c.ac+3) (some ⟨List.replicate n.A0.length (Value.int .i64 0),true⟩)):=((Aa.refl c).AE 5).A1 (by omega);refine a1h b D x (v:=v) (et:=m.ac) (bX:=c.ac+3) (b1:=c) (by omega) o B O (gO:=gO) M gO.toNat gO (List.replicate n.A0.length 0) (λ_=>0) _ _ (by omega) L T (by omega) (by omega) U rfl (λv=>by simp) (by show(0:Int)<=_;omega) X (by rw[AR (by simp only[B1];omega),List.map_replicate]) (by simp) (by simp) (by simp) (λA2 A3 j A4 e f y p s t F G=> ?_) (λA5 A2 A3 e f y p s=> ?_)
 rotate_left
 ·simp[f,y,p,s];exact⟨l.trans e,g,C,d,.inl ⟨A5,rfl⟩⟩
 have H:=e.some o;have I:=B.AD e;simp[F,G,H];refine(a0P (n:=n) (N:=j) I (.inr ⟨_,_,rfl,t⟩)).AD λr AO A6=> ?_;obtain⟨rfl,h⟩:=A6;have A7:=h.some H;have A8:Jn n j=(Eg n.A0 j,true):=by simp[Jn,rW b f,u]
 simp[F,G,A7,A8];refine(a3y b D f.Da p s x (I.AD h) (h.some t)).AD λr AP AA=> ?_;obtain⟨J,AB,q,rfl,AQ,AF,AI⟩:=AA;simp;have AT:=l.ac
 have AU:=e.ac
 have AV:=h.ac
 have AW:value n j<=value n g:=by have:=JL b f d.Ad d.Aq;rw[<-d.val]at this;exact this
 have AX:=E t;have K:n.AS.toNat=W:=by omega
 exact⟨l.trans (e.trans (h.trans J)),g,C,d,.inr ⟨by omega,_,AB,j,A4,q,by rw[K],by omega,by omega,by omega,J.some (h.some t),by rw[K];exact AF,f,y,p,s,AI⟩⟩
def a1P(n:Bw)(gO:Int)(t:X)(v:Value)(a:X):Prop:= ∃g C,Nm n g C/\
 ((value n g<gO/\v= .tuple #[.slice none 0 0,Z 0,.slice none 0 0,Z 12]/\a=t)\/
  (gO<=value n g/\ ∃N p q,HQ n gO N p/\(∀v,-1000000<=q v/\q v<=0)/\v= .tuple #[.slice (some ⟨t.ac,0,none⟩) N.length 1,Z (Eg n.A0 N),.slice (some ⟨t.ac+1,0,none⟩) n.AS.toNat 1,Z 0]/\a=N0 t N (JE n.AS.toNat q)))
theorem a1a(z: ∀(v:Value) (m:X),Dc m v n.A0->At V f [Ic n v,Z gO] m (w0 n gO m))(A:n.A0≠[])(B:t.Y o=some ⟨BI n.A0,true⟩):
 Bh V f [.agg #[Z n.AS,Z n.Ad,Z n.Aq,.slice (some ⟨o,0,none⟩) n.A0.length 4],Z gO] t (a1P n gO t):= λD u AI m i E=>by
 obtain⟨AK,AL,rfl,F,G⟩:=E.eS;obtain rfl:=G.DF rfl;obtain⟨b,w,H,I,rfl⟩:=sC i A B F;refine(qm (m:=m) (pJ:=b) (m8:=⟨BI n.A0,w⟩) H I (a7:= λr j=> ∃g C,Nm n g C/\((value n g<gO/\r= .tuple #[.slice none 0 0,Z 0,.slice none 0 0,Z 12])\/(gO<=value n g/\ ∃bX a N p q,r= .tuple #[.slice (some ⟨bX,0,none⟩) N.length 1,Z (Eg n.A0 N),.slice (some ⟨a,0,none⟩) n.AS.toNat 1,Z 0]/\m.ac<=bX/\m.ac<=a/\a≠bX/\j.Y bX=some ⟨N.map (Value.int .i64 ·),true⟩/\j.Y a=some ⟨(JE n.AS.toNat q).map (Value.int .i64 ·),true⟩/\HQ n gO N p/\ ∀v,-1000000<=q v/\q v<=0))) (λp AO J=> ?_)).AD λr j K=> ?_
 ·refine(z _ p (.inr ⟨b,w,rfl,J⟩)).AD λr AP c=> ?_;obtain⟨l,g,C,e,c⟩:=c;refine⟨⟨l.ac,l.Y⟩,λAQ _ s=>⟨g,C,e,c.imp id λh=> ?_⟩⟩;obtain⟨d,bX,a,N,q,k,L,AR,AT,M,O,P,Q,R,S,T,U⟩:=h;exact⟨d,bX,a,N,q,k,L,by omega,by omega,M,s _ _ O,s _ _ P,⟨Q,R,S,T⟩,U⟩
 ·obtain⟨x,y,g,C,e,c⟩:=K;rcases c with⟨d,rfl⟩|⟨d,bX,a,N,q,k,rfl,W,A1,A2,A3,A4,A5,A6⟩
  ·obtain⟨A7,A8⟩:=hI i (h7:=t.ac) x y;exact⟨D,u,_,_,⟨g,C,e,.inl ⟨d,rfl,rfl⟩⟩,A7,AJ.tuple (AJ.cons (.BP rfl) (AJ.cons (.BP rfl) (AJ.cons (.BP rfl) (AJ.cons (.BP rfl) AJ.nil)))),A8⟩
  ·obtain⟨A9,AA,AB,AE,AF⟩:=uA i x y W A1 A2 A3 A4 (dA _) (dA _);refine⟨A9,u,_,_,⟨g,C,e,.inr ⟨d,N,q,k,A5,A6,rfl,rfl⟩⟩,AA,AJ.tuple (AJ.cons (.slice AE) (AJ.cons (.BP rfl) (AJ.cons (.slice AF) (AJ.cons (.BP rfl) AJ.nil)))),AB⟩
open Go Go.DI Go.Big Go.EL
abbrev nd(u:AL)(h:B4 u)(b:1<=u.A3.length)(R:List Int):AN V:= .B9 162 Ah (λa=>a∈Ak u R) (λa=>[.agg (A7 u).toArray,.agg #[Z a.f,Z a.t,Z a.c,Z a.k]]) (λa=>Z (Mm u a)) λa d=>a5U h b d
variable{R:List Int}{u:AL}{L:List (List Int)}
@[simp] theorem aKt{h:B4 u}{d:1<=u.A3.length}(e:a∈Ak u R):(nd u h d R).fn [.agg #[Z u.ext,O (u.Bu.map CS) 4,O (u.Af.map CX) 4,O (u.A5.map Bq) 7,O (u.A4.map Bx) 3,O (u.B7.map BE) 17,O (u.A3.map CW) 2],.agg #[Z a.f,Z a.t,Z a.c,Z a.k]]=some (Z (Mm u a)):=AN.BH (x:=a) e λ⟨g,i,j,l⟩ b=>by obtain⟨a0,m,n,a3⟩:=a;simp at b⊢;exact b
structure TC(u:AL)(R:List Int)(L:List (List Int))(i:Nat)(A:A2)(t:X):Prop where
 DH:t.Y 0=some ⟨A7 u,true⟩
 JK:t.Y 1=some ⟨[Z 0,Z 0,Z 0,.slice none 0 0],true⟩
 Xu:t.Y 9=some ⟨[Z (D0 u R).AS,Z 0,Z 1,AM 12 (Ak u R).length 4],true⟩
 a7U:t.Y 12=some ⟨BI (FH u R L i),true⟩
 Fe:A 1=Bf L
 Yd:A 3=AG 0
 K1:A 6=AG 1
 Hc:A 8=AG 9
theorem TC.ac{j:Nat}{a:A2}{b:X}(h:TC u R L i A t)(c:b.Y 12=some ⟨BI (FH u R L j),true⟩)(d:b.Y 0=t.Y 0)(e:b.Y 1=t.Y 1)(f:b.Y 9=t.Y 9)
 (g:a 1=A 1) (k:a 3=A 3) (l:a 6=A 6) (m:a 8=A 8):TC u R L j a b:=
 ⟨d.trans h.DH,e.trans h.JK,f.trans h.Xu,c,g.trans h.Fe,k.trans h.Yd,l.trans h.K1,m.trans h.Hc⟩
theorem zd(h:B4 u)(AF:1<=u.A3.length)(AJ:CP L)(AV:L.length=u.A3.length)(b:TC u R L 0 A t)(g:A 10=Z 0)
 (AK: ∀S T,TC u R L (Ak u R).length S T->Q (.Ao 0) S T):Bc V (.loop SN) A t Q:=by
 have AW:=h.ok.Cg;have AX:=h.ok.Es;have AY:=h.ok.EF;have AZ:=I6 h.ok;have Aa:=Oa h.ok (R:=R);have U:(MI u h.ok).fn [.agg #[Z u.ext,O (u.Bu.map CS) 4,O (u.Af.map CX) 4,O (u.A5.map Bq) 7,O (u.A4.map Bx) 3,O (u.B7.map BE) 17,O (u.A3.map CW) 2],Z 0]=some (Z (AI u 0)):=ei (d:=0) (by omega);refine Cc (aC:=⟨[nd u h AF R,MI u h.ok,T1],[]⟩) (λi A t=>TC u R L i A t/\A 10=Z i) (Ak u R).length ?_ ?_ 0 A t (C8 _) ⟨b,g⟩
 ·rintro i A t W ⟨b,g⟩ Ag z;obtain⟨q,AL,k,m,X,B,Ah,p⟩:=id b;obtain⟨a,C⟩: ∃a,(Ak u R)[i]?=some a:=⟨_,AP W⟩;have AM:=B5 C;have G:(FH u R L i)[i]?=some a:=(by rw[vc W,C]);have s:=Il G;have J:=iG (u:=u) (R:=R) (L:=L) (i:=i);have K:i*4+4<=(Ak u R).length*4:=(by omega);have M:(i:Int)<(Ak u R).length:=(by omega);have N:=BZ (n:=i) (by omega);have Ai:=E q;have Aj:=E AL;have AN:=E k;have Al:=E m;obtain⟨⟨Am,An,Ap,Aq⟩,AO⟩:=Ps h.ok AM;have AQ:=gq _ i a 1 G;have Y:=uv (L:=L) C;have A0:Gl u L a=false->FH u R L (i+1)=FH u R L i:= λe=>by
   rw[<-Y];simp only[H7,e];exact nv G
  have AR:Gl u L a=true->BI (FH u R L (i+1))=(BI (FH u R L i)).set (i*4+3) (Z 1):= λe=>by rw[AQ,<-Y];simp only[H7,e,if_true]
  have w:(BI (FH u R L i))[i*4+1]?=some (Z a.t):=(by have:=congrArg (λl=>l[1]?) s;simpa[BC,PU,RL]using this);have AS: ∀h,(BI (FH u R L i))[i*4+1]'h=Z a.t:= λh=>(Ae.1 w).2;have A1:i*4+1+1<=(Ak u R).length*4:=(by omega);rcases AO with⟨v,d,Ar,As,At,rfl,o,A2,Au⟩|o
  ·obtain⟨r,P⟩: ∃r,L[v]?=some r:=⟨_,AP (by omega)⟩;have A6:=(Ae.1 P).2;have Av:r.length<=1000000:=E8 (AJ.2 r (B5 P)) (by omega);have A8:JJ L (IL u.A3.length u.A5.length (D8 u v d).f)=r:=(by rw[A2];simp only[JJ,Dx,E1,P,Jb]);have A9:(v:Int)<L.length:=(by omega);have Aw:v<L.length:=(by omega);have AA:(0:Int)<=v:=(by omega);have AD:(D8 u v d).t=AI u d:=rfl;have AT:AI u d-AI u 0=d:=(by unfold AI;omega);have x:Mm u (D8 u v d)=v:=by
    unfold Mm;rw[if_neg (by rw[AD];omega)];exact A2
   have AE:IntKind.i64.wrap (AI u d-AI u 0)=d:=(by rw[AT];exact Ac (by omega) (by omega));rw[AD]at w AS;by_cases c:(d:Int)∈r
   ·have e:Gl u L (D8 u v d)=false:=(by simp only[Gl,A8,o,decide_eq_true c];simp);simp(disch:=first|omega|simp only[DI.AB];omega)[SN,X,B,p,g,q,k,m,M,s,J,K,A1,w,BC,A7,x,U,AE,AA,A9,Bz,A6,c,N,BG,-H,-D,-I,-F,-List.map_map];exact z _ _ ⟨b.ac (j:=i+1) (by rw[A0 e];simp(disch:=first|omega|simp only[DI.AB];omega)[m,-H,-D,-I,-F,-List.map_map]) (by simp(disch:=first|omega|simp only[DI.AB];omega)[-H,-D,-I,-F,-List.map_map]) (by simp(disch:=first|omega|simp only[DI.AB];omega)[-H,-D,-I,-F,-List.map_map]) (by simp(disch:=first|omega|simp only[DI.AB];omega)[-H,-D,-I,-F,-List.map_map]) (by simp) (by simp) (by simp) (by simp),by simp⟩
   ·have e:Gl u L (D8 u v d)=true:=(by simp only[Gl,A8,o,Hk c];simp);simp(disch:=first|omega|simp only[DI.AB];omega)[SN,X,B,p,g,q,k,m,M,s,J,K,A1,w,BC,A7,x,U,AE,AA,A9,Bz,A6,c,N,BG,-H,-D,-I,-F,-List.map_map];exact z _ _ ⟨b.ac (j:=i+1) (by rw[AR e];simp(disch:=first|omega|simp only[DI.AB];omega)[-H,-D,-I,-F,-List.map_map]) (by simp(disch:=first|omega|simp only[DI.AB];omega)[-H,-D,-I,-F,-List.map_map]) (by simp(disch:=first|omega|simp only[DI.AB];omega)[-H,-D,-I,-F,-List.map_map]) (by simp(disch:=first|omega|simp only[DI.AB];omega)[-H,-D,-I,-F,-List.map_map]) (by simp) (by simp) (by simp) (by simp),by simp⟩
  ·have e:Gl u L a=false:=(by simp only[Gl,o];simp);have x:Mm u a= -1:=by
    unfold Mm;rw[if_pos];unfold HR at o;have Ax:AI u 0=2+(u.A3.length:Int)*u.A5.length:=(by unfold AI;omega);generalize(u.A3.length:Int)*u.A5.length=y at*;split at o<;>omega
   simp(disch:=first|omega|simp only[DI.AB];omega)[SN,B,p,g,q,k,m,M,s,J,K,BC,A7,x,N,-H,-D,-I,-F,-List.map_map];exact z _ _ ⟨b.ac (j:=i+1) (by rw[A0 e];simp(disch:=first|omega|simp only[DI.AB];omega)[m,-H,-D,-I,-F,-List.map_map]) (by simp(disch:=first|omega|simp only[DI.AB];omega)[-H,-D,-I,-F,-List.map_map]) (by simp(disch:=first|omega|simp only[DI.AB];omega)[-H,-D,-I,-F,-List.map_map]) (by simp(disch:=first|omega|simp only[DI.AB];omega)[-H,-D,-I,-F,-List.map_map]) (by simp) (by simp) (by simp) (by simp),by simp⟩
 ·rintro A t ⟨b,g⟩;have p:=b.Hc;have k:=b.Xu;have AN:=E k;have AU: ¬((Ak u R).length:Int)<(Ak u R).length:=(by omega);simp[SN,p,g,k,AU];refine AK _ _ ⟨b.DH,b.JK,b.Xu,b.a7U,?_,?_,?_,?_⟩;all_goals simp[b.Fe,b.Yd,b.K1,b.Hc]
theorem yU(h:B4 u)(e:1<=u.A3.length)(f:CP L)(g:Cs u L=true)(i:L.length=u.A3.length):Bh V 104 [.agg (A7 u).toArray,Bf L,AK R] Cl λv b=>v= .tuple #[.agg #[Z (C9 u R L).AS,Z 0,Z 1,AM 12 (As u R L).length 4],Z 0]/\b.Y 12=some ⟨BI (As u R L),true⟩:=by
 have n:=h.ok.D6;refine Ax (aC:=⟨[sL u h],[uE u h]⟩) tl.2 ?_;simp(disch:=first|omega|simp only[DI.AB];omega)[tl,uQ,A7,g,-H,-D,-I,-F,-List.map_map];refine zd h e (R:=R) f i ⟨by simp(disch:=first|omega|simp only[DI.AB];omega)[A7,-H,-D,-I,-F,-List.map_map],by simp(disch:=first|omega|simp only[DI.AB];omega)[-H,-D,-I,-F,-List.map_map],by simp(disch:=first|omega|simp only[DI.AB];omega)[-H,-D,-I,-F,-List.map_map],by simp(disch:=first|omega|simp only[DI.AB];omega)[uP,-H,-D,-I,-F,-List.map_map],by simp,by simp,by simp,by simp⟩ (by simp) λp b j=> ?_;obtain⟨q,c,d,a,r,s,k,l⟩:=id j;have t:=E c;have w:=E d;have x:=E a;have m:(As u R L).length=(Ak u R).length:=by simp[As]
 rw[o5]at a;simp(disch:=first|omega|simp only[DI.AB];omega)[q6,k,l,c,d,m,-H,-D,-I,-F,-List.map_map];refine⟨rfl,?_⟩;simp(disch:=first|omega|simp only[DI.AB];omega)[a,-H,-D,-I,-F,-List.map_map]
theorem a2W(h:B4 u)(e:1<=u.A3.length)(f:CP L)(g:Cs u L=true)(j:L.length=u.A3.length)(t:X):Bh V 104 [.agg (A7 u).toArray,Bf L,AK R] t λv l=>v= .tuple #[.agg #[Z (C9 u R L).AS,Z 0,Z 1,AM t.ac (As u R L).length 4],Z 0]/\l=C4 t.ac [BI (As u R L)] (t.AE 1):=by
 refine Qy (n:=1) (r:= λk=> .tuple #[.agg #[Z (C9 u R L).AS,Z 0,Z 1,AM k (As u R L).length 4],Z 0]) (bs:= λ_=>[BI (As u R L)]) (λ_=>rfl) (λv b=>by simp at b;rcases b with rfl|rfl|rfl<;>rfl) ((yU h e f g j).AD λv o ⟨b,m⟩=>⟨[12],by simp,rfl,λk=>⟨?_,λi cs c=> ?_⟩⟩) t
 ·rw[b];exact FO.Uc (Cf.cons (FO.U2 (Cf.cons (.DE rfl) (Cf.cons (.DE rfl) (Cf.cons (.DE rfl) (Cf.cons (.slice ⟨0,rfl,rfl⟩) Cf.nil))))) (Cf.cons (.DE rfl) Cf.nil))
 ·cases i with
  | zero=>simp at c;subst c;refine⟨12,_,rfl,m,Cf.cells λv b=> ?_⟩;simp only[BI,Mv,CG]at b;obtain⟨r,⟨a,_,rfl⟩,d⟩:=b;simp[BC]at d;rcases d with rfl|rfl|rfl|rfl<;>rfl
  |succ i=>simp at c
end Go.Proofs.YtmmkkggfmigppaaGreat
end
