/- A part of the proof. -/
import Derived.Test.YtmmkkggfmigppaaGreatZczac
set_option linter.all false
set_option maxRecDepth 8000
set_option maxHeartbeats 16000000
namespace Go.Proofs.YtmmkkggfmigppaaGreat
open Go Go.DI Go.Ex
def bT:D:= .FI [
 ⟨0,some 60,none,.F2 (.tmp 13),[]⟩,
 ⟨1,some 61,none,.GV 0 (.tmp 15),[]⟩,
 ⟨2,some 62,none,.E4 false 1 (.tmp 61),[]⟩,
 ⟨3,some 63,none,.F2 (.tmp 13),[]⟩,
 ⟨4,some 64,none,.GV 0 (.tmp 15),[]⟩,
 ⟨5,some 65,none,.E4 false 1 (.tmp 64),[]⟩,
 ⟨6,some 66,none,.HN 1 (.tmp 63) (.tmp 65),[]⟩,
 ⟨7,some 67,none,.E4 false 1 (.tmp 66),[]⟩,
 ⟨8,some 68,none,.F2 (.tmp 14),[]⟩,
 ⟨9,some 69,none,.HG 1 1 [.int .i64 0] [(0,1,.tmp 68)],[]⟩,
 ⟨10,some 70,none,.app 1 8 (.tmp 67) (.tmp 69),[(.tmp 61,.tmp 67)]⟩,
 ⟨11,some 71,none,.HN 1 (.tmp 60) (.tmp 62),[]⟩,
 ⟨12,none,none,.store 1 (.tmp 71) (.tmp 70),[]⟩]
def b9:D:= .FI [
 ⟨0,some 72,none,.F2 (.tmp 13),[]⟩,
 ⟨1,some 73,none,.GV 1 (.tmp 15),[]⟩,
 ⟨2,some 74,none,.E4 false 1 (.tmp 73),[]⟩,
 ⟨3,some 75,none,.F2 (.tmp 13),[]⟩,
 ⟨4,some 76,none,.GV 1 (.tmp 15),[]⟩,
 ⟨5,some 77,none,.E4 false 1 (.tmp 76),[]⟩,
 ⟨6,some 78,none,.HN 1 (.tmp 75) (.tmp 77),[]⟩,
 ⟨7,some 79,none,.E4 false 1 (.tmp 78),[]⟩,
 ⟨8,some 80,none,.F2 (.tmp 14),[]⟩,
 ⟨9,some 81,none,.Jw .sub .Qi (.const (.int .i64 (-1))) (.tmp 80),[]⟩,
 ⟨10,some 82,none,.HG 1 1 [.int .i64 0] [(0,1,.tmp 81)],[]⟩,
 ⟨11,some 83,none,.app 1 8 (.tmp 79) (.tmp 82),[(.tmp 73,.tmp 79)]⟩,
 ⟨12,some 84,none,.HN 1 (.tmp 72) (.tmp 74),[]⟩,
 ⟨13,none,none,.store 1 (.tmp 84) (.tmp 83),[]⟩]
theorem ux:nE=(
 .Ez (
 .FI [
  ⟨0,some 56,none,.Jw .lss .Qi (.tmp 55) (.tmp 54),[]⟩]) (
 .Ez (
 .Gh (.tmp 56) (
  .skip) (
  .Ai 0)) (
 .Ez (
 .block 1 (
 .Ez (
 .FI [
  ⟨0,some 57,none,.F2 (.tmp 55),[]⟩,
  ⟨1,some 58,none,.HN 4 (.tmp 53) (.tmp 55),[]⟩,
  ⟨2,some 59,none,.E4 true 4 (.tmp 58),[]⟩,
  ⟨3,some 15,none,.IX [.int .i64 0,.int .i64 0,.int .i64 0,.int .i64 0],[]⟩,
  ⟨4,some 14,none,.F2 (.tmp 57),[]⟩,
  ⟨5,none,none,.store 4 (.tmp 15) (.tmp 59),[]⟩]) (
 .Ez (
 bT) (
 b9)))) (
 .FI [
  ⟨0,some 85,none,.Jw .add .Qi (.tmp 55) (.const (.int .i64 1)),[]⟩,
  ⟨1,some 55,none,.F2 (.tmp 85),[]⟩])))
 :D):=rfl
variable{A:A6}{Q:BM->A6->V->Prop}{a:Ae}{aJ:Int->Nat}{ag cI hu i cG cU gZ f:Nat}{m:V}{n:CG}{o J:Int->List Int}{p cv:Int->Int}{ab:List Int}{v:Value}{k3:Int}
set_option maxRecDepth 20000 in
theorem aBu(A6:n.Cz)(A7:n.Am=ag){r:Nat}(A8:i<2500)
 (w:m.W hu=some ⟨Cj a,true⟩) (s:Fi o cI ag r aJ m) (H:cI<r) (I:r<=m.next) (X:n.Cy a.f) (Z:(o a.f).length<=100000) (x: ∀k:Nat,k<ag->o k≠[]->aJ k≠hu) (A9:hu≠cI)
 (J:A 13= .slice (some ⟨cI,0,none⟩) ag 1) (K:A 15=AA hu) (L:A 14=Y i)
 (y: ∀M u N,(∀t,t<60->M t=A t)->m.next<=u.next->(∀b,b<m.next->b≠cI->(∀k:Nat,k<ag->o k≠[]->b≠aJ k)->u.W b=m.W b)->Fi (At o a.f (o a.f++[(i:Int)])) cI ag r N u->(∀k:Nat,k<ag->At o a.f (o a.f++[(i:Int)]) k≠[]->N k≠hu)->Q .Cx M u):BS U bT A m Q:=by
 obtain⟨O,AB⟩:=X;obtain⟨k,A0⟩: ∃k:Nat,a.f=k:=⟨a.f.toNat,by omega⟩;have P:a.f<(ag:Int):=by omega
 have R:a.f.toNat=k:=by omega
 have e:k<ag:=by omega
 have S:k+1<=ag:=e;rw[A0]at y Z;have z:=s.Mp;have p:(GD ag o aJ)[k]?=some (Ee (o k) (aJ k)):=WJ e;have T: ∀h,(GD ag o aJ)[k]'h=Ee (o k) (aJ k):= λh=>by rw[AS h]at p;simpa using p
 have AE:IntKind.i64.wrap (-1-(i:Int))= -1-(i:Int):=Ah (by omega) (by omega);have AF:=F z;have AG:=F w;by_cases d:o k=[]
 ·have B:Ee (o k) (aJ k)= .slice none 0 0:=(by unfold Ee;rw[if_pos d]);rw[B]at p T;have q:=P4 (ag:=ag) (o:=o) (aJ:=aJ) (k:=k) (b:=m.next+10) (l:=o k++[(i:Int)]) (by simp);have C:(o k++[(i:Int)]).length=1:=(by rw[d];rfl);rw[C]at q;simp(disch:=first|omega|simp only[AD];omega)[bT,J,K,L,w,z,O,P,R,p,CC,Cj,S,q,Dm];refine y _ _ (At aJ k (m.next+10)) (λt A1=>by simp(disch:=omega) only[I5]) (by simp only[Ar,BC];omega) (λc D E v=>by simp(disch:=first|omega|(simp only[Ar,BC];omega)) only[A3,AU]) (s.app H e (by omega) I ?_ ?_ ?_) ?_
  ·simp(disch:=first|omega|(simp only[Ar,BC];omega)) only[AT]
  ·simp(disch:=first|omega|(simp only[Ar,BC];omega)) only[AT,A3];rw[d];rfl
  ·intro c D E _;simp(disch:=omega) only[A3,AU]
  ·intro j G g;unfold At at g⊢;split
   ·omega
   ·rename_i h;rw[if_neg h]at g;exact x j G g
 ·have B:Ee (o k) (aJ k)= .slice (some ⟨aJ k,0,none⟩) (o k).length 1:=(by unfold Ee;rw[if_neg d]);rw[B]at p T;have q:=P4 (ag:=ag) (o:=o) (aJ:=aJ) (k:=k) (b:=m.next+10) (l:=o k++[(i:Int)]) (by simp);have C:(o k++[(i:Int)]).length=(o k).length+1:=(by simp);rw[C]at q;obtain⟨V,AH⟩:=s.W k e d;have AJ:=F V;have AK:cI≠aJ k:=(by omega);have A2:hu≠aJ k:= λh=>x k e d h.symm;have A4:((o k).length+1)*8<=140737488355328:=(by omega);have A5:(o k).length+1<=9223372036854775807:=(by omega);have z3:((o k).map (Value.int .i64 ·)).take (o k).length=(o k).map (Value.int .i64 ·):=DV (by simp);simp(disch:=first|omega|simp only[AD];omega)[bT,J,K,L,w,z,O,P,R,p,CC,Cj,S,q,Dm,bne_iff_ne,V,A2,A4,A5,z3];refine y _ _ (At aJ k (m.next+10)) (λt A1=>by simp(disch:=omega) only[I5]) (by simp only[Ar,BC];omega) (λc D E v=>by have:=v k e d;simp(disch:=first|omega|(simp only[Ar,BC];omega)) only[A3,AU]) (s.app H e (by omega) I ?_ ?_ ?_) ?_
  ·simp(disch:=first|omega|(simp only[Ar,BC];omega)) only[AT]
  ·simp(disch:=first|omega|(simp only[Ar,BC];omega)) only[AT,A3];simp
  ·intro c D E v;have:=v d;simp(disch:=omega) only[A3,AU]
  ·intro j G g;unfold At at g⊢;split
   ·omega
   ·rename_i h;rw[if_neg h]at g;exact x j G g
set_option maxRecDepth 20000 in
theorem a1T(A6:n.Cz)(A7:n.Am=ag){q:Nat}(A8:i<2500)
 (v:m.W hu=some ⟨Cj a,true⟩) (r:Fi o cI ag q aJ m) (G:cI<q) (H:q<=m.next) (X:n.Cy a.t) (Z:(o a.t).length<=100000) (w: ∀k:Nat,k<ag->o k≠[]->aJ k≠hu) (A9:hu≠cI)
 (I:A 13= .slice (some ⟨cI,0,none⟩) ag 1) (J:A 15=AA hu) (K:A 14=Y i)
 (x: ∀L s M,(∀t,t<72->L t=A t)->m.next<=s.next->(∀b,b<m.next->b≠cI->(∀k:Nat,k<ag->o k≠[]->b≠aJ k)->s.W b=m.W b)->Fi (At o a.t (o a.t++[(-1-(i:Int))])) cI ag q M s->(∀k:Nat,k<ag->At o a.t (o a.t++[(-1-(i:Int))]) k≠[]->M k≠hu)->Q .Cx L s):BS U b9 A m Q:=by
 obtain⟨N,AB⟩:=X;obtain⟨k,A0⟩: ∃k:Nat,a.t=k:=⟨a.t.toNat,by omega⟩;have O:a.t<(ag:Int):=by omega
 have P:a.t.toNat=k:=by omega
 have e:k<ag:=by omega
 have R:k+1<=ag:=e;rw[A0]at x Z;have y:=r.Mp;have g:(GD ag o aJ)[k]?=some (Ee (o k) (aJ k)):=WJ e;have S: ∀h,(GD ag o aJ)[k]'h=Ee (o k) (aJ k):= λh=>by rw[AS h]at g;simpa using g
 have T:IntKind.i64.wrap (-1-(i:Int))= -1-(i:Int):=Ah (by omega) (by omega);have AE:=F y;have AF:=F v;by_cases d:o k=[]
 ·have z:Ee (o k) (aJ k)= .slice none 0 0:=(by unfold Ee;rw[if_pos d]);rw[z]at g S;have p:=P4 (ag:=ag) (o:=o) (aJ:=aJ) (k:=k) (b:=m.next+11) (l:=o k++[(-1-(i:Int))]) (by simp);have B:(o k++[(-1-(i:Int))]).length=1:=(by rw[d];rfl);rw[B]at p;simp(disch:=first|omega|simp only[AD];omega)[b9,I,J,K,v,y,N,O,P,g,CC,Cj,R,p,T,Dm];refine x _ _ (At aJ k (m.next+11)) (λt A1=>by simp(disch:=omega) only[I5]) (by simp only[Ar,BC];omega) (λc C D u=>by simp(disch:=first|omega|(simp only[Ar,BC];omega)) only[A3,AU]) (r.app G e (by omega) H ?_ ?_ ?_) ?_
  ·simp(disch:=first|omega|(simp only[Ar,BC];omega)) only[AT]
  ·simp(disch:=first|omega|(simp only[Ar,BC];omega)) only[AT,A3];rw[d];rfl
  ·intro c C D _;simp(disch:=omega) only[A3,AU]
  ·intro j E f;unfold At at f⊢;split
   ·omega
   ·rename_i h;rw[if_neg h]at f;exact w j E f
 ·have z:Ee (o k) (aJ k)= .slice (some ⟨aJ k,0,none⟩) (o k).length 1:=(by unfold Ee;rw[if_neg d]);rw[z]at g S;have p:=P4 (ag:=ag) (o:=o) (aJ:=aJ) (k:=k) (b:=m.next+11) (l:=o k++[(-1-(i:Int))]) (by simp);have B:(o k++[(-1-(i:Int))]).length=(o k).length+1:=(by simp);rw[B]at p;obtain⟨V,AG⟩:=r.W k e d;have AH:=F V;have AJ:cI≠aJ k:=(by omega);have A2:hu≠aJ k:= λh=>w k e d h.symm;have A4:((o k).length+1)*8<=140737488355328:=(by omega);have A5:(o k).length+1<=9223372036854775807:=(by omega);have z3:((o k).map (Value.int .i64 ·)).take (o k).length=(o k).map (Value.int .i64 ·):=DV (by simp);simp(disch:=first|omega|simp only[AD];omega)[b9,I,J,K,v,y,N,O,P,g,CC,Cj,R,p,T,Dm,bne_iff_ne,V,A2,A4,A5,z3];refine x _ _ (At aJ k (m.next+11)) (λt A1=>by simp(disch:=omega) only[I5]) (by simp only[Ar,BC];omega) (λc C D u=>by have:=u k e d;simp(disch:=first|omega|(simp only[Ar,BC];omega)) only[A3,AU]) (r.app G e (by omega) H ?_ ?_ ?_) ?_
  ·simp(disch:=first|omega|(simp only[Ar,BC];omega)) only[AT]
  ·simp(disch:=first|omega|(simp only[Ar,BC];omega)) only[AT,A3];simp
  ·intro c C D u;have:=u d;simp(disch:=omega) only[A3,AU]
  ·intro j E f;unfold At at f⊢;split
   ·omega
   ·rename_i h;rw[if_neg h]at f;exact w j E f
set_option maxRecDepth 20000 in
theorem wM{n:CG}(s:n.Cz){ag:Nat}(G:n.Am=ag){v:Value}{cI bl:Nat}{df:V}(P:GX df v n.AF)(H:cI<bl)(R: ∀b l c,v= .slice (some ⟨b,0,none⟩) l c->b<bl/\b≠cI){Q:BM->A6->V->Prop}:
 ∀(r i:Nat) (m:V) (A:A6) (o:Int->List Int) (aJ:Int->Nat),i+r=n.AF.length->bl<=m.next->(∀b,b<bl->b≠cI->m.W b=df.W b)->Fi o cI ag bl aJ m->NK n i o->
 A 53=v->A 54=Y n.AF.length->A 55=Y i->A 13= .slice (some ⟨cI,0,none⟩) ag 1->
 (∀y h o' I,(∀t,t<14->y t=A t)->m.next<=h.next->(∀b,b<bl->b≠cI->h.W b=df.W b)->Fi o' cI ag bl I h->NK n n.AF.length o'->Q (.Ai 0) y h)->BS U (.loop nE) A m Q
 | 0,i,m,A,o,aJ,A1,A2,z,j,u,J,B,C,D,K=>by refine D7 λA4 S=> ?_;have E: ¬i<n.AF.length:=(by omega);obtain rfl:i=n.AF.length:=(by omega);simp[ux,B,C];exact K _ _ o aJ (λt w=>by simp(disch:=omega) only[I5]) (Ao _) z j u
 | r+1,i,m,A,o,aJ,A1,A2,z,j,u,J,B,C,D,K=>by
   refine D7 λA4 S=> ?_;have E:i<n.AF.length:=(by omega);obtain⟨a,L⟩: ∃a,n.AF[i]?=some a:=⟨n.AF[i]'E,by simp⟩;obtain⟨c,Ak,rfl,A5⟩:=P.C1 E;obtain⟨A7,A8⟩:=R _ _ _ rfl;have M:=z c A7 A8;rw[A5]at M;have hb:i*4+4<=n.AF.length*4:=(by omega);have A9:=LX L;have Al:=s.JK;obtain⟨AB,AH,a3,a4⟩:=s.Il a (B9 L);have AJ:=BX (n:=i) (by omega);have An:=F M;simp(disch:=first|omega|simp only[AD];omega)[ux,J,B,C,E,M,hb,A9,Cj];have AK: ∀b x,m.W b=some x->((m.AE 6).A0 (m.next+3) (some ⟨[Y a.f,Y a.t,Y a.c,Y a.k],true⟩)).W b=some x:= λb x hb=>by have:=F hb;rw[A3 (by omega),AU this,hb]
   have N: ∀k:Nat,k<ag->o k≠[]->aJ k<m.next/\bl<=aJ k:= λk d e=>⟨F (j.W k d e).1,(j.W k d e).2⟩
   have Ap:=F j.Mp;refine aBu (a:=a) (o:=o) (aJ:=aJ) (hu:=m.next+3) (i:=i) s G (by omega) (AT (by simp)) (j.AG AK) H (by simp only[Ar,BC];omega) AB (by have:=u.len a.f;omega) (λk d e=>by have:=N k d e;omega) (by omega) (by simp[D]) (by simp) (by simp) λAL AM T g AN X Z AO=> ?_;simp only[Ar,BC]at AN;simp only[Wn];have AP:AM.W (m.next+3)=some ⟨Cj a,true⟩:=by rw[X _ (by simp only[Ar,BC];omega) (by omega) (λk d e=>by have:=N k d e;omega)];exact AT (by simp)
   refine a1T (a:=a) (aJ:=T) (hu:=m.next+3) (i:=i) s G (by omega) AP Z H (by omega) AH (by have:=u.len a.t;have:= @cF o a.f (i:Int) a.t;omega) AO (by omega) (by rw[g 13 (by omega)];simp[D]) (by rw[g 15 (by omega)];simp) (by rw[g 14 (by omega)];simp) λp AQ AR AS Aq AV AW As=> ?_;have q: ∀t,t<60->p t=AL t:= λt w=>AS t (by omega);have AX:p 55=Y i:=(by rw[q 55 (by omega),g 55 (by omega)];simp[C]);have AY:p 53= .slice (some ⟨c,0,none⟩) n.AF.length 4:=(by rw[q 53 (by omega),g 53 (by omega)];simp[J]);have AZ:p 54=Y n.AF.length:=(by rw[q 54 (by omega),g 54 (by omega)];simp[B]);have Aa:p 13= .slice (some ⟨cI,0,none⟩) ag 1:=(by rw[q 13 (by omega),g 13 (by omega)];simp[D]);have Ab: ∀t,t<14->p t=A t:= λt w=>by rw[q t (by omega),g t (by omega)];simp(disch:=omega) only[I5]
   simp[AX,AJ];have Ac: ∀k:Nat,k<ag->At o a.f (o a.f++[(i:Int)]) k≠[]->bl<=T k:= λk d e=>(Z.W k d e).2;refine S _ _ (wM s G P H R r (i+1) AQ _ _ AR (by omega) (by omega) (λb Ad O=> ?_) AW (u.step L (by omega)) (by simp[AY]) (by simp[AZ]) (by simp) (by simp[Aa]) (λy h o' I Ae Au Af Ag Ah=>K y h o' I (λt w=> ?_) (by omega) Af Ag Ah))
   ·rw[AV b (by omega) O (λk d e=>by have:=Ac k d e;omega),X b (by simp only[Ar,BC];omega) O (λk d e=>by have:=N k d e;omega)];rw[A3 (by omega),AU (by omega)];exact z b Ad O
   ·rw[Ae t w];simp(disch:=omega) only[I5];exact Ab t w
def Mv(ag:Nat)(p:Int->Int):List Int:=(List.range ag).map λ(x:Nat)=>p x
theorem zx:(Mv ag p).length=ag:=by simp[Mv]
theorem a7a:C4 ag p=(Mv ag p).map (Value.int .i64 ·):=by simp[C4,Mv]
theorem aDJ{a v:Int}:p v+(if a<cv v then a else cv v)=Hx p cv a v:=by unfold Hx;split<;>split<;>omega
set_option maxRecDepth 20000 in
theorem vE(j:n.Cz)(O:n.Am=ag){iD:Nat}(G: ∀v,0<=p v/\p v<=1000000)(l: ∀v,0<=cv v/\cv v<=EU)(H:cG≠cI)(I:gZ≠cI)(J:iD≠cI):
 ∀(r i:Nat) (m:V) (A:A6) (g:Int->Int),i+r=ag->m.W cG=some ⟨[Y n.Am,Y n.Aj,Y n.BJ,v,.slice (some ⟨cU,0,none⟩) ab.length 1,.slice (some ⟨cI,0,none⟩) ag 1],true⟩->m.W gZ=some ⟨FV n v,true⟩->m.W iD=some ⟨C4 ag cv,true⟩->m.W cI=some ⟨C4 ag g,true⟩->
 (∀v:Nat,v<ag->g (v:Int)=if v<i then Hx p cv (cv n.BJ) v else p v)->A 2=AA gZ->A 12=AA cG->A 16= .slice (some ⟨iD,0,none⟩) ag 1->A 94= .slice (some ⟨iD,0,none⟩) ag 1->A 95=Y ag->A 96=Y i->
 (∀b,(∀t,t<18->b t=A t)->Q (.Ai 4) b (m.A0 cI (some ⟨C4 ag (Hx p cv (cv n.BJ)),true⟩)))->BS U (.loop Xx) A m Q
 | 0,i,m,A,g,P,o,s,u,c,d,w,y,z,B,f,C,D=>by
   refine D7 λR K=> ?_;have a: ¬i<ag:=(by omega);have e:C4 ag g=C4 ag (Hx p cv (cv n.BJ)):=tI λv E=>by rw[d v E,if_pos (by omega)]
   simp[Xx,f,C,a];have:=D (FT A 97 (.bool false)) (λt L=>by simp(disch:=omega) only[I5]);rw[<-e,Z1 c]at this;exact this
 | r+1,i,m,A,g,P,o,s,u,c,d,w,y,z,B,f,C,D=>by
   refine D7 λR K=> ?_;have a:i<ag:=(by omega);have S:i+1<=ag:=a;have T:=F c;have AG:=j.PL;obtain⟨X,AH⟩:=j.BJ;obtain⟨k,Z⟩: ∃k:Nat,n.BJ=k:=⟨n.BJ.toNat,by omega⟩;have t3:n.BJ.toNat=k:=(by omega);have t4:k<ag:=(by omega);have A1:n.BJ<(ag:Int):=(by omega);have A2:k+1<=ag:=t4;have M: ∀(g:Int->Int) (x:Nat),x<ag->(C4 ag g)[x]?=some (Y (g x)):= λg x A4=>L9 A4;have A5:= λg=>M g k t4;have A7:= λg=>M g i a;have A8:g (i:Int)=p i:=(by rw[d i a,if_neg (by omega)]);have AJ:=G i;have A9:=l i;have AB:=l n.BJ;unfold EU at A9 AB;have AD:(k:Int)=n.BJ:=Z.symm;have AE:=BX (n:=i) (by omega);have AF:IntKind.i64.wrap (p i+(if cv n.BJ<cv i then cv n.BJ else cv i))=Hx p cv (cv n.BJ) i:=by rw[aDJ];refine Ah ?_ ?_<;>(unfold Hx;split<;>omega)
   simp[Xx,w,y,z,B,f,C,a,S,o,s,u,c,X,t3,A1,A2,A5,A7,A8,AD,CC,AE,AF,XJ,-Nn];refine K _ _ (vE j O G l H I J r (i+1) _ _ (At g i (Hx p cv (cv n.BJ) i)) (by omega) (by rw[A3 H];exact o) (by rw[A3 I];exact s) (by rw[A3 J];exact u) (AT T) (λv E=> ?_) (by simp[w]) (by simp[y]) (by simp[z]) (by simp[B]) (by simp[f]) (by simp) (λb q=> ?_))
   ·by_cases h:v=i
    ·subst h;rw[Hz,if_pos (by omega)]
    ·rw[FW (by omega),d v E];by_cases N:v<i
     ·rw[if_pos N,if_pos (by omega)]
     ·rw[if_neg N,if_neg (by omega)]
   ·rw[VD];exact D b (λt L=>by rw[q t L];simp(disch:=omega) only[I5])
set_option maxRecDepth 20000 in
theorem a7E(i:n.Cz)(A8:n.Am=ag)(S: ∀a∈n.AF,0<=a.k/\a.k<=1000)(AQ: ∀e,-1000<=Ga n e/\Ga n e<=1000){dU bl:Nat}{df:V}(BV:df.next<=cU)(BW:df.next<=cI)(AR:cG≠cU)(T: ∀b l c,v= .slice (some ⟨b,0,none⟩) l c->b≠cU/\b≠cI)(AS:cI≠cU)(BX:cU<bl)(Aq:gZ≠cU)(A9:cG≠cI)(AU:gZ≠cI)(BY:cI<bl)(As:dU≠cU)(At:dU≠cI)
 (AB:NK n n.AF.length J) {g:List Int} (AV:Dr n g) (BZ:k3<=value n g):
 ∀(X:Nat) (left:Int) (ab:List Int) (p:Int->Int) (m:V) (A:A6),left<=X->0<=left->Dr n ab->0<=value n ab->value n ab=k3-left->FF n ab p->p n.Aj=0->(∀v,0<=p v/\p v<=p n.BJ)->p n.BJ<=1000*ag->BK df m->F9 n ab v cG cU cI ag m->m.W cI=some ⟨C4 ag p,true⟩->Fi J dU ag bl aJ m->m.W gZ=some ⟨FV n v,true⟩->
 A 1=Y left->A 2=AA gZ->A 12=AA cG->A 13= .slice (some ⟨dU,0,none⟩) ag 1->
 (∀Z I A1 A2,BK df I->Dr n A1->value n A1=k3->FF n A1 A2->(∀v,0<=A2 v/\A2 v<=1000000)->F9 n A1 v cG cU cI ag I->I.W cI=some ⟨C4 ag A2,true⟩->I.W gZ=some ⟨FV n v,true⟩->Z 2=AA gZ->Z 12=AA cG->Q (.Ai 2) Z I)->BS U (.loop Tm) A m Q:=by
 intro X;induction X with
 | zero=>intro left ab p m A Au Av j Aw Ax y AD A4 Ay K w B A5 L M N C AE A7;obtain rfl:left=0:=(by omega);have Az:=i.PL;refine D7 λAW AH=> ?_;simp[Tm,M];exact A7 _ _ ab p K j (by omega) y (λv=>by have:=A4 v;omega) w B L (by simp[N]) (by simp[C])
 | succ X B0=>
   intro left ab p m A Au Av j Aw Ax y AD A4 Ay K w B A5 L M N C AE A7;have Az:=i.PL;have O: ∀v,0<=p v/\p v<=1000000:= λv=>by have:=A4 v;omega
   by_cases B1:left=0
   ·refine D7 λAW AH=> ?_;subst B1;simp[Tm,M];exact A7 _ _ ab p K j (by omega) y O w B L (by simp[N]) (by simp[C])
   refine D7 λAW AH=> ?_;have AX:0<left:=(by omega);have B2:=A5.jU;have B3:Qh n J:=⟨λx _ z B4=>AB.Pt x z B4,λe B5=>AB.all e B5⟩;simp[Tm,M,C,AE,AX];refine(a3Z i A8 j.ES y AD O S AQ w B B2 B3 (λx=>by have:=AB.len x;have:=i.JK;omega)).AG λr P B6=> ?_;obtain⟨D,AY,AZ,cv,Aa,rfl,Ba,Bb,Bc,B7,B8,t⟩:=B6;have E:=w.AG D;have B9:=D.some B;have AJ:Fi J dU ag bl aJ P:=A5.AG (λb x hb=>D.some hb);have Ab:=D.some L;have Bd:=F B;have Be:=F w.f;have Bf:=F w.s;have Bg:=K.next
   have Bh:=D.next
   have AK:=t.RV (by omega) (λv=>(O v).1) (λe=>(AQ e).2) (λv=>(O v).2);have Ac:GR cv n.BJ=true:=by
    cases Ad:GR cv n.BJ
    ·have Bi:=AK.ZX i j Ad;have Bj:=Kr i AV AK.Aj Ad;omega
    ·rfl
   have AL:=Qc.1 Ac;obtain⟨l,AM,BA,Ae⟩:=AK.path Ac;have Bk:=t.cap _ AL;have Bl:=t.EZ n.BJ;simp[];refine vE i A8 (p:=p) (cv:=cv) (ab:=ab) (v:=v) (cG:=cG) (cU:=cU) (cI:=cI) (gZ:=gZ) (iD:=AY) O (λv=>⟨t.EZ v,t.TJ v⟩) A9 AU (by omega) ag 0 P _ p (by omega) E.s Ab B7 B9 (λv Bm=>by simp) (by simp[N]) (by simp[C]) (by simp) (by simp) (by simp) (by simp) (λZ q=> ?_);have Af:=q 1 (by omega);have Ag:=q 2 (by omega);have AN:=q 12 (by omega);have Ak:=q 13 (by omega);have Al:=q 17 (by omega);simp[M,N,C,AE]at Af Ag AN Ak Al;simp[Af,AN,Al];have BB:F9 n ab v cG cU cI ag (P.A0 cI (some ⟨C4 ag (Hx p cv (cv n.BJ)),true⟩)):=by
    refine⟨by rw[A3 A9];exact E.s,?_,by rw[A3 (Ne.symm AS)];exact E.f⟩;rcases E.a with h|⟨b,o,u,G⟩
    ·exact .inl h
    ·exact .inr ⟨b,o,u,by rw[A3 (T _ _ _ u).2];exact G⟩
   refine(a0v i A8 S j.ES BB (eB:=AZ) (eC:=Aa) (by rw[A3 (by omega)];exact B8) AR (λb l c h=>(T b l c h).1) (by omega) AM BA Ae (Hh:=left) AX).AG λr An BC=> ?_;obtain⟨d,rfl,Bo,Bp,BD,Ao,BE⟩:=BC;have R:=jt i j AM (d:=d) (by omega) BD Ae;have Bq:=Pc i R.1;have Br:=Pc i j;have Bs:=Pc i AV;have BF:(HP ab l d).length=ab.length:=(by rw[R.1.ES.1,j.ES.1]);have BG:=Ao.next
   have AO:=Ao.W;simp only[Ar]at BG AO;have BH:IntKind.i64.wrap (left-d)=left-d:=Ah (by omega) (by omega);have Bt:=F L;have Bu:=F A5.Mp;simp[BH];have BI:=t.a6o y AL;have BL:=t.H6 y AL AM (HB _);have AP: ∀v,Hx p cv (cv n.BJ) v=p v+(if cv v<cv n.BJ then cv v else cv n.BJ):= λv=>rfl;have Ap:Hx p cv (cv n.BJ) n.BJ=p n.BJ+cv n.BJ:=(by rw[AP];split<;>omega);have BM:Hx p cv (cv n.BJ) n.Aj=0:=(by rw[AP,t.Aj,AD];split<;>omega);have H: ∀c,c<P.next->c≠cU->c≠cI->An.W c=P.W c:= λc BN BO BP=>by rw[AO c BN BO,A3 BP]
   refine AH _ _ (B0 (left-d) (HP ab l d) (Hx p cv (cv n.BJ)) An _ (by omega) (by omega) R.1 (by rw[R.2];omega) (by rw[R.2];omega) (BI.push BL d) BM (λv=> ?_) (by rw[Ap];omega) ⟨by omega,λc BQ=> ?_⟩ ⟨?_,?_,BE⟩ ?_ ?_ ?_ (by simp) (by simp[Ag]) (by simp[AN]) (by simp[Ak]) A7)
   ·rw[Ap,AP];have:=A4 v;have:=t.EZ v;split<;>omega
   ·rw[H c (by omega) (by omega) (by omega),D.W c (by omega),K.W c BQ]
   ·rw[H cG (by omega) AR A9,BF];exact E.s
   ·rcases E.a with h|⟨b,o,u,G⟩
    ·exact .inl h
    ·exact .inr ⟨b,o,u,by rw[H b (F G) (T _ _ _ u).1 (T _ _ _ u).2];exact G⟩
   ·rw[AO cI (by omega) AS,AT (by omega)]
   ·refine⟨by rw[H dU (by omega) As At];exact AJ.Mp,λk S BU=> ?_,AJ.inj⟩;obtain⟨u,G⟩:=AJ.W k S BU;exact⟨by rw[H _ (F u) (by omega) (by omega)];exact u,G⟩
   ·rw[H gZ (by omega) Aq AU];exact Ab
theorem oR:MX n=true↔n.Cz/\ ∀a∈n.AF,J3 a=true:=by simp only[MX,AB,BF,W2];exact⟨λh=>⟨h.2,h.1⟩,λh=>⟨h.2,h.1⟩⟩
theorem a7H(h:J3 a=true):0<=a.k/\a.k<=1000:=by simp[J3]at h;omega
theorem aAy(h: ∀a∈n.AF,0<=a.k/\a.k<=1000)(e:DJ): -1000<=Ga n e/\Ga n e<=1000:=by
 unfold Ga;split
 ·rename_i a b;have:=h a (B9 b);split<;>omega
 ·omega
def zA(n:CG)(k3:Int)(m:V)(r:Value)(a:V):Prop:=BK m a/\ ∃g b,Vk n g b/\
 ((value n g<k3/\r= .tuple #[.slice none 0 0,Y 0,.slice none 0 0,Y 12])\/
  (k3<=value n g/\ ∃cU cI ab p,r= .tuple #[.slice (some ⟨cU,0,none⟩) ab.length 1,Y (Fu n.AF ab),.slice (some ⟨cI,0,none⟩) n.Am.toNat 1,Y 0]/\m.next<=cU/\m.next<=cI/\cI≠cU/\a.W cU=some ⟨ab.map (Value.int .i64 ·),true⟩/\a.W cI=some ⟨(Mv n.Am.toNat p).map (Value.int .i64 ·),true⟩/\Dr n ab/\value n ab=k3/\FF n ab p/\ ∀v,0<=p v/\p v<=1000000))
set_option maxRecDepth 20000 in
theorem a2o(E:MX n=true)(G:GX m v n.AF)(T:n.AF.length<1000000000)(B1:0<=k3):Aq U 201 [Ol n v,Y k3] m (zA n k3 m):=by
 rw[aAp (by simp)];obtain⟨A9,AB⟩:=G.len;have V:BK m ((m.AE 5).A0 m.next (some ⟨FV n v,true⟩)):=((BK.refl m).AE 5).A0 (Ao _);simp(disch:=first|omega|simp only[AD];omega)[ha];refine(q6 (G.AG V) T).AG λr AH H=> ?_;obtain⟨rfl,X⟩:=H;have u:=V.trans X;have I:AH.W m.next=some ⟨FV n v,true⟩:=X.some (AT (by simp))
 have B2:=F I;have B3:=u.next
 have q: ¬k3<0:=by omega
 obtain⟨g,AJ⟩:=oR.1 E;have t: ∀a∈n.AF,0<=a.k/\a.k<=1000:= λa q=>a7H (AJ a q);have Z:=G.AG u;obtain⟨ag,A1⟩: ∃ag:Nat,n.Am=ag:=⟨n.Am.toNat,by have:=g.Ph;omega⟩;have J:n.Am.toNat=ag:=by omega
 have B4:=g.PL;have B5:=g.JK;simp[E,I,q];refine(a6k g Z).AG λr d H=> ?_;obtain⟨K,L,A2,B6,B7,rfl,_,_,_,_,_,M⟩:=H;have AK:=M.Wp;have N:=K.some I;have B8:=F N;have O:=Z.AG K;have P:=u.trans K;have AL:=P.next
 by_cases Q:value n L<k3
 ·simp(disch:=first|omega|simp only[AD];omega)[Q];exact⟨P,L,A2,M,.inl ⟨Q,rfl⟩⟩
 have z0:0<=n.Am:=by omega
 have AM:n.Am*24<=140737488355328:=by omega
 have AN:n.Am*8<=140737488355328:=by omega
 have AO:n.Am<=9223372036854775807:=by omega
 have z3:(n.AF.length:Int)*8<=140737488355328:=by omega
 have z4:(n.AF.length:Int)<=9223372036854775807:=by omega
 have B9:n.AF.length*8<=140737488355328:=by omega
 have BA:n.AF.length<=9223372036854775807:=by omega
 simp(disch:=first|omega|simp only[AD];omega)[N,Q,A9,AB,J,z0,AM,AN,AO,z3,z4,Uh,-Nn];obtain⟨AP,BB⟩:=oJ g;have AQ:FF n (List.replicate n.AF.length 0) (λ_=>0):=FF.zero g (λa q=>(t a q).1);generalize p:((((((d.AE 11).A0 (d.next+4) (some ⟨C4 n.AF.length (λ_=>0),true⟩)).A0 (d.next+7) (some ⟨C4 ag (λ_=>0),true⟩)).A0 (d.next+9) (some ⟨[Y n.Am,Y n.Aj,Y n.BJ,v,.slice (some ⟨d.next+4,0,none⟩) n.AF.length 1,.slice (some ⟨d.next+7,0,none⟩) ag 1],true⟩)).AE 4).A0 (d.next+11+2) (some ⟨List.replicate ag (Value.slice none 0 0),true⟩))=j;have AL:j.next=d.next+15:=by rw[<-p];simp
 have A4:BK d j:=⟨by omega,λb hb=>by rw[<-p];simp(disch:=first|omega|(simp only[Ar,BC];omega)) only[A3,AU]⟩;have AR:j.W (d.next+9)=some ⟨[Y n.Am,Y n.Aj,Y n.BJ,v,.slice (some ⟨d.next+4,0,none⟩) n.AF.length 1,.slice (some ⟨d.next+7,0,none⟩) ag 1],true⟩:=by rw[<-p];simp(disch:=first|omega|(simp only[Ar,BC];omega)) only[AT,A3,AU]
 have AS:j.W (d.next+4)=some ⟨C4 n.AF.length (λ_=>0),true⟩:=by rw[<-p];simp(disch:=first|omega|(simp only[Ar,BC];omega)) only[AT,A3,AU]
 have AV:j.W (d.next+7)=some ⟨C4 ag (λ_=>0),true⟩:=by rw[<-p];simp(disch:=first|omega|(simp only[Ar,BC];omega)) only[AT,A3,AU]
 have AW:j.W (d.next+13)=some ⟨List.replicate ag (Value.slice none 0 0),true⟩:=by rw[<-p];simp(disch:=first|omega|(simp only[Ar,BC];omega)) only[AT]
 have AX:List.replicate ag (Value.slice none 0 0)=GD ag (λ_=>[]) (λ_=>0):=by apply LQ<;>simp[GD,Ee]
 have A5: ∀b l c,v= .slice (some ⟨b,0,none⟩) l c->b<d.next:=by
  intro b l c i;rcases O with⟨h,_⟩|⟨BD,o,h,hb⟩
  ·rw[h]at i;cases i
  ·rw[h]at i;cases i;exact F hb
 refine wM g A1 (v:=v) (cI:=d.next+13) (bl:=d.next+15) (df:=j) (O.AG A4) (by omega) (λb l c i=>by have:=A5 b l c i;omega) n.AF.length 0 j _ (λ_=>[]) (λ_=>0) (by omega) (by omega) (λ_ _ _=>rfl) ⟨by rw[AW,AX],λk t Aa=>absurd rfl Aa,λk BE t BF BG Ab=>absurd rfl Ab⟩ ⟨λx z Ac=>by simp at Ac,λe i=>by omega,λx=>by simp⟩ (by simp) (by simp[]) (by simp) (by simp) (λw R o' BH y BI A Ad Ae=> ?_);have Af:w 1=Y k3:=by rw[y 1 (by omega)];simp
 have Ag:w 2=AA m.next:=by rw[y 2 (by omega)];simp
 have Ah:w 12=AA (d.next+9):=by rw[y 12 (by omega)];simp
 have Ak:w 13= .slice (some ⟨d.next+13,0,none⟩) ag 1:=by rw[y 13 (by omega)];simp
 have S:BK d R:=⟨by omega,λb hb=>by rw[A b (by omega) (by omega),A4.W b hb]⟩;have Al:F9 n (List.replicate n.AF.length 0) v (d.next+9) (d.next+4) (d.next+7) ag R:=by refine⟨by rw[A _ (by omega) (by omega),AR,Ps],O.AG S,?_⟩;rw[A _ (by omega) (by omega),AS,<-Uh,List.map_replicate]
 simp;refine a7E g A1 t (aAy t) (v:=v) (cG:=d.next+9) (cU:=d.next+4) (cI:=d.next+7) (dU:=d.next+13) (gZ:=m.next) (bl:=d.next+15) (df:=d) (by omega) (by omega) (by omega) (λb l c i=>by have:=A5 b l c i;omega) (by omega) (by omega) (by omega) (by omega) (by omega) (by omega) (by omega) (by omega) Ae AK (k3:=k3) (by omega) k3.toNat k3 (List.replicate n.AF.length 0) (λ_=>0) R _ (by omega) (by omega) AP (by omega) (by omega) AQ rfl (λv=>by simp) (by show(0:Int)<=_;omega) S Al (by rw[A _ (by omega) (by omega),AV]) Ad (S.some N) (by simp[Af]) (by simp[Ag]) (by simp[Ah]) (by simp[Ak]) (λBM BN B An Ap A6 As At Au C Av Aw Ax A7=> ?_);have A8:=C.s;simp[Aw,Ax,A7,A8];refine(a7o (n:=n) (ab:=B) C.a (.inr ⟨_,_,rfl,C.f⟩) T).AG λr BO Ay=> ?_;obtain⟨rfl,D⟩:=Ay;have Az:=D.some A8;have B0:Qf n B=(Fu n.AF B,true):=by simp[Qf,a3p g A6,E]
 simp[A7,Az,B0];have BP:=u.next
 refine⟨P.trans (Ap.trans D),L,A2,M,.inr ⟨by omega,d.next+4,d.next+7,B,An,by rw[J],by omega,by omega,by omega,D.some C.f,?_,A6,As,At,Au⟩⟩;rw[J,<-a7a];exact D.some Av
structure PJ(n:CG)(k3:Int)(ab:List Int)(p:Int->Int):Prop where
 Wp:Dr n ab
 val:value n ab=k3
 ZX:FF n ab p
 aQM: ∀v,0<=p v/\p v<=1000000
def VX(t:V)(ab ps:List Int):V:=(((t.AE 1).A0 t.next (some ⟨ab.map (Value.int .i64 ·),true⟩)).AE 1).A0 (t.next+1) (some ⟨ps.map (Value.int .i64 ·),true⟩)
def a4Y(n:CG)(k3:Int)(t:V)(v:Value)(a:V):Prop:= ∃g b,Vk n g b/\
 ((value n g<k3/\v= .tuple #[.slice none 0 0,Y 0,.slice none 0 0,Y 12]/\a=t)\/
  (k3<=value n g/\ ∃ab p,PJ n k3 ab p/\v= .tuple #[.slice (some ⟨t.next,0,none⟩) ab.length 1,Y (Fu n.AF ab),.slice (some ⟨t.next+1,0,none⟩) n.Am.toNat 1,Y 0]/\a=VX t ab (Mv n.Am.toNat p)))
theorem a7B(y: ∀(v:Value) (m:V),GX m v n.AF->Aq U f [Ol n v,Y k3] m (zA n k3 m))(z:n.AF≠[]){t:V}{o:Nat}(A:t.W o=some ⟨Ck n.AF,true⟩):
 Bv U f [.agg #[Y n.Am,Y n.Aj,Y n.BJ,.slice (some ⟨o,0,none⟩) n.AF.length 4],Y k3] t (a4Y n k3 t):= λB u A8 m i C=>by
 obtain⟨A9,AB,rfl,D,E⟩:=C.ct;obtain rfl:=E.DH rfl;obtain⟨b,w,F,G,rfl⟩:=a7C i z A D;refine(aCP (m:=m) (pU:=b) (pd:=⟨Ck n.AF,w⟩) F G (a7:= λr j=> ∃g a,Vk n g a/\((value n g<k3/\r= .tuple #[.slice none 0 0,Y 0,.slice none 0 0,Y 12])\/(k3<=value n g/\ ∃cU cI ab p,r= .tuple #[.slice (some ⟨cU,0,none⟩) ab.length 1,Y (Fu n.AF ab),.slice (some ⟨cI,0,none⟩) n.Am.toNat 1,Y 0]/\m.next<=cU/\m.next<=cI/\cI≠cU/\j.W cU=some ⟨ab.map (Value.int .i64 ·),true⟩/\j.W cI=some ⟨(Mv n.Am.toNat p).map (Value.int .i64 ·),true⟩/\PJ n k3 ab p))) (λp AH H=> ?_)).AG λr j I=> ?_
 ·refine(y _ p (.inr ⟨b,w,rfl,H⟩)).AG λr AK c=> ?_;obtain⟨k,g,a,e,c⟩:=c;refine⟨⟨k.next,k.W⟩,λAL _ l=>⟨g,a,e,c.imp id λh=> ?_⟩⟩;obtain⟨d,cU,cI,ab,q,J,AM,AN,K,L,M,N,O,P,Q⟩:=h;exact⟨d,cU,cI,ab,q,J,by omega,by omega,K,l _ _ L,l _ _ M,N,O,P,Q⟩
 ·obtain⟨s,x,g,a,e,c⟩:=I;rcases c with⟨d,rfl⟩|⟨d,cU,cI,ab,q,rfl,R,S,T,X,Z,A0⟩
  ·obtain⟨A1,A2⟩:=qG i (h4:=t.next) s x;exact⟨B,u,_,_,⟨g,a,e,.inl ⟨d,rfl,rfl⟩⟩,A1,AJ.tuple (AJ.cons (.BT rfl) (AJ.cons (.BT rfl) (AJ.cons (.BT rfl) (AJ.cons (.BT rfl) AJ.nil)))),A2⟩
  ·obtain⟨A3,A4,A5,A6,A7⟩:=a4m i s x R S T X Z (rn _) (rn _);refine⟨A3,u,_,_,⟨g,a,e,.inr ⟨d,ab,q,A0,rfl,rfl⟩⟩,A4,AJ.tuple (AJ.cons (.slice A6) (AJ.cons (.BT rfl) (AJ.cons (.slice A7) (AJ.cons (.BT rfl) AJ.nil)))),A5⟩
open Go Go.DI Go.Big Go.Ex
variable{L:List (List Int)}{u:AY}{R:List Int}
theorem Sl:(Jt u L a).f=a.f/\(Jt u L a).t=a.t/\(Jt u L a).c=a.c/\((Jt u L a).k=a.k\/(Jt u L a).k=1):=by
 unfold Jt;split
 ·exact⟨rfl,rfl,rfl,.inr rfl⟩
 ·exact⟨rfl,rfl,rfl,.inl rfl⟩
theorem oG(h:a∈B2 u R):a.k=0:=by
 rcases Oj.1 h with⟨v,e,b⟩|⟨d,c,rfl⟩
 ·rcases Ls.1 b with rfl|⟨j,f,rfl⟩|⟨d,c,g,rfl⟩<;>rfl
 ·rfl
theorem jS(h:BW u)(R:List Int)(L:List (List Int)):(E6 u R L).Cz:=by obtain⟨c,d,a3,a4,e,f,g⟩:=S7 h R;refine⟨c,d,by simpa[E6,Bn,Dd]using a3,a4,e,f,λa i=> ?_⟩;obtain⟨b,hb,rfl⟩:=CP.1 i;have:=g b hb;obtain⟨j,k,l,_⟩:=Sl (u:=u) (L:=L) (a:=b);simp only[CG.rh,CG.Cy,j,k,l]at this⊢;exact this
theorem MW:(Dr (E6 u R L) ab↔Dr (Dd u R) ab)/\(Dr (Dd u R) ab->value (E6 u R L) ab=value (Dd u R) ab):=by
 have h:(Dd u R).AF.map (λa=>(a.f,a.t))=(E6 u R L).AF.map (λa=>(a.f,a.t)):=by simp only[Dd,E6,Bn,List.map_map];refine X7 λa _=> ?_;obtain⟨k,l,_,_⟩:=Sl (u:=u) (L:=L) (a:=a);simp only[Function.comp,k,l]
 have e: ∀(i:Nat) a b,(Dd u R).AF[i]?=some a->(E6 u R L).AF[i]?=some b->a.c=b.c:= λi a b d hb=>by simp only[E6,Bn,GS,Kz]at hb;obtain⟨c,e,rfl⟩:=hb;simp only[Dd]at d;rw[d]at e;cases e;exact(Sl (u:=u) (L:=L) (a:=a)).2.2.1.symm
 refine⟨⟨λg=>(gn (n:=E6 u R L) (hq:=Dd u R) rfl rfl rfl h.symm (λi a b d hb=>by rw[e i b a hb d];exact HB _) g).1,λg=>(gn (n:=Dd u R) (hq:=E6 u R L) rfl rfl rfl h (λi a b d hb=>by rw[e i a b d hb];exact HB _) g).1⟩,
  λg=>(gn (n:=Dd u R) (hq:=E6 u R L) rfl rfl rfl h (λi a b d hb=>by rw[e i a b d hb];exact HB _) g).2⟩
theorem a1S(h:BW u)(R:List Int)(L:List (List Int))(e: ∀a∈B2 u R,a.c<=1000000):MX (E6 u R L)=true:=by refine oR.2 ⟨jS h R L,λa f=> ?_⟩;obtain⟨b,hb,rfl⟩:=CP.1 f;obtain⟨_,_,g,d⟩:=Sl (u:=u) (L:=L) (a:=b);have i:=oG hb;have:=e b hb;unfold J3;rcases d with d|d<;>simp[g,d,i]<;>omega
theorem a7T(h:BW u)(g:a∈B2 u R):a.c<=1000000:=by
 rcases Oj.1 g with⟨v,b,i⟩|⟨d,e,rfl⟩
 ·rcases Ls.1 i with rfl|⟨j,m,rfl⟩|⟨d,e,n,rfl⟩
  ·obtain⟨p,_,_,_,f,o⟩:=WE h b;simp only[Fc,AB,Ba]at f;obtain⟨k,l,_⟩:=f;have:=GQ k;have:=GQ l;simp only[Ft];omega
  ·have:=n7 h b (j+1);simp only[Jd];omega
  ·simp[E8]
 ·have:=Um h R e;simp only[Hi];omega
open Go Go.DI Go.Big
def GU(S:List Int)(a:List Int×List Int)(d:Int):List Int×List Int:=if 0<=d/\d∈S/\d∉a.2 then(a.1++[d],a.2++[d])else(a.1++[-1],a.2)
def K1(a:Int×List Int)(d:Int):Int×List Int:=if a.1<0/\d∉a.2 then(d,a.2++[d])else a
def GH(S:List Int)(a:List Int×List Int)(x:Int):List Int×List Int:=(a.1++[(S.foldl K1 (x,a.2)).1],(S.foldl K1 (x,a.2)).2)
def Ht(S a:List Int):List Int×List Int:=a.foldl (GU S) ([],[])
def HF(S a:List Int):List Int:=((Ht S a).1.foldl (GH S) ([],(Ht S a).2)).1
variable{B:Type}{S r:List Int}{x:Ae×Int}{K:Int}{bG:List Ae}
theorem Yw{a:Type}{f:a->B->a}{l:List B}{b:a}{x:B}(h:l[i]?=some x):(l.take (i+1)).foldl f b=f ((l.take i).foldl f b) x:=by rw[K4,h,List.foldl_append];rfl
theorem SQ: ∀(l:List Int) (a:List Int×List Int),(l.foldl (GU S) a).1.length=a.1.length+l.length
 |[],a=>by simp
 | d::l,a=>by rw[IJ,SQ l,Df];unfold GU;split<;>simp<;>omega
theorem j2: ∀(l:List Int) (a:List Int×List Int),(l.foldl (GH S) a).1.length=a.1.length+l.length
 |[],a=>by simp
 | d::l,a=>by rw[IJ,j2 l,Df];simp only[GH,Ds,Df,Jx];omega
theorem YJ{a b:List B}{x y:B}(h:a.length=i):(a++x::b).set i y=a++y::b:=by subst h;rw[List.set_append_right _ _ (Ao _),Nat.sub_self,TU]
theorem a6M{a b:List B}{x:B}(h:a.length=i):(a++x::b)[i]?=some x:=by subst h;rw[KM (Ao _),Nat.sub_self];rfl
theorem aG0{a:List Int}(Ah:S.length<=1000)(Al:a.length<=1000):Bv U 204 [AH a,AH S] D0 λv t=>v=AQ 2 a.length 1/\t.W 2=some ⟨(HF S a).map Y,true⟩:=by
 refine Ak (an:=⟨[XE],[]⟩) vq (by kernel_rfl) (by simp[af]) ?_;have AR:(0:Int)<=a.length:=by omega
 have AT:(a.length:Int)*8<=140737488355328:=by omega
 have AU:(a.length:Int)<=9223372036854775807:=by omega
 simp(disch:=first|omega|simp only[AD];omega)[af,qe,AR,AT,AU];refine CE (an:=⟨[XE],[]⟩) (λi A t=>t.W 2=some ⟨(((a.take i).foldl (GU S) ([],[])).1++List.replicate (a.length-i) 0).map Y,true⟩/\t.BL 4=some (Gl ((a.take i).foldl (GU S) ([],[])).2)/\A 1=AH S/\A 5=AQ 2 a.length 1/\A 6= .map (some 4)/\A 16=AH a/\A 17=Y a.length/\A 18=Y i) a.length ?_ ?_ 0 _ _ (C0 _) ⟨by simp(disch:=first|omega|simp only[AD];omega)[-H,-E,-I,-G,-List.map_map],by simp(disch:=first|omega|simp only[AD];omega)[Gl,-H,-E,-I,-G,-List.map_map],by simp,by simp,by simp,by simp,by simp,by simp⟩
 ·rintro i A t AK ⟨g,k,m,l,p,K,u,R⟩ AL w;obtain⟨d,A0⟩:=CF AK;have A4:=(AX.1 A0).2;have L:(i:Int)<a.length:=(by omega);have T:=BX (n:=i) (by omega);have N:=Yw (f:=GU S) (b:=([],[])) A0;obtain⟨bG,V⟩: ∃bG,(a.take i).foldl (GU S) ([],[])=bG:=⟨_,rfl⟩;have A5:bG.1.length=i:=(by rw[<-V,SQ];simp;omega);rw[V]at N g k;have A1:DX (.int .i64) (Y d) (Gl bG.2)=true:=ui;have AV:=F (DQ k).1;have A9:=F g;obtain⟨o,B⟩: ∃o,bG.1++List.replicate (a.length-i) 0=o:=⟨_,rfl⟩;have A6:o.length=a.length:=(by rw[<-B];simp;omega);have AM:i<o.length:=(by omega);have AW:List.replicate (a.length-i) (0:Int)=0::List.replicate (a.length-(i+1)) 0:=by
   rw[show a.length-i=(a.length-(i+1))+1 by omega,Rv]
  have X: ∀y:Int,(o.map Y).set i (Y y)=(bG.1++y::List.replicate (a.length-(i+1)) 0).map Y:= λy=>by rw[<-MG,<-B,AW,YJ A5]
  have Am: ∀y z:Int,((bG.1++y::List.replicate (a.length-(i+1)) 0).map Y).set i (Y z)=(bG.1++z::List.replicate (a.length-(i+1)) 0).map Y:= λy z=>by rw[<-MG,YJ A5]
  have An: ∀y:Int,(bG.1++y::List.replicate (a.length-(i+1)) 0).length=a.length:= λy=>by simp;omega
  rw[B]at g;by_cases c:0<=d/\d∈S/\d∉bG.2
  ·obtain⟨r,s,A2⟩:=c;have O:CT (Y d) (Gl bG.2)=none:=(by rw[VQ,if_neg A2]);have q:(a.take (i+1)).foldl (GU S) ([],[])=(bG.1++[d],bG.2++[d]):=(by rw[N];exact if_pos ⟨r,s,A2⟩);simp(disch:=first|omega|simp only[AD];omega)[RR,R0,OP,m,l,p,K,u,R,L,A4,g,A6,k,O,A1,r,s,T,X,-CT,-DM,-DX,-H,-E,-I,-G,-List.map_map];have AY:((bG.1.map Y)++Y (-1)::List.replicate (a.length-(i+1)) (Y 0)).set i (Y d)=(bG.1.map Y)++Y d::List.replicate (a.length-(i+1)) (Y 0):=YJ (by simpa using A5);have Ao:2<t.next:=A9
   have AB:=hT A2;refine⟨by omega,by omega,w _ _ ⟨?_,?_,by simp[m],by simp[l],by simp[p],by simp[K],by simp[u],by simp⟩⟩
   ·rw[q];simp(disch:=omega)[AY]
   ·rw[q,<-AB];simp(disch:=first|omega|simp only[AD];omega)[-CT,-DM,-DX,-H,-E,-I,-G,-List.map_map]
  ·have q:(a.take (i+1)).foldl (GU S) ([],[])=(bG.1++[-1],bG.2):=(by rw[N];exact if_neg c);by_cases r:0<=d
   ·by_cases s:d∈S
    ·have A2:d∈bG.2:=by
      by_cases x:d∈bG.2
      ·exact x
      ·exact absurd ⟨r,s,x⟩ c
     have O:CT (Y d) (Gl bG.2)=some (.bool true):=(by rw[VQ,if_pos A2]);simp(disch:=first|omega|simp only[AD];omega)[RR,R0,OP,m,l,p,K,u,R,L,A4,g,A6,k,O,A1,r,s,T,X,-CT,-DM,-DX,-H,-E,-I,-G,-List.map_map];repeat refine And.intro (by omega) ?_
     refine w _ _ ⟨?_,?_,by simp[m],by simp[l],by simp[p],by simp[K],by simp[u],by simp⟩
     ·rw[q];simp(disch:=omega)
     ·rw[q];simp(disch:=first|omega|simp only[AD];omega)[k,-CT,-DM,-DX,-H,-E,-I,-G,-List.map_map]
    ·simp(disch:=first|omega|simp only[AD];omega)[RR,R0,OP,m,l,K,u,R,L,A4,g,A6,r,s,T,X,-CT,-DM,-DX,-H,-E,-I,-G,-List.map_map];repeat refine And.intro (by omega) ?_
     refine w _ _ ⟨?_,?_,by simp[m],by simp[l],by simp[p],by simp[K],by simp[u],by simp⟩
     ·rw[q];simp(disch:=omega)
     ·rw[q];simp(disch:=first|omega|simp only[AD];omega)[k,-CT,-DM,-DX,-H,-E,-I,-G,-List.map_map]
   ·simp(disch:=first|omega|simp only[AD];omega)[RR,R0,OP,l,K,u,R,L,A4,g,A6,r,T,X,-CT,-DM,-DX,-H,-E,-I,-G,-List.map_map];repeat refine And.intro (by omega) ?_
    refine w _ _ ⟨?_,?_,by simp[m],by simp[l],by simp[p],by simp[K],by simp[u],by simp⟩
    ·rw[q];simp(disch:=first|omega|simp only[AD];omega)[-H,-E,-I,-G,-List.map_map]
    ·rw[q];simp(disch:=first|omega|simp only[AD];omega)[k,-CT,-DM,-DX,-H,-E,-I,-G,-List.map_map]
 ·rintro A t ⟨g,k,m,l,p,K,u,R⟩;rw[EP]at g k;obtain⟨bG,V⟩: ∃bG,a.foldl (GU S) ([],[])=bG:=⟨_,rfl⟩;have A5:bG.1.length=a.length:=(by rw[<-V,SQ];simp);have AZ:HF S a=(bG.1.foldl (GH S) ([],bG.2)).1:=(by unfold HF Ht;rw[V]);rw[V]at g k;have Aa:t.W 2=some ⟨bG.1.map Y,true⟩:=(by simpa using g);have A9:=F g;simp(disch:=first|omega|simp only[AD];omega)[RR,R0,R0,l,u,R,-H,-E,-I,-G,-List.map_map];refine CE (an:=⟨[],[]⟩) (λi A t=>t.W 2=some ⟨(((bG.1.take i).foldl (GH S) ([],bG.2)).1++bG.1.drop i).map Y,true⟩/\t.BL 4=some (Gl ((bG.1.take i).foldl (GH S) ([],bG.2)).2)/\A 1=AH S/\A 5=AQ 2 a.length 1/\A 6= .map (some 4)/\A 47=Y a.length/\A 48=Y i) a.length ?_ ?_ 0 _ _ (C0 _) ⟨by simpa using Aa,by simpa using k,by simp[m],by simp[l],by simp[p],by simp,by simp⟩
  ·rintro i A t AK ⟨g,k,m,l,p,D,J⟩ AL w;obtain⟨x,A0⟩: ∃x,bG.1[i]?=some x:=⟨_,AS (by omega)⟩;have N:=Yw (f:=GH S) (b:=([],bG.2)) A0;obtain⟨aJ,AN⟩: ∃aJ,(bG.1.take i).foldl (GH S) ([],bG.2)=aJ:=⟨_,rfl⟩;have AO:aJ.1.length=i:=(by rw[<-AN,j2];simp;omega);have Ab:bG.1.drop i=x::bG.1.drop (i+1):=(by rw[Iy (by omega),(AX.1 A0).2]);rw[AN]at N g k;rw[Ab]at g;have L:(i:Int)<a.length:=(by omega);have T:=BX (n:=i) (by omega);simp(disch:=first|omega|simp only[AD];omega)[kr,OP,m,D,J,L,-H,-E,-I,-G,-List.map_map];refine CE (an:=⟨[],[]⟩) (λj A t=>t.W 2=some ⟨(aJ.1++((S.take j).foldl K1 (x,aJ.2)).1::bG.1.drop (i+1)).map Y,true⟩/\t.BL 4=some (Gl ((S.take j).foldl K1 (x,aJ.2)).2)/\A 1=AH S/\A 5=AQ 2 a.length 1/\A 6= .map (some 4)/\A 9=Y i/\A 47=Y a.length/\A 48=Y i/\A 51=AH S/\A 52=Y S.length/\A 53=Y j) S.length ?_ ?_ 0 _ _ (C0 _) ⟨g,k,by simp[m],by simp[l],by simp[p],by simp,by simp[D],by simp[J],by simp[],by simp,by simp⟩
   ·rintro j A t Ac ⟨g,k,m,l,p,P,D,J,Q,M,A3⟩ AL w;obtain⟨d,AP⟩:=CF Ac;have AE:=(AX.1 AP).2;have A7:=Yw (f:=K1) (b:=(x,aJ.2)) AP;obtain⟨C,Ad⟩: ∃C,(S.take j).foldl K1 (x,aJ.2)=C:=⟨_,rfl⟩;rw[Ad]at A7 g k;have AF:(j:Int)<S.length:=(by omega);have v0:=BX (n:=j) (by omega);have A1:DX (.int .i64) (Y d) (Gl C.2)=true:=ui;have AV:=F (DQ k).1;have A9:=F g;obtain⟨o,B⟩: ∃o,aJ.1++C.1::bG.1.drop (i+1)=o:=⟨_,rfl⟩;have Ae:o[i]?=some C.1:=(by rw[<-B];exact a6M AO);obtain⟨cs,Z⟩: ∃cs,o.map Y=cs:=⟨_,rfl⟩;have Af:cs[i]?=some (Y C.1):=(by rw[<-Z,GS,Ae];rfl);have AG: ∀h,cs[i]'h=Y C.1:= λh=>(AX.1 Af).2;have Ap:cs.length=a.length:=(by rw[<-Z,<-B];simp;omega);have AM:i<cs.length:=(by omega);have AJ:i+1<=cs.length:=AM;have X:cs.set i (Y d)=(aJ.1++d::bG.1.drop (i+1)).map Y:=(by rw[<-Z,<-MG,<-B,YJ AO]);rw[B,Z]at g;by_cases r:C.1<0
    ·by_cases s:d∈C.2
     ·have O:CT (Y d) (Gl C.2)=some (.bool true):=(by rw[VQ,if_pos s]);have q:(S.take (j+1)).foldl K1 (x,aJ.2)=C:=(by rw[A7];exact if_neg λh=>h.2 s);simp(disch:=first|omega|simp only[AD];omega)[Ud,l,p,P,Q,M,A3,AF,L,AE,g,AG,AJ,CC,k,A1,v0,-CT,-DM,-DX,r,O,-H,-E,-I,-G,-List.map_map];repeat refine And.intro (by omega) ?_
      exact w _ _ ⟨by rw[q,B,Z];exact g,by rw[q];exact k,by simp[m],by simp[l],by simp[p],by simp[P],by simp[D],by simp[J],by simp[Q],by simp[M],by simp⟩
     ·have O:CT (Y d) (Gl C.2)=none:=(by rw[VQ,if_neg s]);have q:(S.take (j+1)).foldl K1 (x,aJ.2)=(d,C.2++[d]):=(by rw[A7];exact if_pos ⟨r,s⟩);have AB:=hT s;simp(disch:=first|omega|simp only[AD];omega)[Ud,l,p,P,Q,M,A3,AF,L,AE,g,AG,AJ,CC,k,A1,v0,-CT,-DM,-DX,r,O,-H,-E,-I,-G,-List.map_map];repeat refine And.intro (by omega) ?_
      refine w _ _ ⟨?_,?_,by simp[m],by simp[l],by simp[p],by simp[P],by simp[D],by simp[J],by simp[Q],by simp[M],by simp⟩
      ·rw[q];simp(disch:=first|omega|simp only[AD];omega)[X,-CT,-DM,-DX,-H,-E,-I,-G,-List.map_map]
      ·rw[q,<-AB];simp(disch:=first|omega|simp only[AD];omega)[-CT,-DM,-DX,-H,-E,-I,-G,-List.map_map]
    ·have q:(S.take (j+1)).foldl K1 (x,aJ.2)=C:=(by rw[A7];exact if_neg λh=>r h.1);simp(disch:=first|omega|simp only[AD];omega)[Ud,l,P,Q,M,A3,AF,L,AE,g,AG,AJ,CC,v0,-CT,-DM,-DX,r,-H,-E,-I,-G,-List.map_map];repeat refine And.intro (by omega) ?_
     exact w _ _ ⟨by rw[q,B,Z];exact g,by rw[q];exact k,by simp[m],by simp[l],by simp[p],by simp[P],by simp[D],by simp[J],by simp[Q],by simp[M],by simp⟩
   ·rintro A t ⟨g,k,m,l,p,P,D,J,Q,M,A3⟩;rw[EP]at g k;simp[Ud,J,M,A3,T];exact w _ _ ⟨by rw[N];simpa[GH]using g,by rw[N];exact k,by simp[m],by simp[l],by simp[p],by simp[D],by simp⟩
  ·rintro A t ⟨g,k,m,l,p,D,J⟩;have e:bG.1.take a.length=bG.1:=DV (by omega);have Ag:bG.1.drop a.length=[]:=S2 (by omega);rw[e,Ag,NP,<-AZ]at g;simp[kr,OP,OP,l,D,J];exact g
theorem vP{a:List Int}:(HF S a).length=a.length:=by unfold HF Ht;rw[j2,SQ];simp
theorem a4J{c:List Int}(d:S.length<=1000)(e:c.length<=1000):AL U 204 [AH c,AH S] (AH (HF S c)):=
 Ut (n:=c.length) (by rw[Eb,vP]) KT (by rw[K6];exact(aG0 d e).AG λv t ⟨a,b⟩=>⟨2,a,b⟩)
noncomputable def iH:AK U:= .B8 204 (List Int×List Int) (λx=>x.2.length<=1000/\x.1.length<=1000) (λx=>[AH x.1,AH x.2]) (λx=>AH (HF x.2 x.1)) λ_ h=>a4J h.1 h.2
@[simp] theorem aKn:iH.f=204:=rfl
@[simp] theorem aNY{a:List Int}(b:S.length<=1000)(c:a.length<=1000):iH.fn [M (a.map λx=>[Y x]) 1,M (S.map λx=>[Y x]) 1]=some (AH (HF S a)):=AK.BD (x:=(a,S)) ⟨b,c⟩ λ⟨e,f⟩ d=>by simpa using d
def Hk(L:List (List Int)):Nat:=(L.map List.length).sum
theorem p3(h:L[i]?=some r):Hk (L.take (i+1))=Hk (L.take i)+r.length:=by unfold Hk;rw[K4,h];simp
theorem a2E(h: ∀r∈L,r.length<=1000):Hk L<=L.length*1000:=by
 induction L with
 |nil=>simp[Hk]
 | cons r l a=>have:=a λx b=>h x (by simp[b]);have:=h r (by simp);simp only[Hk,E1,List.sum_cons,Df]at*;omega
theorem a5H(d:Bk L):AL U 157 [Ag L] (Y (Hk L)):=by
 refine BG (Ak (an:=⟨[],[]⟩) wa (by kernel_rfl) (by simp[c5]) ?_);have h:=d.1;simp(disch:=omega)[c5,vC];refine CE (an:=⟨[],[]⟩) (λi A t=>A 3=Y (Hk (L.take i))/\A 6=Ag L/\A 7=Y L.length/\A 8=Y i) L.length ?_ ?_ 0 _ _ (C0 _) ⟨by simp[Hk],by simp,by simp,by simp⟩
 ·rintro i A t j ⟨b,e,c,f⟩ q k;obtain⟨r,a⟩:=CF j;have l:=(AX.1 a).2;have s:=d.2 r (B9 a);have m:(i:Int)<L.length:=(by omega);have o:=BX (n:=i) (by omega);have hb:=a2E (L:=L.take i) λx a=>d.2 x (K2 a);have u:(L.take i).length<=1000:=Dh (by rw[GC];omega) h;have p:IntKind.i64.wrap ((Hk (L.take i):Int)+r.length)=(Hk (L.take i):Int)+r.length:=Ah (by omega) (by omega);simp(disch:=first|omega|simp only[AD];omega)[gb,Xl,b,e,c,f,m,l,BE,o,p,-H,-E,-I,-G,-List.map_map];exact k _ _ ⟨by rw[p3 a];simp,by simp[e],by simp[c],by simp⟩
 ·rintro A t ⟨b,e,c,f⟩;rw[EP]at b;simp[gb,Xl,Xl,b,c,f]
noncomputable def jZ:AK U:= .B8 157 (List (List Int)) Bk (λL=>[Ag L]) (λL=>Y (Hk L)) λ_ h=>a5H h
@[simp] theorem aLM:jZ.f=157:=rfl
@[simp] theorem aNU(h:Bk L):jZ.fn [M (L.map BE) 1]=some (Y (Hk L)):=AK.BD (x:=L) h λy a=>by simpa using a
def Ly(u:AY)(S:List (List Int))(x:Ae×Int):List (List Int):=if 0<=HJ u.A7.length u.A5.length x.1.t/\0<x.2 then
 S.set (JB u.A7.length u.A5.length x.1.f).toNat (S.getD (JB u.A7.length u.A5.length x.1.f).toNat []++[HJ u.A7.length u.A5.length x.1.t])else S
def Ei(u:AY)(bG:List Ae)(ab:List Int)(i:Nat):List (List Int):=((bG.zip ab).take i).foldl (Ly u) (List.replicate u.A7.length [])
theorem aC7{S:List (List Int)}:(Ly u S x).length=S.length:=by unfold Ly;split<;>simp
theorem rp(b:bG[i]?=some a)(c:ab[i]?=some K):Ei u bG ab (i+1)=Ly u (Ei u bG ab i) (a,K):=by unfold Ei;exact Yw (by rw[List.getElem?_zip_eq_some];exact⟨b,c⟩)
theorem ph: ∀i,(Ei u bG ab i).length=u.A7.length:= λi=>by
 unfold Ei;generalize(bG.zip ab).take i=l;have: ∀(l:List (Ae×Int)) (S:List (List Int)),(l.foldl (Ly u) S).length=S.length:=by
  intro l;induction l with
  |nil=>intro S;rfl
  |cons x l a=>intro S;rw[IJ,a,aC7]
 rw[this];simp
theorem Th{u:AY}{bG:List Ae}{ab:List Int}: ∀(i:Nat),∀r∈Ei u bG ab i,r.length<=i
 |0,r,h=>by simp[Ei]at h;rw[h.2];simp
 | i+1,r,h=>by
   by_cases c:i<(bG.zip ab).length
   ·obtain⟨⟨a,K⟩,b⟩: ∃x,(bG.zip ab)[i]?=some x:=⟨_,AS c⟩;rw[List.getElem?_zip_eq_some]at b;rw[rp b.1 b.2]at h;unfold Ly at h;split at h
    ·rcases Qk h with h|rfl
     ·exact Nat.le_succ_of_le (Th i r h)
     ·rw[Ds,Dv];cases d:(Ei u bG ab i)[(JB u.A7.length u.A5.length a.f).toNat]? with
      |none=>simp
      |some s=>have:=Th i s (B9 d);simp;omega
    ·exact Nat.le_succ_of_le (Th i r h)
   ·have e:Ei u bG ab (i+1)=Ei u bG ab i:=by
     unfold Ei;rw[DV (by omega),DV (by omega)]
    rw[e]at h;exact Nat.le_succ_of_le (Th i r h)
end Go.Proofs.YtmmkkggfmigppaaGreat
