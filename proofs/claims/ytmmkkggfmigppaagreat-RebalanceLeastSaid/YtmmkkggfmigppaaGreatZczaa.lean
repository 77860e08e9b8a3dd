/- A part of the proof. -/
import Derived.Test.YtmmkkggfmigppaaGreatZcy
set_option linter.all false
set_option maxRecDepth 8000
set_option maxHeartbeats 16000000
namespace Go.Proofs.YtmmkkggfmigppaaGreat
open Go Go.DI Go.Ex
variable{A:A6}{v:Value}{aJ:Int->Nat}{ag k cI cG cU hu i:Nat}{o E:Int->List Int}{l ab:List Int}{m B:V}{c x y:Int}{Q:BM->A6->V->Prop}{a:Ae}{n:CG}{C:Int->Bool}
theorem I5{t a6:Nat}(h:a6≠t):FT A t v a6=A a6:=by unfold FT;rw[if_neg h]
def Ee(l:List Int)(b:Nat):Value:=if l=[]then .slice none 0 0 else .slice (some ⟨b,0,none⟩) l.length 1
def GD(ag:Nat)(o:Int->List Int)(aJ:Int->Nat):List Value:=(List.range ag).map λ(x:Nat)=>Ee (o x) (aJ x)
@[simp] theorem aJO:(GD ag o aJ).length=ag:=by simp[GD]
theorem WJ(h:k<ag):(GD ag o aJ)[k]?=some (Ee (o k) (aJ k)):=by simp[GD,h]
theorem P4{b:Nat}(a:l≠[]):(GD ag o aJ).set k (.slice (some ⟨b,0,none⟩) l.length 1)=GD ag (At o k l) (At aJ k b):=by
 apply LQ
 ·simp
 ·intro i c d;simp at c;rw[List.getElem_set];by_cases h:k=i
  ·subst h;simp[GD,At,Ee,a]
  ·have: ¬(i:Int)=k:=(by omega);simp[GD,At,h,this]
structure Fi(o:Int->List Int)(cI ag b:Nat)(aJ:Int->Nat)(m:V):Prop where
 Mp:m.W cI=some ⟨GD ag o aJ,true⟩
 W: ∀k:Nat,k<ag->o k≠[]->m.W (aJ k)=some ⟨(o k).map (Value.int .i64 ·),true⟩/\b<=aJ k
 inj: ∀k a:Nat,k<ag->a<ag->k≠a->o k≠[]->o a≠[]->aJ k≠aJ a
theorem Fi.jU{c:Nat}(h:Fi o cI ag c aJ m):ON o cI ag m:=by
 refine⟨_,h.Mp,by simp,λk b=>⟨_,WJ b,?_⟩⟩;unfold Ee;by_cases a:o k=[]
 ·rw[if_pos a];exact .inl ⟨rfl,a⟩
 ·rw[if_neg a];exact .inr ⟨_,_,rfl,(h.W k b a).1⟩
theorem Fi.app{n:Nat}(h:Fi o cI ag n aJ m)(G:cI<n){id:Nat}(y:k<ag)(H:m.next<=id)(I:n<=m.next)
 (z:B.W cI=some ⟨GD ag (At o k (o k++[c])) (At aJ k id),true⟩) (A:B.W id=some ⟨(o k++[c]).map (Value.int .i64 ·),true⟩)
 (C: ∀b,b<m.next->b≠cI->(o k≠[]->b≠aJ k)->B.W b=m.W b):Fi (At o k (o k++[c])) cI ag n (At aJ k id) B:=by
 have a: ∀{l:Type} (g:Int->l) (v:l) (j:Nat),j≠k->At g k v j=g j:= λg v j i=>by unfold At;rw[if_neg (by omega)]
 have p: ∀{l:Type} (g:Int->l) (v:l),At g k v k=v:= λg v=>by unfold At;rw[if_pos rfl]
 refine⟨z,λj i r=> ?_,λj f i w s t q=> ?_⟩
 ·by_cases d:j=k
  ·subst d;rw[p,p];exact⟨A,by omega⟩
  ·rw[a _ _ j d]at r;rw[a _ _ j d,a _ _ j d];obtain⟨x,D⟩:=h.W j i r;refine⟨?_,D⟩;rw[C _ (F x) (by omega) (λE=>h.inj j k i y d r E)];exact x
 ·by_cases d:j=k
  ·subst d;rw[a _ _ f (λe=>s e.symm)]at q;rw[p,a _ _ f (λe=>s e.symm)];have:=F (h.W f w q).1;omega
  ·rw[a _ _ j d]at t;rw[a _ _ j d];by_cases u:f=k
   ·subst u;rw[p];have:=F (h.W j i t).1;omega
   ·rw[a _ _ f u]at q;rw[a _ _ f u];exact h.inj j f i w s t q
def eE:D:= .FI [
 ⟨0,some 33,none,.F2 (.tmp 6),[]⟩,
 ⟨1,some 34,none,.Lz (.tmp 33),[]⟩,
 ⟨2,some 35,none,.GV 5 (.tmp 34),[]⟩,
 ⟨3,some 36,none,.E4 false 1 (.tmp 35),[]⟩,
 ⟨4,some 37,none,.GV 0 (.tmp 8),[]⟩,
 ⟨5,some 38,none,.E4 false 1 (.tmp 37),[]⟩,
 ⟨6,some 39,none,.F2 (.tmp 6),[]⟩,
 ⟨7,some 40,none,.Lz (.tmp 39),[]⟩,
 ⟨8,some 41,none,.GV 5 (.tmp 40),[]⟩,
 ⟨9,some 42,none,.E4 false 1 (.tmp 41),[]⟩,
 ⟨10,some 43,none,.GV 0 (.tmp 8),[]⟩,
 ⟨11,some 44,none,.E4 false 1 (.tmp 43),[]⟩,
 ⟨12,some 45,none,.HN 1 (.tmp 42) (.tmp 44),[]⟩,
 ⟨13,some 46,none,.E4 false 1 (.tmp 45),[]⟩,
 ⟨14,some 47,none,.F2 (.tmp 7),[]⟩,
 ⟨15,some 48,none,.HG 1 1 [.int .i64 0] [(0,1,.tmp 47)],[]⟩,
 ⟨16,some 49,none,.app 1 8 (.tmp 46) (.tmp 48),[(.tmp 37,.tmp 46),(.tmp 35,.tmp 46)]⟩,
 ⟨17,some 50,none,.HN 1 (.tmp 36) (.tmp 38),[]⟩,
 ⟨18,none,none,.store 1 (.tmp 50) (.tmp 49),[]⟩]
def Zf:D:= .FI [
 ⟨0,some 51,none,.F2 (.tmp 6),[]⟩,
 ⟨1,some 52,none,.Lz (.tmp 51),[]⟩,
 ⟨2,some 53,none,.GV 5 (.tmp 52),[]⟩,
 ⟨3,some 54,none,.E4 false 1 (.tmp 53),[]⟩,
 ⟨4,some 55,none,.GV 1 (.tmp 8),[]⟩,
 ⟨5,some 56,none,.E4 false 1 (.tmp 55),[]⟩,
 ⟨6,some 57,none,.F2 (.tmp 6),[]⟩,
 ⟨7,some 58,none,.Lz (.tmp 57),[]⟩,
 ⟨8,some 59,none,.GV 5 (.tmp 58),[]⟩,
 ⟨9,some 60,none,.E4 false 1 (.tmp 59),[]⟩,
 ⟨10,some 61,none,.GV 1 (.tmp 8),[]⟩,
 ⟨11,some 62,none,.E4 false 1 (.tmp 61),[]⟩,
 ⟨12,some 63,none,.HN 1 (.tmp 60) (.tmp 62),[]⟩,
 ⟨13,some 64,none,.E4 false 1 (.tmp 63),[]⟩,
 ⟨14,some 65,none,.F2 (.tmp 7),[]⟩,
 ⟨15,some 66,none,.Jw .sub .Qi (.const (.int .i64 (-1))) (.tmp 65),[]⟩,
 ⟨16,some 67,none,.HG 1 1 [.int .i64 0] [(0,1,.tmp 66)],[]⟩,
 ⟨17,some 68,none,.app 1 8 (.tmp 64) (.tmp 67),[(.tmp 55,.tmp 64),(.tmp 53,.tmp 64)]⟩,
 ⟨18,some 69,none,.HN 1 (.tmp 54) (.tmp 56),[]⟩,
 ⟨19,none,none,.store 1 (.tmp 69) (.tmp 68),[]⟩]
theorem px:fi=(
 .Ez (
 .FI [
  ⟨0,some 29,none,.Jw .lss .Qi (.tmp 28) (.tmp 27),[]⟩]) (
 .Ez (
 .Gh (.tmp 29) (
  .skip) (
  .Ai 0)) (
 .Ez (
 .block 1 (
 .Ez (
 .FI [
  ⟨0,some 30,none,.F2 (.tmp 28),[]⟩,
  ⟨1,some 31,none,.HN 4 (.tmp 26) (.tmp 28),[]⟩,
  ⟨2,some 32,none,.E4 true 4 (.tmp 31),[]⟩,
  ⟨3,some 8,none,.IX [.int .i64 0,.int .i64 0,.int .i64 0,.int .i64 0],[]⟩,
  ⟨4,some 7,none,.F2 (.tmp 30),[]⟩,
  ⟨5,none,none,.store 4 (.tmp 8) (.tmp 32),[]⟩]) (
 .Ez (
 eE) (
 Zf)))) (
 .FI [
  ⟨0,some 70,none,.Jw .add .Qi (.tmp 28) (.const (.int .i64 1)),[]⟩,
  ⟨1,some 28,none,.F2 (.tmp 70),[]⟩])))
 :D):=rfl
set_option maxRecDepth 20000 in
theorem aFT(A9:n.Cz)(AB:n.Am=ag){q:Nat}(AE:i<2500)(I:m.W cG=some ⟨[Y n.Am,Y n.Aj,Y n.BJ,v,.slice (some ⟨cU,0,none⟩) ab.length 1,.slice (some ⟨cI,0,none⟩) ag 1],true⟩)
 (w:m.W hu=some ⟨Cj a,true⟩) (s:Fi o cI ag q aJ m) (J:cI<q) (AF:cG<q) (AG:cG≠cI) (K:q<=m.next) (A0:n.Cy a.f) (A1:(o a.f).length<=100000) (x: ∀k:Nat,k<ag->o k≠[]->aJ k≠hu) (AH:hu≠cI)
 (L:A 6=AA cG) (M:A 8=AA hu) (N:A 7=Y i)
 (y: ∀O B P,(∀t,t<33->O t=A t)->m.next<=B.next->(∀b,b<m.next->b≠cI->(∀k:Nat,k<ag->o k≠[]->b≠aJ k)->B.W b=m.W b)->Fi (At o a.f (o a.f++[(i:Int)])) cI ag q P B->(∀k:Nat,k<ag->At o a.f (o a.f++[(i:Int)]) k≠[]->P k≠hu)->Q .Cx O B):BS U eE A m Q:=by
 obtain⟨R,AJ⟩:=A0;obtain⟨k,A2⟩: ∃k:Nat,a.f=k:=⟨a.f.toNat,by omega⟩;have S:a.f<(ag:Int):=by omega
 have T:a.f.toNat=k:=by omega
 have e:k<ag:=by omega
 have V:k+1<=ag:=e;rw[A2]at y A1;have z:=s.Mp;have p:(GD ag o aJ)[k]?=some (Ee (o k) (aJ k)):=WJ e;have X: ∀h,(GD ag o aJ)[k]'h=Ee (o k) (aJ k):= λh=>by rw[AS h]at p;simpa using p
 have AK:IntKind.i64.wrap (-1-(i:Int))= -1-(i:Int):=Ah (by omega) (by omega);have AL:=F z;have AM:=F w;by_cases d:o k=[]
 ·have C:Ee (o k) (aJ k)= .slice none 0 0:=(by unfold Ee;rw[if_pos d]);rw[C]at p X;have r:=P4 (ag:=ag) (o:=o) (aJ:=aJ) (k:=k) (b:=m.next+16) (l:=o k++[(i:Int)]) (by simp);have D:(o k++[(i:Int)]).length=1:=(by rw[d];rfl);rw[D]at r;simp(disch:=first|omega|simp only[AD];omega)[eE,L,M,N,I,w,z,R,S,T,p,CC,Cj,V,r,Dm];refine y _ _ (At aJ k (m.next+16)) (λt A4=>by simp(disch:=omega) only[I5]) (by simp only[Ar,BC];omega) (λc E G u=>by simp(disch:=first|omega|(simp only[Ar,BC];omega)) only[A3,AU]) (s.app J e (by omega) K ?_ ?_ ?_) ?_
  ·simp(disch:=first|omega|(simp only[Ar,BC];omega)) only[AT]
  ·simp(disch:=first|omega|(simp only[Ar,BC];omega)) only[AT,A3];rw[d];rfl
  ·intro c E G _;simp(disch:=omega) only[A3,AU]
  ·intro j H g;unfold At at g⊢;split
   ·omega
   ·rename_i h;rw[if_neg h]at g;exact x j H g
 ·have C:Ee (o k) (aJ k)= .slice (some ⟨aJ k,0,none⟩) (o k).length 1:=(by unfold Ee;rw[if_neg d]);rw[C]at p X;have r:=P4 (ag:=ag) (o:=o) (aJ:=aJ) (k:=k) (b:=m.next+16) (l:=o k++[(i:Int)]) (by simp);have D:(o k++[(i:Int)]).length=(o k).length+1:=(by simp);rw[D]at r;obtain⟨Z,AN⟩:=s.W k e d;have AO:=F Z;have A5:cG≠aJ k:=(by omega);have AP:cI≠aJ k:=(by omega);have A6:hu≠aJ k:= λh=>x k e d h.symm;have A7:((o k).length+1)*8<=140737488355328:=(by omega);have A8:(o k).length+1<=9223372036854775807:=(by omega);have z3:((o k).map (Value.int .i64 ·)).take (o k).length=(o k).map (Value.int .i64 ·):=DV (by simp);simp(disch:=first|omega|simp only[AD];omega)[eE,L,M,N,I,w,z,R,S,T,p,CC,Cj,V,r,Dm,bne_iff_ne,Z,A5,A6,A7,A8,z3];refine y _ _ (At aJ k (m.next+16)) (λt A4=>by simp(disch:=omega) only[I5]) (by simp only[Ar,BC];omega) (λc E G u=>by have:=u k e d;simp(disch:=first|omega|(simp only[Ar,BC];omega)) only[A3,AU]) (s.app J e (by omega) K ?_ ?_ ?_) ?_
  ·simp(disch:=first|omega|(simp only[Ar,BC];omega)) only[AT]
  ·simp(disch:=first|omega|(simp only[Ar,BC];omega)) only[AT,A3];simp
  ·intro c E G u;have:=u d;simp(disch:=omega) only[A3,AU]
  ·intro j H g;unfold At at g⊢;split
   ·omega
   ·rename_i h;rw[if_neg h]at g;exact x j H g
set_option maxRecDepth 20000 in
theorem a4b(A9:n.Cz)(AB:n.Am=ag){p:Nat}(AE:i<2500)(H:m.W cG=some ⟨[Y n.Am,Y n.Aj,Y n.BJ,v,.slice (some ⟨cU,0,none⟩) ab.length 1,.slice (some ⟨cI,0,none⟩) ag 1],true⟩)
 (u:m.W hu=some ⟨Cj a,true⟩) (r:Fi o cI ag p aJ m) (I:cI<p) (AF:cG<p) (AG:cG≠cI) (J:p<=m.next) (A0:n.Cy a.t) (A1:(o a.t).length<=100000) (w: ∀k:Nat,k<ag->o k≠[]->aJ k≠hu) (AH:hu≠cI)
 (K:A 6=AA cG) (L:A 8=AA hu) (M:A 7=Y i)
 (x: ∀N B O,(∀t,t<51->N t=A t)->m.next<=B.next->(∀b,b<m.next->b≠cI->(∀k:Nat,k<ag->o k≠[]->b≠aJ k)->B.W b=m.W b)->Fi (At o a.t (o a.t++[(-1-(i:Int))])) cI ag p O B->(∀k:Nat,k<ag->At o a.t (o a.t++[(-1-(i:Int))]) k≠[]->O k≠hu)->Q .Cx N B):BS U Zf A m Q:=by
 obtain⟨P,AJ⟩:=A0;obtain⟨k,A2⟩: ∃k:Nat,a.t=k:=⟨a.t.toNat,by omega⟩;have R:a.t<(ag:Int):=by omega
 have S:a.t.toNat=k:=by omega
 have e:k<ag:=by omega
 have T:k+1<=ag:=e;rw[A2]at x A1;have y:=r.Mp;have g:(GD ag o aJ)[k]?=some (Ee (o k) (aJ k)):=WJ e;have V: ∀h,(GD ag o aJ)[k]'h=Ee (o k) (aJ k):= λh=>by rw[AS h]at g;simpa using g
 have X:IntKind.i64.wrap (-1-(i:Int))= -1-(i:Int):=Ah (by omega) (by omega);have AK:=F y;have AL:=F u;by_cases d:o k=[]
 ·have z:Ee (o k) (aJ k)= .slice none 0 0:=(by unfold Ee;rw[if_pos d]);rw[z]at g V;have q:=P4 (ag:=ag) (o:=o) (aJ:=aJ) (k:=k) (b:=m.next+17) (l:=o k++[(-1-(i:Int))]) (by simp);have C:(o k++[(-1-(i:Int))]).length=1:=(by rw[d];rfl);rw[C]at q;simp(disch:=first|omega|simp only[AD];omega)[Zf,K,L,M,H,u,y,P,R,S,g,CC,Cj,T,q,X,Dm];refine x _ _ (At aJ k (m.next+17)) (λt A4=>by simp(disch:=omega) only[I5]) (by simp only[Ar,BC];omega) (λc D E s=>by simp(disch:=first|omega|(simp only[Ar,BC];omega)) only[A3,AU]) (r.app I e (by omega) J ?_ ?_ ?_) ?_
  ·simp(disch:=first|omega|(simp only[Ar,BC];omega)) only[AT]
  ·simp(disch:=first|omega|(simp only[Ar,BC];omega)) only[AT,A3];rw[d];rfl
  ·intro c D E _;simp(disch:=omega) only[A3,AU]
  ·intro j G f;unfold At at f⊢;split
   ·omega
   ·rename_i h;rw[if_neg h]at f;exact w j G f
 ·have z:Ee (o k) (aJ k)= .slice (some ⟨aJ k,0,none⟩) (o k).length 1:=(by unfold Ee;rw[if_neg d]);rw[z]at g V;have q:=P4 (ag:=ag) (o:=o) (aJ:=aJ) (k:=k) (b:=m.next+17) (l:=o k++[(-1-(i:Int))]) (by simp);have C:(o k++[(-1-(i:Int))]).length=(o k).length+1:=(by simp);rw[C]at q;obtain⟨Z,AM⟩:=r.W k e d;have AN:=F Z;have A5:cG≠aJ k:=(by omega);have AO:cI≠aJ k:=(by omega);have A6:hu≠aJ k:= λh=>w k e d h.symm;have A7:((o k).length+1)*8<=140737488355328:=(by omega);have A8:(o k).length+1<=9223372036854775807:=(by omega);have z3:((o k).map (Value.int .i64 ·)).take (o k).length=(o k).map (Value.int .i64 ·):=DV (by simp);simp(disch:=first|omega|simp only[AD];omega)[Zf,K,L,M,H,u,y,P,R,S,g,CC,Cj,T,q,X,Dm,bne_iff_ne,Z,A5,A6,A7,A8,z3];refine x _ _ (At aJ k (m.next+17)) (λt A4=>by simp(disch:=omega) only[I5]) (by simp only[Ar,BC];omega) (λc D E s=>by have:=s k e d;simp(disch:=first|omega|(simp only[Ar,BC];omega)) only[A3,AU]) (r.app I e (by omega) J ?_ ?_ ?_) ?_
  ·simp(disch:=first|omega|(simp only[Ar,BC];omega)) only[AT]
  ·simp(disch:=first|omega|(simp only[Ar,BC];omega)) only[AT,A3];simp
  ·intro c D E s;have:=s d;simp(disch:=omega) only[A3,AU]
  ·intro j G f;unfold At at f⊢;split
   ·omega
   ·rename_i h;rw[if_neg h]at f;exact w j G f
structure NK(n:CG)(i:Nat)(o:Int->List Int):Prop where
 Pt: ∀x,∀z∈o x,(BN z).1<i/\Bs n (BN z)=x/\ -2500<=z/\z<=2500
 all: ∀e:DJ,e.1<i-> ∃z∈o (Bs n e),BN z=e
 len: ∀x,(o x).length<=2*i
theorem Px{z:Int}:z∈At o y (o y++[c]) x↔z∈o x\/(x=y/\z=c):=by
 unfold At;by_cases h:x=y
 ·subst h;simp
 ·simp[h]
theorem cF{o:Int->List Int}{y:Int}{c:Int}{x:Int}:(At o y (o y++[c]) x).length<=(o x).length+1:=by
 unfold At;split
 ·rename_i h;subst h;simp
 ·omega
theorem yT(i:Nat):BN (i:Int)=(i,true):=by simp[BN]
theorem yO(i:Nat):BN (-1-(i:Int))=(i,false):=by have:=a6x (i,false);simpa[Ex.enc]using this
theorem NK.step(h:NK n i o)(g:n.AF[i]?=some a)(s:i<2500):
 NK n (i+1) (At (At o a.f (o a.f++[(i:Int)])) a.t (At o a.f (o a.f++[(i:Int)]) a.t++[-1-(i:Int)])):=by
 have k:Bs n (i,true)=a.f:=by simp[Bs,g]
 have l:Bs n (i,false)=a.t:=by simp[Bs,g]
 refine⟨λx z c=> ?_,λe q=> ?_,λx=> ?_⟩
 ·rw[Px,Px]at c;rcases c with(c|⟨rfl,rfl⟩)|⟨rfl,rfl⟩
  ·obtain⟨m,d,r⟩:=h.Pt x z c;exact⟨by omega,d,r⟩
  ·rw[yT];exact⟨by simp,k,by omega,by omega⟩
  ·rw[yO];exact⟨by simp,l,by omega,by omega⟩
 ·by_cases p:e.1<i
  ·obtain⟨z,m,d⟩:=h.all e p;exact⟨z,by rw[Px,Px];exact .inl (.inl m),d⟩
  ·obtain⟨j,b⟩:=e;simp only at q p;obtain rfl:j=i:=(by omega);cases b
   ·exact⟨-1-(j:Int),by rw[l,Px];exact .inr ⟨rfl,rfl⟩,yO j⟩
   ·exact⟨(j:Int),by rw[k,Px,Px];exact .inl (.inr ⟨rfl,rfl⟩),yT j⟩
 ·have u:= @cF (At o a.f (o a.f++[(i:Int)])) a.t (-1-(i:Int)) x;have v:= @cF o a.f (i:Int) x;have:=h.len x;omega
theorem Fi.AG{a:Nat}(h:Fi o cI ag a aJ m)(c: ∀b x,m.W b=some x->B.W b=some x):Fi o cI ag a aJ B:=
 ⟨c _ _ h.Mp,λk d e=>⟨c _ _ (h.W k d e).1,(h.W k d e).2⟩,h.inj⟩
set_option maxRecDepth 20000 in
theorem xm{n:CG}(p:n.Cz){ag:Nat}(K:n.Am=ag){ab:List Int}{v:Value}{cG cU cI bl:Nat}{df:V}(Z:GX df v n.AF)(A1:df.W cG=some ⟨[Y n.Am,Y n.Aj,Y n.BJ,v,.slice (some ⟨cU,0,none⟩) ab.length 1,.slice (some ⟨cI,0,none⟩) ag 1],true⟩)(L:cI<bl)(z:cG<bl)(s:cG≠cI)(A2: ∀b l c,v= .slice (some ⟨b,0,none⟩) l c->b<bl/\b≠cI){Q:BM->A6->V->Prop}:
 ∀(r i:Nat) (m:V) (A:A6) (o:Int->List Int) (aJ:Int->Nat),i+r=n.AF.length->bl<=m.next->(∀b,b<bl->b≠cI->m.W b=df.W b)->Fi o cI ag bl aJ m->NK n i o->
 A 26=v->A 27=Y n.AF.length->A 28=Y i->A 6=AA cG->
 (∀C B o' M,(∀t,t<7->C t=A t)->m.next<=B.next->(∀b,b<bl->b≠cI->B.W b=df.W b)->Fi o' cI ag bl M B->NK n n.AF.length o'->Q (.Ai 0) C B)->BS U (.loop fi) A m Q
 | 0,i,m,A,o,aJ,A9,AB,u,h,w,N,D,E,G,O=>by refine D7 λAH A4=> ?_;have H: ¬i<n.AF.length:=(by omega);obtain rfl:i=n.AF.length:=(by omega);simp[px,D,E];exact O _ _ o aJ (λt y=>by simp(disch:=omega) only[I5]) (Ao _) u h w
 | r+1,i,m,A,o,aJ,A9,AB,u,h,w,N,D,E,G,O=>by
   refine D7 λAH A4=> ?_;have H:i<n.AF.length:=(by omega);obtain⟨a,P⟩: ∃a,n.AF[i]?=some a:=⟨n.AF[i]'H,by simp⟩;obtain⟨c,As,rfl,AJ⟩:=Z.C1 H;obtain⟨AK,AL⟩:=A2 _ _ _ rfl;have R:=u c AK AL;rw[AJ]at R;have I:=u cG z s;rw[A1]at I;have hb:i*4+4<=n.AF.length*4:=(by omega);have AM:=LX P;have Au:=p.JK;obtain⟨AN,AO,a3,a4⟩:=p.Il a (B9 P);have AP:=BX (n:=i) (by omega);have Av:=F R;have Aw:=F I;simp(disch:=first|omega|simp only[AD];omega)[px,N,D,E,H,R,hb,AM,Cj];have S: ∀b x,m.W b=some x->((m.AE 6).A0 (m.next+3) (some ⟨[Y a.f,Y a.t,Y a.c,Y a.k],true⟩)).W b=some x:= λb x hb=>by have:=F hb;rw[A3 (by omega),AU this,hb]
   have J: ∀k:Nat,k<ag->o k≠[]->aJ k<m.next/\bl<=aJ k:= λk d e=>⟨F (h.W k d e).1,(h.W k d e).2⟩
   have Ax:=F h.Mp;refine aFT (a:=a) (o:=o) (aJ:=aJ) (hu:=m.next+3) (i:=i) p K (by omega) (S _ _ I) (AT (by simp)) (h.AG S) L z s (by simp only[Ar,BC];omega) AN (by have:=w.len a.f;omega) (λk d e=>by have:=J k d e;omega) (by omega) (by simp[G]) (by simp) (by simp) λAQ A5 A7 g AR T A8 AS=> ?_;simp only[Ar,BC]at AR;simp only[Wn];have AV:A5.W (m.next+3)=some ⟨Cj a,true⟩:=by rw[T _ (by simp only[Ar,BC];omega) (by omega) (λk d e=>by have:=J k d e;omega)];exact AT (by simp)
   have AW:A5.W cG=some ⟨[Y n.Am,Y n.Aj,Y n.BJ,.slice (some ⟨c,0,none⟩) n.AF.length 4,.slice (some ⟨cU,0,none⟩) ab.length 1,.slice (some ⟨cI,0,none⟩) ag 1],true⟩:=(by rw[T _ (by simp only[Ar,BC];omega) s (λk d e=>by have:=J k d e;omega)];exact S _ _ I);refine a4b (a:=a) (aJ:=A7) (hu:=m.next+3) (i:=i) p K (by omega) AW AV A8 L z s (by omega) AO (by have:=w.len a.t;have:= @cF o a.f (i:Int) a.t;omega) AS (by omega) (by rw[g 6 (by omega)];simp[G]) (by rw[g 8 (by omega)];simp) (by rw[g 7 (by omega)];simp) λj AX AY AZ Ay Aa Ab Az=> ?_;have q: ∀t,t<33->j t=AQ t:= λt y=>AZ t (by omega);have Ac:j 28=Y i:=(by rw[q 28 (by omega),g 28 (by omega)];simp[E]);have Ad:j 26= .slice (some ⟨c,0,none⟩) n.AF.length 4:=(by rw[q 26 (by omega),g 26 (by omega)];simp[N]);have Ae:j 27=Y n.AF.length:=(by rw[q 27 (by omega),g 27 (by omega)];simp[D]);have Af:j 6=AA cG:=(by rw[q 6 (by omega),g 6 (by omega)];simp[G]);have Ag: ∀t,t<7->j t=A t:= λt y=>by rw[q t (by omega),g t (by omega)];simp(disch:=omega) only[I5]
   simp[Ac,AP];have Ah: ∀k:Nat,k<ag->At o a.f (o a.f++[(i:Int)]) k≠[]->bl<=A7 k:= λk d e=>(A8.W k d e).2;refine A4 _ _ (xm p K Z A1 L z s A2 r (i+1) AX _ _ AY (by omega) (by omega) (λb Ak X=> ?_) Ab (w.step P (by omega)) (by simp[Ad]) (by simp[Ae]) (by simp) (by simp[Af]) (λC B o' M Al B0 An Ap Aq=>O C B o' M (λt y=> ?_) (by omega) An Ap Aq))
   ·rw[Aa b (by omega) X (λk d e=>by have:=Ah k d e;omega),T b (by simp only[Ar,BC];omega) X (λk d e=>by have:=J k d e;omega)];rw[A3 (by omega),AU (by omega)];exact u b Ak X
   ·rw[Al t y];simp(disch:=omega) only[I5];exact Ag t y
theorem nn{s jT:Int->Bool}: ∀(l:List Ae),(∀a∈l,s a.f=jT a.f/\s a.t=jT a.t)->Ff l s=Ff l jT
 |[],_=>rfl
 | a::l,h=>by obtain⟨c,d⟩:=h a (by simp);simp only[Ff,c,d,nn l (λb hb=>h b (by simp[hb]))]
def O5(ag:Nat)(C:Int->Bool):List Bool:=(List.range ag).map λ(x:Nat)=>C x
theorem rK:(O5 ag C).length=ag:=by simp[O5]
theorem a49:GF ag C=(O5 ag C).map (Value.bool ·):=by simp[GF,O5]
theorem e9(b:0<=x)(c:x<ag):QH (O5 ag C) x=C x:=by
 unfold QH O5;obtain⟨k,rfl⟩: ∃k:Nat,x=k:=⟨x.toNat,by omega⟩;have a:k<ag:=by omega
 simp[Dv,a]
set_option maxRecDepth 20000 in
theorem a4R(a:n.Cz)(A1:n.Am=ag){gZ bl:Nat}{df:V}(AS:df.next<=cU)(A7:cG≠cU)(A8: ∀b l c,v= .slice (some ⟨b,0,none⟩) l c->b≠cU)(AT:cI≠cU)(As:cU<bl)(AU:gZ≠cU)
 (H:NK n n.AF.length E):
 ∀(A2:Nat) (ab:List Int) (m:V) (A:A6),5368709117500-value n ab<=A2->Dr n ab->0<=value n ab->BK df m->F9 n ab v cG cU cI ag m->Fi E cI ag bl aJ m->m.W gZ=some ⟨FV n v,true⟩->
 A 1=AA gZ->A 6=AA cG->A 9=Y (value n ab)->
 (∀K B L C q,BK df B->Dr n L->B.W cU=some ⟨L.map (Value.int .i64 ·),true⟩->B.W q=some ⟨GF ag C,true⟩->value n L=Ff n.AF C->C n.Aj=true->C n.BJ=false->df.next<=q->q≠cU->
  K 2= .slice (some ⟨cU,0,none⟩) L.length 1->K 3=Y (value n L)->K 4= .slice (some ⟨q,0,none⟩) ag 1->K 5=Y 0->Q .DO K B)->BS U (.loop eN) A m Q:=by
 intro A2;induction A2 with
 | zero=>
   intro ab m A AV g AW t y M A9 I u N A4;refine D7 λAX AQ=> ?_;have AY:=t;have AB:=M.jU;have AZ:=F y.f;have AD:Qh n E:=⟨λx _ z AE=>H.Pt x z AE,λe AH=>H.all e AH⟩;simp[eN,u];refine(qp a A1 g.ES y AB AD (λx=>by have:=H.len x;have:=a.JK;omega)).AG λr AJ p=> ?_;obtain⟨j,Aa,q,Ab,C,rfl,Ac,Ad,AK,D,G⟩:=p;have w:=y.AG j;have AL:=w.s;have A5:Fi E cI ag bl aJ AJ:=M.AG (λb x hb=>j.some hb);have J:=j.some A9;obtain⟨O,Ae⟩:=a.BJ;obtain⟨k,P⟩: ∃k:Nat,n.BJ=k:=⟨n.BJ.toNat,by omega⟩;have t3:n.BJ.toNat=k:=(by omega);have t4:k<ag:=(by omega);have R:n.BJ<(ag:Int):=(by omega);have S:k+1<=ag:=t4;have T:(k:Int)=n.BJ:=P.symm;have X:(GF ag C)[k]?=some (.bool (C n.BJ)):=(by rw[h5 t4,T]);have Af: ∀h,(GF ag C)[k]'h= .bool (C n.BJ):= λh=>by rw[gm,T]
   cases i:C n.BJ
   ·simp[D,J,AL,O,t3,R,S,X,CC,i,I,u,N];exact A4 _ _ ab C q (t.trans j) g w.f D (G.RV.ZX a g i) G.Aj i (by have:=t.next;omega) (by omega) (by simp) (by simp[]) (by simp) (by simp)
   simp[D,J,O,t3,R,S,X,CC,i,I,u,N];obtain⟨l,p,AM,Z⟩:=G.RV.path i;refine(zc a A1 g.ES w AK A7 A8 (by omega) p AM Z).AG λr Ag AN=> ?_;obtain⟨d,rfl,Ak,AO,rfl⟩:=AN;have o:=jt a g p (d:=d) (by omega) AO Z;have Al:=Pc a o.1;have An:=Pc a g;have AR:(HP ab l d).length=ab.length:=(by rw[o.1.ES.1,g.ES.1]);have AP:IntKind.i64.wrap (value n ab+d)=value n ab+d:=Ah (by omega) (by omega);simp[AP];exfalso;have:=Pc a o.1;omega
 | succ A2 Ao=>
   intro ab m A AV g AW t y M A9 I u N A4;refine D7 λAX AQ=> ?_;have AY:=t;have AB:=M.jU;have AZ:=F y.f;have AD:Qh n E:=⟨λx _ z AE=>H.Pt x z AE,λe AH=>H.all e AH⟩;simp[eN,u];refine(qp a A1 g.ES y AB AD (λx=>by have:=H.len x;have:=a.JK;omega)).AG λr AJ p=> ?_;obtain⟨j,Aa,q,Ab,C,rfl,Ac,Ad,AK,D,G⟩:=p;have w:=y.AG j;have AL:=w.s;have A5:Fi E cI ag bl aJ AJ:=M.AG (λb x hb=>j.some hb);have J:=j.some A9;obtain⟨O,Ae⟩:=a.BJ;obtain⟨k,P⟩: ∃k:Nat,n.BJ=k:=⟨n.BJ.toNat,by omega⟩;have t3:n.BJ.toNat=k:=(by omega);have t4:k<ag:=(by omega);have R:n.BJ<(ag:Int):=(by omega);have S:k+1<=ag:=t4;have T:(k:Int)=n.BJ:=P.symm;have X:(GF ag C)[k]?=some (.bool (C n.BJ)):=(by rw[h5 t4,T]);have Af: ∀h,(GF ag C)[k]'h= .bool (C n.BJ):= λh=>by rw[gm,T]
   cases i:C n.BJ
   ·simp[D,J,AL,O,t3,R,S,X,CC,i,I,u,N];exact A4 _ _ ab C q (t.trans j) g w.f D (G.RV.ZX a g i) G.Aj i (by have:=t.next;omega) (by omega) (by simp) (by simp[]) (by simp) (by simp)
   simp[D,J,O,t3,R,S,X,CC,i,I,u,N];obtain⟨l,p,AM,Z⟩:=G.RV.path i;refine(zc a A1 g.ES w AK A7 A8 (by omega) p AM Z).AG λr Ag AN=> ?_;obtain⟨d,rfl,Ak,AO,rfl⟩:=AN;have o:=jt a g p (d:=d) (by omega) AO Z;have Al:=Pc a o.1;have An:=Pc a g;have AR:(HP ab l d).length=ab.length:=(by rw[o.1.ES.1,g.ES.1]);have AP:IntKind.i64.wrap (value n ab+d)=value n ab+d:=Ah (by omega) (by omega);simp[AP];refine AQ _ _ (Ao _ _ _ (by rw[o.2];omega) o.1 (by rw[o.2];omega) ((t.trans j).A0 AS) (w.hg A7 A8 AR) ?_ (by rw[A3 AU];exact J) (by simp[I]) (by simp[u]) (by simp[o.2]) A4);refine⟨by rw[A3 AT];exact A5.Mp,λk P Ap=> ?_,A5.inj⟩;obtain⟨Aq,Ar⟩:=A5.W k P Ap;exact⟨by rw[A3 (by omega)];exact Aq,Ar⟩
theorem a4f(b:n.Cz)(e:n.Am=ag):Ff n.AF (QH (O5 ag C))=Ff n.AF C:=by rw[nn n.AF (jT:=C)];intro a c;obtain⟨⟨d,g⟩,⟨a3,a4⟩,_⟩:=b.Il a c;exact⟨e9 d (by omega),e9 a3 (by omega)⟩
structure Vk(n:CG)(ab:List Int)(a:List Bool):Prop where
 Wp:Dr n ab
 len:(a.length:Int)=n.Am
 Aj:QH a n.Aj=true
 BJ:QH a n.BJ=false
 val:value n ab=Ff n.AF (QH a)
def a4e(n:CG)(m:V)(r:Value)(B:V):Prop:=BK m B/\ ∃(ab:List Int) (b:List Bool) (cU a:Nat),r= .tuple #[.slice (some ⟨cU,0,none⟩) ab.length 1,Y (value n ab),.slice (some ⟨a,0,none⟩) b.length 1,Y 0]/\m.next<=cU/\m.next<=a/\a≠cU/\B.W cU=some ⟨ab.map (Value.int .i64 ·),true⟩/\B.W a=some ⟨b.map (Value.bool ·),true⟩/\Vk n ab b
theorem a0d(a:n.Cz)(b:n.Am=ag)(h:Dr n ab)(c:C n.Aj=true)(d:C n.BJ=false)(e:value n ab=Ff n.AF C):Vk n ab (O5 ag C):=by obtain⟨f,i⟩:=a.Aj;obtain⟨g,j⟩:=a.BJ;exact⟨h,by rw[rK,b],by rw[e9 f (by omega)];exact c,by rw[e9 g (by omega)];exact d,by rw[a4f a b];exact e⟩
set_option maxRecDepth 20000 in
theorem a6k(f:n.Cz)(p:GX m v n.AF):Aq U 125 [Ol n v] m (a4e n m):=by
 rw[a7b (by simp)];obtain⟨K,L⟩:=p.len;have A:BK m ((m.AE 5).A0 m.next (some ⟨FV n v,true⟩)):=((BK.refl m).AE 5).A0 (Ao _);simp(disch:=first|omega|simp only[AD];omega)[gx];refine(fQ (p.AG A)).AG λr a M=> ?_;obtain⟨rfl,D⟩:=M;have j:=A.trans D;have q:a.W m.next=some ⟨FV n v,true⟩:=D.some (AT (by simp))
 have AY:=F q;have AZ:=j.next
 have N:=W2.2 f;have s:=p.AG j;obtain⟨ag,t⟩: ∃ag:Nat,n.Am=ag:=⟨n.Am.toNat,by have:=f.Ph;omega⟩;have O:n.Am.toNat=ag:=by omega
 have Aa:=f.PL;have Ab:=f.JK;have z0:0<=n.Am:=by omega
 have P:n.Am*24<=140737488355328:=by omega
 have Q:n.Am<=9223372036854775807:=by omega
 have z3:(n.AF.length:Int)*8<=140737488355328:=by omega
 have z4:(n.AF.length:Int)<=9223372036854775807:=by omega
 have Ac:n.AF.length*8<=140737488355328:=by omega
 have Ad:n.AF.length<=9223372036854775807:=by omega
 simp(disch:=first|omega|simp only[AD];omega)[N,q,K,L,O,z0,P,Q,z3,z4];obtain⟨R,u⟩:=oJ f;generalize i:(((a.AE 11).A0 (a.next+4) (some ⟨List.replicate n.AF.length (Value.int .i64 0),true⟩)).A0 (a.next+7) (some ⟨List.replicate ag (Value.slice none 0 0),true⟩)).A0 (a.next+9) (some ⟨[Y n.Am,Y n.Aj,Y n.BJ,v,.slice (some ⟨a.next+4,0,none⟩) n.AF.length 1,.slice (some ⟨a.next+7,0,none⟩) ag 1],true⟩)=g;have Ae:g.next=a.next+11:=by rw[<-i];simp
 have E:BK a g:=⟨by omega,λb hb=>by rw[<-i];simp(disch:=first|omega|(simp only[Ar,BC];omega)) only[A3,AU]⟩;have G:g.W (a.next+9)=some ⟨[Y n.Am,Y n.Aj,Y n.BJ,v,.slice (some ⟨a.next+4,0,none⟩) n.AF.length 1,.slice (some ⟨a.next+7,0,none⟩) ag 1],true⟩:=by rw[<-i];simp(disch:=first|omega|(simp only[Ar,BC];omega)) only[AT]
 have S:g.W (a.next+4)=some ⟨List.replicate n.AF.length (Value.int .i64 0),true⟩:=by rw[<-i];simp(disch:=first|omega|(simp only[Ar,BC];omega)) only[AT,A3]
 have T:g.W (a.next+7)=some ⟨List.replicate ag (Value.slice none 0 0),true⟩:=by rw[<-i];simp(disch:=first|omega|(simp only[Ar,BC];omega)) only[AT,A3]
 have V:List.replicate ag (Value.slice none 0 0)=GD ag (λ_=>[]) (λ_=>0):=by apply LQ<;>simp[GD,Ee]
 have H: ∀b l c,v= .slice (some ⟨b,0,none⟩) l c->b<a.next:=by
  intro b l c d;rcases s with⟨h,_⟩|⟨Af,o,h,hb⟩
  ·rw[h]at d;cases d
  ·rw[h]at d;cases d;exact F hb
 refine xm f t (ab:=List.replicate n.AF.length 0) (v:=v) (cG:=a.next+9) (cU:=a.next+4) (cI:=a.next+7) (bl:=a.next+11) (df:=g) (s.AG E) (by rw[G,Ps]) (by omega) (by omega) (by omega) (λb l c d=>by have:=H b l c d;omega) n.AF.length 0 g _ (λ_=>[]) (λ_=>0) (by omega) (by omega) (λ_ _ _=>rfl) ⟨by rw[T,V],λk A1 A2=>absurd rfl A2,λk Ag A1 Ah Ak A4=>absurd rfl A4⟩ ⟨λx z A5=>by simp at A5,λe d=>by omega,λx=>by simp⟩ (by simp) (by simp[]) (by simp) (by simp) (λI B o' Al J An w A6 A7=> ?_);have A8:I 1=AA m.next:=by rw[J 1 (by omega)];simp
 have A9:I 6=AA (a.next+9):=by rw[J 6 (by omega)];simp
 have y:BK a B:=⟨by omega,λb hb=>by rw[w b (by omega) (by omega),E.W b hb]⟩;have AB:F9 n (List.replicate n.AF.length 0) v (a.next+9) (a.next+4) (a.next+7) ag B:=by refine⟨by rw[w _ (by omega) (by omega),G,Ps],s.AG y,?_⟩;rw[w _ (by omega) (by omega),S,List.map_replicate]
 simp(disch:=omega)[];refine a4R f t (v:=v) (cG:=a.next+9) (cU:=a.next+4) (cI:=a.next+7) (gZ:=m.next) (bl:=a.next+11) (df:=a) (by omega) (by omega) (λb l c d=>by have:=H b l c d;omega) (by omega) (by omega) (by omega) A7 5368709117500 (List.replicate n.AF.length 0) B _ (by rw[u];omega) R (by rw[u];omega) y AB A6 (y.some q) (by simp[A8]) (by simp[A9]) (by simp[u]) (λAs At AH C AJ AK AL AM AN AO AP AQ Au AR AS AV AW AX=> ?_);simp(disch:=omega)[AS,AV,AW,AX];have Av:=j.next
 exact⟨j.trans AK,AH,O5 ag C,_,AJ,by rw[rK],by omega,by omega,AR,AM,by rw[AN,a49],a0d f t AL AP AQ AO⟩
end Go.Proofs.YtmmkkggfmigppaaGreat
namespace Go.DI
open Go
variable {P:Program} {t m B:V} {J:C5} {u:Ca}
variable{h4:Nat}{cs args:List Value}{a7:Value->V->Prop}{pd:Bw}
theorem qG(c:BI J u t m)(g:m.next<=B.next)(e: ∀b,b<m.next->B.W b=m.W b/\(m.W b=some ⟨[],true⟩->B.mp b=m.mp b)):
 BI J u t B/\Be h4 m.next J u t m J u t B:=by
 refine⟨⟨λo x i=> ?_,λo es j=> ?_,c.Er,c.inj,λo b h=> ?_,λb ds h=> ?_⟩,⟨CA.refl _,Cs.refl _,λo b h=> .inl h,λb ds h=> .inl h,Ao _,g,λb hb _=>(e b hb).1,λb hb h=>h,λb hb h=>h⟩⟩
 ·rcases c.Eh o x i with⟨b,ds,w,a,d,f,k⟩|a
  ·exact .inl ⟨b,ds,w,a,by rw[(e b (c.B7 o b a).2).1,d],f,k⟩
  ·exact .inr a
 ·obtain⟨b,l,a,d,f⟩:=c.maps o es j;obtain⟨n,p⟩:=DQ d;have hb:=(c.B7 o b a).2
  grind [E7]
 ·have:=c.B7 o b h;omega
 ·obtain⟨⟨w,a⟩,d⟩:=c.AZ b ds h;exact⟨⟨w,by rw[(e b (F a)).1,a]⟩,d⟩
theorem pV(e:BI J u t m){iv q:Nat}(E:h4<=t.next)(F:iv<=q)(G:q<m.next)(H: ∀o,J o≠some q)(I:u q=none)(K:m.W q=some ⟨cs,true⟩)(L:cs.all BB=true):
 BI (CO J t.next q) u ((t.AE 1).A0 t.next (some ⟨cs,true⟩)) m/\Be h4 iv J u t m (CO J t.next q) u ((t.AE 1).A0 t.next (some ⟨cs,true⟩)) m:=by
 have l:J t.next=none:=by
  cases j:J t.next with
  |none=>rfl
  |some b=>have:=(e.B7 _ _ j).1;omega
 have k: ∀{o b:Nat},CO J t.next q o=some b->(o=t.next/\b=q)\/(o≠t.next/\J o=some b):= λ{o b} h=>by
  grind [CO]
 have n: ∀{o:Nat},o≠t.next->((t.AE 1).A0 t.next (some ⟨cs,true⟩)).W o=t.W o:= λc=>by rw[A3 c,V.AU]
 refine⟨⟨λo x p=> ?_,λo es j=> ?_,λo h=> ?_,λo o' b h f=> ?_,λo b h=> ?_,λb ds h=> ?_⟩,⟨CA.set l,Cs.refl _,λo b h=> ?_,λb ds h=> .inl h,by simp,Ao _,λb hb _=>rfl,λb hb=> λ⟨o,y,h,f,A⟩=> ?_,λb hb=> λ⟨o,y,h,f⟩=> ?_⟩⟩
 ·by_cases c:o=t.next
  ·subst c;rw[AT (by simp)]at p
   grind [CO,AJ.BT]
  ·rw[n c]at p;rcases e.Eh o x p with⟨b,ds,w,g,i,r,B⟩|⟨g,i⟩
   ·exact .inl ⟨b,ds,w,by simp[CO,c,g],i,r,B.AG (Cs.refl _) (CA.set l)⟩
   ·exact .inr ⟨by simp[CO,c,g],i⟩
 ·by_cases c:o=t.next
  ·subst c;have:=(DQ j).2;rw[show((t.AE 1).A0 t.next (some ⟨cs,true⟩)).mp=t.mp from rfl,e.Er _ l]at this;cases this
  ·rw[IS c]at j;obtain⟨s,C⟩:=DQ j;rw[V.AU]at s;obtain⟨b,D,g,i,r⟩:=e.maps o es (E7 s C);exact⟨b,D,by simp[CO,c,g],i,r.AG (Cs.refl _) (CA.set l)⟩
 ·simp only[CO]at h;split at h
  ·cases h
  ·exact e.Er o h
 ·rcases k h with⟨d,a⟩|⟨d,a⟩<;>rcases k f with⟨v,z⟩|⟨v,z⟩
  ·rw[d,v]
  ·simp_all
  ·simp_all
  ·exact e.inj o o' b a z
 ·rcases k h with⟨d,a⟩|⟨d,a⟩
  ·simp_all
  ·have:=e.B7 o b a;simp only[Ar,BC];omega
 ·obtain⟨g,i⟩:=e.AZ b ds h
  grind
 ·grind
 ·rcases k h with⟨d,a⟩|⟨d,a⟩
  ·omega
  ·exact⟨o,y,a,by rw[n d]at f;exact f,A⟩
 ·rcases k h with⟨d,a⟩|⟨d,a⟩
  ·omega
  ·exact⟨o,y,a,by rw[n d]at f;exact f⟩
theorem aCP{f pU:Nat}(k:m.W pU=some pd)(t:pd.cells≠[])
 (l: ∀p:V,p.next=m.next->p.W pU=some pd->Aq P f args p λr a=>(p.next<=a.next/\ ∀b,b<p.next->a.W b=p.W b)/\ ∀d:V,d.next=a.next->(∀b y,a.W b=some y->d.W b=some y)->a7 r d):
 Aq P f args m λr B=>m.next<=B.next/\(∀b,b<m.next->B.W b=m.W b/\(m.W b=some ⟨[],true⟩->B.mp b=m.mp b))/\a7 r B:=by
 obtain⟨p,g⟩: ∃p:V,p=⟨m.next,λb=>if b=pU then m.C1 b else none,m.mp⟩:=⟨_,rfl⟩;have h:p.next=m.next:=by rw[g]
 have i: ∀b,p.W b=if b=pU then m.W b else none:= λb=>by
  rw[g];simp only[V.W]
  grind
 have part:QR p m:=⟨h,by rw[g],λb x u=>by
  simp_all⟩
 have j:p.W pU=some pd:=by rw[i,if_pos rfl,k]
 refine(Aq.frame part (l p h j)).AG λr B n=> ?_;obtain⟨a,⟨⟨v,o⟩,q⟩,c⟩:=n;refine⟨c.next,λb hb=> ?_,q B c.part.next.symm λb y s=>c.part.W b y s⟩;by_cases e:b=pU
 ·subst e;have:B.W b=some pd:=c.part.W b pd (by rw[o b (by omega),j])
  grind
 ·have:=c.Da b hb (by rw[i,if_neg e])
  simp_all
end Go.DI
namespace Go.Proofs.YtmmkkggfmigppaaGreat
open Go Go.DI Go.Ex
theorem yP{u:Ca}{J:C5}: ∀{xs ys:List Value},AJ u J xs ys->xs.all BB=true->ys=xs
 |[],ys,h,_=>Gy.1 h.1.symm
 | x::xs,ys,h,c=>by
   cases ys with
   |nil=>have:=h.1;simp at this
   | cons y ys=>simp only[Fz,AB]at c;have d:=(h.2 0 x y rfl rfl).DH c.1;rw[d,yP (xs:=xs) (ys:=ys) ⟨by simpa using h.1,λi a b p q=>h.2 (i+1) a b (by simpa using p) (by simpa using q)⟩ c.2]
theorem aC2(l:List Ae):(Ck l).all BB=true:=by rw[BF];intro v b;simp only[Ck,RG,CP]at b;obtain⟨r,⟨a,_,rfl⟩,c⟩:=b;simp[Cj]at c;rcases c with rfl|rfl|rfl|rfl<;>rfl
variable{J:C5}{a6:Value}{n:CG}{o:Nat}
theorem a7C{u:Ca}{t m:V}(p:BI J u t m)(f:n.AF≠[])(q:t.W o=some ⟨Ck n.AF,true⟩)(r:AW u J (.agg #[Y n.Am,Y n.Aj,Y n.BJ,.slice (some ⟨o,0,none⟩) n.AF.length 4]) a6):
 ∃b w,m.W b=some ⟨Ck n.AF,w⟩/\Ck n.AF≠[]/\a6=Ol n (.slice (some ⟨b,0,none⟩) n.AF.length 4):=by
 have g:(Ck n.AF)≠[]:= λe=>by have:=mV n.AF;rw[e]at this;exact f (MM (by simp at this;omega))
 obtain⟨b,ds,w,s,v,M,y⟩: ∃b ds w,J o=some b/\m.W b=some ⟨ds,w⟩/\(true=true->w=true)/\AJ u J (Ck n.AF) ds:=by
  rcases p.Eh o _ q with⟨b,ds,w,z,c,a3,a4⟩|⟨_,c⟩
  ·exact⟨b,ds,w,z,c,a3,a4⟩
  ·exact absurd c g
 obtain rfl:=yP y (aC2 _);obtain⟨ys,rfl,a⟩:=r.K8;have A:ys.toList=FV n (.slice (some ⟨b,0,none⟩) n.AF.length 4):=by
  have B:ys.toList.length=4:=(by have:=a.1;simpa using this.symm);have h:= λx=>a.2 0 _ x rfl;have i:= λx=>a.2 1 _ x rfl;have j:= λx=>a.2 2 _ x rfl;have k:= λx=>a.2 3 _ x rfl
  match C:ys.toList,B with
  | [D,E,F,G],_=>
    rw[C]at h i j k;have H:=(h D rfl).DH rfl;have I:=(i E rfl).DH rfl;have K:=(j F rfl).DH rfl;rcases(k G rfl).Fk with⟨N,l,_,d⟩|⟨_,_,d,_⟩
    ·rw[s]at l;cases l;rw[H,I,K,d]
    ·exact absurd (MM d) f
 have L:ys= #[Y n.Am,Y n.Aj,Y n.BJ,.slice (some ⟨b,0,none⟩) n.AF.length 4]:=Array.toList_inj.1 A;subst L;exact⟨b,w,v,g,rfl⟩
theorem a4m{u:Ca}{J:C5}{t m B:V}(f:BI J u t m)(p:m.next<=B.next)(r: ∀b,b<m.next->B.W b=m.W b/\(m.W b=some ⟨[],true⟩->B.mp b=m.mp b)){cU d:Nat}{cs ds:List Value}(g:m.next<=cU)(h:m.next<=d)(s:d≠cU)(i:B.W cU=some ⟨cs,true⟩)(j:B.W d=some ⟨ds,true⟩)(v:cs.all BB=true)(w:ds.all BB=true):
 ∃e,BI e u ((((t.AE 1).A0 t.next (some ⟨cs,true⟩)).AE 1).A0 (t.next+1) (some ⟨ds,true⟩)) B/\Be t.next m.next J u t m e u ((((t.AE 1).A0 t.next (some ⟨cs,true⟩)).AE 1).A0 (t.next+1) (some ⟨ds,true⟩)) B/\e t.next=some cU/\e (t.next+1)=some d:=by
 obtain⟨x,y⟩:=qG f (h4:=t.next) p r;have k: ∀q,m.next<=q->u q=none:= λq z=>by
  cases A:u q with
  |none=>rfl
  |some c=>have:=F ((f.AZ q c A).1.choose_spec);omega
 have l: ∀q,m.next<=q-> ∀o',J o'≠some q:= λq z o' a=>by have:=(f.B7 o' q a).2;omega
 obtain⟨C,D⟩:=pV x (h4:=t.next) (iv:=m.next) (Ao _) g (F i) (l _ g) (k _ g) i v;have G: ∀o',CO J t.next cU o'≠some d:= λo' a=>by
  simp only[CO]at a;split at a
  ·cases a;exact s rfl
  ·exact l _ h o' a
 obtain⟨n,o⟩:=pV C (h4:=t.next) (iv:=m.next) (by simp) h (F j) G (k _ h) j w;have H:((t.AE 1).A0 t.next (some (Bw.mk cs true))).next=t.next+1:=by simp
 rw[H]at n o;exact⟨_,n,(y.trans D).trans o,by simp[CO],by simp[CO]⟩
theorem rn(l:List Int):(l.map (Value.int .i64 ·)).all BB=true:=by rw[BF];intro v a;obtain⟨x,_,rfl⟩:=CP.1 a;rfl
open Go Go.DI Go.Big Go.Ex
variable{R:List Int}{u:AY}{a:Ae}
theorem aE6(h:1<=u.A7.length):(Dd u R).AF≠[]:=by
 show B2 u R≠[];intro e;have:(B2 u R).length=0:=by rw[e];rfl
 obtain⟨k,a⟩: ∃k,u.A7.length=k+1:=⟨u.A7.length-1,by omega⟩;unfold B2 at this;rw[a,List.range_succ_eq_map]at this;simp[Gk]at this
theorem a7G(h:BW u)(g:a∈B2 u R)(b:AM u 0<=a.t): ∃v d,v<u.A7.length/\d<u.A1.length/\a=E8 u v d:=by
 have k:=h.Di;have m:=Is h;rcases Oj.1 g with⟨v,c,l⟩|⟨d,e,rfl⟩
 ·rcases Ls.1 l with rfl|⟨j,n,rfl⟩|⟨d,e,_,rfl⟩
  ·have:=E3 h c (i:=0) k;simp only[Ax,if_true]at this;have f:AM u 0<=2+(v:Int):=b;omega
  ·have:=E3 h c (i:=j+1) (by omega);have f:AM u 0<=Ax u v (j+1):=b;omega
  ·exact⟨v,d,c,e,rfl⟩
 ·have f:AM u 0<=1:=b;omega
theorem vg(h:BW u){v d:Nat}(c:d<u.A1.length):(Ax u v (CJ u d)-2-u.A7.length).tdiv ((u.A5.length:Int)-1)=v/\4<=(u.A5.length:Int)-1:=by
 obtain⟨f,k⟩:=Gv h c;have l:4<=CJ u d:=by have m:=h.Gu f (by omega);have g:D3 u (CJ u d)<u.A5.length:=(by omega);have n:=h.Gu g (by omega);have i:D3 u (D3 u (CJ u d))<u.A5.length:=(by omega);have o:=h.Gu i (by omega);have j:D3 u (D3 u (D3 u (CJ u d)))<u.A5.length:=(by omega);have p:=h.Gu j (by omega);omega
 obtain⟨a,q⟩: ∃a:Nat,u.A5.length=a+1:=⟨u.A5.length-1,by omega⟩;have b:((u.A5.length:Int)-1)=a:=by omega
 have e:Ax u v (CJ u d)-2-u.A7.length=v*(a:Int)+(CJ u d-1):=by unfold Ax;rw[if_neg (by omega),b];omega
 rw[e,b];have z:0<=(v:Int)*a:=R9 (by omega) (by omega);refine⟨?_,by omega⟩;rw[Int.tdiv_eq_ediv_of_nonneg (by omega),Int.add_comm,Int.add_mul_ediv_right _ _ (by omega),Int.ediv_eq_zero_of_lt (by omega) (by omega)];omega
end Go.Proofs.YtmmkkggfmigppaaGreat
namespace Go.Big
end Go.Big
namespace Go.Proofs.YtmmkkggfmigppaaGreat
open Go Go.DI Go.Big Go.Ex
open Go Go.DI Go.Big
def Gl(l:List Int):List (Value×Value):=l.map λx=>(Y x,.bool true)
theorem VQ{s:Int}: ∀{l:List Int},CT (Y s) (Gl l)=if s∈l then some (.bool true)else none
 |[]=>rfl
 | x::l=>by
   have a:=VQ (s:=s) (l:=l);simp only[Gl]at a;simp only[Gl,E1,CT,G0,Hq];by_cases h:s=x
   ·simp[h]
   ·simp only[h,decide_false,EI,if_false,a,CM,false_or]
theorem hT{s:Int}: ∀{l:List Int},s∉l->DM (Y s) (.bool true) (Gl l)=Gl (l++[s])
 |[],_=>by simp[Gl,DM]
 | x::l,h=>by simp only[CM,not_or]at h;have a:=hT (s:=s) (l:=l) h.2;simp only[Gl]at a;simp only[Gl,E1,DM,G0,Hq,h.1,decide_false,EI,if_false,Ih,a]
variable{l:List Int}{s:Int}{w:Bool}
theorem ui:DX (.int .i64) (Y s) (Gl l)=true:=by simp only[DX,Gl,DT,decide_true,Bool.true_and,List.all_map,BF];intro x _;rfl
theorem zB: ∀{i:Nat} {l:List Int},i<=l.length->FE 1 i (l.map Y)=(l.take i).map λx=>[Y x]
 |0,l,_=>by simp[FE]
 |i+1,[],h=>by simp at h
 | i+1,x::l,h=>by have:=zB (i:=i) (l:=l) (by simpa using h);simp only[E1,FE,WY,List.take_zero,List.drop_succ_cons,KK,this]
theorem rR{t:V}{o i n:Nat}(c:t.W o=some ⟨l.map Y,w⟩)(h:i<=l.length):DI.Az (n+2) t (.slice (some ⟨o,0,none⟩) i 1)=some (AH (l.take i)):=by
 have d:C8 (C8 (DI.Az (n+1) t)) ((l.take i).map λx=>[Y x])=some ((l.take i).map λx=>[Y x]):=hr (by simp) λj x y a b=>by rw[a]at b;cases b;obtain⟨z,_,rfl⟩:=CP.1 (B9 a);rfl
 rw[dS,c];simp only[KK,Nat.zero_add,Nat.mul_one,Eb,h,if_true];rw[zB h,d]
section
set_option maxRecDepth 100000
end
def Ir(u:AY):List Ae->List Int->List (List Int)->List (List Int)
 |a::l,b::ab,L=>Ir u l ab (if AM u 0<=a.t/\b≠0 then L.set ((a.f-2-u.A7.length).tdiv ((u.A5.length:Int)-1)).toNat (L.getD ((a.f-2-u.A7.length).tdiv ((u.A5.length:Int)-1)).toNat []++[a.t-AM u 0])else L)
 |_,_,L=>L
end Go.Proofs.YtmmkkggfmigppaaGreat
