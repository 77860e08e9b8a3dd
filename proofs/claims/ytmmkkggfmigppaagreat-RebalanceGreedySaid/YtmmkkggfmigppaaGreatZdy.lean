/- A part of the proof. -/
import Derived.Test.YtmmkkggfmigppaaGreatZdx
set_option linter.all false
set_option maxRecDepth 20000
set_option maxHeartbeats 16000000
noncomputable section
namespace Go.Proofs.YtmmkkggfmigppaaGreat
open Go Go.DI Go.EL
structure Nh(n:Bw)(i:Nat)(o:Int->List Int):Prop where
 Qa: ∀x,∀z∈o x,(BU z).1<i/\B2 n (BU z)=x/\ -2500<=z/\z<=2500
 all: ∀e:CM,e.1<i-> ∃z∈o (B2 n e),BU z=e
 len: ∀x,(o x).length<=2*i
variable{o B:Int->List Int}{x y z:Int}{a:Ah}{i W cz L:Nat}{n:Bw}{aH:Int->Nat}{m:X}{A:Int->Bool}{Q:BM->A2->X->Prop}{v:Value}{N:List Int}{C:Int->CM}{e:CM}{l:List CM}
theorem R6{c:Int}:z∈Ai o y (o y++[c]) x↔z∈o x\/(x=y/\z=c):=by
 unfold Ai;by_cases h:x=y
 ·subst h;simp
 ·simp[h]
theorem X6{o:Int->List Int}{y:Int}{c:Int}{x:Int}:(Ai o y (o y++[c]) x).length<=(o x).length+1:=by
 unfold Ai;split
 ·rename_i h;subst h;simp
 ·omega
theorem m0(i:Nat):BU (i:Int)=(i,true):=by simp[BU]
theorem wL(i:Nat):BU (-1-(i:Int))=(i,false):=by have:=a4m (i,false);simpa[EL.enc]using this
theorem Nh.step(h:Nh n i o)(g:n.A0[i]?=some a)(s:i<2500):
 Nh n (i+1) (Ai (Ai o a.f (o a.f++[(i:Int)])) a.t (Ai o a.f (o a.f++[(i:Int)]) a.t++[-1-(i:Int)])):=by
 have k:B2 n (i,true)=a.f:=by simp[B2,g]
 have l:B2 n (i,false)=a.t:=by simp[B2,g]
 refine⟨λx z c=> ?_,λe q=> ?_,λx=> ?_⟩
 ·rw[R6,R6]at c;rcases c with(c|⟨rfl,rfl⟩)|⟨rfl,rfl⟩
  ·obtain⟨m,d,r⟩:=h.Qa x z c;exact⟨by omega,d,r⟩
  ·rw[m0];exact⟨by simp,k,by omega,by omega⟩
  ·rw[wL];exact⟨by simp,l,by omega,by omega⟩
 ·by_cases p:e.1<i
  ·obtain⟨z,m,d⟩:=h.all e p;exact⟨z,by rw[R6,R6];exact .inl (.inl m),d⟩
  ·obtain⟨j,b⟩:=e;simp only at q p;obtain rfl:j=i:=(by omega);cases b
   ·exact⟨-1-(j:Int),by rw[l,R6];exact .inr ⟨rfl,rfl⟩,wL j⟩
   ·exact⟨(j:Int),by rw[k,R6,R6];exact .inl (.inr ⟨rfl,rfl⟩),m0 j⟩
 ·have u:= @X6 (Ai o a.f (o a.f++[(i:Int)])) a.t (-1-(i:Int)) x;have v:= @X6 o a.f (i:Int) x;have:=h.len x;omega
theorem Fu.AD{a:Nat}{g:X}(h:Fu o cz W a aH m)(c: ∀b x,m.Y b=some x->g.Y b=some x):Fu o cz W a aH g:=
 ⟨c _ _ h.N2,λk d e=>⟨c _ _ (h.Y k d e).1,(h.Y k d e).2⟩,h.inj⟩
theorem rQ{n:Bw}(u:n.CE){W:Nat}(K:n.AS=W){N:List Int}{v:Value}{cP bX cz bc:Nat}{b1:X}(A4:Dc b1 v n.A0)(A5:b1.Y cP=some ⟨[Z n.AS,Z n.Ad,Z n.Aq,v,.slice (some ⟨bX,0,none⟩) N.length 1,.slice (some ⟨cz,0,none⟩) W 1],true⟩)(L:cz<bc)(B:cP<bc)(w:cP≠cz)(A7: ∀b l c,v= .slice (some ⟨b,0,none⟩) l c->b<bc/\b≠cz){Q:BM->A2->X->Prop}:
 ∀(r i:Nat) (m:X) (h:A2) (o:Int->List Int) (aH:Int->Nat),i+r=n.A0.length->bc<=m.ac->(∀b,b<bc->b≠cz->m.Y b=b1.Y b)->Fu o cz W bc aH m->Nh n i o->
 h 26=v->h 27=Z n.A0.length->h 28=Z i->h 6=AG cP->
 (∀C g o' M,(∀t,t<7->C t=h t)->m.ac<=g.ac->(∀b,b<bc->b≠cz->g.Y b=b1.Y b)->Fu o' cz W bc M g->Nh n n.A0.length o'->Q (.Ao 0) C g)->Az V (.loop kp) h m Q
 | 0,i,m,h,o,aH,AI,AJ,y,p,z,O,D,F,G,P=>by refine Bm λAK A8=> ?_;have H: ¬i<n.A0.length:=(by omega);obtain rfl:i=n.A0.length:=(by omega);simp[uG,D,F];exact P _ _ o aH (λt A=>by simp(disch:=omega) only[D3]) (Aj _) y p z
 | r+1,i,m,h,o,aH,AI,AJ,y,p,z,O,D,F,G,P=>by
   refine Bm λAK A8=> ?_;have H:i<n.A0.length:=(by omega);obtain⟨a,R⟩: ∃a,n.A0[i]?=some a:=⟨n.A0[i]'H,by simp⟩;obtain⟨c,Ax,rfl,AL⟩:=A4.BY H;obtain⟨AM,AN⟩:=A7 _ _ _ rfl;have S:=y c AM AN;rw[AL]at S;have I:=y cP B w;rw[A5]at I;have hb:i*4+4<=n.A0.length*4:=(by omega);have AO:=Il R;have Ay:=u.Gf;obtain⟨AP,AQ,a3,a4⟩:=u.Gu a (B5 R);have AT:=BZ (n:=i) (by omega);have B0:=E S;have B2:=E I;simp(disch:=first|omega|simp only[A9];omega)[uG,O,D,F,H,S,hb,AO,BC];have T: ∀b x,m.Y b=some x->((m.AE 6).A1 (m.ac+3) (some ⟨[Z a.f,Z a.t,Z a.c,Z a.k],true⟩)).Y b=some x:= λb x hb=>by have:=E hb;rw[A6 (by omega),Ab this,hb]
   have J: ∀k:Nat,k<W->o k≠[]->aH k<m.ac/\bc<=aH k:= λk d e=>⟨E (p.Y k d e).1,(p.Y k d e).2⟩
   have B3:=E p.N2;refine aD4 (a:=a) (o:=o) (aH:=aH) (fP:=m.ac+3) (i:=i) u K (by omega) (T _ _ I) (AR (by simp)) (p.AD T) L B w (by simp only[Au,B1];omega) AP (by have:=z.len a.f;omega) (λk d e=>by have:=J k d e;omega) (by omega) (by simp[G]) (by simp) (by simp) λAV AA AB j AW U AF AX=> ?_;simp only[Au,B1]at AW;simp only[Nn];have AY:AA.Y (m.ac+3)=some ⟨BC a,true⟩:=by rw[U _ (by simp only[Au,B1];omega) (by omega) (λk d e=>by have:=J k d e;omega)];exact AR (by simp)
   have AZ:AA.Y cP=some ⟨[Z n.AS,Z n.Ad,Z n.Aq,.slice (some ⟨c,0,none⟩) n.A0.length 4,.slice (some ⟨bX,0,none⟩) N.length 1,.slice (some ⟨cz,0,none⟩) W 1],true⟩:=(by rw[U _ (by simp only[Au,B1];omega) w (λk d e=>by have:=J k d e;omega)];exact T _ _ I);refine a9j (a:=a) (aH:=AB) (fP:=m.ac+3) (i:=i) u K (by omega) AZ AY AF L B w (by omega) AQ (by have:=z.len a.t;have:= @X6 o a.f (i:Int) a.t;omega) AX (by omega) (by rw[j 6 (by omega)];simp[G]) (by rw[j 8 (by omega)];simp) (by rw[j 7 (by omega)];simp) λs Aa Ac Ae B4 Af Ag B6=> ?_;have q: ∀t,t<33->s t=AV t:= λt A=>Ae t (by omega);have Ah:s 28=Z i:=(by rw[q 28 (by omega),j 28 (by omega)];simp[F]);have Ak:s 26= .slice (some ⟨c,0,none⟩) n.A0.length 4:=(by rw[q 26 (by omega),j 26 (by omega)];simp[O]);have Al:s 27=Z n.A0.length:=(by rw[q 27 (by omega),j 27 (by omega)];simp[D]);have Am:s 6=AG cP:=(by rw[q 6 (by omega),j 6 (by omega)];simp[G]);have An: ∀t,t<7->s t=h t:= λt A=>by rw[q t (by omega),j t (by omega)];simp(disch:=omega) only[D3]
   simp[Ah,AT];have Ap: ∀k:Nat,k<W->Ai o a.f (o a.f++[(i:Int)]) k≠[]->bc<=AB k:= λk d e=>(AF.Y k d e).2;refine A8 _ _ (rQ u K A4 A5 L B w A7 r (i+1) Aa _ _ Ac (by omega) (by omega) (λb Ar A3=> ?_) Ag (z.step R (by omega)) (by simp[Ak]) (by simp[Al]) (by simp) (by simp[Am]) (λC g o' M As B7 At Av Aw=>P C g o' M (λt A=> ?_) (by omega) At Av Aw))
   ·rw[Af b (by omega) A3 (λk d e=>by have:=Ap k d e;omega),U b (by simp only[Au,B1];omega) A3 (λk d e=>by have:=J k d e;omega)];rw[A6 (by omega),Ab (by omega)];exact y b Ar A3
   ·rw[As t A];simp(disch:=omega) only[D3];exact An t A
theorem q2{s j5:Int->Bool}: ∀(l:List Ah),(∀a∈l,s a.f=j5 a.f/\s a.t=j5 a.t)->Fm l s=Fm l j5
 |[],_=>rfl
 | a::l,h=>by obtain⟨c,d⟩:=h a (by simp);simp only[Fm,c,d,q2 l (λb hb=>h b (by simp[hb]))]
def NT(W:Nat)(A:Int->Bool):List Bool:=(List.range W).map λ(x:Nat)=>A x
theorem mn:(NT W A).length=W:=by simp[NT]
theorem a0E:GW W A=(NT W A).map (Value.bool ·):=by simp[GW,NT]
theorem ZZ(b:0<=x)(c:x<W):PX (NT W A) x=A x:=by
 unfold PX NT;obtain⟨k,rfl⟩: ∃k:Nat,x=k:=⟨x.toNat,by omega⟩;have a:k<W:=by omega
 simp[E1,a]
theorem a6n(a:n.CE)(A5:n.AS=W){cP bX et bc:Nat}{b1:X}(AV:b1.ac<=bX)(AA:cP≠bX)(AB: ∀b l c,v= .slice (some ⟨b,0,none⟩) l c->b≠bX)(AW:cz≠bX)(Aw:bX<bc)(AX:et≠bX)
 (G:Nh n n.A0.length B):
 ∀(A7:Nat) (N:List Int) (m:X) (H:A2),5368709117500-value n N<=A7->DT n N->0<=value n N->Aa b1 m->FN n N v cP bX cz W m->Fu B cz W bc aH m->m.Y et=some ⟨Cd n v,true⟩->
 H 1=AG et->H 6=AG cP->H 9=Z (value n N)->
 (∀K g L A t,Aa b1 g->DT n L->g.Y bX=some ⟨L.map (Value.int .i64 ·),true⟩->g.Y t=some ⟨GW W A,true⟩->value n L=Fm n.A0 A->A n.Ad=true->A n.Aq=false->b1.ac<=t->t≠bX->
  K 2= .slice (some ⟨bX,0,none⟩) L.length 1->K 3=Z (value n L)->K 4= .slice (some ⟨t,0,none⟩) W 1->K 5=Z 0->Q .Cz K g)->Az V (.loop cN) H m Q:=by
 intro A7;induction A7 with
 | zero=>
   intro N m H AY i AZ u C M AE I w O A8;refine Bm λAb AT=> ?_;have Ae:=u;have AF:=M.h5;have Af:=E C.f;have AI:QK n B:=⟨λx _ z AJ=>G.Qa x z AJ,λe AK=>G.all e AK⟩;simp[cN,w];refine(mG a A5 i.Da C AF AI (λx=>by have:=G.len x;have:=a.Gf;omega)).AD λr AL q=> ?_;obtain⟨o,Ag,t,Ah,A,rfl,Ai,Aj,AM,D,F⟩:=q;have y:=C.AD o;have AN:=y.s;have A9:Fu B cz W bc aH AL:=M.AD (λb x hb=>o.some hb);have J:=o.some AE;obtain⟨P,Ak⟩:=a.Aq;obtain⟨k,R⟩: ∃k:Nat,n.Aq=k:=⟨n.Aq.toNat,by omega⟩;have t3:n.Aq.toNat=k:=(by omega);have t4:k<W:=(by omega);have S:n.Aq<(W:Int):=(by omega);have T:k+1<=W:=t4;have U:(k:Int)=n.Aq:=R.symm;have A3:(GW W A)[k]?=some (.bool (A n.Aq)):=(by rw[la t4,U]);have Al: ∀h,(GW W A)[k]'h= .bool (A n.Aq):= λh=>by rw[de,U]
   cases j:A n.Aq
   ·simp[D,J,AN,P,t3,S,T,A3,BG,j,I,w,O];exact A8 _ _ N A t (u.trans o) i y.f D (F.QW.Ti a i j) F.Ad j (by have:=u.ac;omega) (by omega) (by simp) (by simp[]) (by simp) (by simp)
   simp[D,J,P,t3,S,T,A3,BG,j,I,w,O];obtain⟨l,q,AO,A4⟩:=F.QW.path j;refine(sV a A5 i.Da y AM AA AB (by omega) q AO A4).AD λr Am AP=> ?_;obtain⟨d,rfl,An,AQ,rfl⟩:=AP;have p:=Xf a i q (d:=d) (by omega) AQ A4;have Ap:=MU a p.1;have Ar:=MU a i;have AU:(G6 N l d).length=N.length:=(by rw[p.1.Da.1,i.Da.1]);have AR:IntKind.i64.wrap (value n N+d)=value n N+d:=Ac (by omega) (by omega);simp[AR];exfalso;have:=MU a p.1;omega
 | succ A7 As=>
   intro N m H AY i AZ u C M AE I w O A8;refine Bm λAb AT=> ?_;have Ae:=u;have AF:=M.h5;have Af:=E C.f;have AI:QK n B:=⟨λx _ z AJ=>G.Qa x z AJ,λe AK=>G.all e AK⟩;simp[cN,w];refine(mG a A5 i.Da C AF AI (λx=>by have:=G.len x;have:=a.Gf;omega)).AD λr AL q=> ?_;obtain⟨o,Ag,t,Ah,A,rfl,Ai,Aj,AM,D,F⟩:=q;have y:=C.AD o;have AN:=y.s;have A9:Fu B cz W bc aH AL:=M.AD (λb x hb=>o.some hb);have J:=o.some AE;obtain⟨P,Ak⟩:=a.Aq;obtain⟨k,R⟩: ∃k:Nat,n.Aq=k:=⟨n.Aq.toNat,by omega⟩;have t3:n.Aq.toNat=k:=(by omega);have t4:k<W:=(by omega);have S:n.Aq<(W:Int):=(by omega);have T:k+1<=W:=t4;have U:(k:Int)=n.Aq:=R.symm;have A3:(GW W A)[k]?=some (.bool (A n.Aq)):=(by rw[la t4,U]);have Al: ∀h,(GW W A)[k]'h= .bool (A n.Aq):= λh=>by rw[de,U]
   cases j:A n.Aq
   ·simp[D,J,AN,P,t3,S,T,A3,BG,j,I,w,O];exact A8 _ _ N A t (u.trans o) i y.f D (F.QW.Ti a i j) F.Ad j (by have:=u.ac;omega) (by omega) (by simp) (by simp[]) (by simp) (by simp)
   simp[D,J,P,t3,S,T,A3,BG,j,I,w,O];obtain⟨l,q,AO,A4⟩:=F.QW.path j;refine(sV a A5 i.Da y AM AA AB (by omega) q AO A4).AD λr Am AP=> ?_;obtain⟨d,rfl,An,AQ,rfl⟩:=AP;have p:=Xf a i q (d:=d) (by omega) AQ A4;have Ap:=MU a p.1;have Ar:=MU a i;have AU:(G6 N l d).length=N.length:=(by rw[p.1.Da.1,i.Da.1]);have AR:IntKind.i64.wrap (value n N+d)=value n N+d:=Ac (by omega) (by omega);simp[AR];refine AT _ _ (As _ _ _ (by rw[p.2];omega) p.1 (by rw[p.2];omega) ((u.trans o).A1 AV) (y.hN AA AB AU) ?_ (by rw[A6 AX];exact J) (by simp[I]) (by simp[w]) (by simp[p.2]) A8);refine⟨by rw[A6 AW];exact A9.N2,λk R At=> ?_,A9.inj⟩;obtain⟨Au,Av⟩:=A9.Y k R At;exact⟨by rw[A6 (by omega)];exact Au,Av⟩
theorem a4x(b:n.CE)(e:n.AS=W):Fm n.A0 (PX (NT W A))=Fm n.A0 A:=by rw[q2 n.A0 (j5:=A)];intro a c;obtain⟨⟨d,g⟩,⟨a3,a4⟩,_⟩:=b.Gu a c;exact⟨ZZ d (by omega),ZZ a3 (by omega)⟩
structure Nm(n:Bw)(N:List Int)(a:List Bool):Prop where
 OH:DT n N
 len:(a.length:Int)=n.AS
 Ad:PX a n.Ad=true
 Aq:PX a n.Aq=false
 val:value n N=Fm n.A0 (PX a)
def aD6(n:Bw)(m:X)(r:Value)(g:X):Prop:=Aa m g/\ ∃(N:List Int) (c:List Bool) (a b:Nat),r= .tuple #[.slice (some ⟨a,0,none⟩) N.length 1,Z (value n N),.slice (some ⟨b,0,none⟩) c.length 1,Z 0]/\m.ac<=a/\m.ac<=b/\b≠a/\g.Y a=some ⟨N.map (Value.int .i64 ·),true⟩/\g.Y b=some ⟨c.map (Value.bool ·),true⟩/\Nm n N c
theorem a3B(a:n.CE)(b:n.AS=W)(h:DT n N)(c:A n.Ad=true)(d:A n.Aq=false)(e:value n N=Fm n.A0 A):Nm n N (NT W A):=by obtain⟨f,i⟩:=a.Ad;obtain⟨g,j⟩:=a.Aq;exact⟨h,by rw[mn,b],by rw[ZZ f (by omega)];exact c,by rw[ZZ g (by omega)];exact d,by rw[a4x a b];exact e⟩
theorem zm(f:n.CE)(q:Dc m v n.A0):At V 125 [Ic n v] m (aD6 n m):=by
 rw[a0l (by simp)];obtain⟨K,L⟩:=q.len;have C:Aa m ((m.AE 5).A1 m.ac (some ⟨Cd n v,true⟩)):=((Aa.refl m).AE 5).A1 (Aj _);simp(disch:=first|omega|simp only[A9];omega)[fo];refine(e7 (q.AD C)).AD λr a M=> ?_;obtain⟨rfl,D⟩:=M;have p:=C.trans D;have s:a.Y m.ac=some ⟨Cd n v,true⟩:=D.some (AR (by simp))
 have Af:=E s;have Ag:=p.ac
 have O:=QJ.2 f;have t:=q.AD p;obtain⟨W,u⟩: ∃W:Nat,n.AS=W:=⟨n.AS.toNat,by have:=f.Lq;omega⟩;have P:n.AS.toNat=W:=by omega
 have Ah:=f.Jy;have Ai:=f.Gf;have z0:0<=n.AS:=by omega
 have Q:n.AS*24<=140737488355328:=by omega
 have R:n.AS<=9223372036854775807:=by omega
 have z3:(n.A0.length:Int)*8<=140737488355328:=by omega
 have z4:(n.A0.length:Int)<=9223372036854775807:=by omega
 have Ak:n.A0.length*8<=140737488355328:=by omega
 have Al:n.A0.length<=9223372036854775807:=by omega
 simp(disch:=first|omega|simp only[A9];omega)[O,s,K,L,P,z0,Q,R,z3,z4];obtain⟨S,w⟩:=eP f;generalize j:(((a.AE 11).A1 (a.ac+4) (some ⟨List.replicate n.A0.length (Value.int .i64 0),true⟩)).A1 (a.ac+7) (some ⟨List.replicate W (Value.slice none 0 0),true⟩)).A1 (a.ac+9) (some ⟨[Z n.AS,Z n.Ad,Z n.Aq,v,.slice (some ⟨a.ac+4,0,none⟩) n.A0.length 1,.slice (some ⟨a.ac+7,0,none⟩) W 1],true⟩)=i;have Am:i.ac=a.ac+11:=by rw[<-j];simp
 have F:Aa a i:=⟨by omega,λb hb=>by rw[<-j];simp(disch:=first|omega|(simp only[Au,B1];omega)) only[A6,Ab]⟩;have G:i.Y (a.ac+9)=some ⟨[Z n.AS,Z n.Ad,Z n.Aq,v,.slice (some ⟨a.ac+4,0,none⟩) n.A0.length 1,.slice (some ⟨a.ac+7,0,none⟩) W 1],true⟩:=by rw[<-j];simp(disch:=first|omega|(simp only[Au,B1];omega)) only[AR]
 have T:i.Y (a.ac+4)=some ⟨List.replicate n.A0.length (Value.int .i64 0),true⟩:=by rw[<-j];simp(disch:=first|omega|(simp only[Au,B1];omega)) only[AR,A6]
 have U:i.Y (a.ac+7)=some ⟨List.replicate W (Value.slice none 0 0),true⟩:=by rw[<-j];simp(disch:=first|omega|(simp only[Au,B1];omega)) only[AR,A6]
 have X:List.replicate W (Value.slice none 0 0)=GY W (λ_=>[]) (λ_=>0):=by apply Lu<;>simp[GY,Ew]
 have H: ∀b l c,v= .slice (some ⟨b,0,none⟩) l c->b<a.ac:=by
  intro b l c d;rcases t with⟨h,_⟩|⟨An,o,h,hb⟩
  ·rw[h]at d;cases d
  ·rw[h]at d;cases d;exact E hb
 refine rQ f u (N:=List.replicate n.A0.length 0) (v:=v) (cP:=a.ac+9) (bX:=a.ac+4) (cz:=a.ac+7) (bc:=a.ac+11) (b1:=i) (t.AD F) (by rw[G,Ov]) (by omega) (by omega) (by omega) (λb l c d=>by have:=H b l c d;omega) n.A0.length 0 i _ (λ_=>[]) (λ_=>0) (by omega) (by omega) (λ_ _ _=>rfl) ⟨by rw[U,X],λk A7 A8=>absurd rfl A8,λk Ap A7 Ar As AA=>absurd rfl AA⟩ ⟨λx z AB=>by simp at AB,λe d=>by omega,λx=>by simp⟩ (by simp) (by simp[]) (by simp) (by simp) (λI g o' Av J Aw y AF AI=> ?_);have AJ:I 1=AG m.ac:=by rw[J 1 (by omega)];simp
 have AK:I 6=AG (a.ac+9):=by rw[J 6 (by omega)];simp
 have B:Aa a g:=⟨by omega,λb hb=>by rw[y b (by omega) (by omega),F.Y b hb]⟩;have AL:FN n (List.replicate n.A0.length 0) v (a.ac+9) (a.ac+4) (a.ac+7) W g:=by refine⟨by rw[y _ (by omega) (by omega),G,Ov],t.AD B,?_⟩;rw[y _ (by omega) (by omega),T,List.map_replicate]
 simp(disch:=omega)[];refine a6n f u (v:=v) (cP:=a.ac+9) (bX:=a.ac+4) (cz:=a.ac+7) (et:=m.ac) (bc:=a.ac+11) (b1:=a) (by omega) (by omega) (λb l c d=>by have:=H b l c d;omega) (by omega) (by omega) (by omega) AI 5368709117500 (List.replicate n.A0.length 0) g _ (by rw[w];omega) S (by rw[w];omega) B AL AF (B.some s) (by simp[AJ]) (by simp[AK]) (by simp[w]) (λAy Az AM A AN AO AP AQ AT AU AV AW B0 AX AY AZ Ac Ae=> ?_);simp(disch:=omega)[AY,AZ,Ac,Ae];have B2:=p.ac
 exact⟨p.trans AO,AM,NT W A,_,AN,by rw[mn],by omega,by omega,AX,AQ,by rw[AT,a0E],a3B f u AP AV AW AU⟩
def G7(L:Nat)(z:Int):CM:=if z<0 then(L,false)else if z<L then(z.toNat,true)else((z-L).toNat,false)
theorem a8E(h:i<L):G7 L (i:Int)=(i,true):=by
 have a: ¬(i:Int)<0:=by omega
 have:(i:Int)<L:=by omega
 simp only[G7,a,this,if_false,if_true,Dx]
theorem a73:G7 L ((L:Int)+i)=(i,false):=by
 have a: ¬(L:Int)+i<0:=by omega
 have h: ¬((L:Int)+i<L):=by omega
 have b:((L:Int)+i-L).toNat=i:=by omega
 simp only[G7,a,h,if_false,b]
theorem nT(h:(G7 L z).1<L):(∃i:Nat,i<L/\z=i/\G7 L z=(i,true))\/(∃i:Nat,i<L/\z=(L:Int)+i/\G7 L z=(i,false)):=by
 by_cases a:z<0
 ·simp only[G7,a,if_true]at h;omega
 ·by_cases b:z<L
  ·exact .inl ⟨z.toNat,by omega,by omega,by simp only[G7,a,b,if_false,if_true]⟩
  ·have e:G7 L z=((z-L).toNat,false):=(by simp only[G7,a,b,if_false]);rw[e]at h;exact .inr ⟨(z-L).toNat,h,by omega,e⟩
theorem s0(f:n.CE)(b:Gt n C x (e::l))(g:0<AX n N e):
 x≠n.Ad/\e=C x/\BB n e=x/\Gt n C (B2 n e) l/\n.Ci x/\e.1<n.A0.length:=by
 cases b with
 | cons h c b=>obtain⟨a,j,i,_⟩:=Kt g;have d:=(Ae.1 i).1;exact⟨h,rfl,c,b,by have:=(c0 f d).2;rw[c]at this;exact this,d⟩
def M7(n:Bw)(N:List Int)(d:Int)(l:List CM):Int:=l.foldl (λd e=>if AX n N e<d then AX n N e else d) d
theorem mg: ∀(l:List CM) (d:Int),0<d->(∀e∈l,0<AX n N e)->0<M7 n N d l/\M7 n N d l<=d/\ ∀e∈l,M7 n N d l<=AX n N e
 |[],d,b,_=>⟨b,FM _,by simp⟩
 | e::l,d,b,c=>by
   have k:=c e (by simp);have f:M7 n N d (e::l)=M7 n N (if AX n N e<d then AX n N e else d) l:=rfl;obtain⟨g,m,h⟩:=mg l (if AX n N e<d then AX n N e else d) (by split<;>omega) (λe i=>c e (by simp[i]));have key:(if AX n N e<d then AX n N e else d)<=d/\(if AX n N e<d then AX n N e else d)<=AX n N e:=(by split<;>omega);rw[f];generalize(if AX n N e<d then AX n N e else d)=o at*;refine⟨g,by omega,λj a=> ?_⟩;rcases CZ.1 a with rfl|a
   ·omega
   ·exact h j a
end Go.Proofs.YtmmkkggfmigppaaGreat
namespace Go.DI
open Go
variable {P:Program} {t m g:X} {K:Be} {u:C0}
variable{h7:Nat}{cs args:List Value}{a7:Value->X->Prop}{m8:CC}
theorem hI(c:BN K u t m)(i:m.ac<=g.ac)(e: ∀b,b<m.ac->g.Y b=m.Y b/\(m.Y b=some ⟨[],true⟩->g.mp b=m.mp b)):
 BN K u t g/\Bi h7 m.ac K u t m K u t g:=by
 refine⟨⟨λo x j=> ?_,λo es k=> ?_,c.Ek,c.inj,λo b h=> ?_,λb ds h=> ?_⟩,⟨CA.refl _,Ce.refl _,λo b h=> .inl h,λb ds h=> .inl h,Aj _,i,λb hb _=>(e b hb).1,λb hb h=>h,λb hb h=>h⟩⟩
 ·rcases c.Ee o x j with⟨b,ds,w,a,d,f,l⟩|a
  ·exact .inl ⟨b,ds,w,a,by rw[(e b (c.B0 o b a).2).1,d],f,l⟩
  ·exact .inr a
 ·obtain⟨b,n,a,d,f⟩:=c.maps o es k;obtain⟨p,q⟩:=DO d;have hb:=(c.B0 o b a).2
  grind [Ec]
 ·have:=c.B0 o b h;omega
 ·obtain⟨⟨w,a⟩,d⟩:=c.AZ b ds h;exact⟨⟨w,by rw[(e b (E a)).1,a]⟩,d⟩
theorem tr(e:BN K u t m){iQ q:Nat}(E:h7<=t.ac)(F:iQ<=q)(G:q<m.ac)(H: ∀o,K o≠some q)(I:u q=none)(J:m.Y q=some ⟨cs,true⟩)(L:cs.all BJ=true):
 BN (CL K t.ac q) u ((t.AE 1).A1 t.ac (some ⟨cs,true⟩)) m/\Bi h7 iQ K u t m (CL K t.ac q) u ((t.AE 1).A1 t.ac (some ⟨cs,true⟩)) m:=by
 have l:K t.ac=none:=by
  cases j:K t.ac with
  |none=>rfl
  |some b=>have:=(e.B0 _ _ j).1;omega
 have k: ∀{o b:Nat},CL K t.ac q o=some b->(o=t.ac/\b=q)\/(o≠t.ac/\K o=some b):= λ{o b} h=>by
  grind [CL]
 have n: ∀{o:Nat},o≠t.ac->((t.AE 1).A1 t.ac (some ⟨cs,true⟩)).Y o=t.Y o:= λc=>by rw[A6 c,X.Ab]
 refine⟨⟨λo x p=> ?_,λo es j=> ?_,λo h=> ?_,λo o' b h f=> ?_,λo b h=> ?_,λb ds h=> ?_⟩,⟨CA.set l,Ce.refl _,λo b h=> ?_,λb ds h=> .inl h,by simp,Aj _,λb hb _=>rfl,λb hb=> λ⟨o,y,h,f,A⟩=> ?_,λb hb=> λ⟨o,y,h,f⟩=> ?_⟩⟩
 ·by_cases c:o=t.ac
  ·subst c;rw[AR (by simp)]at p
   grind [CL,AJ.BP]
  ·rw[n c]at p;rcases e.Ee o x p with⟨b,ds,w,g,i,r,B⟩|⟨g,i⟩
   ·exact .inl ⟨b,ds,w,by simp[CL,c,g],i,r,B.AD (Ce.refl _) (CA.set l)⟩
   ·exact .inr ⟨by simp[CL,c,g],i⟩
 ·by_cases c:o=t.ac
  ·subst c;have:=(DO j).2;rw[show((t.AE 1).A1 t.ac (some ⟨cs,true⟩)).mp=t.mp from rfl,e.Ek _ l]at this;cases this
  ·rw[Kr c]at j;obtain⟨s,C⟩:=DO j;rw[X.Ab]at s;obtain⟨b,D,g,i,r⟩:=e.maps o es (Ec s C);exact⟨b,D,by simp[CL,c,g],i,r.AD (Ce.refl _) (CA.set l)⟩
 ·simp only[CL]at h;split at h
  ·cases h
  ·exact e.Ek o h
 ·rcases k h with⟨d,a⟩|⟨d,a⟩<;>rcases k f with⟨v,z⟩|⟨v,z⟩
  ·rw[d,v]
  ·simp_all
  ·simp_all
  ·exact e.inj o o' b a z
 ·rcases k h with⟨d,a⟩|⟨d,a⟩
  ·simp_all
  ·have:=e.B0 o b a;simp only[Au,B1];omega
 ·obtain⟨g,i⟩:=e.AZ b ds h
  grind
 ·grind
 ·rcases k h with⟨d,a⟩|⟨d,a⟩
  ·omega
  ·exact⟨o,y,a,by rw[n d]at f;exact f,A⟩
 ·rcases k h with⟨d,a⟩|⟨d,a⟩
  ·omega
  ·exact⟨o,y,a,by rw[n d]at f;exact f⟩
theorem qm{f pJ:Nat}(l:m.Y pJ=some m8)(u:m8.cells≠[])
 (n: ∀p:X,p.ac=m.ac->p.Y pJ=some m8->At P f args p λr a=>(p.ac<=a.ac/\ ∀b,b<p.ac->a.Y b=p.Y b)/\ ∀d:X,d.ac=a.ac->(∀b y,a.Y b=some y->d.Y b=some y)->a7 r d):
 At P f args m λr g=>m.ac<=g.ac/\(∀b,b<m.ac->g.Y b=m.Y b/\(m.Y b=some ⟨[],true⟩->g.mp b=m.mp b))/\a7 r g:=by
 obtain⟨p,h⟩: ∃p:X,p=⟨m.ac,λb=>if b=pJ then m.BY b else none,m.mp⟩:=⟨_,rfl⟩;have i:p.ac=m.ac:=by rw[h]
 have j: ∀b,p.Y b=if b=pJ then m.Y b else none:= λb=>by
  rw[h];simp only[X.Y]
  grind
 have part:Pk p m:=⟨i,by rw[h],λb x v=>by
  simp_all⟩
 have k:p.Y pJ=some m8:=by rw[j,if_pos rfl,l]
 refine(At.frame part (n p i k)).AD λr g o=> ?_;obtain⟨a,⟨⟨w,q⟩,s⟩,c⟩:=o;refine⟨c.ac,λb hb=> ?_,s g c.part.ac.symm λb y t=>c.part.Y b y t⟩;by_cases e:b=pJ
 ·subst e;have:g.Y b=some m8:=c.part.Y b m8 (by rw[q b (by omega),k])
  grind
 ·have:=c.Dk b hb (by rw[j,if_neg e])
  simp_all
end Go.DI
namespace Go.Proofs.YtmmkkggfmigppaaGreat
open Go Go.DI Go.EL
theorem xV{u:C0}{K:Be}: ∀{xs ys:List Value},AJ u K xs ys->xs.all BJ=true->ys=xs
 |[],ys,h,_=>Ii.1 h.1.symm
 | x::xs,ys,h,c=>by
   cases ys with
   |nil=>have:=h.1;simp at this
   | cons y ys=>simp only[F3,AF]at c;have d:=(h.2 0 x y rfl rfl).DF c.1;rw[d,xV (xs:=xs) (ys:=ys) ⟨by simpa using h.1,λi a b p q=>h.2 (i+1) a b (by simpa using p) (by simpa using q)⟩ c.2]
theorem a8f(l:List Ah):(BI l).all BJ=true:=by rw[BR];intro v b;simp only[BI,Mv,CG]at b;obtain⟨r,⟨a,_,rfl⟩,c⟩:=b;simp[BC]at c;rcases c with rfl|rfl|rfl|rfl<;>rfl
variable{K:Be}{aY:Value}{n:Bw}{o:Nat}
theorem sC{u:C0}{t m:X}(p:BN K u t m)(f:n.A0≠[])(q:t.Y o=some ⟨BI n.A0,true⟩)(r:AY u K (.agg #[Z n.AS,Z n.Ad,Z n.Aq,.slice (some ⟨o,0,none⟩) n.A0.length 4]) aY):
 ∃b w,m.Y b=some ⟨BI n.A0,w⟩/\BI n.A0≠[]/\aY=Ic n (.slice (some ⟨b,0,none⟩) n.A0.length 4):=by
 have g:(BI n.A0)≠[]:= λe=>by have:=RJ n.A0;rw[e]at this;exact f (M0 (by simp at this;omega))
 obtain⟨b,ds,w,s,v,M,y⟩: ∃b ds w,K o=some b/\m.Y b=some ⟨ds,w⟩/\(true=true->w=true)/\AJ u K (BI n.A0) ds:=by
  rcases p.Ee o _ q with⟨b,ds,w,z,c,a3,a4⟩|⟨_,c⟩
  ·exact⟨b,ds,w,z,c,a3,a4⟩
  ·exact absurd c g
 obtain rfl:=xV y (a8f _);obtain⟨ys,rfl,a⟩:=r.Ka;have A:ys.toList=Cd n (.slice (some ⟨b,0,none⟩) n.A0.length 4):=by
  have B:ys.toList.length=4:=(by have:=a.1;simpa using this.symm);have h:= λx=>a.2 0 _ x rfl;have i:= λx=>a.2 1 _ x rfl;have j:= λx=>a.2 2 _ x rfl;have k:= λx=>a.2 3 _ x rfl
  match C:ys.toList,B with
  | [D,E,F,G],_=>
    rw[C]at h i j k;have H:=(h D rfl).DF rfl;have I:=(i E rfl).DF rfl;have J:=(j F rfl).DF rfl;rcases(k G rfl).Fl with⟨N,l,_,d⟩|⟨_,_,d,_⟩
    ·rw[s]at l;cases l;rw[H,I,J,d]
    ·exact absurd (M0 d) f
 have L:ys= #[Z n.AS,Z n.Ad,Z n.Aq,.slice (some ⟨b,0,none⟩) n.A0.length 4]:=Array.toList_inj.1 A;subst L;exact⟨b,w,v,g,rfl⟩
theorem uA{u:C0}{K:Be}{t m g:X}(h:BN K u t m)(s:m.ac<=g.ac)(v: ∀b,b<m.ac->g.Y b=m.Y b/\(m.Y b=some ⟨[],true⟩->g.mp b=m.mp b)){d e:Nat}{cs ds:List Value}(i:m.ac<=d)(j:m.ac<=e)(w:e≠d)(k:g.Y d=some ⟨cs,true⟩)(l:g.Y e=some ⟨ds,true⟩)(x:cs.all BJ=true)(y:ds.all BJ=true):
 ∃f,BN f u ((((t.AE 1).A1 t.ac (some ⟨cs,true⟩)).AE 1).A1 (t.ac+1) (some ⟨ds,true⟩)) g/\Bi t.ac m.ac K u t m f u ((((t.AE 1).A1 t.ac (some ⟨cs,true⟩)).AE 1).A1 (t.ac+1) (some ⟨ds,true⟩)) g/\f t.ac=some d/\f (t.ac+1)=some e:=by
 obtain⟨z,A⟩:=hI h (h7:=t.ac) s v;have n: ∀q,m.ac<=q->u q=none:= λq B=>by
  cases C:u q with
  |none=>rfl
  |some c=>have:=E ((h.AZ q c C).1.choose_spec);omega
 have o: ∀q,m.ac<=q-> ∀o',K o'≠some q:= λq B o' a=>by have:=(h.B0 o' q a).2;omega
 obtain⟨D,F⟩:=tr z (h7:=t.ac) (iQ:=m.ac) (Aj _) i (E k) (o _ i) (n _ i) k x;have H: ∀o',CL K t.ac d o'≠some e:= λo' a=>by
  simp only[CL]at a;split at a
  ·cases a;exact w rfl
  ·exact o _ j o' a
 obtain⟨p,r⟩:=tr D (h7:=t.ac) (iQ:=m.ac) (by simp) j (E l) H (n _ j) l y;have I:((t.AE 1).A1 t.ac (some (CC.mk cs true))).ac=t.ac+1:=by simp
 rw[I]at p r;exact⟨_,p,(A.trans F).trans r,by simp[CL],by simp[CL]⟩
theorem dA(l:List Int):(l.map (Value.int .i64 ·)).all BJ=true:=by rw[BR];intro v a;obtain⟨x,_,rfl⟩:=CG.1 a;rfl
open Go Go.DI Go.Big Go.EL
def Cv(u:AL)(i:Nat):Int:=((List.range i).map (CD u)).foldr (· + ·) 0
theorem uh: ∀(l:List Int) (x:Int),(l++[x]).foldr (· + ·) 0=l.foldr (· + ·) 0+x
 |[],x=>by simp
 |y::l,x=>by simp only[Js,List.foldr_cons,uh l x];omega
variable{i:Nat}{u:AL}{R:List Int}{a:Ah}
theorem rN:Cv u (i+1)=Cv u i+CD u i:=by unfold Cv;rw[MV,Gs,List.map_singleton,uh]
theorem gD(h:BS u): ∀{i:Nat},i<=u.A3.length->0<=Cv u i/\Cv u i<=8*i
 |0,_=>by simp[Cv]
 | i+1,a=>by have:=gD h (i:=i) (by omega);have:=L3 h (v:=i) (by omega);rw[rN];omega
theorem aCW(h:B4 u):AO V 85 [.agg (A7 u).toArray] (Z (Dr u)):=by
 have p:=h.ok.EF;refine BQ (Ax (aC:=⟨[UB u h.ok],[]⟩) tm.2 ?_);simp[tm,uu,A7];refine Cc (aC:=⟨[UB u h.ok],[]⟩) (λi b t=>t.Y 0=some ⟨A7 u,true⟩/\b 1=AG 0/\b 3=Z (Cv u i)/\b 4=Z i) u.A3.length ?_ ?_ 0 _ _ (C8 _) ⟨by simp[A7],by simp,by simp[Cv],by simp⟩
 ·rintro i b t g ⟨a,c,d,e⟩ q j;have k:=E a;have l:(i:Int)<u.A3.length:=(by omega);have r:=L3 h.ok g;have s:=gD h.ok (i:=i) (by omega);have m:=BZ (n:=i) (by omega);have o:IntKind.i64.wrap (Cv u i+CD u i)=Cv u i+CD u i:=Ac (by omega) (by omega);simp(disch:=first|omega|simp only[DI.AB];omega)[gV,ZE,c,d,e,a,A7,l,m,o,-H,-D,-I,-F,-List.map_map];exact j _ _ ⟨a,by simp[c],by simp[rN],by simp⟩
 ·rintro b t ⟨a,c,d,e⟩;have k:=E a;simp[gV,ZE,ZE,c,d,e,a,A7];rfl
abbrev tJ(u:AL)(h:B4 u):AN V:= .B9 85 Unit (λ_=>True) (λ_=>[.agg (A7 u).toArray]) (λ_=>Z (Dr u)) λ_ _=>aCW h
@[simp] theorem aGt{h:B4 u}:(tJ u h).fn [.agg #[Z u.ext,O (u.Bu.map CS) 4,O (u.Af.map CX) 4,O (u.A5.map Bq) 7,O (u.A4.map Bx) 3,O (u.B7.map BE) 17,O (u.A3.map CW) 2]]=some (Z (Dr u)):=AN.BH (x:=()) trivial λ_ _=>rfl
theorem p9(h:1<=u.A3.length):(D0 u R).A0≠[]:=by
 show Ak u R≠[];intro e;have:(Ak u R).length=0:=by rw[e];rfl
 obtain⟨k,a⟩: ∃k,u.A3.length=k+1:=⟨u.A3.length-1,by omega⟩;unfold Ak at this;rw[a,List.range_succ_eq_map]at this;simp[Gv]at this
theorem ec(h:BS u)(g:a∈Ak u R)(b:AI u 0<=a.t): ∃v d,v<u.A3.length/\d<u.A4.length/\a=D8 u v d:=by
 have k:=h.D6;have m:=I6 h;rcases P2.1 g with⟨v,c,l⟩|⟨d,e,rfl⟩
 ·rcases MB.1 l with rfl|⟨j,n,rfl⟩|⟨d,e,_,rfl⟩
  ·have:=E7 h c (i:=0) k;simp only[Ap,if_true]at this;have f:AI u 0<=2+(v:Int):=b;omega
  ·have:=E7 h c (i:=j+1) (by omega);have f:AI u 0<=Ap u v (j+1):=b;omega
  ·exact⟨v,d,c,e,rfl⟩
 ·have f:AI u 0<=1:=b;omega
theorem WD(h:BS u){v d:Nat}(c:d<u.A4.length):(Ap u v (CI u d)-2-u.A3.length).tdiv ((u.A5.length:Int)-1)=v/\4<=(u.A5.length:Int)-1:=by
 obtain⟨f,k⟩:=Gq h c;have l:4<=CI u d:=by have m:=h.Hn f (by omega);have g:D1 u (CI u d)<u.A5.length:=(by omega);have n:=h.Hn g (by omega);have i:D1 u (D1 u (CI u d))<u.A5.length:=(by omega);have o:=h.Hn i (by omega);have j:D1 u (D1 u (D1 u (CI u d)))<u.A5.length:=(by omega);have p:=h.Hn j (by omega);omega
 obtain⟨a,q⟩: ∃a:Nat,u.A5.length=a+1:=⟨u.A5.length-1,by omega⟩;have b:((u.A5.length:Int)-1)=a:=by omega
 have e:Ap u v (CI u d)-2-u.A3.length=v*(a:Int)+(CI u d-1):=by unfold Ap;rw[if_neg (by omega),b];omega
 rw[e,b];have z:0<=(v:Int)*a:=MH (by omega) (by omega);refine⟨?_,by omega⟩;rw[Int.tdiv_eq_ediv_of_nonneg (by omega),Int.add_comm,Int.add_mul_ediv_right _ _ (by omega),Int.ediv_eq_zero_of_lt (by omega) (by omega)];omega
end Go.Proofs.YtmmkkggfmigppaaGreat
namespace Go.Big
end Go.Big
namespace Go.Proofs.YtmmkkggfmigppaaGreat
open Go Go.DI Go.Big Go.EL
open Go Go.DI Go.Big
def HE(l:List Int):List (Value×Value):=l.map λx=>(Z x,.bool true)
theorem Wq{s:Int}: ∀{l:List Int},Cy (Z s) (HE l)=if s∈l then some (.bool true)else none
 |[]=>rfl
 | x::l=>by
   have a:=Wq (s:=s) (l:=l);simp only[HE]at a;simp only[HE,Dl,Cy,Hz,K6];by_cases h:s=x
   ·simp[h]
   ·simp only[h,decide_false,E3,if_false,a,CZ,false_or]
theorem kr{s:Int}: ∀{l:List Int},s∉l->Dy (Z s) (.bool true) (HE l)=HE (l++[s])
 |[],_=>by simp[HE,Dy]
 | x::l,h=>by simp only[CZ,not_or]at h;have a:=kr (s:=s) (l:=l) h.2;simp only[HE]at a;simp only[HE,Dl,Dy,Hz,K6,h.1,decide_false,E3,if_false,Js,a]
variable{l:List Int}{s:Int}{i:Nat}{w:Bool}
theorem ql:ET (.int .i64) (Z s) (HE l)=true:=by simp only[ET,HE,DX,decide_true,Bool.true_and,List.all_map,BR];intro x _;rfl
theorem tj: ∀{i:Nat} {l:List Int},i<=l.length->Fc 1 i (l.map Z)=(l.take i).map λx=>[Z x]
 |0,l,_=>by simp[Fc]
 |i+1,[],h=>by simp at h
 | i+1,x::l,h=>by have:=tj (i:=i) (l:=l) (by simpa using h);simp only[Dl,Fc,Wn,List.take_zero,List.drop_succ_cons,Gn,this]
theorem Ww{t:X}{o n:Nat}(c:t.Y o=some ⟨l.map Z,w⟩)(h:i<=l.length):DI.B3 (n+2) t (.slice (some ⟨o,0,none⟩) i 1)=some (AK (l.take i)):=by
 have d:C6 (C6 (DI.B3 (n+1) t)) ((l.take i).map λx=>[Z x])=some ((l.take i).map λx=>[Z x]):=eU (by simp) λj x y a b=>by rw[a]at b;cases b;obtain⟨z,_,rfl⟩:=CG.1 (B5 a);rfl
 rw[Yr,c];simp only[Gn,Nat.zero_add,Nat.mul_one,E9,h,if_true];rw[tj h,d]
open Go Go.DI
section
set_option maxRecDepth 100000
def Wv:AU V 57:=AW
def aZ:=G (A8 Wv.1.body 2431)
def ko:=G (A8 Wv.1.body 511)
def fC:=(G λx y=>AA 7 y (AA 37 x (A8 Wv.1.body 127))) aZ ko
def lo:=(G λx=>AA 7 x (A8 Wv.1.body 31)) fC
def y2:=(G λx=>AA 31 x Wv.1.body) lo
def qt:=AV V 57 ⟨68,[.DE 6 true 3,.AH 7],y2⟩
def fY:AU V 98:=AW
def a62:=G (A8 fY.1.body 31)
def a0I:=(G λx=>AA 3 x (A8 fY.1.body 15)) a62
def zT:=(G λx=>AA 15 x fY.1.body) a0I
def pc:=AV V 98 ⟨67,[.AH 8],zT⟩
def WE:AU V 99:=AW
def a9:=G (A8 WE.1.body 80279)
def a8:=(G λx=>AA 9 x (A8 WE.1.body 14743)) a9
def X7:=(G λx=>AA 115 x (A8 WE.1.body 151)) a8
def g1:=(G λx=>AA 18 x (A8 WE.1.body 15)) X7
def jg:=(G λx=>AA 15 x WE.1.body) g1
def Vm:=AV V 99 ⟨57,[.AH 4],jg⟩
def hP:AU V 104:=AW
def SN:=G (A8 hP.1.body 151)
def q6:=G (A8 hP.1.body 31)
def uQ:=(G λx y=>AA 31 y (AA 151 x hP.1.body)) SN q6
def tl:=AV V 104 ⟨66,[.DE 6 true 4,.AH 7],uQ⟩
def Sl:AU V 106:=AW
def SQ:=G (A8 Sl.1.body 151)
def Q1:=G (A8 Sl.1.body 16991)
def Ya:=(G λx=>AA 33 x (A8 Sl.1.body 607)) Q1
def qx:=G (A8 Sl.1.body 127)
def pt:=(G λx y=>AA 7 y (AA 37 x (A8 Sl.1.body 31))) Ya qx
def nR:=(G λx y=>AA 31 y (AA 151 x Sl.1.body)) SQ pt
def na:=AV V 106 ⟨86,[.AH 4],nR⟩
def Sh:AU V 148:=AW
def Rr:=G (A8 Sh.1.body 2431)
def Yf:=G (A8 Sh.1.body 9727)
def ig:=G (A8 Sh.1.body 2047)
def dy:=(G λx y=>AA 7 y (AA 37 x (A8 Sh.1.body 511))) Yf ig
def kS:=(G λx y=>AA 31 y (AA 151 x (A8 Sh.1.body 31))) Rr dy
def sS:=(G λx=>AA 31 x Sh.1.body) kS
def Zr:=AV V 148 ⟨120,[.DE 6 true 3,.AH 7],sS⟩
def h9:AU V 152:=AW
def Rm:=G (A8 h9.1.body 303)
def nk:=G (A8 h9.1.body 63)
def wR:=(G λx y=>AA 63 y (AA 303 x h9.1.body)) Rm nk
def Zc:=AV V 152 ⟨66,[.DE 6 true 4,.AH 7],wR⟩
def Vi:AU V 154:=AW
def a4I:=G (A8 Vi.1.body 10474287)
def a3p:=(G λx=>AA 40915 x (A8 Vi.1.body 303)) a4I
def a8o:=G (A8 Vi.1.body 63)
def aA1:=(G λx y=>AA 3 y (AA 18 x (A8 Vi.1.body 31))) a3p a8o
def a2K:=(G λx=>AA 31 x Vi.1.body) aA1
def pW:=AV V 154 ⟨112,[.AH 6],a2K⟩
def kK:AU V 157:=AW
def gy:=G (A8 kK.1.body 75)
def ZT:=G (A8 kK.1.body 15)
def pI:=(G λx y=>AA 15 y (AA 75 x kK.1.body)) gy ZT
def Z8:=AV V 157 ⟨18,[.AH 2],pI⟩
def eC:AU V 162:=AW
def b2:=G (A8 eC.1.body 75)
def U6:=G (A8 eC.1.body 15)
def vn:=(G λx y=>AA 15 y (AA 75 x eC.1.body)) b2 U6
def uJ:=AV V 162 ⟨36,[.AH 4],vn⟩
def kc:AU V 163:=AW
def ab:=G (A8 kc.1.body 37)
def VI:=G (A8 kc.1.body 7)
def r0:=(G λx y=>AA 7 y (AA 37 x kc.1.body)) ab VI
def vs:=AV V 163 ⟨18,[.AH 4],r0⟩
def a3t:AU V 202:=AW
def sQ:=G a3t.1.body
def a1:=AV V 202 ⟨14,[.AH 4],sQ⟩
def a4M:AU V 203:=AW
def fi:=G a4M.1.body
def Ut:=AV V 203 ⟨21,[.AH 4],fi⟩
def TD:AU V 204:=AW
def TV:=G (A8 TD.1.body 151)
def UC:=G (A8 TD.1.body 78639)
def fx:=(G λx=>AA 307 x (A8 TD.1.body 303)) UC
def PR:=G (A8 TD.1.body 63)
def QN:=(G λx y=>AA 3 y (AA 18 x (A8 TD.1.body 31))) fx PR
def pe:=(G λx y=>AA 31 y (AA 151 x TD.1.body)) TV QN
def ZU:=AV V 204 ⟨77,[.AH 4],pe⟩
def l6:AU V 206:=AW
def bZ:=G (A8 l6.1.body 37)
def VE:=G (A8 l6.1.body 7)
def wX:=(G λx y=>AA 7 y (AA 37 x l6.1.body)) bZ VE
def ZQ:=AV V 206 ⟨17,[.AH 4],wX⟩
def iF:AU V 208:=AW
def a1S:=G (A8 iF.1.body 35)
def a3G:=G (A8 iF.1.body 15)
def zv:=(G λx y=>AA 15 y (AA 35 x iF.1.body)) a1S a3G
def np:=AV V 208 ⟨26,[.AH 6],zv⟩
def a1j:AU V 209:=AW
def a1b:=G a1j.1.body
def uk:=AV V 209 ⟨15,[.AH 4],a1b⟩
end
def SG(x:Am):Bool:=decide (x∈VG)
variable{x:Am}{u:AL}{T:ByteArray}{J:Type}
theorem b4(h:SG x=true):x.BA:=by unfold SG at h;rw[BW]at h;exact h
def dw(x:F9):Bool:=match x.e with
 |[⟨false,[1],[z]⟩]=>decide (2<=z)&&decide (z<200)&&decide (x.s=[⟨false,[1],[1]⟩])&&decide (x.pf=[[⟨false,[],[1]⟩]])
 |_=>false
theorem a6v{x:F9}(h:dw x=true):x.BA:=by
 obtain⟨BV,s,b,e⟩:=x;unfold dw at h;split at h
 ·rename_i z a;simp only[AF,BW]at h;exact⟨z,h.1.1.1,h.1.1.2,h.1.2,h.2,a⟩
 ·cases h
def lP(x:Dg):Bool:=x.Mx.all SG&&decide (x.Mx.length<=20)&&SG x.KR&&SG x.KV&&decide (x.Af.length<=20)
theorem a2B{x:Dg}(h:lP x=true):Dg.Cu x:=by simp only[lP,AF,BR,BW]at h;obtain⟨⟨⟨⟨a,e⟩,b⟩,c⟩,f⟩:=h;exact⟨⟨λr d=>b4 (a r d),by omega⟩,b4 b,b4 c,by omega⟩
def Rl(u:AL):Bool:=u.Bu.all dw&&(u.A5.all λd=>SG d.Hm)&&u.B7.all lP&&decide (u.Bu.length<=100)&&decide (u.Af.length<=100)&&decide (u.A5.length<=100)&&decide (u.A4.length<=100)&&decide (u.B7.length<=100)&&decide (u.A3.length<=100)
theorem qA(h:Rl u=true):AL.Cu u:=by simp only[Rl,AF,BR,BW]at h;obtain⟨⟨⟨⟨⟨⟨⟨⟨b,c⟩,d⟩,e⟩,f⟩,g⟩,i⟩,j⟩,k⟩:=h;exact⟨λx a=>a6v (b x a),λx a=>b4 (c x a),λx a=>a2B (d x a),by omega,by omega,by omega,by omega,by omega,by omega⟩
def hk(T:ByteArray):Bool:=decide (0<T.size/\T.size<=16/\IH (L9 T 0)=true/\KL Gg T T.size 0=T.size)
theorem aAu(h:hk T=true):Ie T=true:=Pr (by unfold hk at h;unfold BV;exact of_decide_eq_true h)
def Qw(l:List ByteArray):Bool:=l.all hk&&decide l.Nodup
theorem Tr{l:List ByteArray}(h:Qw l=true):EW l=true:=by unfold Qw at h;unfold EW;simp only[AF,BR]at h⊢;exact⟨λx a=>aAu (h.1 x a),h.2⟩
def TT(u:AL):Bool:=C1 u.ext 1 4&&(decide (u.Bu.length<=4)&&(decide (u.Af.length<=4)&&(decide (u.A5.length<=40)&&(decide (u.A4.length<=24)&&(decide (u.B7.length<=4)&&(decide (u.A3.length<=12)&&(Kw u.A5&&(u.Bu.all F9.Mo&&(u.Af.all (PM u.Bu.length)&&(u.A4.all (PD u.Af.length u.A5)&&(u.B7.all (K3 · u.Af.length)&&(u.A3.all (RR u.B7.length)&&(Qw (u.Bu.map (·.name))&&(Qw (u.Af.map (·.name))&&(Qw (u.A5.tail.map (·.name)++u.A4.map (·.name))&&(Qw (u.B7.map (·.name))&&Qw (u.A3.map (·.name))))))))))))))))))
theorem vE(h:TT u=true):Hl u=true:=by unfold TT at h;unfold Hl;simp only[AF]at h⊢;obtain⟨a,b,a3,a4,c,d,e,f,g,i,j,k,l,m,n,o,p,q⟩:=h;exact⟨a,b,a3,a4,c,d,e,f,g,i,j,k,l,Tr m,Tr n,Tr o,Tr p,Tr q⟩
theorem a5t(h:Rl u=true)(a:TT u=true):AO V 62 [.agg (A7 u).toArray] (.int .i64 0):=by exact uY (qA h) (vE a)
theorem vl(h:Rl u=true)(a:TT u=true):AO V 87 [.agg (A7 u).toArray] (.bool true):=by exact vY (qA h) (vE a)
theorem TK{n d:Int}(h:G8 n d)(a:CB n d=x):AO V 59 [Z n,Z d] (BK x):=by rw[<-a];exact qB h
section
set_option maxRecDepth 100000
end
def Gz(u:AL):List Ah->List Int->List (List Int)->List (List Int)
 |a::l,b::N,L=>Gz u l N (if AI u 0<=a.t/\b≠0 then L.set ((a.f-2-u.A3.length).tdiv ((u.A5.length:Int)-1)).toNat (L.getD ((a.f-2-u.A3.length).tdiv ((u.A5.length:Int)-1)).toNat []++[a.t-AI u 0])else L)
 |_,_,L=>L
theorem aBi(h:BS u){v w d:Nat}(c:d<u.A4.length)(e:Ap u w (CI u d)=Ap u v (CI u d)):w=v:=by have a:=(WD h (v:=v) c).1;have b:=(WD h (v:=w) c).1;rw[e]at b;omega
theorem x1{l:List J}{x:J}(h:l[i]?=some x):l.drop i=x::l.drop (i+1):=by have a:=(Ae.1 h).1;rw[Ht a,(Ae.1 h).2]
theorem a2o{h:BS u}:(MI u h).fn [.agg #[Z u.ext,O (u.Bu.map CS) 4,O (u.Af.map CX) 4,O (u.A5.map Bq) 7,O (u.A4.map Bx) 3,O (u.B7.map BE) 17,O (u.A3.map CW) 2],Z 0]=some (Z (AI u 0)):=ei (d:=0) (by omega)
end Go.Proofs.YtmmkkggfmigppaaGreat
end
