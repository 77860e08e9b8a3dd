/- A part of the proof. -/
import Derived.Shelf.Spec.SlicesInsertGrow
import Derived.Test.YtmmkkggfmigppaaGreatZczag
set_option linter.all false
set_option maxRecDepth 8000
set_option maxHeartbeats 16000000
namespace Go.Proofs.YtmmkkggfmigppaaGreat
open Go Go.DI Go.Big
variable{a b:List (List Int)}
theorem a8k(AO:a.length<=50)(T: ∀r∈a,r.length<=140737488355328)(A7: ∀r∈b,r.length<=140737488355328):AL U 99 [M (a.map BE) 1,M (b.map BE) 1] (Y (DY a b)):=by
 refine BG (Ak (an:=⟨[],[]⟩) sC (by kernel_rfl) (by simp[W0]) ?_);by_cases l:a.length=b.length
 case neg=>have w:DY a b= -1:=(by unfold DY;rw[gi l];rfl);have A8: ¬(a.length:Int)=b.length:=(by omega);simp(disch:=first|omega|simp only[AD];omega)[W0,fb,kn,A8,w,-H,-E,-I,-G,-List.map_map]
 simp(disch:=first|omega|simp only[AD];omega)[W0,fb,l,-H,-E,-I,-G,-List.map_map];have hb:b.length<=50:=by omega
 simp(disch:=first|omega|simp only[AD];omega)[kn,-H,-E,-I,-G,-List.map_map];refine CE (an:=⟨[],[]⟩) (λi f t=> ∃c:Nat,c=EY (a.take i) (b.take i)/\(∀(j:Nat) r s,j<i->a[j]?=some r->b[j]?=some s->r.length=s.length)/\f 0=M (a.map BE) 1/\f 1=M (b.map BE) 1/\f 5=Y c/\f 15=Y i/\f 14=Y a.length) a.length ?_ ?_ 0 _ _ (C0 _) ⟨0,by simp[EY],λj x y h=>by omega,by simp[l],by simp[l],by simp[l],by simp[l],by simp[l]⟩
 ·rintro i f t A9 ⟨c,O,P,g,k,q,m,o⟩ AB F;obtain⟨r,u⟩:=CF A9;obtain⟨s,z⟩: ∃s,b[i]?=some s:=⟨_,AS (by omega)⟩;have A:=(AX.1 u).2;have J:b[i]'(by omega)=s:=(AX.1 z).2;have K:(i:Int)<b.length:=(by omega);have B:(i:Int)<a.length:=(by omega);have AP:i<b.length:=(by omega);have AE:=BX (n:=i) (by omega);have AQ:=T r (B9 u);have AR:=A7 s (B9 z);have AT:c<=50*140737488355328:=by
   have C:=bI (a:=a.take i) (b:=b.take i) (Z:=140737488355328) λx u=>T x (K2 u);have Q:(a.take i).length<=50:=(by rw[GC];omega);have AV:=IF 140737488355328 Q;omega
  by_cases p:r.length=s.length
  case neg=>have w:DY a b= -1:=(by unfold DY;rw[mX u z p];rfl);have AF: ¬(r.length:Int)=s.length:=(by omega);simp(disch:=first|omega|simp only[AD];omega)[YA,eI,BE,g,k,m,o,K,B,A,J,AF,w,-H,-E,-I,-G,-List.map_map]
  simp(disch:=first|omega|simp only[AD];omega)[YA,BE,g,k,m,o,K,B,A,J,p,-H,-E,-I,-G,-List.map_map];simp(disch:=first|omega|simp only[AD];omega)[eI,BE,g,B,A,p,-H,-E,-I,-G,-List.map_map];refine CE (an:=⟨[],[]⟩) (λj f t=> ∃d:Nat,d=c+Ea (r.take j) (s.take j)/\f 0=M (a.map BE) 1/\f 1=M (b.map BE) 1/\f 5=Y d/\f 6=Y i/\f 34=Y j/\f 33=Y r.length/\f 15=Y i/\f 14=Y a.length) r.length ?_ ?_ 0 _ _ (C0 _) ⟨c,by simp[Ea],by simp[g],by simp[k],by simp[q],by simp[],by simp[],by simp[p],by simp[m],by simp[o]⟩
  ·rintro j f t AG ⟨d,W,g,k,q,D,L,v,m,o⟩ AB F;obtain⟨x,X⟩:=CF AG;obtain⟨y,A0⟩: ∃y,s[j]?=some y:=⟨_,AS (by omega)⟩;have A1:=(AX.1 X).2;have A2:s[j]'(by omega)=y:=(AX.1 A0).2;have A3:(j:Int)<s.length:=(by omega);have AW:(j:Int)<r.length:=(by omega);have AY:j<s.length:=(by omega);have AZ:d<=51*140737488355328:=by
    have C:=Zn (a:=r.take j) (b:=s.take j);rw[GC]at C;omega
   have v0:=BX (n:=j) (by omega);have AH:=BX (n:=d) (by omega);have A4:=kg X A0;by_cases N:x=y
   ·rw[if_pos N]at A4;simp(disch:=first|omega|simp only[AD];omega)[dI,BE,g,k,D,L,v,K,B,A,J,p,A3,A1,A2,v0,N,-H,-E,-I,-G,-List.map_map];exact F _ _ ⟨d,by omega,by simp[g],by simp[k],by simp[q],by simp[D],by simp[],by simp[v],by simp[m],by simp[o]⟩
   ·rw[if_neg N]at A4;simp(disch:=first|omega|simp only[AD];omega)[dI,BE,g,k,q,D,L,v,K,B,A,J,p,A3,A1,A2,v0,AH,N,-H,-E,-I,-G,-List.map_map];exact F _ _ ⟨d+1,by omega,by simp[g],by simp[k],by simp[],by simp[D],by simp[],by simp[v],by simp[m],by simp[o]⟩
  ·rintro f t ⟨d,W,g,k,q,D,L,v,m,o⟩;have A5: ¬(((r.length:Nat):Int)<r.length):=(by omega);have AJ: ¬(((s.length:Nat):Int)<s.length):=(by omega);have AK:d=EY (a.take (i+1)) (b.take (i+1)):=by
    rw[aH u z,W,O,EP,p,EP]
   simp(disch:=omega)[dI,L,v,m,p,AJ,AE];refine F _ _ ⟨d,AK,?_,by simp[g],by simp[k],by simp[q],by simp[],by simp[o]⟩;intro A6 AM AN Aa R S;by_cases e:A6=i
   ·subst e;rw[u]at R;rw[z]at S;cases R;cases S;exact p
   ·exact P A6 AM AN (by omega) R S
 ·rintro f t ⟨c,O,P,g,k,q,m,o⟩;have A5: ¬(((b.length:Nat):Int)<b.length):=(by omega);have w:DY a b=c:=by
   unfold DY;rw[if_pos (Qq l λi x y C Q=>P i x y (AX.1 C).1 C Q),O,EP,l,EP]
  simp(disch:=omega)[YA,eI,q,m,o,A5,l,w]
theorem a47(d:Bk a)(hb:Bk b)(e:a.length<=50):AL U 99 [Ag a,Ag b] (Y (DY a b)):=a8k e (λr c=>by have:=d.2 r c;omega) (λr c=>by have:=hb.2 r c;omega)
noncomputable def mD:AK U:= .B8 99 (List (List Int)×List (List Int)) (λx=>(Bk x.1/\Bk x.2)/\x.1.length<=50) (λx=>[Ag x.1,Ag x.2]) (λx=>Y (DY x.1 x.2)) λx h=>a47 h.1.1 h.1.2 h.2
@[simp] theorem aNz:mD.f=99:=rfl
@[simp] theorem aPZ(h:(Bk a/\Bk b)/\a.length<=50):mD.fn [M (a.map BE) 1,M (b.map BE) 1]=some (Y (DY a b)):=AK.BD (x:=(a,b)) h λ⟨d,e⟩ c=>by simpa using c
end Go.Proofs.YtmmkkggfmigppaaGreat
namespace Go.DI
open Go Go.RowKit
variable {P:Program} {r:Go.Shelf.Ren} {aJ:Nat} {C:Ren} {m:V} {w:World}
end Go.DI
namespace Go.Proofs.YtmmkkggfmigppaaGreat
open Go Go.DI Go.Big
def ad(cs:List Value):Prop:= ∀c∈cs,∃n:Int,c=Y n
variable{l:List Int}{n:Nat}{t:V}
theorem ad.map:ad (l.map Y):= λc a=>by
 grind
theorem nw: ∀{cs:List Value},ad cs->cs.flatMap (As n t)=[]
 |[],_=>rfl
 | c::cs,h=>by obtain⟨x,rfl⟩:=h c (by simp);rw[List.flatMap_cons,vx,nw λc a=>h c (by simp[a])];rfl
open Go Go.DI Go.Big Go.Ex
variable{L S Fin:List (List Int)}{u:AY}{k i v d:Nat}{w b:Bool}{Q:BM->A6->V->Prop}{A:A6}{ps:List Nat}{R fE:List Int}{a:Ae}{p:Nat->Bool}{x eR:Int}{B:Type}
theorem aAg(b:L.length=u.A7.length)(c: ∀(v:Nat) s,L[v]?=some s->(s.length:Int)=CS u v):(Hk L:Int)=HE u:=by
 have key: ∀n,n<=L.length->(Hk (L.take n):Int)=Bu (CS u) n:=by
  intro n;induction n with
  |zero=>intro _;simp[Hk,Bu]
  | succ n d=>intro e;have a:L[n]?=some L[n]:=AS (by omega);rw[p3 a,ME,d (by omega),Bu,c n _ a]
 have:=key L.length (Ao _);rw[EP]at this;rw[this,Rr,b]
theorem aB1{a:V}{p:Nat}(h:a.W p=some ⟨l.map Y,true⟩):As 9 a (AQ p k 1)=[p]:=by rw[Na,h];simp only[nw ad.map]
theorem pk{o:Nat}(h:t.W o=some ⟨L.map AH,w⟩)(c:n=L.length):DI.Az (k+1) t (AQ o n 1)=some (Ag L):=by
 subst c;have e:(L.map BE).flatten=L.map AH:=by
  clear h;induction L with
  |nil=>rfl
  |cons x l d=>simp only[E1,HM,d];rfl
 have:=JG (n:=k) (t:=t) (o:=o) (l:=L.length) (z:=1) (w:=w) (b5:=L.map BE) (by rw[e];exact h) (by simp) λr f=>by obtain⟨b,_,rfl⟩:=CP.1 f;exact⟨rfl,λv a=>by simp[BE]at a;subst a;rfl⟩
 exact this
theorem a5p(At:S.length=L.length)(AJ: ∀s∈S,s.length<=1000)(A5:Bk L){bl qi fE ag yH:Nat}{t0:V}
 (g:Dt t0 bl ps S) (m:t0.W qi=some ⟨[AQ yH 0 1,Y 0,AQ fE ag 1],true⟩) (u:t0.W yH=some ⟨[],true⟩) (h:qi≠bl/\qi∉ps/\yH≠qi/\yH≠bl/\yH∉ps)
 (z:A 14=AQ bl L.length 1) (v:A 18=AA qi) (B:A 95=Ag L) (x:A 96=Y L.length) (C:A 97=Y 0)
 (AK: ∀K D d,D.W qi=some ⟨[AQ d L.length 1,Y 0,AQ fE ag 1],true⟩->D.W d=some ⟨(G8 S L).map AH,true⟩->d≠qi->d=yH\/t0.next<=d->t0.next<=D.next->(∀b,b<t0.next->b≠qi->b≠yH->b∉ps->D.W b=t0.W b)->K 1=A 1->K 6=A 6->K 18=AA qi->Q (.Ai 2) K D):BY U (.loop bO) A t0 Q:=by
 have Au:=F g.Da;have Av:=A5.1;have AL:(G8 S L).length=L.length:=by rw[G8,List.length_zipWith];omega
 refine CE (an:=⟨[iH],[]⟩) (λi f t=>(∃d,t.W qi=some ⟨[AQ d i 1,Y 0,AQ fE ag 1],true⟩/\t.W d=some ⟨((G8 S L).take i).map AH,true⟩/\d≠qi/\(d=yH\/t0.next<=d))/\(t.W bl=some ⟨Cv ps S,true⟩/\ ∀j p s,i<=j->ps[j]?=some p->S[j]?=some s->t.W p=some ⟨s.map Y,true⟩)/\t0.next<=t.next/\(∀b,b<t0.next->b≠qi->b≠yH->b∉ps->t.W b=t0.W b)/\f 1=A 1/\f 6=A 6/\f 14=AQ bl L.length 1/\f 18=AA qi/\f 95=Ag L/\f 96=Y L.length/\f 97=Y i) L.length ?_ ?_ 0 A t0 (C0 _) ⟨⟨yH,m,by simpa using u,h.2.2.1,.inl rfl⟩,⟨g.Da,λj p s _ AM AN=>g.D8 j p s AM AN⟩,Ao _,λb _ _ _ _=>rfl,rfl,rfl,z,v,B,x,C⟩
 ·rintro i f t AO ⟨⟨d,m,u,P,y⟩,⟨R,A6⟩,A7,T,X,Z,z,v,B,x,C⟩ Ax AP;obtain⟨r,A0⟩:=CF AO;have AR:=(AX.1 A0).2;obtain⟨s,N⟩: ∃s,S[i]?=some s:=⟨_,AS (by omega)⟩;have Ay:r.length<=1000:=A5.2 r (B9 A0);have B0:s.length<=1000:=AJ s (B9 N);obtain⟨p,A8,J,_,AT,AV⟩:=g.Hc N;have O:=A6 i p s (Ao _) A8 N;have AW:(G8 S L)[i]?=some (HF s r):=(by rw[G8,List.getElem?_zipWith,N,A0]);have AY:(G8 S L).take (i+1)=(G8 S L).take i++[HF s r]:=(by rw[K4,AW];rfl);have B1:=F R;have A9:=F O;have B2:=F m;have B3:=F u;have AZ:(i:Int)<L.length:=(by omega);have Aa:=BX (n:=i) (by omega);have Ab: ¬d=bl:= λe=>y.elim (λq=>h.2.2.2.1 (by omega)) λq=>by omega
  have Ac:DI.Az 9 (t.AE 12) (AQ p s.length 1)=some (AH s):=by
   have:=rR (n:=7) (i:=s.length) (t:=t.AE 12) (o:=p) (l:=s) (w:=true) (by rw[AU A9];exact O) (Ao _)
   rwa [EP]at this
  have Ad:As 9 (t.AE 12) (AQ p s.length 1)=[p]:=aB1 (by rw[AU A9];exact O);have Ae: ¬p=d:= λe=>y.elim (λq=>h.2.2.2.2 (by rw[<-q,<-e];exact J)) λq=>by have:=g.I7 J;omega
  have Af: ¬p=qi:= λe=>h.2.1 (e▸J);have Ah: ¬p=bl:= λe=>g.Gq (e▸J);have B4: ¬d=p:= λe=>Ae e.symm;have B5: ¬qi=p:= λe=>Af e.symm;have B6: ¬bl=p:= λe=>Ah e.symm;have B7: ¬qi=d:= λe=>P e.symm;have B8:(((G8 S L).take i).map AH).length=i:=(by rw[Eb,GC];omega);have BA:List.take i (((G8 S L).take i).map AH)=((G8 S L).take i).map AH:=DV (by omega);have Ak:((i:Int)+1)*24<=140737488355328/\(i+1)*24<=140737488355328/\i<=9223372036854775806:=(by omega);simp(disch:=first|omega|simp only[DI.A2];omega)[bO,z,v,B,x,C,AZ,AR,BE,m,u,R,O,AT,AV,Ak,Aa,Ac,Ad,-H,-E,-I,-G,-List.map_map];have Al:List.take i (List.take i ((G8 S L).map AH))++[M ((HF s r).map λs=>[Y s]) 1]=((G8 S L).take (i+1)).map AH:=by rw[AY,Ld,List.take_take,Nat.min_self,List.map_take];rfl
  refine AP _ _ ⟨⟨t.next+9,?_,?_,by omega,.inr (by omega)⟩,⟨?_,λj k Am BB A1 An=> ?_⟩,by simp;omega,λb hb Ap AB AD=> ?_,by simp[X],by simp[Z],by simp[z],by simp[v],by simp[B],by simp[x],by simp⟩
  ·simp(disch:=first|omega|simp only[DI.A2];omega)[-H,-E,-I,-G,-List.map_map]
  ·rw[<-Al];have A3: ¬t.next+9=qi:=by omega
   simp(disch:=first|omega|simp only[DI.A2];omega)[-H,-E,-I,-G,-List.map_map]
  ·have A3: ¬bl=t.next+9:=by omega
   have AF: ¬bl=t.next+8:=by omega
   have Aq: ¬bl=qi:= λe=>h.1 e.symm;have AG: ¬bl=d:= λe=>Ab e.symm;simp(disch:=first|omega|simp only[DI.A2];omega)[R,-H,-E,-I,-G,-List.map_map]
  ·have A4:=B9 A1;have BC:=g.I7 A4;have Ar: ¬k=p:= λe=>by
    subst e;have a:=AX.1 A8;have c:=AX.1 A1;have BD:=NA.1 g.DD
    grind
   have A3: ¬k=t.next+9:=by omega
   have AF: ¬k=t.next+8:=by omega
   have Aq: ¬k=qi:= λe=>h.2.1 (e▸A4);have AG: ¬k=d:= λe=>y.elim (λq=>h.2.2.2.2 (by rw[<-q,<-e];exact A4)) λq=>by omega
   refine Eq.trans ?_ (A6 j k Am (by omega) A1 An);have BF:k<t.next:=by omega
   simp(disch:=first|omega|simp only[DI.A2];omega)[-H,-E,-I,-G,-List.map_map]
  ·have Ar: ¬b=p:= λe=>AD (e▸J);have A3: ¬b=t.next+9:=by omega
   have AF: ¬b=t.next+8:=by omega
   have AG: ¬b=d:= λe=>y.elim (λq=>AB (by rw[e,q])) λq=>by omega
   have BG:b<t.next:=by omega
   refine Eq.trans ?_ (T b hb Ap AB AD);simp(disch:=first|omega|simp only[DI.A2];omega)[-H,-E,-I,-G,-List.map_map]
 ·rintro f t ⟨⟨d,m,u,P,y⟩,_,A7,T,X,Z,z,v,B,x,C⟩;simp(disch:=first|omega|simp only[DI.A2];omega)[bO,x,C,-H,-E,-I,-G,-List.map_map];refine AK _ _ d m ?_ P y A7 T (by simp[X]) (by simp[Z]) (by simp[v]);rw[u,<-AL,EP]
def Ji(u:AY)(R:List Int)(L:List (List Int))(a:List Int):List (List Int):=G8 (Ei u (Bn u R L) a (Bn u R L).length) L
def a6e(u:AY)(R:List Int)(L:List (List Int))(v:Value):Prop:=
 (¬Pk u R/\v= .tuple #[.agg #[.slice none 0 0,Y 0,.slice none 0 0],Y 12])\/
 ∃a p,PJ (E6 u R L) (HE u) a p/\v= .tuple #[.agg #[Ag (Ji u R L a),Y (DY L (Ji u R L a)),AH (Mv (E6 u R L).Am.toNat p)],Y 0]
theorem wP(h:Av u)(B1:1<=u.A7.length)(AK:Bk L)(C:EN u L=true):Mu U 148 [.agg (A4 u).toArray,Ag L,AH R] (a6e u R L):=by
 have B3:L.length=u.A7.length:=by
  by_cases q:L.length=u.A7.length
  ·exact q
  ·rw[Rs q]at C;cases C
 have BY:=h.ok.F4;have BZ:=h.ok.Di;have B4:=a1S h.ok R L λa B5=>a7T h.ok B5;refine Wz (Ak (an:=⟨[jZ,mD],[km u h R L AK C B3]⟩) rQ (by kernel_rfl) (by simp[ZT]) ?_);simp(disch:=first|omega|simp only[DI.A2];omega)[ZT,qW,A4,-H,-E,-I,-G,-List.map_map];obtain⟨d,y⟩: ∃d,d=(((((((D0.AE 3).A0 0 (some ⟨A4 u,true⟩)).A0 1 (some ⟨[.slice none 0 0,Y 0,.slice none 0 0],true⟩)).AE 10).AE 1).A0 13 (some ⟨Ck (Bn u R L),true⟩)).A0 10 (some ⟨[Y (E6 u R L).Am,Y 0,Y 1,AQ 13 (Bn u R L).length 4],true⟩)):=⟨_,rfl⟩;have Q:d.W 0=some ⟨A4 u,true⟩:=by rw[y];simp(disch:=first|omega|simp only[DI.A2];omega)[A4,-H,-E,-I,-G,-List.map_map]
 have x:d.W 1=some ⟨[.slice none 0 0,Y 0,.slice none 0 0],true⟩:=by rw[y];simp(disch:=first|omega|simp only[DI.A2];omega)[-H,-E,-I,-G,-List.map_map]
 have J:d.W 13=some ⟨Ck (Bn u R L),true⟩:=by rw[y];simp(disch:=first|omega|simp only[DI.A2];omega)[-H,-E,-I,-G,-List.map_map]
 have T:d.W 10=some ⟨[Y (E6 u R L).Am,Y 0,Y 1,AQ 13 (Bn u R L).length 4],true⟩:=by rw[y];simp(disch:=first|omega|simp only[DI.A2];omega)[-H,-E,-I,-G,-List.map_map]
 have A8:d.next=14:=by rw[y];simp
 simp only[A4]at y;rw[<-y];clear y;obtain⟨X,B6⟩:=qm C;have Af:=aAg X B6;have Bb:0<=HE u:=by rw[<-Af];omega
 have Bc:(Bn u R L).length=(B2 u R).length:=by simp[Bn]
 have Bd:=dh h.ok (R:=R);have B7:(E6 u R L).AF≠[]:= λe=>by have K:(Bn u R L).length=0:=(by show(E6 u R L).AF.length=0;rw[e];rfl);have:=aE6 B1 (R:=R);exact this (MM (by show(B2 u R).length=0;omega))
 refine(a7B (n:=E6 u R L) (k3:=Hk L) (λv m AL=>a2o B4 AL (by show(Bn u R L).length<_;omega) (by omega)) B7 J).AG λr A ⟨g,B8,AM,AN⟩=> ?_;rcases AN with⟨B9,rfl,rfl⟩|⟨B9,c,p,Z,rfl,M⟩
 ·have BA: ¬Pk u R:= λ⟨Bf,Ah,Bg⟩=>by
   have BB:=MW (L:=L).1.2 Ah;have:=Kr (jS h.ok R L) BB (s:=QH B8) AM.Aj AM.BJ;rw[<-AM.val,MW.2 Ah]at this;omega
  have Al:=F x;simp(disch:=first|omega|simp only[DI.A2];omega)[fY,lW,jq,x,-H,-E,-I,-G,-List.map_map];exact .inl ⟨BA,rfl⟩
 ·rw[Af]at Z;obtain⟨ps,AO⟩: ∃ps,ps=Mv (E6 u R L).Am.toNat p:=⟨_,rfl⟩;have An:ps.length=(E6 u R L).Am.toNat:=(by rw[AO,zx]);rw[<-AO]at M;have A1: ∀b,b<14->A.W b=d.W b:= λb hb=>by rw[M,VX,A3 (by omega),AU (by simp;omega),A3 (by omega),AU (by omega)]
  have AP:A.W 14=some ⟨c.map Y,true⟩:=(by rw[M,VX,A8,A3 (by omega),AU (by simp;omega),AT (by simp;omega)]);have B:A.W 15=some ⟨ps.map Y,true⟩:=(by rw[M,VX,A8,AT (by simp;omega)]);have AR:A.next=16:=by rw[M,VX];simp[A8]
  have Q:=(A1 0 (by omega)).trans Q;have x:=(A1 1 (by omega)).trans x;have J:=(A1 13 (by omega)).trans J;have T:=(A1 10 (by omega)).trans T;clear A1 M;have BD:c.length=(Bn u R L).length:=Z.Wp.ES.1;have Bh:0<A.next:=by omega
  have Al:1<A.next:=by omega
  have Bi:10<A.next:=by omega
  have Bj:13<A.next:=by omega
  have Bl:14<A.next:=by omega
  have Bm:15<A.next:=by omega
  have BE:(u.A7.length:Int)*24<=140737488355328/\(u.A7.length:Int)<=9223372036854775807:=(by omega);rw[A8];simp(disch:=first|omega|simp only[DI.A2];omega)[fY,Q,T,AR,A4,BE,X,-H,-E,-I,-G,-List.map_map];refine aCZ (o:=27) (n:=u.A7.length) ?_ λAV Bo BF BG AW N=> ?_
  ·rw[AT (by simp[AR])]
  simp only[Ar,BC,AR]at BG AW N;have O: ∀b,b<16->AV.W b=A.W b:= λb hb=>by rw[AW b (by omega) (by omega),A3 (by omega),AU (by simp;omega),A3 (by omega),AU (by omega)]
  have BH:AV.W 23=some ⟨[Y u.A7.length,Y u.A5.length],true⟩:=(by rw[AW 23 (by omega) (by omega)];simp(disch:=first|omega|simp only[DI.A2];omega)[-H,-E,-I,-G,-List.map_map]);have Q:=(O 0 (by omega)).trans Q;have x:=(O 1 (by omega)).trans x;have J:=(O 13 (by omega)).trans J;have T:=(O 10 (by omega)).trans T;have AP:=(O 14 (by omega)).trans AP;have B:=(O 15 (by omega)).trans B;refine zr h (R:=R) (L:=L) (ab:=c) BD (g1:=23) (bl:=27) (rb:=13) (By:=14) BF ⟨by omega,by omega,by omega⟩ ⟨λf=>by have:=N _ f;omega,λf=>by have:=N _ f;omega,λf=>by have:=N _ f;omega⟩ BH J AP (by simp) (by simp) (by simp) (by simp) (by simp) (by simp) λA9 t3 AX AB Bs BK BL AD AY AZ Aa=> ?_;have Ao: ∀b,b<16->t3.W b=AV.W b:= λb hb=>BK b (by omega) (by omega) λf=>by have:=N _ f;omega
  have x:=(Ao 1 (by omega)).trans x;have B:=(Ao 15 (by omega)).trans B;have AD:A9 1=Ag L:=(by rw[AD];simp);have AY:A9 6=AA 1:=(by rw[AY];simp);have AZ:A9 12=AQ 15 (E6 u R L).Am.toNat 1:=(by rw[AZ];simp);have Aa:A9 14=AQ 27 u.A7.length 1:=(by rw[Aa];simp);have Bt:28<t3.next:=by omega
  simp(disch:=first|omega|simp only[DI.A2];omega)[lW,AD,AZ,-H,-E,-I,-G,-List.map_map];have Ap: ∀s∈Ei u (Bn u R L) c (Bn u R L).length,s.length<=1000:= λs C=>by have:=Th _ s C;omega
  have BM:=ph (u:=u) (bG:=Bn u R L) (ab:=c) (Bn u R L).length;have Aq:=(MW (L:=L)).1.1 Z.Wp;have Bv:value (Dd u R) c=HE u:=(by rw[<-(MW (L:=L)).2 Aq];exact Z.val);have P:=(iq h.ok C Aq (by omega)).1;have AJ:Ji u R L c=G8 (Ei u (Bn u R L) c (Bn u R L).length) L:=rfl;rw[<-AJ]at P;have BN:Bk (Ji u R L c):=⟨by have:=P.len;omega,λr AN=>by obtain⟨v,AL,e⟩:=EC AN;have K:(Ji u R L c)[v]?=some r:=(by rw[AS AL,e]);have:=P.D8 v r K;have:=(N9 h.ok (v:=v) (by have:=P.len;omega)).2;omega⟩;generalize Ei u (Bn u R L) c (Bn u R L).length=S at AB Ap BM AJ;have Ab: ∀p∈AX,p<t3.next:= λp A6=>AB.I7 A6
  refine Oa (o:=t3.next+2) (j:=0) (z:=1) (cs:=[.slice none 0 0,Y 0,AQ 15 (E6 u R L).Am.toNat 1]) (by rw[AT (by simp)]) rfl ?_;have Bw:=F AB.Da;refine a5p (S:=S) (L:=L) (by omega) Ap AK (bl:=27) (qi:=t3.next+2) (fE:=15) (ag:=(E6 u R L).Am.toNat) (yH:=t3.next+4) (ps:=AX) (AB.AG ?_ λp A6=> ?_) ?_ ?_ ⟨by omega,λf=>by have:=Ab _ f;omega,by omega,by omega,λf=>by have:=Ab _ f;omega⟩ ?_ (by simp) (by simp) (by simp) (by simp) λAs t4 D At Ac BO Au BP Aw K Ad BQ=> ?_
  ·simp(disch:=first|omega|simp only[DI.A2];omega)[-H,-E,-I,-G,-List.map_map]
  ·have C1:=Ab p A6;simp(disch:=first|omega|simp only[DI.A2];omega)[-H,-E,-I,-G,-List.map_map]
  ·simp(disch:=first|omega|simp only[DI.A2];omega)[-H,-E,-I,-G,-List.map_map]
  ·simp(disch:=first|omega|simp only[DI.A2];omega)[-H,-E,-I,-G,-List.map_map]
  ·simp[Aa,X]
  simp only[Ar,BC]at BP Aw Au;have C2:=F At;have C3:=F Ac;have Ax: ∀d:V,d.W D=t4.W D->DI.Az 9 d (AQ D L.length 1)=some (Ag (Ji u R L c))/\DI.Az 7 d (AQ D L.length 1)=some (Ag (Ji u R L c)):= λd y=>⟨pk (k:=8) (w:=true) (by rw[y,Ac,AJ]) (by rw[P.len,X]),pk (k:=6) (w:=true) (by rw[y,Ac,AJ]) (by rw[P.len,X])⟩;have K:As 1=Ag L:=(by rw[K];simp[AD]);have Ad:As 6=AA 1:=(by rw[Ad];simp[AY]);have low: ∀p∈AX,16<=p:= λp A6=>(BL p A6).elim (λq=>by have:=N p q;omega) λq=>by omega
  have Ay: ∀b,b<16->t4.W b=t3.W b:= λb hb=>by
   rw[Aw b (by omega) (by omega) (by omega) λf=>by have:=low _ f;omega];have C4: ¬b=t3.next+2:=by omega
   have C5: ¬b=t3.next+4:=by omega
   have C6:b<t3.next:=by omega
   simp(disch:=first|omega|simp only[DI.A2];omega)[-H,-E,-I,-G,-List.map_map]
  have x:=(Ay 1 (by omega)).trans x;have B:=(Ay 15 (by omega)).trans B;have Al:=F x;have C7:=F B;have BS: ¬D=1:= λe=>Au.elim (λq=>by omega) λq=>by omega
  have C8: ¬1=D:= λe=>BS e.symm;have C9: ¬t3.next+2=1:=by omega
  have CA: ¬1=t3.next+2:=by omega
  have BU:=(Ax t4 rfl).1;have CB:(Bk L/\Bk (Ji u R L c))/\L.length<=50:=⟨⟨AK,BN⟩,by omega⟩;simp(disch:=first|omega|simp only[DI.A2];omega)[jq,K,Ad,BQ,At,BU,x,-H,-E,-I,-G,-List.map_map];generalize B0:V.A0 (V.A0 (Cm t4 _) _ _) _ _=Ae;have BV:=(Ax Ae (by
   have BW: ¬D=t3.next+2:=BO
   rw[<-B0];simp(disch:=first|omega|simp only[DI.A2];omega)[-H,-E,-I,-G,-List.map_map])).2
  have BX:DI.Az 7 Ae (AQ 15 (E6 u R L).Am.toNat 1)=some (AH ps):=by
   have:=rR (n:=5) (i:=(E6 u R L).Am.toNat) (t:=Ae) (o:=15) (l:=ps) (w:=true) (by
    have BW: ¬15=t3.next+2:=by omega
    rw[<-B0];refine Eq.trans ?_ B;simp(disch:=first|omega|simp only[DI.A2];omega)[-H,-E,-I,-G,-List.map_map]) (by omega)
   rwa [<-An,EP,An]at this
  simp only[BV,BX];exact⟨_,rfl,.inr ⟨c,p,Z,by rw[AO]⟩⟩
def Ge(u:AY)(r:List Int)(i:Nat):Int:=((r.countP λx=>EB u i (CJ u x.toNat):Nat):Int)
def bm(u:AY)(L:List (List Int))(v:Nat):List Ae:=
 ⟨0,2+v,CS u v,CS u v⟩::((List.range (u.A5.length-1)).map (λj=>⟨Ax u v (D3 u (j+1)),Ax u v (j+1),HQ u v (j+1),Ge u (L.getD v []) (j+1)⟩)++
  ((List.range u.A1.length).filter (Es u v)).map λd=>⟨Ax u v (CJ u d),AM u d,1,if(d:Int)∈L.getD v []then 1 else 0⟩)
def OU(u:AY)(R:List Int)(L:List (List Int)):List Ae:=(List.range u.A7.length).flatMap (bm u L)++(List.range u.A1.length).map λd=>⟨AM u d,1,CD u R d,((L.flatten.count (d:Int):Nat):Int)⟩
def Nb(a:Ae):Ae:=⟨a.f,a.t,a.c,0⟩
def IH(u:AY)(R:List Int)(L:List (List Int)):List Int:=(OU u R L).map (·.k)
theorem fg:(OU u R L).map Nb=B2 u R:=by unfold OU B2;rw[Ld,List.map_flatMap,List.map_map];congr 1;congr 1;funext v;simp only[bm,Gk,E1,Ld,List.map_map];rfl
theorem tw{g:Ae->Int->Int}: ∀{bG:List Ae},CY g (bG.map Nb) (bG.map (·.k))=F6 (λa=>g (Nb a) a.k) bG
 |[]=>rfl
 |a::bG=>by simp only[E1,CY,F6,tw (bG:=bG)]
theorem vL(h:a∈OU u R L):(∃v,v<u.A7.length/\(a=⟨0,2+v,CS u v,CS u v⟩\/(∃j,j<u.A5.length-1/\a=⟨Ax u v (D3 u (j+1)),Ax u v (j+1),HQ u v (j+1),Ge u (L.getD v []) (j+1)⟩)\/
 ∃d,d<u.A1.length/\Es u v d=true/\a=⟨Ax u v (CJ u d),AM u d,1,if(d:Int)∈L.getD v []then 1 else 0⟩))\/ ∃d,d<u.A1.length/\a=⟨AM u d,1,CD u R d,((L.flatten.count (d:Int):Nat):Int)⟩:=by
 unfold OU bm at h;simp only[Cg,LM,FX,CM,CP,List.mem_filter]at h;rcases h with⟨v,b,h|⟨j,e,h⟩|⟨d,⟨c,f⟩,h⟩⟩|⟨d,c,h⟩
 ·exact .inl ⟨v,b,.inl h⟩
 ·exact .inl ⟨v,b,.inr (.inl ⟨j,e,h.symm⟩)⟩
 ·exact .inl ⟨v,b,.inr (.inr ⟨d,c,f,h.symm⟩)⟩
 ·exact .inr ⟨d,c,h.symm⟩
theorem wQ{u:AY}{R:List Int}{L:List (List Int)}{i:Nat}{a:Ae}{e:Int}(c:(B2 u R)[i]?=some a)(d:(IH u R L)[i]?=some e): ∃b∈OU u R L,Nb b=a/\b.k=e:=by
 rw[<-fg (L:=L),GS]at c;unfold IH at d;rw[GS]at d;cases hb:(OU u R L)[i]? with
 |none=>rw[hb]at c;simp at c
 | some b=>rw[hb]at c d;simp at c d;exact⟨b,B9 hb,c,d⟩
theorem fF{f g:Nat->Int}: ∀{n:Nat},Bu (λv=>f v+g v) n=Bu f n+Bu g n
 |0=>rfl
 |n+1=>by simp only[Bu,fF (n:=n)];omega
theorem pG{f g:Nat->Int}: ∀{n:Nat},Bu (λv=>f v-g v) n=Bu f n-Bu g n
 |0=>rfl
 |n+1=>by simp only[Bu,pG (n:=n)];omega
theorem oo{g:Ae->Int}{f:Nat->Ae}{q:Nat->Bool}: ∀{n:Nat},F6 g (((List.range n).filter q).map f)=Bu (λd=>if q d=true then g (f d)else 0) n
 |0=>rfl
 | n+1=>by rw[MO,List.filter_append,Ld,Ms,oo (n:=n)];simp only[Bu,List.filter_cons,List.filter_nil];split<;>simp[F6]
theorem a48(h:BW u): ∀m,m<u.A5.length->EB u 0 m=true:= λm=>by
 induction m using Nat.strongRecOn with
 | ind m c=>
   intro a;rcases Ri m with rfl|b
   ·exact UK
   ·have d:=(h.Gu a (h.HV a b)).1;rw[UA h a b (by omega)];exact c _ d (by omega)
theorem aDV(h:BW u)(g:i<u.A5.length): ∀m,m<u.A5.length->(if EB u i m=true then(1:Int)else 0)=Bu (λj=>if D3 u (j+1)=i/\EB u (j+1) m=true then 1 else 0) (u.A5.length-1)+(if m=i then 1 else 0):= λm=>by
 induction m using Nat.strongRecOn with
 | ind m l=>
   intro b;by_cases e:m=i
   ·subst e;rw[UK,if_pos rfl,if_pos rfl,Gb λj f=>if_neg λq=> ?_]
    ·omega
    ·have:=n6 h (i:=j+1) (by omega) (by omega);rw[q.1]at this;rw[this]at q;exact absurd q.2 (by simp)
   ·rw[if_neg e];rcases Ri m with rfl|d
    ·rw[mB h g (by omega),Gb λj f=>if_neg λq=> ?_]
     ·rfl
     ·rw[mB h (by omega) (by omega)]at q;exact absurd q.2 (by simp)
    ·have n:=(h.Gu b (h.HV b d)).1;have o:=l _ n (by omega);rw[UA h b d e];by_cases c:D3 u m=i
     ·rw[c,UK,if_pos rfl,Np (k:=m-1) (c:=1) (by omega) λj f=> ?_]
      ·rfl
      ·by_cases a:j=m-1
       ·have:j+1=m:=(by omega);rw[this,UK,if_pos ⟨c,rfl⟩,if_pos a]
       ·rw[if_neg a,if_neg λq=> ?_];have:=n6 h (i:=j+1) (by omega) (by omega);rw[UA h b d (by omega),c,<-q.1,this]at q;exact absurd q.2 (by simp)
     ·rw[o,if_neg c];congr 1;refine JF λj f=> ?_;by_cases a:D3 u (j+1)=i
      ·have:m≠j+1:= λq=>c (by rw[q];exact a);rw[UA h b d this]
      ·rw[if_neg λq=>a q.1,if_neg λq=>a q.1]
theorem wm(h:BW u)(b:i<u.A5.length): ∀{r:List Int},(∀x∈r,CJ u x.toNat<u.A5.length)->Ge u r i=Bu (λj=>if D3 u (j+1)=i then Ge u r (j+1)else 0) (u.A5.length-1)+((r.countP λx=>decide (CJ u x.toNat=i):Nat):Int)
 | [],_=>by rw[Gb λj _=>by simp[Ge]];simp[Ge]
 | x::r,d=>by
   have f:=wm h b (r:=r) λy g=>d y (by simp[g]);have l:=aDV h b _ (d x (by simp));have e: ∀k,Ge u (x::r) k=Ge u r k+(if EB u k (CJ u x.toNat)=true then 1 else 0):= λk=>by unfold Ge;rw[PG];split<;>simp
   rw[e,f,l,PG];have m:Bu (λj=>if D3 u (j+1)=i then Ge u (x::r) (j+1)else 0) (u.A5.length-1)=Bu (λj=>if D3 u (j+1)=i then Ge u r (j+1)else 0) (u.A5.length-1)+Bu (λj=>if D3 u (j+1)=i/\EB u (j+1) (CJ u x.toNat)=true then 1 else 0) (u.A5.length-1):=by
    rw[<-fF];refine JF λj _=> ?_;rw[e];by_cases c:D3 u (j+1)=i
    ·rw[if_pos c,if_pos c];by_cases a:EB u (j+1) (CJ u x.toNat)=true
     ·rw[if_pos a,if_pos ⟨c,a⟩]
     ·rw[if_neg a,if_neg λq=>a q.2]
    ·rw[if_neg c,if_neg c,if_neg λq=>c q.1];rfl
   rw[m];by_cases c:CJ u x.toNat=i
   ·simp[c];omega
   ·simp[c];omega
theorem rz: ∀{r:List Int},r.Nodup->(∀x∈r,∃d:Nat,x=d/\d<n)->((r.countP λx=>p x.toNat:Nat):Int)=Bu (λd=>if(d:Int)∈r/\p d=true then 1 else 0) n
 |[],_,_=>by rw[Gb λd _=>by simp];rfl
 | x::r,f,a=>by
   obtain⟨g,h⟩:=K5.1 f;obtain⟨e,rfl,i⟩:=a x (by simp);rw[PG,ME,rz h λy j=>a y (by simp[j])];have:Bu (λd=>if(d:Int)∈(e:Int)::r/\p d=true then(1:Int)else 0) n=Bu (λd=>if(d:Int)∈r/\p d=true then 1 else 0) n+Bu (λd=>if d=e then(if p e=true then 1 else 0)else 0) n:=by
    rw[<-fF];refine JF λd _=> ?_;by_cases c:d=e
    ·subst c;have: ¬((d:Int)∈r/\p d=true):= λq=>g q.1;rw[if_neg this,if_pos rfl];by_cases b:p d=true
     ·simp[b]
     ·simp[b]
    ·have:((d:Int)∈(e:Int)::r)↔(d:Int)∈r:=by
      rw[CM];exact⟨λq=>q.elim (λq=>absurd (by omega) c) id,.inr⟩
     simp only[this,if_neg c];omega
   rw[this,X6 i];congr 1;split<;>simp_all
theorem aBx(h:BW u)(n:2<=x)(f:x<AM u u.A1.length):(∃v i,v<u.A7.length/\i<u.A5.length/\x=Ax u v i)\/ ∃d,d<u.A1.length/\x=AM u d:=by
 have g:=h.Di;by_cases c:AM u 0<=x
 ·refine .inr ⟨(x-AM u 0).toNat,?_,?_⟩
  ·rw[FN]at f;omega
  ·rw[FN];omega
 ·obtain⟨a,j⟩: ∃a:Nat,u.A5.length=a+1:=⟨u.A5.length-1,by omega⟩;by_cases o:x<2+u.A7.length
  ·exact .inl ⟨(x-2).toNat,0,by omega,g,by simp[Ax];omega⟩
  ·have k:((u.A5.length:Int)-1)=a:=(by omega);have p:AM u 0=2+u.A7.length+u.A7.length*(a:Int):=by
    unfold AM;rw[j];push_cast;grind
   obtain⟨y,l⟩: ∃y:Nat,x=2+u.A7.length+y:=⟨(x-2-u.A7.length).toNat,by omega⟩;have b:y<u.A7.length*a:=(by have:(y:Int)<((u.A7.length*a:Nat):Int):=(by push_cast;omega);omega);have m:0<a:=by
    rcases Ri a with q|q
    ·rw[q]at b;omega
    ·exact q
   refine .inl ⟨y/a,y%a+1,Nat.div_lt_of_lt_mul (by rw[Nat.mul_comm];exact b),by have:=Nat.mod_lt y m;omega,?_⟩;unfold Ax;rw[if_neg (by omega),k,l];have:=Nat.div_add_mod y a;have e:((y/a:Nat):Int)*a+((y%a:Nat):Int)=y:=by rw[<-Int.natCast_mul,<-ME];congr 1;rw[Nat.mul_comm];exact this
   push_cast at e⊢
   omega
theorem fW{y a:Int}:Bj x y a=if x=y then a else 0:=rfl
theorem Yt(h:BW u)(y:IK u R L):Dr (Dd u R) (IH u R L)/\value (Dd u R) (IH u R L)=HE u:=by
 have G:=h.Di;have A8:=Is h;have C: ∀{v},v<u.A7.length->L[v]?=some (L.getD v []):= λ{v} l=>by have e:L[v]?=some (L[v]'(by rw[y.len];exact l)):=AS (by rw[y.len];exact l);rw[Dv,e];rfl
 have H: ∀{v},v<u.A7.length-> ∀x∈L.getD v [],∃d:Nat,x=d/\d<u.A1.length/\Es u v d=true:= λ{v} l=>y.Lx v _ (C l);have Q: ∀{v},v<u.A7.length-> ∀x∈L.getD v [],CJ u x.toNat<u.A5.length:= λ{v} l x z=>by obtain⟨d,rfl,r,_⟩:=H l x z;exact(Gv h r).1
 have S: ∀x,CY (λa J=>Bj a.f x J-Bj a.t x J) (B2 u R) (IH u R L)=Bu (λv=>(Bj 0 x (CS u v)-Bj (2+v) x (CS u v))+(Bu (λj=>Bj (Ax u v (D3 u (j+1))) x (Ge u (L.getD v []) (j+1))-Bj (Ax u v (j+1)) x (Ge u (L.getD v []) (j+1))) (u.A5.length-1)+
  Bu (λd=>if Es u v d=true then Bj (Ax u v (CJ u d)) x (if(d:Int)∈L.getD v []then 1 else 0)-Bj (AM u d) x (if(d:Int)∈L.getD v []then 1 else 0)else 0) u.A1.length)) u.A7.length+
  Bu (λd=>Bj (AM u d) x ((L.flatten.count (d:Int):Nat):Int)-Bj 1 x ((L.flatten.count (d:Int):Nat):Int)) u.A1.length:= λx=>by
  rw[<-fg (L:=L)];unfold IH;rw[tw];unfold OU bm;rw[Ms,Wq,T9];simp only[F6,Ms,T9,oo,Nb]
 refine⟨⟨⟨?_,λi a J W X=> ?_⟩,λx z Y Z=> ?_⟩,?_⟩
 ·show(IH u R L).length=(B2 u R).length;rw[<-fg (L:=L)];simp[IH]
 ·obtain⟨b,hb,rfl,rfl⟩:=wQ W X;rcases vL hb with⟨v,l,rfl|⟨j,s,rfl⟩|⟨d,r,I,rfl⟩⟩|⟨d,r,rfl⟩
  ·have:=N9 h l;simp only[Nb];omega
  ·have:=y.aP v _ (C l) (j+1) (by omega) (by omega);simp only[Nb,Ge];omega
  ·simp only[Nb];split<;>omega
  ·have:=y.E4 d r;simp only[Nb];omega
 ·have A0:2<=x:=by
   have: ¬x=0:=Y;have: ¬x=1:=Z;have:=z.1;omega
  show DG (B2 u R) (IH u R L) x=0;rw[Ub,S];rcases aBx h A0 z.2 with⟨w,i,T,D,rfl⟩|⟨e,U,rfl⟩
  ·have A9:=E3 h T D;rw[Gb (n:=u.A1.length) λd r=> ?_,Gb (n:=u.A7.length) λv l=> ?_]
   ·rfl
   ·have AB:=E3 h l G;have E:Ax u v 0=2+(v:Int):=(by simp[Ax]);have V:Bj 0 (Ax u w i) (CS u v)=0:=if_neg (by omega);by_cases c:v=w
    ·subst c;have A2:Bj (2+v) (Ax u v i) (CS u v)=if i=0 then CS u v else 0:=by
      rw[fW];by_cases q:i=0
      ·subst q;rw[if_pos E.symm,if_pos rfl]
      ·rw[if_neg q,if_neg λo=>q ((Ke h l l G D (E.trans o)).2.symm)]
     have A: ∀{j},j<u.A5.length-> ∀c,Bj (Ax u v j) (Ax u v i) c=if j=i then c else 0:= λ{j} s c=>by
      rw[fW];by_cases q:j=i
      ·subst q;rw[if_pos rfl,if_pos rfl]
      ·rw[if_neg q,if_neg λo=>q (Ke h l l s D o).2]
     rw[V,A2];rw[JF (n:=u.A5.length-1) (g:= λj=>(if D3 u (j+1)=i then Ge u (L.getD v []) (j+1)else 0)-(if j+1=i then Ge u (L.getD v []) (j+1)else 0)) λj s=>by have K:=(h.Gu (i:=j+1) (by omega) (h.HV (by omega) (by omega))).1;rw[A (by omega),A (by omega)]];rw[pG,JF (n:=u.A1.length) (g:= λd=>if(d:Int)∈L.getD v []/\decide (CJ u d=i)=true then 1 else 0) λd r=>by
      have:Bj (AM u d) (Ax u v i) (if(d:Int)∈L.getD v []then 1 else 0)=0:=if_neg (by have:=FN (u:=u) d;omega);rw[this,A (Gv h r).1];by_cases q:(d:Int)∈L.getD v []
      ·obtain⟨M,A3,_,I⟩:=H l _ q;obtain rfl:d=M:=(by omega);rw[if_pos I,if_pos q];by_cases o:CJ u d=i
       ·rw[if_pos o,if_pos ⟨q,decide_eq_true o⟩];rfl
       ·rw[if_neg o,if_neg λB=>o (of_decide_eq_true B.2)];rfl
      ·rw[if_neg q,if_neg (show¬((d:Int)∈L.getD v []/\decide (CJ u d=i)=true)from λB=>q B.1)];split<;>simp]
     rw[<-rz (p:= λm=>decide (CJ u m=i)) (y.DD v _ (C l)) λx z=>by obtain⟨d,e,r,_⟩:=H l x z;exact⟨d,e,r⟩];have AD:=wm h D (Q l);by_cases q:i=0
     ·subst q;rw[if_pos rfl,Gb (f:= λj=>if j+1=0 then Ge u (L.getD v []) (j+1)else 0) λj _=>if_neg (by omega)];have:Ge u (L.getD v []) 0=CS u v:=by
       rw[<-y.D8 v _ (C l)];unfold Ge;rw[List.countP_eq_length.2 λx z=>a48 h _ (Q l x z)]
      omega
     ·rw[if_neg q,Np (f:= λj=>if j+1=i then Ge u (L.getD v []) (j+1)else 0) (k:=i-1) (c:=Ge u (L.getD v []) i) (by omega) λj s=>by
       by_cases o:j=i-1
       ·rw[if_pos o,if_pos (by omega),show j+1=i by omega]
       ·rw[if_neg o,if_neg (by omega)]]
      omega
    ·have A: ∀{j},j<u.A5.length-> ∀c,Bj (Ax u v j) (Ax u w i) c=0:= λ{j} s _=>if_neg λq=>c (Ke h l T s D q).1;rw[V,<-E,A G,Gb λj s=> ?_,Gb λd r=> ?_]
     ·rfl
     ·have:Bj (AM u d) (Ax u w i) (if(d:Int)∈L.getD v []then 1 else 0)=0:=if_neg (by have:=FN (u:=u) d;omega);rw[this,A (Gv h r).1];split<;>rfl
     ·have K:=(h.Gu (i:=j+1) (by omega) (h.HV (by omega) (by omega))).1;rw[A (by omega),A (by omega)];rfl
   ·have N:Bj (AM u d) (Ax u w i) ((L.flatten.count (d:Int):Nat):Int)=0:=if_neg (by have:=FN (u:=u) d;omega);have O:Bj 1 (Ax u w i) ((L.flatten.count (d:Int):Nat):Int)=0:=if_neg (by omega);rw[N,O];rfl
  ·have AE:=FN (u:=u) e;have P: ∀c,Bj 0 (AM u e) c=0:= λ_=>if_neg (by omega);have o: ∀{v j},v<u.A7.length->j<u.A5.length-> ∀c,Bj (Ax u v j) (AM u e) c=0:= λ{v j} l s _=>if_neg (by have:=E3 h l s;omega);have B: ∀d c,Bj (AM u d) (AM u e) c=if d=e then c else 0:= λd c=>by
    have AF:=FN (u:=u) d;rw[fW];by_cases q:d=e
    ·subst q;rw[if_pos rfl,if_pos rfl]
    ·rw[if_neg q,if_neg (by omega)]
   have A4: ∀c,Bj 1 (AM u e) c=0:= λ_=>if_neg (by omega);rw[Np (n:=u.A1.length) (k:=e) (c:=((L.flatten.count (e:Int):Nat):Int)) U λd r=>by
    rw[B,A4];by_cases q:d=e
    ·subst q;simp
    ·rw[if_neg q,if_neg q];rfl]
   rw[wS,y.len,<-fF,Gb λv l=> ?_];have E:Ax u v 0=2+(v:Int):=(by simp[Ax]);rw[P,<-E,o l G,Gb (n:=u.A5.length-1) λj s=>by have K:=(h.Gu (i:=j+1) (by omega) (h.HV (by omega) (by omega))).1;rw[o l (by omega),o l (by omega)];rfl];rw[Np (n:=u.A1.length) (k:=e) (c:= -(((L.getD v []).count (e:Int):Nat):Int)) U λd r=>by
    rw[o l (Gv h r).1,B];have A6:=y.DD v _ (C l);by_cases q:d=e
    ·subst q;rw[if_pos rfl,if_pos rfl];by_cases F:(d:Int)∈L.getD v []
     ·obtain⟨M,A3,_,I⟩:=H l _ F;obtain rfl:d=M:=(by omega);rw[if_pos I,if_pos F,A6.count,if_pos F];rfl
     ·rw[if_neg F,List.count_eq_zero.2 F];split<;>rfl
    ·rw[if_neg q,if_neg q];split<;>rfl]
   omega
 ·show DG (B2 u R) (IH u R L) 0=HE u;rw[Ub,S,Rr,Gb (n:=u.A1.length) λd r=> ?_,JF (g:=CS u) λv l=> ?_]
  ·omega
  ·have o: ∀{j},j<u.A5.length-> ∀c,Bj (Ax u v j) 0 c=0:= λ{j} s _=>if_neg (by have:=E3 h l s;omega);have P:Bj (2+v) 0 (CS u v)=0:=if_neg (by omega);rw[P,Gb (n:=u.A5.length-1) λj s=>by
    have K:=(h.Gu (i:=j+1) (by omega) (h.HV (by omega) (by omega))).1;rw[o (by omega),o (by omega)];rfl,Gb (n:=u.A1.length) λd r=>by
    have:Bj (AM u d) 0 (if(d:Int)∈L.getD v []then 1 else 0)=0:=if_neg (by have:=FN (u:=u) d;omega);rw[this,o (Gv h r).1];split<;>rfl]
   simp[Bj]
  ·have N:Bj (AM u d) 0 ((L.flatten.count (d:Int):Nat):Int)=0:=if_neg (by have:=FN (u:=u) d;omega);have O:Bj 1 0 ((L.flatten.count (d:Int):Nat):Int)=0:=if_neg (by omega);rw[N,O];rfl
theorem a0o{k:List Int}(b:l.Nodup)(e:k.Nodup)(c: ∀x∈l,x∈k)(g:l.length=k.length):l.Perm k:=
 (List.perm_ext_iff_of_nodup b e).2 λd=>⟨c d,λf=>TI λq=>by
  have:=List.Nodup.length_le_of_subset (l₁:=d::l) (l₂:=k) (K5.2 ⟨q,b⟩) λx a=>by
   rcases CM.1 a with rfl|a
   ·exact f
   ·exact c x a
  rw[Df]at this;omega⟩
theorem zy(h:BW u)(k:IK u R L)(c:v<u.A7.length):(D4 u v (B2 u R) (IH u R L)).Perm (L.getD v []):=by
 obtain⟨r,F⟩:=Yt h k;have s:L[v]?=some (L.getD v []):=by have e:L[v]?=some (L[v]'(by rw[k.len];exact c)):=AS (by rw[k.len];exact c);rw[Dv,e];rfl
 have G:=X2 (f:=PE u R (IH u R L)) (g:=CS u) (n:=u.A7.length) (λv c=>eS h r c) (by rw[<-Rr,<-ck h,F];exact HB _);have H:(D4 u v (B2 u R) (IH u R L)).length=(L.getD v []).length:=by have a:=Xd h r c;rw[G v c]at a;have b:=k.D8 v _ s;omega
 have I:=Ug h (R:=R) (v:=v) (fs:=IH u R L) (λa J=>J) (ZR h);have K: ∀x∈D4 u v (B2 u R) (IH u R L),x∈L.getD v []:= λx M=>by
  obtain⟨i,a,S,y,N,O,P,z,T⟩:=T2 M;obtain⟨w,d,A,B,_,rfl⟩:=Q5 h (B9 y) O;rw[Pj h B]at z;subst z;obtain⟨b,hb,C,l⟩:=wQ y N;have U:=FN (u:=u) d;have m:b.f=Ax u w (CJ u d):=congrArg Ae.f C;have o:b.t=AM u d:=congrArg Ae.t C;have Ct:=E3 h A (Gv h B).1;have Q:x=d:=(by have:(E8 u w d).t=AM u d:=rfl;omega);rcases vL hb with⟨D,E,rfl|⟨j,V,rfl⟩|⟨e,p,W,rfl⟩⟩|⟨e,p,rfl⟩
  ·simp only at m;omega
  ·simp only at o;have:=E3 h E (i:=j+1) (by omega);omega
  ·simp only at o m;have X:=FN (u:=u) e;obtain rfl:e=d:=(by omega);obtain rfl:D=w:=(Ke h E A (Gv h p).1 (Gv h p).1 m).1;simp only at l;rw[Q];by_cases q:(e:Int)∈L.getD D []
   ·exact q
   ·rw[if_neg q]at l;exact absurd l.symm P
  ·simp only at o;have:=Is h;omega
 exact a0o I (k.DD v _ s) K H
theorem zJ{b:List Int}: ∀{r s:List Int},s.length=r.length->(∀x∈r,x∈b)->(s.countP λd=> !b.contains d)<=Ea r s
 | [],s,h,_=>by obtain rfl:=Gy.1 h;simp
 |x::r,[],h,_=>by simp at h
 | x::r,y::s,h,hb=>by
   have a:=zJ (b:=b) (r:=r) (s:=s) (by simpa using h) λz e=>hb z (by simp[e]);rw[PG];simp only[Ea];by_cases c:x=y
   ·subst c;have:b.contains x=true:=(by simp[hb x (by simp)]);rw[if_pos rfl,this];simp;simp at a;omega
   ·rw[if_neg c];split<;>omega
theorem aC9{u:AY}(h:BW u){R f:List Int}{L c:List (List Int)}{p:Int->Int}(d:EN u L=true)(e:PJ (E6 u R L) (HE u) f p)(a:IK u R c):
 DY L (G8 (Ei u (Bn u R L) f (Bn u R L).length) L)<=DY L c:=by
 have l:=MW.1.1 e.Wp;have m:value (Dd u R) f=HE u:=by rw[<-MW.2 l];exact e.val
 obtain⟨i,t⟩:=Yt h a;have j:L.length=u.A7.length:=by
  by_cases q:L.length=u.A7.length
  ·exact q
  ·rw[Rs q]at d;cases d
 have hb: ∀(v:Nat) s,L[v]?=some s->(s.length:Int)=CS u v:= λv s k=>by
  have hb:HR u v s=true:=by
   cases q:HR u v s with
   |true=>rfl
   |false=>rw[SZ k q]at d;cases d
  simp only[HR,AB,Ba]at hb;exact hb.1
 have g:=FF.a26 (jS h R L) e.ZX e.Wp (MW.1.2 i);rw[e.val,MW.2 i,t,Int.sub_self,Int.mul_zero,Int.add_zero]at g;have g:Fu (Bn u R L) f<=Fu (Bn u R L) (IH u R c):=g;rw[aE0 h d l (by omega)];refine Int.le_trans g ?_;rw[qn h i];unfold DY;rw[if_pos (Qq (by rw[j,a.len]) λv r s w y=>by have:=hb v r w;have:=a.D8 v s y;omega),sY (by rw[j,a.len]),j];refine hE λv m=> ?_;have n:L[v]?=some (L[v]'(by omega)):=AS (by omega);have o:c[v]?=some (c[v]'(by rw[a.len];omega)):=AS (by rw[a.len];omega);have z:Kk L v=L.getD v []:=rfl;rw[(zy h a m).countP_eq,z];have:=zJ (b:=L.getD v []) (r:=L.getD v []) (s:=c.getD v []) ?_ λx k=>k
 ·omega
 ·rw[Dv,Dv,n,o];have:=hb v _ n;have:=a.D8 v _ o;simp only[L2];omega
theorem a3b(h:BW u)(a:IK u R L):Pk u R:=⟨_,(Yt h a).1,by rw[(Yt h a).2];exact HB _⟩
def H8(u:AY)(R:List Int):List Int:=Ct u.A1.length λd=>max (CD u R d-1) 0
theorem a20{l:List B}{x:B}(h:l[i]?=some x):List.take 1 (List.drop i l)=[x]:=by obtain⟨a,e⟩:=AX.1 h;rw[Iy a,e];rfl
theorem pt:(H8 u R).length=u.A1.length:=by rw[H8,VI]
theorem a1X(a:d<u.A1.length):(H8 u R).getD d 0=max (CD u R d-1) 0:=by rw[H8,Dv,Ej a];rfl
theorem a4z(h:BW u)(a:d<u.A1.length):CD u (H8 u R) d<=max (CD u R d-1) 0/\CD u (H8 u R) d<=CD u R d:=by
 have b:=(Um h R a).1;have e:CD u (H8 u R) d=max 0 (min (max (CD u R d-1) 0) (JT u d)):=by
  conv=>lhs;unfold CD
  rw[if_pos pt,a1X a]
 rw[e];omega
theorem a8j{a:List Int}(h:IK u a L)(c: ∀d,d<u.A1.length->CD u a d<=CD u R d):IK u R L:=
 ⟨h.len,h.D8,h.DD,h.Lx,h.aP,λd b=>Int.le_trans (h.E4 d b) (c d b)⟩
theorem a17(h:Av u):Bv U 149 [.agg (A4 u).toArray,AH R] D0 λv p=> ∃o,v=AQ o u.A1.length 1/\p.W o=some ⟨(H8 u R).map Y,true⟩:=by
 have B:=h.ok.Ek;refine Ak (an:=⟨[],[cr u h]⟩) sB (by kernel_rfl) (by simp[e8]) ?_;simp[e8,ss,A4];refine CE (an:=⟨[],[cr u h]⟩) (λi a t=>(∃o,a 5=AQ o u.A1.length 1/\t.W o=some ⟨Ct u.A1.length (λd=>if d<i then Y (max (CD u R d-1) 0)else Y (CD u R d)),true⟩)/\a 11=Y u.A1.length/\a 12=Y i) u.A1.length ?_ ?_ 0 _ _ (C0 _) ⟨⟨2,by simp,?_⟩,by simp,by simp⟩
 ·rintro i a t g ⟨⟨o,b,e⟩,f,k⟩ C r;have s:=F e;have w:(i:Int)<u.A1.length:=(by omega);have D:=Um h.ok R g;have x:=BX (n:=i) (by omega);have y:IntKind.i64.wrap (CD u R i-1)=CD u R i-1:=Ah (by omega) (by omega);have z:i+1<=u.A1.length:=g;have A:List.take 1 (List.drop i (Ct u.A1.length (λd=>if d<i then Y (max (CD u R d-1) 0)else Y (CD u R d))))=[Y (CD u R i)]:=a20 ((Ej g).trans (by rw[if_neg (Nat.lt_irrefl i)]));simp[nB,cd,b,f,k,e,w,z,A,x,y,KG];refine r _ _ ⟨⟨o,by simp[b],?_⟩,by simp[f],by simp⟩;rw[AT s];congr 2;refine FG λj l=> ?_;by_cases c:j=i
  ·subst c;rw[if_pos rfl,if_pos (Nat.lt_succ_self _)];congr 1;split<;>omega
  ·rw[if_neg c];by_cases m:j<i
   ·rw[if_pos m,if_pos (by omega)]
   ·rw[if_neg m,if_neg (by omega)]
 ·rintro a t ⟨⟨o,b,e⟩,f,k⟩;simp[nB,cd,cd,b,f,k];rw[e,H8,PM];congr 2;exact FG λj l=>if_pos l
 ·rw[AT (by simp),MA,PM];rfl
theorem a6K(h:Av u):AL U 149 [.agg (A4 u).toArray,AH R] (AH (H8 u R)):=
 Ut (n:=u.A1.length) (by rw[Eb,pt]) KT (by rw[K6];exact a17 h)
noncomputable def kd(u:AY)(h:Av u):AK U:= .B8 149 (List Int) (λ_=>True) (λx=>[.agg (A4 u).toArray,AH x]) (λx=>AH (H8 u x)) λ_ _=>a6K h
@[simp] theorem aLV{h:Av u}:(kd u h).f=149:=rfl
@[simp] theorem aQA{h:Av u}:(kd u h).fn [.agg #[Y u.ext,M (u.Bz.map Cc) 4,M (u.Aa.map Ce) 4,M (u.A5.map Bd) 7,M (u.A1.map CB) 3,M (u.Ay.map B3) 17,M (u.A7.map Cd) 2],M (l.map λx=>[Y x]) 1]=some (AH (H8 u l)):=AK.BD (x:=l) trivial λy a=>by simpa using a
def ZY(u:AY)(R:List Int)(L Fin:List (List Int))(eR:Int)(fE:List Int)(b:Bool):Prop:=
 ∃ a c f d p,PJ (E6 u a L) (HE u) c f/\PJ (E6 u R L) (HE u) d p/\Fin=Ji u a L c/\eR=DY L Fin/\eR=DY L (Ji u R L d)/\fE=Mv (E6 u R L).Am.toNat p/\
   ((b=true/\a=H8 u R)\/(b=false/\a=R/\c=d/\(¬Pk u (H8 u R)\/ ∃e g,PJ (E6 u (H8 u R) L) (HE u) e g/\DY L (Ji u (H8 u R) L e)≠eR)))
def a4v(u:AY)(R:List Int)(L:List (List Int))(v:Value):Prop:=
 (¬Pk u R/\v= .tuple #[.agg #[.slice none 0 0,Y 0,.slice none 0 0],.bool false,Y 12])\/
 ∃Fin eR fE b,ZY u R L Fin eR fE b/\v= .tuple #[.agg #[Ag Fin,Y eR,AH fE],.bool b,Y 0]
theorem hZ(h:BW u){a:List Int}{p:Int->Int}(d:EN u L=true)(b:PJ (E6 u R L) (HE u) a p):IK u R (Ji u R L a):=by
 have c:=MW.1.1 b.Wp;have e:value (Dd u R) a=HE u:=by rw[<-MW.2 c];exact b.val
 exact(iq h d c (by rw[e];exact HB _)).1
theorem We(h:BW u)(a:EN u L=true)(g:ZY u R L Fin eR fE b):IK u R Fin/\eR=DY L Fin/\Pk u R/\ ∀c,IK u R c->eR<=DY L c:=by
 obtain⟨o,q,r,s,p,e,f,rfl,i,j,t,k⟩:=g;have l:=a3b h (hZ h a f);refine⟨?_,i,l,λc m=>by rw[j];exact aC9 h a f m⟩;rcases k with⟨_,rfl⟩|⟨_,rfl,_⟩
 ·exact a8j (hZ h a e) λd n=>(a4z h n).2
 ·exact hZ h a e
theorem a7Y(h:Av u)(j:1<=u.A7.length)(k:Bk L)(l:EN u L=true):Mu U 96 [.agg (A4 u).toArray,Ag L,AH R] (a4v u R L):=by
 refine Wz (Ak (an:=⟨[kd u h],[]⟩) xF (by kernel_rfl) (by simp[cf]) ?_);simp[cf,oZ,A4];refine((wP h j k l (R:=R)).O9 (λv b=>by simp at b;rcases b with rfl|rfl|rfl<;>rfl)).AG λv t ⟨e,f⟩=> ?_;subst f;rcases e with⟨g,rfl⟩|⟨a,p,d,rfl⟩
 ·simp[j9,Uy];exact .inl ⟨g,rfl⟩
 ·simp[j9];refine((wP h j k l (R:=H8 u R)).O9 (λv b=>by simp at b;rcases b with rfl|rfl|rfl<;>rfl)).AG λv t ⟨e,f⟩=> ?_;subst f;rcases e with⟨g,rfl⟩|⟨i,m,n,rfl⟩
  ·simp[Uy];exact .inr ⟨_,_,_,_,⟨R,a,p,a,p,d,d,rfl,rfl,rfl,rfl,.inr ⟨rfl,rfl,rfl,.inl g⟩⟩,rfl⟩
  ·by_cases c:DY L (Ji u (H8 u R) L i)=DY L (Ji u R L a)
   ·simp(disch:=first|omega|simp only[DI.A2];omega)[Uy,c,-H,-E,-I,-G,-List.map_map];exact .inr ⟨_,_,_,_,⟨H8 u R,i,m,a,p,n,d,rfl,c.symm,rfl,rfl,.inl ⟨rfl,rfl⟩⟩,rfl⟩
   ·simp[Uy,c];exact .inr ⟨_,_,_,_,⟨R,a,p,a,p,d,d,rfl,rfl,rfl,rfl,.inr ⟨rfl,rfl,rfl,.inr ⟨i,m,n,c⟩⟩⟩,rfl⟩
end Go.Proofs.YtmmkkggfmigppaaGreat
