/-
  A part of the proof, shortened by tools of ours.
-/
import Derived.Test.YtmmkkggfmigppaaGreatZax
set_option linter.all false
set_option maxRecDepth 8000
set_option maxHeartbeats 16000000
namespace Go.Proofs.YtmmkkggfmigppaaGreat
open Go Go.DI Go.Big Go.hR
structure xT(u:aG)(R:List Int)(l:List c4)(z:aC)(t:H):Prop where
 ht:rl t 18 (n3 u.aZ.length u.aP.length u.aY.length) 0 1 l [0,1,10]
 aL:t.I 0=some ⟨aI u,true⟩
 aE:t.I 1=some ⟨[E 0,E 0,E 0,.slice none 0 0],true⟩
 m5:t.I 10=some ⟨[E u.aZ.length,E u.aP.length],true⟩
 aU:z 1=bm R
 bS:z 2=bH 0
 dR:z 4=bH 1
 bB:z 6=bH 10
 ca:z 7=bH 18
 bl:z 8= .func (.func 183) #[] #[bH 18]
def nM(u:aG)(v:Nat):List c4:=(List.range v).flatMap (qw u)
theorem aqm{u:aG}{v:Nat}:nM u (v+1)=nM u v++qw u v:=by simp[nM,A2]
theorem aDb{h0:List Int}{ev:Nat}(kN: ∀m∈h0,0<=m/\m<ev)(az:h0.length<=1000000){hA:Nat}{Q:cM->aC->H->Prop}{z:aC}{t:H}(g6:z 12=b7 hA ev 1)(eY:t.I hA=some ⟨iW ev λ_=> .bool false,true⟩)(apf:z 59=bm h0)(apg:z 60=E h0.length)(Ns:z 61=E 0)
 (bb: ∀K af,(∀j,j<61->j≠14->K j=z j)->af.I hA=some ⟨iW ev λi=> .bool (decide ((i:Int)∈h0)),true⟩->(∀b,b≠hA->af.I b=t.I b)->af.next=t.next->Q (.cH 2) K af):ec N (.loop QE) z t Q:=by
 refine gR (ax:=⟨[],[]⟩) (λi bQ bj=>(∀j,j<61->j≠14->bQ j=z j)/\bj.I hA=some ⟨iW ev λk=> .bool (decide ((k:Int)∈h0.take i)),true⟩/\(∀b,b≠hA->bj.I b=t.I b)/\bj.next=t.next/\bQ 61=E i) h0.length ?_ ?_ 0 z t (gi _) ⟨λj _ _=>rfl,by simpa using eY,λb _=>rfl,rfl,Ns⟩
 ·rintro i bQ bj W ⟨F,zK,S,ae,Ns⟩ bM a1;obtain⟨m,B⟩:=gk W;have cS:=(cG.1 B).2;obtain⟨eA,bn⟩:=kN m (fr B);obtain⟨X,rfl⟩:=jX eA;have aed:bQ 12=b7 hA ev 1:=(F 12 (by decide) (by decide)).trans g6;have aq4:bQ 59=bm h0:=(F 59 (by decide) (by decide)).trans apf;have aeh:bQ 60=E h0.length:=(F 60 (by decide) (by decide)).trans apg;have bC:(i:Int)<h0.length:=(by omega);have rD:X<ev:=(by omega);have PH:X+1<=ev:=rD;have nc:=aM zK;have br:=fz (n:=i) (by omega);simp(disch:=first|omega|simp only[DI.aK];omega) [QE,aed,aq4,aeh,Ns,zK,bC,br,cS,bn,PH,Fp,-an,-au,-ak,-aq,-List.map_map];refine a1 _ _ ⟨λj aX Bv=> ?_,?_,λb hb=>by rw[a7 hb];exact S b hb,by simpa using ae,by simp⟩
  ·have: ∀k,61<=k->j≠k:= λk S=>by omega
   rw[<-F j aX Bv];simp[k7,Bv,this]
  ·rw[cx nc];congr 2;refine sH λk S=> ?_;rw[qm,B];by_cases e:k=X
   ·subst e;simp
   ·have:((k:Int)∈h0.take i++[(X:Int)])↔(k:Int)∈h0.take i:=(by simp;omega);simp only[Option.toList_some,this,rj e,Bool.false_or]
 ·rintro bQ bj ⟨F,zK,S,ae,Ns⟩;have aq4:bQ 59=bm h0:=(F 59 (by decide) (by decide)).trans apf;have aeh:bQ 60=E h0.length:=(F 60 (by decide) (by decide)).trans apg;rw[mY]at zK;simp[QE,aeh,Ns];refine bb _ _ (λj aX Bv=> ?_) zK S ae;have:j≠62:=(by omega);rw[<-F j aX Bv];simp[k7,this]
theorem aaW: ∀(n:Nat) (l:List Int),l.Nodup->(∀x∈l,0<=x/\x<n)->l.length<=n
 | 0,l,_,h=>by
   cases l with
   |nil=>exact c8 _
   |cons x l=>have:=h x (by simp);omega
 | n+1,l,aV,h=>by
   have A:=aaW n (l.erase (n:Int)) (aV.erase _) λx B=>by
    have ab:=List.mem_of_mem_erase B;have:=h x ab;have bG:x≠(n:Int):= λe=>by subst e;exact(List.Nodup.mem_erase_iff aV).1 B|>.1 rfl
    omega
   have D:=List.length_erase (a:=(n:Int)) (l:=l);split at D<;>omega
theorem aDe{u:aG}(h:cE u){R:List Int}{Q:cM->aC->H->Prop}{z:aC}{t:H}(cc:xT u R [] z t)(qe:z 41=ad (u.aZ.map ga) 2)(sJ:z 42=E u.aZ.length)(nJ:z 43=E 0)
 (bb: ∀K af,xT u R (nM u u.aZ.length) K af->Q (.cH 0) K af):ec N (.loop QF) z t Q:=by
 have eW:=h.ok.fg;have ic:=h.ok.h2;have mo:=h.ok.j4;have l3:=h.ok.ev;have bG:=h.ok.hl;refine gR (ax:=⟨[NI],[]⟩) (λv z t=>xT u R (nM u v) z t/\z 41=ad (u.aZ.map ga) 2/\z 42=E u.aZ.length/\z 43=E v) u.aZ.length ?_ ?_ 0 z t (gi _) ⟨cc,qe,sJ,nJ⟩
 ·rintro v z t M ⟨cc,qe,sJ,nJ⟩ bM a1;obtain⟨ht,aL,aE,m5,aU,bS,dR,bB,ca,bl⟩:=cc;obtain⟨x,B⟩:=gk M;have cS:=(cG.1 B).2;obtain⟨p,Z,uC,gY,vL,kt⟩:=Ic h.ok M;obtain⟨P,gq⟩:=jX (h.ok.N4 v x B).1;have Kf:nI u v=P:=(by unfold nI;simp only[B,gq,ns]);have m8:=Z;rw[Kf]at Z gY;have Ky:=(cG.1 Z).2;obtain⟨_,aPa,P2,vI⟩:=h.ok.p9 P p Z;have dD:=aM aL;have hZ:=aM aE;have SX:=aM m5;have bC:(v:Int)<u.aZ.length:=(by omega);have a8:(P:Int)<u.dj.length:=(by omega);have e8:(u.cr.length:Int)*1<=140737488355328/\(u.cr.length:Int)<=140737488355328/\(u.cr.length:Int)<=9223372036854775807/\0<=(u.cr.length:Int)/\u.cr.length<=140737488355328:=(by omega);have br:=fz (n:=v) (by omega);simp(disch:=first|omega|simp only[DI.aK];omega) [QF,bS,qe,sJ,nJ,aL,aI,ga,dE,cS,gq,Ky,bC,a8,e8];have dz: ∀b∈[0,1,10],b≠18/\b<t.next:= λb hb=>ht.g hb
  have aQ2:18<t.next:=by obtain⟨o,_,g,_⟩:=ht;exact aM g
  obtain⟨Dg,DU⟩: ∃Dg,Dg=(((((t.b0 6).aO (t.next+3) (some ⟨[gD x.name,E P],true⟩)).b0 8).aO (t.next+6+6) (some ⟨dE p,true⟩)).b0 5).aO (t.next+6+8+3) (some ⟨List.replicate u.cr.length (Value.bool false),true⟩):=⟨_,rfl⟩;have kO:Dg.next=t.next+6+8+5:=by rw[DU];simp only[eJ,fp]
  have jv: ∀b,b<t.next->Dg.I b=t.I b:= λb hb=>by rw[DU,a7 (by omega),cJ (by simp only[eJ,fp];omega),a7 (by omega),cJ (by simp only[eJ,fp];omega),a7 (by omega),cJ hb]
  have anv:=ht.bD (af:=Dg) (uf:=[0,1,10,t.next+6+6,t.next+6+8+3]) (by omega) jv (λb hb=>by simp at hb⊢;omega);have agH:Dg.I (t.next+6+6)=some ⟨dE p,true⟩:=(by rw[DU,a7 (by omega),cJ (by simp only[eJ,fp];omega),cx (by simp only[eJ,fp];omega)]);have agA:Dg.I (t.next+6+8+3)=some ⟨iW u.cr.length λ_=> .bool false,true⟩:=(by rw[DU,cx (by simp only[eJ,fp];omega),abI]);have V0:=(jv 0 dD).trans aL;have au0:=(jv 1 hZ).trans aE;have au1:=(jv 10 SX).trans m5;simp only[dE]at DU;rw[<-DU];clear DU;obtain⟨gu,ahE⟩: ∃x,x=t.next+6+6:=⟨_,rfl⟩
  obtain⟨hA,agT⟩: ∃x,x=t.next+6+8+3:=⟨_,rfl⟩
  rw[<-ahE,<-agT]at anv;rw[<-ahE]at agH⊢;rw[<-agT]at agA⊢;have aC8:hA≠gu:=(by omega);have Tg:hA≠0/\hA≠1/\hA≠10/\hA≠18:=(by omega);have rD:=aaW u.cr.length p.cr vI P2;refine aDb (h0:=p.cr) (ev:=u.cr.length) P2 (by omega) (hA:=hA) (by simp) agA (by simp) (by simp) (by simp) λbQ bj F zK S ae=> ?_;have hY:bQ 1=bm R:=(F 1 (by decide) (by decide)).trans (by simp[aU]);have jA:bQ 2=bH 0:=(F 2 (by decide) (by decide)).trans (by simp[bS]);have z4:bQ 4=bH 1:=(F 4 (by decide) (by decide)).trans (by simp[dR]);have sV:bQ 6=bH 10:=(F 6 (by decide) (by decide)).trans (by simp[bB]);have F0:bQ 7=bH 18:=(F 7 (by decide) (by decide)).trans (by simp[ca]);have C7:bQ 8= .func (.func 183) #[] #[bH 18]:=(F 8 (by decide) (by decide)).trans (by simp[bl]);have aq5:bQ 9=E v:=(F 9 (by decide) (by decide)).trans (by simp[]);have aq1:bQ 11=bH gu:=(F 11 (by decide) (by decide)).trans (by simp[]);have aed:bQ 12=b7 hA u.cr.length 1:=(F 12 (by decide) (by decide)).trans (by simp[]);have aJl:bQ 41=ad (u.aZ.map ga) 2:=(F 41 (by decide) (by decide)).trans (by simp[qe]);have aJm:bQ 42=E u.aZ.length:=(F 42 (by decide) (by decide)).trans (by simp[sJ]);have aJn:bQ 43=E v:=(F 43 (by decide) (by decide)).trans (by simp[nJ]);have aDa:rl bj 18 (n3 u.aZ.length u.aP.length u.aY.length) 0 1 (nM u v) [0,1,10,gu,hA]:=by obtain⟨o,aD,aJ,cg,gA⟩:=anv;have jj:=gA hA (by simp);exact⟨o,aD,by rw[S 18 (λe=>Tg.2.2.2 e.symm)];exact aJ,by rw[S o (λe=>jj.2.1 e.symm)];exact cg,λb hb=>by rw[ae];exact gA b hb⟩
  have agr:=(S 0 (λe=>Tg.1 e.symm)).trans V0;have Pw:=(S 1 (λe=>Tg.2.1 e.symm)).trans au0;have VT:=(S 10 (λe=>Tg.2.2.1 e.symm)).trans au1;have Pz:=(S gu (λe=>aC8 e.symm)).trans agH;have aQ9:=aM agr;have aRa:=aM VT;have aRA:=aM Pz;have ll:v<=1000:=(by omega);have di:(dE p).length=17:=rfl;simp only[mr,a6,ey]at vL;obtain⟨dY,ee,_⟩:=vL;have dY:=m9 dY;have ee:=m9 ee;have ct:IntKind.i64.wrap (p.k+p.m)=p.k+p.m:=cY (by omega) (by omega);have vO:(nM u v).length<=50000:=(by have:=Gi h.ok v;show(nM u v).length<=_;unfold nM;omega);simp only[dE]at Pz;simp(disch:=first|omega|simp only[DI.aK];omega) [XS,sV,C7,aq5,aq1,VT,Pz,ct,-an,-au,-ak,-aq,-List.map_map];refine(Jk aDa (by omega)).bD λr eC ⟨al,dG⟩=> ?_;subst al;have uO:eC.I 0=some ⟨aI u,true⟩:=(dG.dK 0 (by simp)).trans agr;have bK:eC.I 1=some ⟨[E 0,E 0,E 0,.slice none 0 0],true⟩:=(dG.dK 1 (by simp)).trans Pw;have xj:eC.I 10=some ⟨[E u.aZ.length,E u.aP.length],true⟩:=(dG.dK 10 (by simp)).trans VT;have rK:eC.I gu=some ⟨dE p,true⟩:=(dG.dK gu (by simp)).trans Pz;have aBM:eC.I hA=some ⟨iW u.cr.length λi=> .bool (decide ((i:Int)∈p.cr)),true⟩:=(dG.dK hA (by simp)).trans zK;have eA:=aM uO;have nz:si u v=c4.mk 0 (2+v) (p.k+p.m) 0:=(by rw[si,kt]);rw[<-nz]at dG;simp[XT,jA,uO,aI];refine aDc h (R:=R) M m8 (p:=p) (gu:=gu) (hA:=hA) vO ⟨by simpa[mj]using dG.ht,uO,bK,xj,rK,aBM,by simp[hY],by simp[jA],by simp[z4],by simp[sV],by simp[F0],by simp[C7],by simp[aq5],by simp[aq1],by simp[aed],by simp[aJl],by simp[aJm],by simp[aJn]⟩ (by simp) (by simp) (by simp) λc6 eC kC=> ?_;have af9:=kC.aL;have mA:=kC.bS;have aRE:=aM af9;simp[XU,mA,af9,aI];refine aDd h (R:=R) M m8 (p:=p) (gu:=gu) (hA:=hA) vO ⟨by simpa[pc]using kC.ht,kC.aL,kC.aE,kC.m5,kC.iy,kC.eY,by simp[kC.aU],by simp[kC.bS],by simp[kC.dR],by simp[kC.bB],by simp[kC.ca],by simp[kC.bl],by simp[kC.cP],by simp[kC.gn],by simp[kC.g6],by simp[kC.qe],by simp[kC.sJ],by simp[kC.nJ]⟩ (by simp) (by simp) (by simp) λzi t3 n6=> ?_;have aIM:=n6.nJ;simp[aIM,br];refine a1 _ _ ⟨⟨?_,n6.aL,n6.aE,n6.m5,by simp[n6.aU],by simp[n6.bS],by simp[n6.dR],by simp[n6.bB],by simp[n6.ca],by simp[n6.bl]⟩,by simp[n6.qe],by simp[n6.sJ],by simp⟩;rw[aqm];exact n6.ht.bD (c8 _) (λ_ _=>rfl) λb hb=> .inl (by simp at hb⊢;omega)
 ·rintro z t ⟨cc,qe,sJ,nJ⟩;simp[QF,XS,XT,XU,sJ,nJ];refine bb _ _ ⟨cc.ht,cc.aL,cc.aE,cc.m5,?_,?_,?_,?_,?_,?_⟩;all_goals simp[cc.aU,cc.bS,cc.dR,cc.bB,cc.ca,cc.bl]
def pB(u:aG)(R:List Int)(i:Nat):List c4:=nM u u.aZ.length++(List.range i).map (vj u R)
theorem afV{u:aG}{R:List Int}{i:Nat}:pB u R (i+1)=pB u R i++[vj u R i]:=by simp[pB,A2]
theorem afU{u:aG}{R:List Int}:pB u R u.aY.length=dC u R:=rfl
theorem aDf{u:aG}(h:cE u){R:List Int}{Q:cM->aC->H->Prop}{z:aC}{t:H}(cc:xT u R (pB u R 0) z t)(No:z 141=bm (kc u R))(Ip:z 142=E u.aY.length)(Iq:z 143=E 0)
 (bb: ∀K af,xT u R (dC u R) K af->Q (.cH 8) K af):ec N (.loop QG) z t Q:=by
 have eW:=h.ok.fg;have ic:=h.ok.h2;have mo:=h.ok.j4;have bG:=h.ok.hl;refine gR (ax:=⟨[CH],[]⟩) (λi z t=>xT u R (pB u R i) z t/\z 141=bm (kc u R)/\z 142=E u.aY.length/\z 143=E i) u.aY.length ?_ ?_ 0 z t (gi _) ⟨cc,No,Ip,Iq⟩
 ·rintro i z t W ⟨cc,No,Ip,Iq⟩ bM a1;obtain⟨ht,aL,aE,m5,aU,bS,dR,bB,ca,bl⟩:=cc;have B:(kc u R)[i]?=some (h4 u R i):=(by rw[AA,vZ W]);have cS: ∀h,(kc u R)[i]'h=h4 u R i:= λh=>(cG.1 B).2;have yk:(kc u R).length=u.aY.length:=TC;have wY:i<(kc u R).length:=(by omega);have bC:(i:Int)<u.aY.length:=(by omega);have br:=fz (n:=i) (by omega);have SX:=aM m5;have BH:u.aZ.length<=1000/\u.aP.length<=1000/\i<=1000:=(by omega);simp(disch:=first|omega|simp only[DI.aK];omega) [QG,bB,bl,No,Ip,Iq,m5,bC,cS,yk];have eV:(pB u R i).length<=100000:=by
   have:=Gi h.ok u.aZ.length;simp only[pB,nM,iv,k8,F6];omega
  refine(Jk ht eV).bD λr af ⟨al,dG⟩=> ?_;subst al;simp[Iq,br];have nz:vj u R i=c4.mk (n3 u.aZ.length u.aP.length i) 1 (h4 u R i) 0:=rfl;rw[<-nz]at dG;refine a1 _ _ ⟨⟨by rw[afV];exact dG.ht,(dG.dK 0 (by simp)).trans aL,(dG.dK 1 (by simp)).trans aE,(dG.dK 10 (by simp)).trans m5,by simp[aU],by simp[bS],by simp[dR],by simp[bB],by simp[ca],by simp[bl]⟩,by simp[No],by simp[Ip],by simp⟩
 ·rintro z t ⟨cc,No,Ip,Iq⟩;rw[afU]at cc;simp[QG,Ip,Iq];refine bb _ _ ⟨cc.ht,cc.aL,cc.aE,cc.m5,?_,?_,?_,?_,?_,?_⟩;all_goals simp[cc.aU,cc.bS,cc.dR,cc.bB,cc.ca,cc.bl]
theorem aDV{u:aG}(h:cE u){R:List Int}:fc N 124 [.agg (aI u).toArray,bm R] fJ λv bj=> ∃o,v= .tuple #[.agg #[E (im u R).dQ,E 0,E 1,b7 o (dC u R).length 4],E 0]/\bj.I o=some ⟨fV (dC u R),true⟩:=by
 have M:=h.ok.xK;have eW:=h.ok.fg;have ic:=h.ok.h2;have mo:=h.ok.j4;have bG:=h.ok.hl;have er:u.aZ.length<=1000/\u.aP.length<=1000/\u.aY.length<=1000:=by omega
 refine c2 (ax:=⟨[CM u h.fX,NI,Nv,CH,acp u h],[]⟩) aiF (by kernel_rfl) (by simp[QD]) ?_;simp(disch:=first|omega|simp only[DI.aK];omega) [QD,aiE,aI,-an,-au,-ak,-aq,-List.map_map];refine FY (o:=18) (j:=3) (G:=4) (cs:=[E (n3 u.aZ.length u.aP.length u.aY.length),E 0,E 1,.slice none 0 0]) (by simp(disch:=first|omega|simp only[DI.aK];omega) [-an,-au,-ak,-aq,-List.map_map]) rfl ?_;refine aDe h (R:=R) ⟨⟨20,by decide,?_,?_,λb hb=> ?_⟩,?_,?_,?_,by simp,by simp,by simp,by simp,by simp,by simp⟩ (by simp) (by simp) (by simp) λbQ bj cc=> ?_
 ·simp(disch:=first|omega|simp only[DI.aK];omega) [-an,-au,-ak,-aq,-List.map_map]
 ·simp(disch:=first|omega|simp only[DI.aK];omega) [fV,-an,-au,-ak,-aq,-List.map_map]
 ·simp at hb⊢;rcases hb with rfl|rfl|rfl<;>simp
 ·simp(disch:=first|omega|simp only[DI.aK];omega) [aI,-an,-au,-ak,-aq,-List.map_map]
 ·simp(disch:=first|omega|simp only[DI.aK];omega) [-an,-au,-ak,-aq,-List.map_map]
 ·simp(disch:=first|omega|simp only[DI.aK];omega) [-an,-au,-ak,-aq,-List.map_map]
 have aL:=cc.aL;have eA:=aM aL;have h6:=cc.aU;have mA:=cc.bS;have yk:(kc u R).length=u.aY.length:=TC;simp(disch:=first|omega|simp only[DI.aK];omega) [aiG,h6,mA,aL,aI,yk,-an,-au,-ak,-aq,-List.map_map];refine aDf h (R:=R) ⟨by simpa[pB]using cc.ht,cc.aL,cc.aE,cc.m5,by simp[cc.aU],by simp[cc.bS],by simp[cc.dR],by simp[cc.bB],by simp[cc.ca],by simp[cc.bl]⟩ (by simp) (by simp) (by simp) λc6 eC kC=> ?_;obtain⟨o,aD,aJ,cg,gA⟩:=kC.ht;have bK:=kC.aE;have hZ:=aM bK;have aB2:=aM aJ;have AT:=kC.dR;have C4:=kC.ca;have aaT:o≠1:= λe=>(gA 1 (by simp)).2.1 e.symm;simp(disch:=first|omega|simp only[DI.aK];omega) [aiH,AT,C4,aJ,bK,-an,-au,-ak,-aq,-List.map_map];refine⟨o,⟨rfl,rfl⟩,?_⟩;rw[a7 aaT];exact cg
theorem aDU{u:aG}(h:cE u){R:List Int}(t:H):fc N 124 [.agg (aI u).toArray,bm R] t λv af=>v= .tuple #[.agg #[E (im u R).dQ,E 0,E 1,b7 t.next (dC u R).length 4],E 0]/\af=qb t.next [fV (dC u R)] (t.b0 1):=by
 refine adU (n:=1) (r:= λk=> .tuple #[.agg #[E (im u R).dQ,E 0,E 1,b7 k (dC u R).length 4],E 0]) (bs:= λ_=>[fV (dC u R)]) (λ_=>rfl) (λv M=>by simp at M;rcases M with rfl|rfl<;>rfl) ((aDV h).bD λv bj ⟨o,M,aH⟩=>⟨[o],by simp,rfl,λk=>⟨?_,λi cs ia=> ?_⟩⟩) t
 ·rw[M];exact nW.aqc (kp.cons (nW.U7 (kp.cons (.ha rfl) (kp.cons (.ha rfl) (kp.cons (.ha rfl) (kp.cons (.slice ⟨0,rfl,rfl⟩) kp.nil))))) (kp.cons (.ha rfl) kp.nil))
 ·cases i with
  | zero=>simp at ia;subst ia;refine⟨o,_,rfl,aH,kp.cells λv M=> ?_⟩;simp only[fV,zf,gG]at M;obtain⟨r,⟨a,_,rfl⟩,al⟩:=M;simp[gL]at al;rcases al with rfl|rfl|rfl|rfl<;>rfl
  |succ i=>simp at ia
noncomputable def Xp(u:aG)(h:cE u):jg N:= .cK 124 (List Int) (λR=>[.agg (aI u).toArray,bm R]) (λR t=>some (.tuple #[.agg #[E (im u R).dQ,E 0,E 1,b7 t.next (dC u R).length 4],E 0],qb t.next [fV (dC u R)] (t.b0 1))) λR t r af bT bA iA=>by cases bT;exact(aDU h t).bD λr af ⟨a,b⟩=>by rw[a,b];exact iA
@[simp] theorem aPz{u:aG}{h:cE u}:(Xp u h).f=124:=rfl
@[simp] theorem aPA{u:aG}{h:cE u}{R:List Int}{t:H}:(Xp u h).fn [.agg #[E u.ext,ad (u.eI.map gf) 4,ad (u.cr.map gp) 4,ad (u.aP.map eG) 7,ad (u.aY.map fk) 3,ad (u.dj.map dE) 17,ad (u.aZ.map ga) 2],ad (R.map λx=>[E x]) 1] t=some (.tuple #[.agg #[E (im u R).dQ,E 0,E 1,b7 t.next (dC u R).length 4],E 0],qb t.next [fV (dC u R)] (t.b0 1)):=jg.dx (x:=R) (t:=t) λy Y=>by
  have:y=R:=by simpa using Y
  rw[this]
theorem aFd{u:aG}(h:fj u){v i:Nat}(M:v<=1000)(W:i<=1000):bP N 82 [.agg (aI u).toArray,E v,E i] (E (gF u v i)):=by
 have eW:=h.fg;have mo:=h.j4;have bG:=h.hl;refine du (c2 (ax:=⟨[],[]⟩) alW (by kernel_rfl) (by simp[LV]) ?_);unfold gF;have adD:IntKind.i64.wrap (2+(v:Int))=2+v:=cY (by omega) (by omega);by_cases c:i=0
 ·subst c;simp[LV,Zd,aI,adD]
 ·have Jx: ¬(i:Int)=0:=(by omega);have bY:0<=(v:Int)*((u.aP.length:Int)-1):=A3 (by omega) (by omega);have A:(v:Int)*((u.aP.length:Int)-1)<=1000*1000:=Int.le_trans (y9 (by omega) (by omega)) (Ok (by omega) (by omega));have br:IntKind.i64.wrap (2+(u.aZ.length:Int))=2+u.aZ.length:=cY (by omega) (by omega);have ct:IntKind.i64.wrap ((u.aP.length:Int)-1)=(u.aP.length:Int)-1:=cY (by omega) (by omega);have dW:IntKind.i64.wrap ((v:Int)*((u.aP.length:Int)-1))=(v:Int)*((u.aP.length:Int)-1):=cY (by omega) (by omega);have kn:IntKind.i64.wrap (2+(u.aZ.length:Int)+(v:Int)*((u.aP.length:Int)-1))=2+(u.aZ.length:Int)+(v:Int)*((u.aP.length:Int)-1):=cY (by omega) (by omega);have AR:IntKind.i64.wrap (2+(u.aZ.length:Int)+(v:Int)*((u.aP.length:Int)-1)+i)=2+(u.aZ.length:Int)+(v:Int)*((u.aP.length:Int)-1)+i:=cY (by omega) (by omega);have N6:IntKind.i64.wrap (2+(u.aZ.length:Int)+(v:Int)*((u.aP.length:Int)-1)+i-1)=2+(u.aZ.length:Int)+(v:Int)*((u.aP.length:Int)-1)+i-1:=cY (by omega) (by omega);simp[LV,Zd,aI,c,br,ct,dW,kn,AR,N6]
noncomputable def CJ(u:aG)(h:fj u):bx N:= .cK 82 (Nat×Nat) (λx=>x.1<=1000/\x.2<=1000) (λx=>[.agg (aI u).toArray,E x.1,E x.2]) (λx=>E (gF u x.1 x.2)) λ_ B=>aFd h B.1 B.2
@[simp] theorem aUU{u:aG}{h:fj u}:(CJ u h).f=82:=rfl
@[simp] theorem aGl{u:aG}{h:fj u}{v i:Nat}(B:v<=1000/\i<=1000):(CJ u h).fn [.agg #[E u.ext,ad (u.eI.map gf) 4,ad (u.cr.map gp) 4,ad (u.aP.map eG) 7,ad (u.aY.map fk) 3,ad (u.dj.map dE) 17,ad (u.aZ.map ga) 2],E v,E i]=some (E (gF u v i)):=bx.dx (x:=(v,i)) B λ⟨a,b⟩ Y=>by simp at Y⊢;omega
theorem aGk{u:aG}{h:fj u}{v:Nat}(B:v<=1000):(CJ u h).fn [.agg #[E u.ext,ad (u.eI.map gf) 4,ad (u.cr.map gp) 4,ad (u.aP.map eG) 7,ad (u.aY.map fk) 3,ad (u.dj.map dE) 17,ad (u.aZ.map ga) 2],E v,E 0]=some (E (2+v)):=aGl (i:=0) ⟨B,by omega⟩
theorem aEQ{u:aG}(h:fj u){d:Nat}(aV:d<=1000):bP N 83 [.agg (aI u).toArray,E d] (E (dg u d)):=by have eW:=h.fg;have mo:=h.j4;refine du (c2 (ax:=⟨[],[]⟩) alY (by kernel_rfl) (by simp[Sg]) ?_);have bY:0<=(u.aZ.length:Int)*(u.aP.length:Int):=A3 (by omega) (by omega);have A:(u.aZ.length:Int)*(u.aP.length:Int)<=1000*1000:=Int.le_trans (y9 (by omega) (by omega)) (Ok (by omega) (by omega));have dW:IntKind.i64.wrap ((u.aZ.length:Int)*(u.aP.length:Int))=(u.aZ.length:Int)*u.aP.length:=cY (by omega) (by omega);have kn:IntKind.i64.wrap (2+(u.aZ.length:Int)*u.aP.length)=2+(u.aZ.length:Int)*u.aP.length:=cY (by omega) (by omega);have AR:IntKind.i64.wrap (2+(u.aZ.length:Int)*u.aP.length+d)=2+(u.aZ.length:Int)*u.aP.length+d:=cY (by omega) (by omega);unfold dg;simp[Sg,alX,aI,dW,kn,AR]
noncomputable def Fy(u:aG)(h:fj u):bx N:= .cK 83 Nat (λx=>x<=1000) (λx=>[.agg (aI u).toArray,E x]) (λx=>E (dg u x)) λ_ B=>aEQ h B
@[simp] theorem aUO{u:aG}{h:fj u}:(Fy u h).f=83:=rfl
@[simp] theorem aGi{u:aG}{h:fj u}{d:Nat}(B:d<=1000):(Fy u h).fn [.agg #[E u.ext,ad (u.eI.map gf) 4,ad (u.cr.map gp) 4,ad (u.aP.map eG) 7,ad (u.aY.map fk) 3,ad (u.dj.map dE) 17,ad (u.aZ.map ga) 2],E d]=some (E (dg u d)):=bx.dx (x:=d) B λy Y=>by simp at Y⊢;omega
abbrev Ib(p:hQ):Value:= .agg #[gD p.name,E p.k,E p.m,E p.q,E p.ax.a,E p.ax.b,E p.ax.c,E p.ax.d,E p.ax.e,bm p.cr,iP p.pe,.bool p.qi.ku,b5 p.qi.a,b5 p.qi.b,.bool p.m7.ku,b5 p.m7.a,b5 p.m7.b]
theorem aEH{u:aG}(h:cE u){v d:Nat}{p:hQ}(M:v<u.aZ.length)(Z:u.dj[nI u v]?=some p)(aV:d<u.aY.length):bP N 130 [Ib p,.agg (aI u).toArray,E d] (.bool (pv u v d)):=by
 have ic:=h.ok.h2;have l3:=h.ok.ev;obtain⟨x,B⟩:=gk aV;have cS:=(cG.1 B).2;obtain⟨bt,bR,_⟩:=h.ok.tf d x B;have fl:pv u v d=decide (x.model∈p.cr):=by unfold pv;simp only[Z,B]
 obtain⟨_,_,P2,vI⟩:=h.ok.p9 _ p Z;have rD:=aaW u.cr.length p.cr vI P2;have ag6:(d:Int)<u.aY.length:=by omega
 refine du (c2 (ax:=⟨[],[]⟩) aiT (by kernel_rfl) (by simp[QM]) ?_);simp[QM,aiS,aI];refine gR (ax:=⟨[],[]⟩) (λi z t=>x.model∉p.cr.take i/\t.I 0=some ⟨dE p,true⟩/\t.I 1=some ⟨aI u,true⟩/\z 2=E d/\z 3=bH 0/\z 4=bH 1/\z 7=E i) p.cr.length ?_ ?_ 0 _ _ (gi _) ⟨by simp,by simp[dE],by simp[aI],by simp,by simp,by simp,by simp⟩
 ·rintro i z t W ⟨ab,aL,aE,bS,bW,dR,ca⟩ bM a1;obtain⟨m,Y⟩:=gk W;have mO:=(cG.1 Y).2;have bC:(i:Int)<p.cr.length:=(by omega);have br:=fz (n:=i) (by omega);have dD:=aM aL;have hZ:=aM aE;by_cases e:m=x.model
  ·have Wg:pv u v d=true:=(by rw[fl];exact decide_eq_true (by rw[<-e];exact fr Y));simp(disch:=first|omega|simp only[DI.aK];omega) [QN,K1,bS,bW,dR,ca,aL,aE,dE,aI,fk,bC,mO,cS,ag6,e,Wg]
  ·simp(disch:=first|omega|simp only[DI.aK];omega) [QN,K1,bS,bW,dR,ca,aL,aE,dE,aI,fk,bC,br,mO,cS,ag6,e,-an,-au,-ak,-aq,-List.map_map];refine a1 _ _ ⟨?_,aL,aE,by simp[bS],by simp[bW],by simp[dR],by simp⟩;rw[qm,Y];simp only[Option.toList_some,js,rg,not_or];exact⟨ab,λh=>e h.symm⟩
 ·rintro z t ⟨ab,aL,aE,bS,bW,dR,ca⟩;rw[mY]at ab;have Wg:pv u v d=false:=(by rw[fl];exact rj ab);have dD:=aM aL;simp[QN,K1,K1,bW,ca,aL,dE,Wg]
noncomputable def acq(u:aG)(h:cE u)(v:Nat)(p:hQ)(M:v<u.aZ.length)(Z:u.dj[nI u v]?=some p):bx N:= .cK 130 Nat (λd=>d<u.aY.length) (λd=>[Ib p,.agg (aI u).toArray,E d]) (λd=> .bool (pv u v d)) λ_ aV=>aEH h M Z aV
@[simp] theorem aUK{u:aG}{h:cE u}{v:Nat}{p:hQ}{M:v<u.aZ.length}{Z:u.dj[nI u v]?=some p}:(acq u h v p M Z).f=130:=rfl
@[simp] theorem aUL{u:aG}{h:cE u}{v d:Nat}{p:hQ}{M:v<u.aZ.length}{Z:u.dj[nI u v]?=some p}(aV:d<u.aY.length):(acq u h v p M Z).fn [Ib p,.agg #[E u.ext,ad (u.eI.map gf) 4,ad (u.cr.map gp) 4,ad (u.aP.map eG) 7,ad (u.aY.map fk) 3,ad (u.dj.map dE) 17,ad (u.aZ.map ga) 2],E d]=some (.bool (pv u v d)):=bx.dx (x:=d) aV λy Y=>by simp at Y⊢;omega
theorem MQ{t:H}{q o n a b:Nat}{ao aN C:Int}{l:List c4}{aR:List Nat}{x:c4}{T:Option eM}(bG:q≠o)(jE:t.I q=some ⟨[E ao,E aN,E C,.slice (some ⟨o,0,none⟩) l.length 4],true⟩)(bq:t.I o=some ⟨fV l,true⟩)(dz: ∀b∈aR,b≠q/\b≠o/\b<t.next)(aa:a<n)(hb:b<n)(oX:a≠b):
 I7 t q ao aN C (l++[x]) aR (((((t.b0 n).aO (t.next+a) T).aO o none).aO (t.next+b) (some ⟨fV l++gL x,true⟩)).aO q (some ⟨[E ao,E aN,E C,.slice (some ⟨t.next+b,0,none⟩) (l.length+1) 4],true⟩)):=by
 have Ch:=aM jE;have bk:=aM bq;refine⟨⟨t.next+b,by omega,?_,?_,λc ar=> ?_⟩,by simp,λc ar=> ?_⟩
 ·rw[cx (by simp;omega)];simp
 ·rw[a7 (by omega),cx (by simp;omega),aeN]
 ·have:=dz c ar;exact⟨this.1,by omega,by simp;omega⟩
 ·obtain⟨bK,cz,dV⟩:=dz c ar;rw[a7 bK,a7 (by omega),a7 cz,a7 (by omega),cJ dV]
structure vi(u:aG)(R:List Int)(v:Nat)(p:hQ)(l:List c4)(gu:Nat)(z:aC)(t:H):Prop where
 ht:rl t 9 (dg u u.aY.length) 0 1 l [0,1,gu]
 aL:t.I 0=some ⟨aI u,true⟩
 aE:t.I 1=some ⟨[E 0,E 0,E 0,.slice none 0 0],true⟩
 iy:t.I gu=some ⟨dE p,true⟩
 aU:z 1=bm R
 bS:z 2=bH 0
 dR:z 4=bH 1
 bB:z 6=bH 9
 ca:z 7=E v
 bl:z 8=bH gu
theorem vi.step{u:aG}{R:List Int}{v:Nat}{p:hQ}{l c5:List c4}{gu:Nat}{z K:aC}{t af:H}(h:vi u R v p l gu z t)(dG:I7 t 9 (dg u u.aY.length) 0 1 c5 [0,1,gu] af)(F: ∀j,j∈[1,2,4,6,7,8]->K j=z j):vi u R v p c5 gu K af:=
 ⟨dG.ht,(dG.dK 0 (by simp)).trans h.aL,(dG.dK 1 (by simp)).trans h.aE,(dG.dK gu (by simp)).trans h.iy,(F 1 (by simp)).trans h.aU,(F 2 (by simp)).trans h.bS,(F 4 (by simp)).trans h.dR,(F 6 (by simp)).trans h.bB,(F 7 (by simp)).trans h.ca,(F 8 (by simp)).trans h.bl⟩
theorem vi.xG{u:aG}{R:List Int}{v:Nat}{p:hQ}{l:List c4}{gu:Nat}{z K:aC}{t:H}(h:vi u R v p l gu z t)(F: ∀j,j∈[1,2,4,6,7,8]->K j=z j):vi u R v p l gu K t:=
 h.step ⟨h.ht,c8 _,λ_ _=>rfl⟩ F
theorem aE7{u:aG}(h:cE u){R:List Int}{v gu:Nat}{p:hQ}(M:v<u.aZ.length)(Z:u.dj[nI u v]?=some p){cD:List c4}(gY:cD.length<=50000){Q:cM->aC->H->Prop}{z:aC}{t:H}
 (cc:vi u R v p (mj u cD v 1) gu z t) (cP:z 9=E 1) (bb: ∀K af,vi u R v p (mj u cD v u.aP.length) gu K af->Q (.cH 2) K af):ec N (.loop LS) z t Q:=by
 have eW:=h.ok.fg;have mo:=h.ok.j4;have bG:=h.ok.hl;obtain⟨k2,rF,_,_,vL,kt⟩:=Ic h.ok M;rw[Z]at rF;cases rF;simp only[mr,a6,ey]at vL;obtain⟨dY,ee,l9,Co,MO,sA,Ar,anr,ans,HZ⟩:=vL;have dY:=m9 dY;have ee:=m9 ee;refine gR (ax:=⟨[CJ u h.ok],[]⟩) (λi z t=>1<=i/\vi u R v p (mj u cD v i) gu z t/\z 9=E i) u.aP.length ?_ ?_ 1 z t bG ⟨c8 _,cc,cP⟩
 ·rintro i z t W ⟨A,cc,cP⟩ bM a1;obtain⟨d,B⟩:=gk W;have cS:=(cG.1 B).2;have bC:(i:Int)<u.aP.length:=(by omega);have br:=fz (n:=i) (by omega);obtain⟨ht,aL,aE,iy,aU,bS,dR,bB,ca,bl⟩:=id cc;obtain⟨o,kh,jE,bq,dz⟩:=ht;have dD:=aM aL;have E2:=aM iy;have Ch:=aM jE;have bk:=aM bq;obtain⟨fW,gI,iO,zB,Gw⟩:=h.ok.lf i d (by omega) B;obtain⟨P,gq⟩:=jX fW;obtain⟨jY,DT⟩:=jX (by omega:0<=d.jQ);have BH:v<=1000/\P<=1000:=(by omega);have PT:v<=1000/\i<=1000:=(by omega);have ct:IntKind.i64.wrap (p.k+p.m)=p.k+p.m:=cY (by omega) (by omega);have ave:jY<5:=(by omega);have Kb:(jY:Int)<5:=(by omega);have di:(dE p).length=17:=rfl;have Kc:4+jY+1<=17:=(by omega);have nB:List.take 1 (dE p).tail=[E p.k]:=rfl;have qL:(dE p)[2]?=some (E p.m):=rfl;have BK: ∀h,(dE p)[2]'h=E p.m:= λ_=>rfl;have vz:(dE p)[4+jY]?=some (E (sO p.ax jY)):=by
   obtain rfl|rfl|rfl|rfl:jY=1\/jY=2\/jY=3\/jY=4:=(by omega);all_goals rfl
  have Kn: ∀h,(dE p)[4+jY]'h=E (sO p.ax jY):= λh=>(cG.1 vz).2;have rE:yH u v i=if sO p.ax jY=0 then p.k+p.m else sO p.ax jY:=by have e:hD u i=(jY:Int):=(by unfold hD;simp only[B,DT]);unfold yH;simp only[Z,e]
  have P5:jL u i=P:=(by unfold jL;simp only[B,gq,ns]);have WS:=Vq (u:=u) (cD:=cD) (v:=v) (i:=i);have e8:((mj u cD v i).length+1)*32<=140737488355328/\(mj u cD v i).length<=9223372036854775806:=(by omega);have mN:List.take ((mj u cD v i).length*4) (fV (mj u cD v i))=fV (mj u cD v i):=h7 (by rw[Dm];exact c8 _);have WK: ¬o=9:= λe=>kh e.symm;have WL: ¬9=o:=kh;have hc: ¬gu=o:=(dz gu (by simp)).2.1;have aD: ¬(0:Nat)=o:=(dz 0 (by simp)).2.1;by_cases cs:sO p.ax jY=0
  ·simp(disch:=first|omega|simp only[DI.aK];omega) [LS,bS,bB,ca,bl,cP,bC,br,ct,cS,eG,gq,DT,aI,aL,iy,jE,bq,Kb,di,Kc,nB,BK,Kn,cs,fC,e8,mN];have nz:uj u v i=c4.mk (gF u v P) (gF u v i) (p.k+p.m) 0:=(by rw[uj,P5,rE,if_pos cs]);refine a1 _ _ ⟨by omega,?_,by simp⟩;rw[Vr A,nz];refine cc.step (MQ (x:=c4.mk (gF u v P) (gF u v i) (p.k+p.m) 0) kh jE bq dz ?_ ?_ ?_) (λj aX=> ?_)
   ·decide
   ·decide
   ·decide
   ·simp at aX;rcases aX with rfl|rfl|rfl|rfl|rfl|rfl<;>simp
  ·simp(disch:=first|omega|simp only[DI.aK];omega) [LS,bS,bB,ca,bl,cP,bC,br,cS,eG,gq,DT,aI,aL,iy,jE,bq,Kb,di,Kc,Kn,cs,fC,e8,mN];have nz:uj u v i=c4.mk (gF u v P) (gF u v i) (sO p.ax jY) 0:=(by rw[uj,P5,rE,if_neg cs]);refine a1 _ _ ⟨by omega,?_,by simp⟩;rw[Vr A,nz];refine cc.step (MQ (x:=c4.mk (gF u v P) (gF u v i) (sO p.ax jY) 0) kh jE bq dz ?_ ?_ ?_) (λj aX=> ?_)
   ·decide
   ·decide
   ·decide
   ·simp at aX;rcases aX with rfl|rfl|rfl|rfl|rfl|rfl<;>simp
 ·rintro z t ⟨A,cc,cP⟩;obtain⟨ht,aL,aE,iy,aU,bS,dR,bB,ca,bl⟩:=id cc;have dD:=aM aL;simp[LS,bS,cP,aL,aI];exact bb _ _ (cc.xG λj aX=>by simp at aX;rcases aX with rfl|rfl|rfl|rfl|rfl|rfl<;>simp)
theorem aE8{u:aG}(h:cE u){R:List Int}{v gu:Nat}{p:hQ}(M:v<u.aZ.length)(Z:u.dj[nI u v]?=some p){cD:List c4}(gY:cD.length<=50000){Q:cM->aC->H->Prop}{z:aC}{t:H}
 (cc:vi u R v p (pc u cD v 0) gu z t) (gn:z 11=E 0) (bb: ∀K af,vi u R v p (cD++qw u v) gu K af->Q (.cH 4) K af):ec N (.loop LU) z t Q:=by
 have eW:=h.ok.fg;have ic:=h.ok.h2;have mo:=h.ok.j4;have bG:=h.ok.hl;refine gR (ax:=⟨[CJ u h.ok,Fy u h.ok,acq u h v p M Z],[]⟩) (λi z t=>vi u R v p (pc u cD v i) gu z t/\z 11=E i) u.aY.length ?_ ?_ 0 z t (gi _) ⟨cc,gn⟩
 ·rintro i z t W ⟨cc,gn⟩ bM a1;obtain⟨x,B⟩:=gk W;have cS:=(cG.1 B).2;obtain⟨bt,bR,a3,a4,ft⟩:=h.ok.tf i x B;obtain⟨gK,vx⟩:=jX a3;have BM:iD u i=gK:=(by unfold iD;simp only[B,vx,ns]);have bC:(i:Int)<u.aY.length:=(by omega);have br:=fz (n:=i) (by omega);obtain⟨ht,aL,aE,iy,aU,bS,dR,bB,ca,bl⟩:=id cc;obtain⟨o,kh,jE,bq,dz⟩:=ht;have dD:=aM aL;have E2:=aM iy;have Ch:=aM jE;have bk:=aM bq;have BH:v<=1000/\gK<=1000:=(by omega);have PT:i<=1000:=(by omega);have di:(dE p).length=17:=rfl;have WS:=aox (u:=u) (cD:=cD) (v:=v) (i:=i);have e8:((pc u cD v i).length+1)*32<=140737488355328/\(pc u cD v i).length<=9223372036854775806:=(by omega);have mN:List.take ((pc u cD v i).length*4) (fV (pc u cD v i))=fV (pc u cD v i):=h7 (by rw[Dm];exact c8 _);have WK: ¬o=9:= λe=>kh e.symm;have WL: ¬9=o:=kh;have hc: ¬gu=o:=(dz gu (by simp)).2.1;have aD: ¬(0:Nat)=o:=(dz 0 (by simp)).2.1;have es:=aoy (u:=u) (cD:=cD) (v:=v) (i:=i);simp only[dE]at iy;cases hb:pv u v i
  ·rw[hb]at es;simp(disch:=omega) [LU,bS,bl,gn,bC,br,aI,aL,iy,hb];refine a1 _ _ ⟨?_,by simp⟩;rw[es];simp only[je,if_false,r8];exact cc.xG λj aX=>by simp at aX;rcases aX with rfl|rfl|rfl|rfl|rfl|rfl<;>simp
  ·rw[hb]at es;simp(disch:=first|omega|simp only[DI.aK];omega) [LU,bS,bB,ca,bl,gn,bC,br,cS,fk,vx,aI,aL,iy,jE,bq,hb,e8,mN];have nz:qv u v i=c4.mk (gF u v gK) (dg u i) 1 0:=(by rw[qv,BM]);refine a1 _ _ ⟨?_,by simp⟩;rw[es,nz];simp only[if_true];refine cc.step (MQ (x:=c4.mk (gF u v gK) (dg u i) 1 0) kh jE bq dz ?_ ?_ ?_) (λj aX=> ?_)
   ·decide
   ·decide
   ·decide
   ·simp at aX;rcases aX with rfl|rfl|rfl|rfl|rfl|rfl<;>simp
 ·rintro z t ⟨cc,gn⟩;rw[aow]at cc;obtain⟨ht,aL,aE,iy,aU,bS,dR,bB,ca,bl⟩:=id cc;have dD:=aM aL;simp[LU,bS,gn,aL,aI];exact bb _ _ (cc.xG λj aX=>by simp at aX;rcases aX with rfl|rfl|rfl|rfl|rfl|rfl<;>simp)
structure zp(u:aG)(R:List Int)(l:List c4)(z:aC)(t:H):Prop where
 ht:rl t 9 (dg u u.aY.length) 0 1 l [0,1]
 aL:t.I 0=some ⟨aI u,true⟩
 aE:t.I 1=some ⟨[E 0,E 0,E 0,.slice none 0 0],true⟩
 aU:z 1=bm R
 bS:z 2=bH 0
 dR:z 4=bH 1
 bB:z 6=bH 9
theorem zp.step{u:aG}{R:List Int}{l c5:List c4}{z K:aC}{t af:H}(h:zp u R l z t)(dG:I7 t 9 (dg u u.aY.length) 0 1 c5 [0,1] af)(F: ∀j,j∈[1,2,4,6]->K j=z j):zp u R c5 K af:=
 ⟨dG.ht,(dG.dK 0 (by simp)).trans h.aL,(dG.dK 1 (by simp)).trans h.aE,(F 1 (by simp)).trans h.aU,(F 2 (by simp)).trans h.bS,(F 4 (by simp)).trans h.dR,(F 6 (by simp)).trans h.bB⟩
theorem aE9{u:aG}(h:cE u){R:List Int}{Q:cM->aC->H->Prop}{z:aC}{t:H}(cc:zp u R [] z t)(ca:z 7=E 0)
 (bb: ∀K af,zp u R (nM u u.aZ.length) K af->Q (.cH 0) K af):ec N (.loop Se) z t Q:=by
 have eW:=h.ok.fg;have ic:=h.ok.h2;have mo:=h.ok.j4;have bG:=h.ok.hl;refine gR (ax:=⟨[CJ u h.ok],[]⟩) (λv z t=>zp u R (nM u v) z t/\z 7=E v) u.aZ.length ?_ ?_ 0 z t (gi _) ⟨cc,ca⟩
 ·rintro v z t M ⟨cc,ca⟩ bM a1;obtain⟨ht,aL,aE,aU,bS,dR,bB⟩:=id cc;obtain⟨o,kh,jE,bq,dz⟩:=ht;obtain⟨x,B⟩:=gk M;have cS:=(cG.1 B).2;obtain⟨p,Z,uC,gY,vL,kt⟩:=Ic h.ok M;obtain⟨P,gq⟩:=jX (h.ok.N4 v x B).1;have Kf:nI u v=P:=(by unfold nI;simp only[B,gq,ns]);have m8:=Z;rw[Kf]at Z gY;have Ky:=(cG.1 Z).2;have dD:=aM aL;have hZ:=aM aE;have Ch:=aM jE;have bk:=aM bq;have bC:(v:Int)<u.aZ.length:=(by omega);have a8:(P:Int)<u.dj.length:=(by omega);have br:=fz (n:=v) (by omega);simp only[mr,a6,ey]at vL;obtain⟨dY,ee,_⟩:=vL;have dY:=m9 dY;have ee:=m9 ee;have ct:IntKind.i64.wrap (p.k+p.m)=p.k+p.m:=cY (by omega) (by omega);have vO:(nM u v).length<=50000:=(by have:=Gi h.ok v;unfold nM;omega);have e8:((nM u v).length+1)*32<=140737488355328/\(nM u v).length<=9223372036854775806:=(by omega);have mN:List.take ((nM u v).length*4) (fV (nM u v))=fV (nM u v):=h7 (by rw[Dm];exact c8 _);have WK: ¬o=9:= λe=>kh e.symm;have WL: ¬9=o:=kh;have aD: ¬(0:Nat)=o:=(dz 0 (by simp)).2.1;have tu:=aGk (u:=u) (h:=h.ok) (v:=v) (by omega);simp(disch:=first|omega|simp only[DI.aK];omega) [Se,bS,bB,ca,bC,a8,ct,cS,Ky,gq,ga,dE,aI,aL,jE,bq,tu,e8,mN,-an,-au,-ak,-aq,-List.map_map];obtain⟨bj,rG⟩: ∃bj,bj=(t.b0 12).aO (t.next+10) (some ⟨dE p,true⟩):=⟨_,rfl⟩;have bK: ∀b,b<t.next->bj.I b=t.I b:= λb hb=>by rw[rG,a7 (by omega),cJ hb]
  have aDw:bj.next=t.next+12:=by rw[rG];simp
  have uy: ∀b∈[0,1,t.next+10],b≠9/\b≠o/\b<bj.next:= λb hb=>by
   simp at hb;rcases hb with rfl|rfl|rfl
   ·have:=dz 0 (by simp);omega
   ·have:=dz 1 (by simp);omega
   ·omega
  have dG:=MQ (t:=bj) (n:=15) (a:=11) (b:=12) (aR:=[0,1,t.next+10]) (x:=c4.mk 0 (2+v) (p.k+p.m) 0) (T:=some ⟨[E 0,E (2+v),E (p.k+p.m),E 0],true⟩) kh ((bK 9 Ch).trans jE) ((bK o bk).trans bq) uy (by decide) (by decide) (by decide);have jN:bj.I 0=some ⟨aI u,true⟩:=(bK 0 dD).trans aL;have b6:bj.I 1=some ⟨[E 0,E 0,E 0,.slice none 0 0],true⟩:=(bK 1 hZ).trans aE;have Gv:bj.I (t.next+10)=some ⟨dE p,true⟩:=(by rw[rG,cx (by simp)]);rw[aDw,rG]at dG;rw[rG]at jN b6 Gv;have nz:si u v=c4.mk 0 (2+v) (p.k+p.m) 0:=(by rw[si,kt]);simp only[dE,gL]at dG jN b6 Gv;have Kj:=(dG.dK 0 (by simp)).trans jN;have Wd:=(dG.dK 1 (by simp)).trans b6;have PM:=(dG.dK (t.next+10) (by simp)).trans Gv;have agU:=dG.ht;rw[<-nz]at agU;simp(disch:=first|omega|simp only[DI.aK];omega) [Zb,-an,-au,-ak,-aq,-List.map_map];refine aE7 h (R:=R) M m8 (p:=p) (gu:=t.next+10) vO ⟨by simpa[mj]using agU,Kj,Wd,PM,by simp[aU],by simp[bS],by simp[dR],by simp[bB],by simp[ca],by simp⟩ (by simp) λc6 eC kC=> ?_;simp(disch:=omega) [Zc];refine aE8 h (R:=R) M m8 (p:=p) (gu:=t.next+10) vO (by have e:pc u (nM u v) v 0=mj u (nM u v) v u.aP.length:=(by simp[pc]);rw[e];exact kC.xG λj aX=>by simp at aX;rcases aX with rfl|rfl|rfl|rfl|rfl|rfl<;>simp) (by simp) λzi t3 n6=> ?_;have C4:=n6.ca;simp(disch:=omega) [C4,br];refine a1 _ _ ⟨⟨?_,n6.aL,n6.aE,by simp[n6.aU],by simp[n6.bS],by simp[n6.dR],by simp[n6.bB]⟩,by simp⟩;rw[aqm];exact n6.ht.bD (c8 _) (λ_ _=>rfl) λb hb=> .inl (by simp at hb⊢;omega)
 ·rintro z t ⟨cc,ca⟩;obtain⟨ht,aL,aE,aU,bS,dR,bB⟩:=id cc;have dD:=aM aL;simp(disch:=omega) [Se,Zb,Zc,bS,ca,aL,aI];exact bb _ _ (cc.step ⟨ht,c8 _,λ_ _=>rfl⟩ λj aX=>by simp at aX;rcases aX with rfl|rfl|rfl|rfl<;>simp)
theorem aFa{u:aG}(h:cE u){R:List Int}{Q:cM->aC->H->Prop}{z:aC}{t:H}(cc:zp u R (pB u R 0) z t)(g6:z 12=bm (kc u R))(pg:z 13=E 0)
 (bb: ∀K af,zp u R (dC u R) K af->Q (.cH 6) K af):ec N (.loop Sf) z t Q:=by
 have eW:=h.ok.fg;have ic:=h.ok.h2;have mo:=h.ok.j4;have bG:=h.ok.hl;refine gR (ax:=⟨[Fy u h.ok],[]⟩) (λi z t=>zp u R (pB u R i) z t/\z 12=bm (kc u R)/\z 13=E i) u.aY.length ?_ ?_ 0 z t (gi _) ⟨cc,g6,pg⟩
 ·rintro i z t W ⟨cc,g6,pg⟩ bM a1;obtain⟨ht,aL,aE,aU,bS,dR,bB⟩:=id cc;obtain⟨o,kh,jE,bq,dz⟩:=ht;have B:(kc u R)[i]?=some (h4 u R i):=(by rw[AA,vZ W]);have cS: ∀h,(kc u R)[i]'h=h4 u R i:= λh=>(cG.1 B).2;have yk:(kc u R).length=u.aY.length:=TC;have wY:i<(kc u R).length:=(by omega);have bC:(i:Int)<u.aY.length:=(by omega);have br:=fz (n:=i) (by omega);have dD:=aM aL;have Ch:=aM jE;have bk:=aM bq;have PT:i<=1000:=(by omega);have eV:(pB u R i).length<=100000:=by
   have:=Gi h.ok u.aZ.length;simp only[pB,nM,iv,k8,F6];omega
  have e8:((pB u R i).length+1)*32<=140737488355328/\(pB u R i).length<=9223372036854775806:=(by omega);have mN:List.take ((pB u R i).length*4) (fV (pB u R i))=fV (pB u R i):=h7 (by rw[Dm];exact c8 _);have WK: ¬o=9:= λe=>kh e.symm;have WL: ¬9=o:=kh;have aD: ¬(0:Nat)=o:=(dz 0 (by simp)).2.1;simp(disch:=first|omega|simp only[DI.aK];omega) [Sf,bS,bB,g6,pg,bC,br,cS,yk,aI,aL,jE,bq,e8,mN];have nz:vj u R i=c4.mk (dg u i) 1 (h4 u R i) 0:=rfl;refine a1 _ _ ⟨?_,by simp[g6],by simp⟩;rw[afV,nz];refine cc.step (MQ (x:=c4.mk (dg u i) 1 (h4 u R i) 0) kh jE bq dz ?_ ?_ ?_) (λj aX=> ?_)
  ·decide
  ·decide
  ·decide
  ·simp at aX;rcases aX with rfl|rfl|rfl|rfl<;>simp
 ·rintro z t ⟨cc,g6,pg⟩;rw[afU]at cc;obtain⟨ht,aL,aE,aU,bS,dR,bB⟩:=id cc;have dD:=aM aL;simp[Sf,bS,pg,aL,aI];exact bb _ _ (cc.step ⟨ht,c8 _,λ_ _=>rfl⟩ λj aX=>by simp at aX;rcases aX with rfl|rfl|rfl|rfl<;>simp)
theorem aFc{u:aG}(h:cE u){R:List Int}:fc N 81 [.agg (aI u).toArray,bm R] fJ λv bj=> ∃o,v= .tuple #[.agg #[E (im u R).dQ,E 0,E 1,b7 o (dC u R).length 4],E 0]/\bj.I o=some ⟨fV (dC u R),true⟩:=by
 have M:=h.ok.xK;have eW:=h.ok.fg;have ic:=h.ok.h2;have mo:=h.ok.j4;have bG:=h.ok.hl;have er:u.aZ.length<=1000/\u.aP.length<=1000/\u.aY.length<=1000:=by omega
 refine c2 (ax:=⟨[CL u h.fX,CJ u h.ok,Fy u h.ok,acu u h],[]⟩) alT (by kernel_rfl) (by simp[Sd]) ?_;simp(disch:=first|omega|simp only[DI.aK];omega) [Sd,alS,aI,-an,-au,-ak,-aq,-List.map_map];refine FY (o:=9) (j:=3) (G:=4) (cs:=[E (dg u u.aY.length),E 0,E 1,.slice none 0 0]) (by simp(disch:=first|omega|simp only[DI.aK];omega) [-an,-au,-ak,-aq,-List.map_map]) rfl ?_;refine aE9 h (R:=R) ⟨⟨11,by decide,?_,?_,λb hb=> ?_⟩,?_,?_,by simp,by simp,by simp,by simp⟩ (by simp) λbQ bj cc=> ?_
 ·simp(disch:=first|omega|simp only[DI.aK];omega) [-an,-au,-ak,-aq,-List.map_map]
 ·simp(disch:=first|omega|simp only[DI.aK];omega) [fV,-an,-au,-ak,-aq,-List.map_map]
 ·simp at hb⊢;rcases hb with rfl|rfl<;>simp
 ·simp(disch:=first|omega|simp only[DI.aK];omega) [aI,-an,-au,-ak,-aq,-List.map_map]
 ·simp(disch:=first|omega|simp only[DI.aK];omega) [-an,-au,-ak,-aq,-List.map_map]
 have aL:=cc.aL;have eA:=aM aL;have h6:=cc.aU;have mA:=cc.bS;simp(disch:=first|omega|simp only[DI.aK];omega) [alU,h6,mA,aL,aI,-an,-au,-ak,-aq,-List.map_map];refine aFa h (R:=R) (cc.step ⟨by simpa[pB]using cc.ht,c8 _,λ_ _=>rfl⟩ λj aX=>by simp at aX;rcases aX with rfl|rfl|rfl|rfl<;>simp) (by simp) (by simp) λc6 eC kC=> ?_;obtain⟨o,aD,aJ,cg,gA⟩:=kC.ht;have bK:=kC.aE;have hZ:=aM bK;have aB2:=aM aJ;have AT:=kC.dR;have IW:=kC.bB;have aaT:o≠1:= λe=>(gA 1 (by simp)).2.1 e.symm;simp(disch:=first|omega|simp only[DI.aK];omega) [alV,AT,IW,aJ,bK,-an,-au,-ak,-aq,-List.map_map];refine⟨o,⟨rfl,rfl⟩,?_⟩;rw[a7 aaT];exact cg
theorem aFb{u:aG}(h:cE u){R:List Int}(t:H):fc N 81 [.agg (aI u).toArray,bm R] t λv af=>v= .tuple #[.agg #[E (im u R).dQ,E 0,E 1,b7 t.next (dC u R).length 4],E 0]/\af=qb t.next [fV (dC u R)] (t.b0 1):=by
 refine adU (n:=1) (r:= λk=> .tuple #[.agg #[E (im u R).dQ,E 0,E 1,b7 k (dC u R).length 4],E 0]) (bs:= λ_=>[fV (dC u R)]) (λ_=>rfl) (λv M=>by simp at M;rcases M with rfl|rfl<;>rfl) ((aFc h).bD λv bj ⟨o,M,aH⟩=>⟨[o],by simp,rfl,λk=>⟨?_,λi cs ia=> ?_⟩⟩) t
 ·rw[M];exact nW.aqc (kp.cons (nW.U7 (kp.cons (.ha rfl) (kp.cons (.ha rfl) (kp.cons (.ha rfl) (kp.cons (.slice ⟨0,rfl,rfl⟩) kp.nil))))) (kp.cons (.ha rfl) kp.nil))
 ·cases i with
  | zero=>simp at ia;subst ia;refine⟨o,_,rfl,aH,kp.cells λv M=> ?_⟩;simp only[fV,zf,gG]at M;obtain⟨r,⟨a,_,rfl⟩,al⟩:=M;simp[gL]at al;rcases al with rfl|rfl|rfl|rfl<;>rfl
  |succ i=>simp at ia
noncomputable def Xq(u:aG)(h:cE u):jg N:= .cK 81 (List Int) (λR=>[.agg (aI u).toArray,bm R]) (λR t=>some (.tuple #[.agg #[E (im u R).dQ,E 0,E 1,b7 t.next (dC u R).length 4],E 0],qb t.next [fV (dC u R)] (t.b0 1))) λR t r af bT bA iA=>by cases bT;exact(aFb h t).bD λr af ⟨a,b⟩=>by rw[a,b];exact iA
@[simp] theorem aPD{u:aG}{h:cE u}:(Xq u h).f=81:=rfl
@[simp] theorem aPE{u:aG}{h:cE u}{R:List Int}{t:H}:(Xq u h).fn [.agg #[E u.ext,ad (u.eI.map gf) 4,ad (u.cr.map gp) 4,ad (u.aP.map eG) 7,ad (u.aY.map fk) 3,ad (u.dj.map dE) 17,ad (u.aZ.map ga) 2],ad (R.map λx=>[E x]) 1] t=some (.tuple #[.agg #[E (im u R).dQ,E 0,E 1,b7 t.next (dC u R).length 4],E 0],qb t.next [fV (dC u R)] (t.b0 1)):=jg.dx (x:=R) (t:=t) λy Y=>by
  have:y=R:=by simpa using Y
  rw[this]
open Go Go.DI Go.Big
theorem aqI{c:aw}{Q:cM->aC->H->Prop}{z:aC}{t:H}{o n:Nat}(aB:t.I o=some ⟨List.replicate n (.slice none 0 0),true⟩)
 (gK: ∀(af:H) (ps:List Nat),oT af o ps (List.replicate n [])->t.next<=af.next->(∀b,b<t.next->b≠o->af.I b=t.I b)->(∀p∈ps,t.next<=p)->ec N c z af Q):ec N c z t Q:=by
 have bk:=aM aB;have key: ∀(r k:Nat) (bj:H),k+r=n->bj.next=t.next+k->bj.I o=some ⟨iW n (λj=>if j<k then b7 (t.next+j) 0 1 else .slice none 0 0),true⟩->(∀j,j<k->bj.I (t.next+j)=some ⟨[],true⟩)->(∀b,b<t.next->b≠o->bj.I b=t.I b)->ec N c z bj Q:=by
  intro r;induction r with
  | zero=>
    intro k bj S ae bq al hb;obtain rfl:k=n:=(by omega);refine gK bj ((List.range k).map (t.next+ ·)) ⟨by simp,?_,?_,?_,λi p r Z GW=> ?_⟩ (by omega) hb λp Z=> ?_
    ·refine za.2 λi j W aX yg=> ?_;simp;omega
    ·simp;omega
    ·rw[bq,o8];simp only[I3];congr 2;refine sH λj aX=> ?_;rw[if_pos aX,Ue (p:=t.next+j) (r:=[]) (by simp[aX]) (by simp[aX])];rfl
    ·have W:i<k:=(by have:=(cG.1 GW).1;simpa using this);have aD:p=t.next+i:=by simp[W]at Z;exact Z.symm
     have aJ:r=[]:=(by simp[W]at GW;exact GW);subst aD aJ;exact al i W
    ·simp at Z;obtain⟨a,_,rfl⟩:=Z;omega
  | succ r cf=>
    intro k bj S ae bq al hb;have zY:k<n:=(by omega);have S4:=aM bq;refine FY (o:=o) (j:=k) (G:=1) (cs:=iW n (λj=>if j<k then b7 (t.next+j) 0 1 else .slice none 0 0)) bq (by rw[vZ zY,if_neg (Nat.lt_irrefl _)]) ?_;refine cf (k+1) _ (by omega) (by simp;omega) ?_ (λj aX=> ?_) λb wU tj=> ?_
    ·rw[cx (by simp;omega),Fp];congr 2;refine sH λj aX=> ?_;by_cases e:j=k
     ·subst e;rw[if_pos rfl,if_pos (by omega),ae]
     ·by_cases c:j<k
      ·rw[if_neg e,if_pos c,if_pos (by omega)]
      ·rw[if_neg e,if_neg c,if_neg (by omega)]
    ·by_cases e:j=k
     ·subst e;rw[<-ae,a7 (by omega),cx (by simp)]
     ·rw[a7 (by omega),a7 (by omega),cJ (by omega)];exact al j (by omega)
    ·rw[a7 tj,a7 (by omega),cJ (by omega)];exact hb b wU tj
 exact key n 0 t (by omega) rfl (by rw[aB,abI];congr 2) (λj aX=>absurd aX (xO _)) λb _ _=>rfl
theorem oT.MD{t:H}{o p:Nat}{ps:List Nat}{L:List (List Int)}(h:oT t o ps L)(Z:p∈ps):p<t.next:=by
 obtain⟨j,aX,e⟩:=lN Z;have lD:j<L.length:=by rw[<-h.len];exact aX
 exact aM (h.c3 j p _ (by rw[<-e];exact c1 aX) (c1 lD))
theorem oT.amH{t af:H}{o:Nat}{ps:List Nat}{L:List (List Int)}(h:oT t o ps L)(S: ∀b,b<t.next->af.I b=t.I b):oT af o ps L:=
 h.bD (S o (aM h.jd)) λp Z=>S p (h.MD Z)
theorem oT.agI{t af:H}{o dw p q:Nat}{ps:List Nat}{L:List (List Int)}{r:List Int}{x:Int}(h:oT t o ps L)(ch:L[dw]?=some r)(Z:ps[dw]?=some p)(bo:q≠o/\q∉ps)
 (A:af.I o=some ⟨(o8 ps L).set dw (b7 q (r.length+1) 1),true⟩) (D:af.I q=some ⟨(r++[x]).map E,true⟩) (ai: ∀b∈ps,b≠p->af.I b=t.I b):oT af o (ps.set dw q) (L.set dw (r++[x])):=by
 have GG:=(cG.1 ch).1;have PK:=(cG.1 Z).1;refine⟨by simp[h.len],?_,?_,?_,λi b s hb F=> ?_⟩
 ·refine za.2 λi j W aX yg=> ?_;simp only[List.length_set]at W aX;have bG:=za.1 h.fg i j W aX yg;rw[List.getElem_set,List.getElem_set];by_cases aD:dw=i
  ·rw[if_pos aD,if_neg (by omega)];exact λe=>bo.2 (e▸kd aX)
  ·rw[if_neg aD];by_cases aJ:dw=j
   ·rw[if_pos aJ];exact λe=>bo.2 (e▸kd W)
   ·rw[if_neg aJ];exact bG
 ·intro ab;rcases F4 ab with ab|rfl
  ·exact h.fL ab
  ·exact bo.1 rfl
 ·rw[A];congr 2;unfold o8;rw[List.length_set,Fp];refine sH λj aX=> ?_;by_cases e:j=dw
  ·subst e;rw[if_pos rfl,Ue (p:=q) (r:=r++[x]) (by rw[List.getElem?_set_self PK]) (by rw[List.getElem?_set_self GG])];simp
  ·rw[if_neg e];unfold Ud;simp only[nQ,Oi (λaJ=>e aJ.symm)]
 ·by_cases e:dw=i
  ·subst e;rw[List.getElem?_set_self PK]at hb;rw[List.getElem?_set_self GG]at F;cases hb;cases F;exact D
  ·rw[Oi e]at hb F;have bG:b≠p:= λaJ=>by
    subst aJ;have a:=cG.1 Z;have c:=cG.1 hb;have bT:=za.1 h.fg;rcases Nat.lt_trichotomy dw i with b6|b6|b6
    ·exact bT dw i a.1 c.1 b6 (a.2.trans c.2.symm)
    ·exact e b6
    ·exact bT i dw c.1 a.1 b6 (c.2.trans a.2.symm)
   rw[ai b (fr hb) bG];exact h.c3 i b s hb F
theorem oT.m1{t:H}{o dw:Nat}{ps:List Nat}{L:List (List Int)}{r:List Int}(h:oT t o ps L)(ch:L[dw]?=some r): ∃p,ps[dw]?=some p/\p∈ps/\t.I p=some ⟨r.map E,true⟩/\List.take 1 (List.drop dw (o8 ps L))=[b7 p r.length 1]/\dw+1<=(o8 ps L).length:=by
 have GG:=(cG.1 ch).1;have PK:dw<ps.length:=by rw[h.len];exact GG
 have Z:ps[dw]?=some ps[dw]:=c1 PK;refine⟨ps[dw],Z,fr Z,h.c3 dw _ r Z ch,?_,by simp[o8];omega⟩;have e:(o8 ps L)[dw]?=some (b7 ps[dw] r.length 1):=by rw[o8,vZ GG,Ue Z ch]
 have W:=(cG.1 e).1;rw[rb W,(cG.1 e).2];rfl
open Go Go.DI Go.hR
@[simp] theorem aRf{p:Option Addr}{l c:Nat}:fm (.slice p l c)=l:=rfl
@[simp] theorem aQI{p:Option Addr}{l c:Nat}:iC (.slice p l c)=true:=rfl
theorem aId{n:dH}{v:Value}{m:H}(M:m0 m v n.bp):ep N 184 [E8 n v] m λr U=>r= .bool (jK n)/\fx m U:=by
 rw[asI (by simp)];obtain⟨di,gO⟩:=M.len;have eE:fx m ((m.b0 2).aO m.next (some ⟨ma n v,true⟩)):=((fx.refl m).b0 2).aO (c8 _);have aH:((m.b0 2).aO m.next (some ⟨ma n v,true⟩)).I m.next=some ⟨ma n v,true⟩:=cx (by simp)
 have oZ: ∀(x:Int) (bA:Value->H->Prop),ep N 234 [E x,bH m.next] ((m.b0 2).aO m.next (some ⟨ma n v,true⟩)) bA=bA (.bool (jJ n x)) ((m.b0 2).aO m.next (some ⟨ma n v,true⟩)):= λx bA=>anH aH x bA;by_cases bK:n.dQ<2
 ·simp(disch:=first|omega|simp only[bE];omega) [Ac,bK];exact⟨(by first|(simp[jK, *];done)|(simp[jK];intros;omega)),eE⟩
 by_cases cz:700<n.dQ
 ·simp(disch:=first|omega|simp only[bE];omega) [Ac,bK,cz];exact⟨(by first|(simp[jK, *];done)|(simp[jK];intros;omega)),eE⟩
 by_cases dV:(2500:Int)<n.bp.length
 ·simp(disch:=first|omega|simp only[bE];omega) [Ac,di,gO,bK,cz,dV];exact⟨(by first|(simp[jK, *];done)|(simp[jK];intros;omega)),eE⟩
 by_cases gr:jJ n n.dI=false
 ·simp(disch:=first|omega|simp only[bE];omega) [Ac,di,gO,oZ,bK,cz,dV,gr];exact⟨(by first|(simp[jK, *];done)|(simp[jK];intros;omega)),eE⟩
 by_cases kj:jJ n n.eT=false
 ·simp(disch:=first|omega|simp only[bE];omega) [Ac,di,gO,oZ,bK,cz,dV,gr,kj];exact⟨(by first|(simp[jK, *];done)|(simp[jK];intros;omega)),eE⟩
 by_cases p6:n.dI=n.eT
 ·simp(disch:=first|omega|simp only[bE];omega) [Ac,di,gO,oZ,bK,cz,dV,gr,kj,eq_true p6];exact⟨(by first|(simp[jK, *];done)|(simp[jK];intros;omega)),eE⟩
 simp(disch:=first|omega|simp only[bE];omega) [Ac,di,gO,oZ,bK,cz,dV,gr,kj,p6];refine aqo aH (M.bD eE) (by omega) n.bp.length 0 _ _ (by omega) (fx.refl _) (by simp) (by simp[]) (by simp) (by simp) (λK U aE a2=> ?_) (λK U aE a2 cj=> ?_)
 ·simp;rw[oj]at a2;exact⟨by simp only[jK,a2];simp at gr kj;simp[bK,cz,gr,kj,p6];omega,eE.trans aE⟩
 ·simp[cj];rw[oj]at a2;exact⟨by simp only[jK,a2];simp,eE.trans aE⟩
theorem ao9{n:dH}{v:Value}{b:Nat}{eA:H}(ae:eA.I b=some ⟨ma n v,true⟩)(M:m0 eA v n.bp)(az:n.bp.length<100000){Q:cM->aC->H->Prop}: ∀(r i:Nat) (m:H) (z:aC),i+r=n.bp.length->fx eA m->
 z 1=bH b->z 3=E i->
 (∀K U,fx eA U->(n.bp.drop i).all (nX n)=true->Q (.cH 0) K U)->(∀K U,fx eA U->(n.bp.drop i).all (nX n)=false->K 2= .bool false->Q .e3 K U)->fG N (.loop yx) z m Q
 | 0,i,m,z,W,aB,aU,bW,bb,c0=>by refine j7 λbM a1=> ?_;obtain⟨di,gO⟩:=M.len;have A: ¬i<n.bp.length:=(by omega);have lg:=aB.some ae;simp(disch:=first|omega|simp only[bE];omega) [yx,aU,bW,A,lg,di,gO];exact bb _ _ aB (by rw[I2 (by omega)];rfl)
 | r+1,i,m,z,W,aB,aU,bW,bb,c0=>by
   refine j7 λbM a1=> ?_;have A:i<n.bp.length:=(by omega);obtain⟨a,aa⟩: ∃a,n.bp[i]?=some a:=⟨n.bp[i]'A,by simp⟩;have vA:n.bp.drop i=a::n.bp.drop (i+1):=by rw[rb A];rw[c1 A]at aa;cases aa;rfl
   obtain⟨c,o,rfl,ar⟩:=M.hI A;have mL:=aB.some ar;have lg:=aB.some ae;have tp:=aM lg;have yj:=aM mL;have tu:=aB.next
   have zQ:=aM ae;have hb:i*4+4<=n.bp.length*4:=(by omega);have ji:=Bb aa;have br:=fz (n:=i) (by omega);have next: ∀(K:aC) (U:H),nX n a=true->fx eA U->K 1=bH b->K 3=E ((i:Int)+1)->bM K U:=by
    intro K U av jF a8 cv;refine a1 _ _ (ao9 ae M az r (i+1) U K (by omega) jF a8 (by rw[cv];simp) (λk9 vV aE a2=>bb _ _ aE ?_) (λk9 vV aE a2 cj=>c0 _ _ aE ?_ cj))
    ·rw[vA,mZ,av,a2];rfl
    ·rw[vA,mZ,av,a2];rfl
   have stop: ∀(K:aC) (U:H),nX n a=false->fx eA U->K 2= .bool false->Q .e3 K U:= λK U kh jF bV=>c0 _ _ jF (by rw[vA,mZ,kh];rfl) bV;have iz: ∀k q y,m.next<=q->fx eA ((m.b0 k).aO q (some y)):= λk q y bo=>(aB.b0 k).aO (by omega)
   by_cases bK:a.f<0
   ·simp(disch:=first|omega|simp only[bE];omega) [yx,aU,bW,A,mL,lg,hb,ji,gL,bK];exact stop _ _ (by simp[nX,jJ];omega) (iz _ _ _ (by omega)) (by simp)
   by_cases cz:n.dQ<=a.f
   ·simp(disch:=first|omega|simp only[bE];omega) [yx,aU,bW,A,mL,lg,hb,ji,gL,bK,cz];exact stop _ _ (by simp[nX,jJ];omega) (iz _ _ _ (by omega)) (by simp)
   by_cases dV:a.t<0
   ·simp(disch:=first|omega|simp only[bE];omega) [yx,aU,bW,A,mL,lg,hb,ji,gL,bK,cz,dV];exact stop _ _ (by simp[nX,jJ];omega) (iz _ _ _ (by omega)) (by simp)
   by_cases gr:n.dQ<=a.t
   ·simp(disch:=first|omega|simp only[bE];omega) [yx,aU,bW,A,mL,lg,hb,ji,gL,bK,cz,dV,gr];exact stop _ _ (by simp[nX,jJ];omega) (iz _ _ _ (by omega)) (by simp)
   by_cases kj:a.c<0
   ·simp(disch:=first|omega|simp only[bE];omega) [yx,aU,bW,A,mL,lg,hb,ji,gL,bK,cz,dV,gr,kj];exact stop _ _ (by simp[nX,jJ];omega) (iz _ _ _ (by omega)) (by simp)
   by_cases p6:2147483647<a.c
   ·simp(disch:=first|omega|simp only[bE];omega) [yx,aU,bW,A,mL,lg,hb,ji,gL,bK,cz,dV,gr,kj,p6];exact stop _ _ (by simp[nX,jJ];omega) (iz _ _ _ (by omega)) (by simp)
   simp(disch:=first|omega|simp only[bE];omega) [yx,aU,bW,A,mL,lg,hb,ji,gL,br,bK,cz,dV,gr,kj,p6];exact next _ _ (by simp[nX,jJ];omega) (iz _ _ _ (by omega)) (by simp[aU]) (by simp)
theorem apa{n:dH}{v:Value}{m:H}(M:m0 m v n.bp):ep N 131 [E8 n v] m λr U=>r= .bool (jK n)/\fx m U:=by
 rw[asD (by simp)];obtain⟨di,gO⟩:=M.len;have eE:fx m ((m.b0 2).aO m.next (some ⟨ma n v,true⟩)):=((fx.refl m).b0 2).aO (c8 _);have aH:((m.b0 2).aO m.next (some ⟨ma n v,true⟩)).I m.next=some ⟨ma n v,true⟩:=cx (by simp)
 by_cases bK:n.dQ<2
 ·simp(disch:=first|omega|simp only[bE];omega) [xd,bK];exact⟨(by first|(simp[jK,jJ, *];done)|(simp[jK,jJ];intros;omega)),eE⟩
 by_cases cz:700<n.dQ
 ·simp(disch:=first|omega|simp only[bE];omega) [xd,bK,cz];exact⟨(by first|(simp[jK,jJ, *];done)|(simp[jK,jJ];intros;omega)),eE⟩
 by_cases dV:(2500:Int)<n.bp.length
 ·simp(disch:=first|omega|simp only[bE];omega) [xd,di,gO,bK,cz,dV];exact⟨(by first|(simp[jK,jJ, *];done)|(simp[jK,jJ];intros;omega)),eE⟩
 by_cases gr:n.dI<0
 ·simp(disch:=first|omega|simp only[bE];omega) [xd,di,gO,bK,cz,dV,gr];exact⟨(by first|(simp[jK,jJ, *];done)|(simp[jK,jJ];intros;omega)),eE⟩
 by_cases Mx:n.dQ<=n.dI
 ·simp(disch:=first|omega|simp only[bE];omega) [xd,di,gO,bK,cz,dV,gr,Mx];exact⟨(by first|(simp[jK,jJ, *];done)|(simp[jK,jJ];intros;omega)),eE⟩
 by_cases kj:n.eT<0
 ·simp(disch:=first|omega|simp only[bE];omega) [xd,di,gO,bK,cz,dV,gr,Mx,kj];exact⟨(by first|(simp[jK,jJ, *];done)|(simp[jK,jJ];intros;omega)),eE⟩
 by_cases Z5:n.dQ<=n.eT
 ·simp(disch:=first|omega|simp only[bE];omega) [xd,di,gO,bK,cz,dV,gr,Mx,kj,Z5];exact⟨(by first|(simp[jK,jJ, *];done)|(simp[jK,jJ];intros;omega)),eE⟩
 by_cases p6:n.dI=n.eT
 ·simp(disch:=first|omega|simp only[bE];omega) [xd,di,gO,bK,cz,dV,gr,Mx,kj,Z5,eq_true p6];exact⟨(by first|(simp[jK,jJ, *];done)|(simp[jK,jJ];intros;omega)),eE⟩
 simp(disch:=first|omega|simp only[bE];omega) [xd,di,gO,bK,cz,dV,gr,Mx,kj,Z5,p6];refine ao9 aH (M.bD eE) (by omega) n.bp.length 0 _ _ (by omega) (fx.refl _) (by simp) (by simp) (λK U aE a2=> ?_) (λK U aE a2 cj=> ?_)
 ·simp;rw[oj]at a2;exact⟨by simp only[jK,a2,jJ];simp;omega,eE.trans aE⟩
 ·simp[cj];rw[oj]at a2;exact⟨by simp only[jK,a2];simp,eE.trans aE⟩
end Go.Proofs.YtmmkkggfmigppaaGreat
