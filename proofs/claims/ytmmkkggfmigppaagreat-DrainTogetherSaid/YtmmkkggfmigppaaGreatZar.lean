/-
  A part of the proof, shortened by tools of ours.
-/
import Derived.Test.YtmmkkggfmigppaaGreatZaq
set_option linter.all false
set_option maxRecDepth 8000
set_option maxHeartbeats 16000000
namespace Go.Proofs.YtmmkkggfmigppaaGreat
open Go Go.DI Go.Big
theorem auq{dF:Type}{l:List dF}{f:dF->ByteArray}{cD:List ByteArray}{i:Nat}{x:dF}(B:l[i]?=some x)(a9:kA (cD++l.map f)=true):wP (cD++(l.take i).map f) (f x)=true:=by
 have e:cD++l.map f=((cD++(l.take i).map f)++[f x])++(l.drop (i+1)).map f:=by
  conv=>lhs;rw[<-List.take_append_drop (i+1) l,FN B]
  simp
 rw[e]at a9;have:=aqh a9;rw[aHZ,a6]at this;exact this.2
theorem Ii{u:aG}{dF:Type}{l:List dF}{ev:dF->ByteArray}{d c ij off:Nat}{ax:mG N}{rr:aw}(ai:3<=d)(dU:d<=7)(di:l.length<=1000){fP:Nat->Nat}{cl:Nat->List ByteArray}{eo:aC}{t0:H}(WQ:h8 u fP cl eo t0)(gY:(cl d).length<=10000)(a9:kA (cl d++l.map ev)=true)
 (hW:eo c=E off) (GU:off<=1) {Q:cM->aC->H->Prop}
 (body: ∀(i k:Nat) (S:k=i+off) (W:i<l.length) (z:aC) (t:H) (o:Nat) (L:List ByteArray),l[i]?=some l[i]->IntKind.i64.wrap ((k:Int)+1)=(k:Int)+1->z 1=bH 0->z 8= .bool true->z d= .slice (some ⟨o,0,none⟩) L.length 1->t.I 0=some ⟨aI u,true⟩->t.I o=some ⟨iH L,true⟩->0<t.next->o<t.next->o≠0->L.length<1000000->wP L (ev l[i])=true->z c=E k-> ∀bM:aC->H->Prop,
  (∀K af o',(∀k∈u9,k≠d->K k=z k)->K 8= .bool true->K d= .slice (some ⟨o',0,none⟩) (L.length+1) 1->af.I o'=some ⟨iH (L++[ev l[i]]),true⟩->t.next<=o'->t.next<=af.next->(∀b,b<t.next->b≠o->af.I b=t.I b)->K c=E ((k:Int)+1)->bM K af)->ix ax rr z t (rM bM Q))
 (done: ∀(z:aC) (t:H) (k:Nat),k=l.length+off->z 1=bH 0->z 8= .bool true->t.I 0=some ⟨aI u,true⟩->0<t.next->z c=E k->(∀K,(∀k∈u9,K k=z k)->K 8=z 8->Q (.cH ij) K t)->ix ax rr z t (rM (λ_ _=>False) Q))
 (bb: ∀z t jz,h8 u jz (h5 cl d (cl d++l.map ev)) z t->Q (.cH ij) z t):ec N (.loop rr) eo t0 Q:=by
 refine gR (ax:=ax) (λi z t=> ∃jz,h8 u jz (h5 cl d (cl d++(l.take i).map ev)) z t/\z c=E ((i+off:Nat):Int)) l.length ?_ ?_ 0 eo t0 (gi _) ⟨fP,?_,by simpa using hW⟩
 ·rintro i z t W ⟨jz,Z,hW⟩ bM a1;have B:l[i]?=some l[i]:=c1 W;have bq:=Z.g d ai dU;have kW:=Z.NK d ai dU;have iR:= λ(o':Nat) (K:aC) (af:H)=>h8.step Z d ai dU (o:=o') (z:=K) (t:=af) (MP:=[ev l[i]]) (n:=1) rfl;rw[AP]at bq kW iR;have ae:(cl d++(l.take i).map ev).length<20000:=(by rw[iv,k8,ri];omega);refine body i (i+off) rfl W z t (jz d) _ B (cY (by omega) (by omega)) Z.aU Z.bl kW Z.aL bq (aM Z.aL) (aM bq) (Z.yL d ai dU) (by omega) (auq B a9) hW bM λK af o' aD aJ cg gA jj l0 oB lC=> ?_;have:=iR o' K af aD aJ (by rw[cg]) gA (.inr jj) l0 oB;rw[aqi,apB B]at this;exact a1 _ _ ⟨_,this,by rw[lC];congr 1;omega⟩
 ·rintro z t ⟨jz,Z,hW⟩;rw[mY]at Z;exact done z t _ rfl Z.aU Z.bl Z.aL (aM Z.aL) hW λK A D=>bb _ _ jz (Z.ur D A)
 ·have:h5 cl d (cl d++(l.take 0).map ev)=cl:=by
   funext k;by_cases e:k=d
   ·subst e;simp
   ·rw[tU e]
  rw[this];exact WQ
theorem aFV{u:aG}(h:aG.fX u)(M:u.eI.all la.yM=true){fP:Nat->Nat}{cl:Nat->List ByteArray}{eo:aC}{t0:H}(Z:h8 u fP cl eo t0)(gY:(cl 3).length<=10000)(a9:kA (cl 3++u.eI.map (·.name))=true)(hP:eo 9=E 0){Q:cM->aC->H->Prop}
 (bb: ∀z t jz,h8 u jz (h5 cl 3 (cl 3++u.eI.map (·.name))) z t->Q (.cH 0) z t):ec N (.loop Sl) eo t0 Q:=by
 refine Ii (off:=0) (ax:=⟨[acx],[BV]⟩) (by decide) (by decide) h.Fb Z gY a9 (by simpa using hP) (by decide) ?_ ?_ bb
 ·intro i k S W z t o L B br aU bl kW aL bq dD bk fL Bx a5 hP bM a1;obtain rfl:k=i:=S;have bC:(k:Int)<u.eI.length:=(by omega);have eD:=h.eI _ (kd W);have eS:=dP.1 M _ (kd W);simp(disch:=first|omega|simp only[DI.aK];omega) [Sl,Zi,aI,gf,wQ,aU,bl,hP,kW,aL,bq,bC,br,a5,eS,-an,-au,-ak,-aq,-List.map_map];refine a1 _ _ (t.next) (we (d:=3) ?_ ?_ ?_ ?_ ?_ ?_) ?_ ?_ ?_ (by omega) ?_ (λb hb nA=> ?_) ?_
  all_goals first
   |(intro aV;first|(exact absurd rfl aV)|(simp;done))
   |(simp(disch:=first|omega|simp only[DI.aK];omega) [-an,-au,-ak,-aq,-List.map_map];done)
   |(simp(disch:=first|omega|simp only[DI.aK];omega) [hb,nA,-an,-au,-ak,-aq,-List.map_map];done)
   |(simp(disch:=first|omega|simp only[DI.aK];omega) [-an,-au,-ak,-aq,-List.map_map];omega)
 ·intro z t k S aU bl aL dD hP h9;have dm: ¬(k:Int)<u.eI.length:=(by omega);simp(disch:=first|omega|simp only[DI.aK];omega) [Sl,Zi,aI,aU,hP,aL,dm,-an,-au,-ak,-aq,-List.map_map];exact h9 _ (nK (by simp) (by simp) (by simp) (by simp) (by simp) (by simp)) (by simp)
theorem aFW{u:aG}(h:aG.fX u)(M:u.cr.all (Cm u.eI.length)=true){fP:Nat->Nat}{cl:Nat->List ByteArray}{eo:aC}{t0:H}(Z:h8 u fP cl eo t0)(gY:(cl 4).length<=10000)(a9:kA (cl 4++u.cr.map (·.name))=true)(hP:eo 10=E 0){Q:cM->aC->H->Prop}
 (bb: ∀z t jz,h8 u jz (h5 cl 4 (cl 4++u.cr.map (·.name))) z t->Q (.cH 2) z t):ec N (.loop Sm) eo t0 Q:=by
 refine Ii (off:=0) (ax:=⟨[wa],[BV]⟩) (by decide) (by decide) h.ev Z gY a9 (by simpa using hP) (by decide) ?_ ?_ bb
 ·intro i k S W z t o L B br aU bl kW aL bq dD bk fL Bx a5 hP bM a1;obtain rfl:k=i:=S;have bC:(k:Int)<u.cr.length:=(by omega);have sR:IntKind.i64.wrap ((u.eI.length:Int)-1)=(u.eI.length:Int)-1:=cY (by omega) (by have:=h.Fb;omega);have f:=dP.1 M _ (kd W);simp only[Cm,a6]at f;obtain⟨eD,eS,gN⟩:=f;simp(disch:=first|omega|simp only[DI.aK];omega) [Sm,aI,gp,wQ,aU,bl,hP,kW,aL,bq,bC,br,a5,sR,eD,eS,gN,-an,-au,-ak,-aq,-List.map_map];refine a1 _ _ (t.next+7) (we (d:=4) ?_ ?_ ?_ ?_ ?_ ?_) ?_ ?_ ?_ (by omega) ?_ (λb hb nA=> ?_) ?_
  all_goals first
   |(intro aV;first|(exact absurd rfl aV)|(simp;done))
   |(simp(disch:=first|omega|simp only[DI.aK];omega) [-an,-au,-ak,-aq,-List.map_map];done)
   |(simp(disch:=first|omega|simp only[DI.aK];omega) [hb,nA,-an,-au,-ak,-aq,-List.map_map];done)
   |(simp(disch:=first|omega|simp only[DI.aK];omega) [-an,-au,-ak,-aq,-List.map_map];omega)
 ·intro z t k S aU bl aL dD hP h9;have dm: ¬(k:Int)<u.cr.length:=(by omega);simp(disch:=first|omega|simp only[DI.aK];omega) [Sm,aI,aU,hP,aL,dm,-an,-au,-ak,-aq,-List.map_map];exact h9 _ (nK (by simp) (by simp) (by simp) (by simp) (by simp) (by simp)) (by simp)
theorem aFY{u:aG}(h:aG.fX u)(M:u.aY.all (Bl u.cr.length u.aP)=true){fP:Nat->Nat}{cl:Nat->List ByteArray}{eo:aC}{t0:H}(Z:h8 u fP cl eo t0)(gY:(cl 5).length<=10000)(a9:kA (cl 5++u.aY.map (·.name))=true)(hP:eo 15=E 0){Q:cM->aC->H->Prop}
 (bb: ∀z t jz,h8 u jz (h5 cl 5 (cl 5++u.aY.map (·.name))) z t->Q (.cH 6) z t):ec N (.loop So) eo t0 Q:=by
 refine Ii (off:=0) (ax:=⟨[wa],[BV]⟩) (by decide) (by decide) h.h2 Z gY a9 (by simpa using hP) (by decide) ?_ ?_ bb
 ·intro i k S W z t o L B br aU bl kW aL bq dD bk fL Bx a5 hP bM a1;obtain rfl:k=i:=S;have bC:(k:Int)<u.aY.length:=(by omega);have sR:IntKind.i64.wrap ((u.cr.length:Int)-1)=(u.cr.length:Int)-1:=cY (by omega) (by have:=h.ev;omega);have N7:IntKind.i64.wrap ((u.aP.length:Int)-1)=(u.aP.length:Int)-1:=cY (by omega) (by have:=h.fg;omega);have f:=dP.1 M _ (kd W);simp only[Bl,a6]at f;obtain⟨eD,eS,gN⟩:=f;obtain⟨aR,dz⟩:=jX (uG.1 eS).1;rw[dz]at eS gN;have DS:aR<u.aP.length:=(by have:=uG.1 eS;omega);have uy:(aR:Int)<u.aP.length:=(by omega);have bo:u.aP[aR]?=some u.aP[aR]:=c1 DS;have f4:u.aP[aR].jQ=4:=(by unfold MI at gN;rw[ns,bo]at gN;simpa using gN);simp(disch:=first|omega|simp only[DI.aK];omega) [So,aI,fk,wQ,aU,bl,hP,kW,aL,bq,bC,br,a5,sR,N7,eG,eD,eS,dz,uy,f4,-an,-au,-ak,-aq,-List.map_map];refine a1 _ _ (t.next+7) (we (d:=5) ?_ ?_ ?_ ?_ ?_ ?_) ?_ ?_ ?_ (by omega) ?_ (λb hb nA=> ?_) ?_
  all_goals first
   |(intro aV;first|(exact absurd rfl aV)|(simp;done))
   |(simp(disch:=first|omega|simp only[DI.aK];omega) [-an,-au,-ak,-aq,-List.map_map];done)
   |(simp(disch:=first|omega|simp only[DI.aK];omega) [hb,nA,-an,-au,-ak,-aq,-List.map_map];done)
   |(simp(disch:=first|omega|simp only[DI.aK];omega) [-an,-au,-ak,-aq,-List.map_map];omega)
 ·intro z t k S aU bl aL dD hP h9;have dm: ¬(k:Int)<u.aY.length:=(by omega);simp(disch:=first|omega|simp only[DI.aK];omega) [So,aI,aU,hP,aL,dm,-an,-au,-ak,-aq,-List.map_map];exact h9 _ (nK (by simp) (by simp) (by simp) (by simp) (by simp) (by simp)) (by simp)
theorem aF2{u:aG}(h:aG.fX u)(M:u.aZ.all (FW u.dj.length)=true){fP:Nat->Nat}{cl:Nat->List ByteArray}{eo:aC}{t0:H}(Z:h8 u fP cl eo t0)(gY:(cl 7).length<=10000)(a9:kA (cl 7++u.aZ.map (·.name))=true)(hP:eo 21=E 0){Q:cM->aC->H->Prop}
 (bb: ∀z t jz,h8 u jz (h5 cl 7 (cl 7++u.aZ.map (·.name))) z t->Q (.cH 14) z t):ec N (.loop Ss) eo t0 Q:=by
 refine Ii (off:=0) (ax:=⟨[wa],[BV]⟩) (by decide) (by decide) h.j4 Z gY a9 (by simpa using hP) (by decide) ?_ ?_ bb
 ·intro i k S W z t o L B br aU bl kW aL bq dD bk fL Bx a5 hP bM a1;obtain rfl:k=i:=S;have bC:(k:Int)<u.aZ.length:=(by omega);have sR:IntKind.i64.wrap ((u.dj.length:Int)-1)=(u.dj.length:Int)-1:=cY (by omega) (by have:=h.As;omega);have eD:=dP.1 M _ (kd W);simp only[FW]at eD;simp(disch:=first|omega|simp only[DI.aK];omega) [Ss,aI,ga,wQ,aU,bl,hP,kW,aL,bq,bC,br,a5,sR,eD,-an,-au,-ak,-aq,-List.map_map];refine a1 _ _ (t.next) (we (d:=7) ?_ ?_ ?_ ?_ ?_ ?_) ?_ ?_ ?_ (by omega) ?_ (λb hb nA=> ?_) ?_
  all_goals first
   |(intro aV;first|(exact absurd rfl aV)|(simp;done))
   |(simp(disch:=first|omega|simp only[DI.aK];omega) [-an,-au,-ak,-aq,-List.map_map];done)
   |(simp(disch:=first|omega|simp only[DI.aK];omega) [hb,nA,-an,-au,-ak,-aq,-List.map_map];done)
   |(simp(disch:=first|omega|simp only[DI.aK];omega) [-an,-au,-ak,-aq,-List.map_map];omega)
 ·intro z t k S aU bl aL dD hP h9;have dm: ¬(k:Int)<u.aZ.length:=(by omega);simp(disch:=first|omega|simp only[DI.aK];omega) [Ss,aI,aU,hP,aL,dm,-an,-au,-ak,-aq,-List.map_map];exact h9 _ (nK (by simp) (by simp) (by simp) (by simp) (by simp) (by simp)) (by simp)
theorem aFX{u:aG}(h:aG.fX u){R:ho}{ds:List ho}(ka:u.aP=R::ds)(M:uv u.aP=true){fP:Nat->Nat}{cl:Nat->List ByteArray}{eo:aC}{t0:H}(Z:h8 u fP cl eo t0)(gY:(cl 5).length<=10000)(a9:kA (cl 5++ds.map (·.name))=true)(hP:eo 13=E 1){Q:cM->aC->H->Prop}
 (bb: ∀z t jz,h8 u jz (h5 cl 5 (cl 5++ds.map (·.name))) z t->Q (.cH 4) z t):ec N (.loop Sn) eo t0 Q:=by
 refine Ii (off:=1) (ax:=⟨[wa,TW],[BV]⟩) (by decide) (by decide) (by have:=h.fg;rw[ka]at this;simp at this;omega) Z gY a9 (by simpa using hP) (by decide) ?_ ?_ bb
 ·intro i k S W z t o L B br aU bl kW aL bq dD bk fL Bx a5 hP bM a1;have WA:u.aP.length=ds.length+1:=(by rw[ka];rfl);have lF:=afQ (ka▸M) B;rw[<-ka]at lF;obtain⟨bU,h9⟩: ∃bU,bU=ds[i]:=⟨_,rfl⟩;rw[<-h9]at B a5 a1 lF;have B:u.aP[k]?=some bU:=(by rw[S,ka,I0];exact B);have aOW:k<u.aP.length:=(by omega);have cS:=(cG.1 B).2;have dq:IntKind.i64.wrap ((k:Int)-1)=(i:Int):=(by rw[show(k:Int)-1=i by omega];exact cY (by have:=h.fg;omega) (by have:=h.fg;omega));have bC:(k:Int)<u.aP.length:=(by omega);have rH:bU.pk.dq:=h.aP bU (fr B);clear h9;obtain⟨aNO,Vu,aNP,aNS,⟨aNN,aNL,aNM⟩⟩:=bU;simp only[zC,a6]at lF rH a5 a1;obtain⟨eS,vH,eD,f4,f5⟩:=lF;have aN0:=uG.1 eD;have sR:IntKind.i64.wrap (Vu-1)=Vu-1:=cY (by omega) (by omega);have VM:=uG.1 eS;obtain⟨aR,rfl⟩:=jX VM.1;have DS:aR<u.aP.length:=(by omega);have uy:(aR:Int)<u.aP.length:=(by omega);have bo:u.aP[aR]?=some u.aP[aR]:=c1 DS;have gN:u.aP[aR].jQ=Vu-1:=(by unfold ME at vH;simp only[ns,bo]at vH;simpa using vH);simp(disch:=first|omega|simp only[DI.aK];omega) [Sn,aI,eG,wQ,aU,bl,hP,kW,aL,bq,bC,br,a5,dq,cS,eD,eS,sR,uy,gN,f4,f5,-an,-au,-ak,-aq,-List.map_map];refine a1 _ _ (t.next+7) (we (d:=5) ?_ ?_ ?_ ?_ ?_ ?_) ?_ ?_ ?_ (by omega) ?_ (λb hb nA=> ?_) ?_
  all_goals first
   |(intro aV;first|(exact absurd rfl aV)|(simp;done))
   |(simp(disch:=first|omega|simp only[DI.aK];omega) [-an,-au,-ak,-aq,-List.map_map];done)
   |(simp(disch:=first|omega|simp only[DI.aK];omega) [hb,nA,-an,-au,-ak,-aq,-List.map_map];done)
   |(simp(disch:=first|omega|simp only[DI.aK];omega) [-an,-au,-ak,-aq,-List.map_map];omega)
 ·intro z t k S aU bl aL dD hP h9;have dm: ¬(k:Int)<u.aP.length:=(by rw[ka];simp;omega);simp(disch:=first|omega|simp only[DI.aK];omega) [Sn,aI,aU,hP,aL,dm,-an,-au,-ak,-aq,-List.map_map];exact h9 _ (nK (by simp) (by simp) (by simp) (by simp) (by simp) (by simp)) (by simp)
theorem aF1{u:aG}(h:aG.fX u)(M:u.dj.all (tW · u.cr.length)=true){fP:Nat->Nat}{cl:Nat->List ByteArray}{eo:aC}{t0:H}(Z:h8 u fP cl eo t0)(gY:(cl 6).length<=10000)(a9:kA (cl 6++u.dj.map (·.name))=true)(hP:eo 17=E 0){Q:cM->aC->H->Prop}
 (bb: ∀z t jz,h8 u jz (h5 cl 6 (cl 6++u.dj.map (·.name))) z t->Q (.cH 8) z t):ec N (.loop Sr) eo t0 Q:=by
 refine Ii (off:=0) (ax:=⟨[acs,acr],[BV]⟩) (by decide) (by decide) h.As Z gY a9 (by simpa using hP) (by decide) ?_ ?_ bb
 ·intro i k S W z t o L B br aU bl kW aL bq dD bk fL Bx a5 hP bM a1;obtain rfl:k=i:=S;have bC:(k:Int)<u.dj.length:=(by omega);have lF:=dP.1 M _ (kd W);obtain⟨ek,gm,kT,rV⟩:=h.dj _ (kd W);obtain⟨x,w6⟩: ∃x,x=u.dj[k]:=⟨_,rfl⟩;rw[<-w6]at B a5 a1 lF ek gm kT rV;have cS:u.dj[k]=x:=w6.symm;clear w6;obtain⟨ev,q9,m,q,⟨a,b,c,d,e⟩,h0,pe,⟨hn,CV,CW⟩,⟨ae,aa,hb⟩⟩:=x;simp only[tW,a6,r7]at lF ek gm kT rV a5 a1;obtain⟨eD,avA,eS,av4⟩:=lF;have BF: ¬h0.length=0:= λe=>by rw[<-List.isEmpty_iff_length_eq_zero,avA]at e;cases e
  have ag5:(0:Int)<h0.length:=(by omega);have avy:0<h0.length:=(by omega);have vO:(0<=m/\m<=4)/\((∀x∈pe,x.dq)/\pe.length<1000000)/\(cq.mk hn CV CW).dq/\(cq.mk ae aa hb).dq:=⟨uG.1 (by simp only[mr,a6]at eD;exact eD.2.1),ek,gm,kT⟩;simp(disch:=first|omega|simp only[DI.aK];omega) [Sr,aI,dE,wQ,aU,bl,hP,kW,aL,bq,bC,a5,cS,eD,eS,avy,-an,-au,-ak,-aq,-List.map_map];refine aF0 h (x:=⟨ev,q9,m,q,⟨a,b,c,d,e⟩,h0,pe,⟨hn,CV,CW⟩,⟨ae,aa,hb⟩⟩) (q:=t.next+5) (by simpa only[aau,a6]using av4) rV (by simp(disch:=first|omega|simp only[DI.aK];omega) [aL,-an,-au,-ak,-aq,-List.map_map]) (by simp(disch:=first|omega|simp only[DI.aK];omega) [dE,-an,-au,-ak,-aq,-List.map_map]) (by simp[aU]) (by simp) (by simp) (by simp) λc6 F lC=> ?_;have atN:c6 17=E k:=(F 17 (by decide)).trans (by simp[hP]);simp(disch:=first|omega|simp only[DI.aK];omega) [atN,br,-an,-au,-ak,-aq,-List.map_map];refine a1 _ _ (t.next+7) (we (d:=6) ?_ ?_ ?_ ?_ ?_ ?_) ?_ ?_ ?_ (by omega) ?_ (λb hb nA=> ?_) ?_
  all_goals first
   |(intro aV;first|(exact absurd rfl aV)|(simp[F 1 (by decide),F 3 (by decide),F 4 (by decide),F 5 (by decide),F 7 (by decide)];done))
   |(simp(disch:=first|omega|simp only[DI.aK];omega) [F 6 (by decide),lC,-an,-au,-ak,-aq,-List.map_map];done)
   |(simp(disch:=first|omega|simp only[DI.aK];omega) [hb,nA,-an,-au,-ak,-aq,-List.map_map];done)
   |(simp(disch:=first|omega|simp only[DI.aK];omega) [-an,-au,-ak,-aq,-List.map_map];omega)
 ·intro z t k S aU bl aL dD hP h9;have dm: ¬(k:Int)<u.dj.length:=(by omega);simp(disch:=first|omega|simp only[DI.aK];omega) [Sr,aI,aU,hP,aL,dm,-an,-au,-ak,-aq,-List.map_map];exact h9 _ (nK (by simp) (by simp) (by simp) (by simp) (by simp) (by simp)) (by simp)
theorem aFm{x:eQ}(bY:0<=x.n):(x.ok&&decide (rQ x .nil=0))=(x.small&& !decide (0<x.n)):=by
 simp only[eQ.ok,eQ.small,C9,anZ bY];by_cases bw:x.n=0
 ·simp[bw]
 ·have:0<x.n:=(by omega);simp[bw,this]
theorem h8.atf{u:aG}{fP:Nat->Nat}{cl:Nat->List ByteArray}{z K:aC}{t af:H}(h:h8 u fP cl z t)(g1:K 8=z 8)(F: ∀k∈u9,K k=z k)(ba: ∀o,o<t.next->af.I o=t.I o):h8 u fP cl K af:=by obtain⟨a8,bV,cv,fQ,g0,mS,Tx⟩:=h.ur g1 F;exact⟨a8,bV,(ba _ (aM cv)).trans cv,fQ,λk a b=>(ba _ (aM (g0 k a b))).trans (g0 k a b),mS,Tx⟩
theorem aHc{a b c d e f:Nat}:wc a b c d e f=(decide (a<=4)&&(decide (b<=4)&&(decide (c<=40)&&(decide (d<=24)&&(decide (e<=4)&&decide (f<=12)))))):=by
 unfold wc;congr 1
 ·exact decide_eq_decide.2 (by omega)
 congr 1
 ·exact decide_eq_decide.2 (by omega)
 congr 1
 ·exact decide_eq_decide.2 (by omega)
 congr 1
 ·exact decide_eq_decide.2 (by omega)
 congr 1
 ·exact decide_eq_decide.2 (by omega)
 ·exact decide_eq_decide.2 (by omega)
theorem aF3{u:aG}(h:aG.fX u){R:ho}(g3:u.aP[0]?=some R)(al:AB R=true){fP:Nat->Nat}{cl:Nat->List ByteArray}{z:aC}{t:H}(Z:h8 u fP cl z t){Q:cM->aC->H->Prop}
 (D: ∀K af,h8 u fP cl K af->ix (P:=N) ⟨[wa,ND,NG,Fz],[]⟩ Zh K af Q):ix (P:=N) ⟨[wa,ND,NG,Fz],[]⟩ Sk z t Q:=by
 have P1:0<u.aP.length:=(cG.1 g3).1;have BL:(0:Int)<u.aP.length:=by omega
 have Xh:=(cG.1 g3).2;have Z6:R.pk.dq:=h.aP R (fr g3);have aU:=Z.aU;have bl:=Z.bl;have aL:=Z.aL;have dD:=aM aL;have M:=aFm (x:=R.pk.bZ) (cq.ik Z6);obtain⟨aTr,aTq,aTv,aTw,⟨aoM,aoz,pd⟩⟩:=R;simp only[AB]at Z6 M al;rw[<-M]at al;simp only[a6,ey]at al;obtain⟨b6,cR,lz,ji,xY,Be⟩:=al;have S:(cq.mk aoM aoz pd).dq/\(cq.mk aoM aoz pd).bZ.ok=true:=⟨Z6,xY⟩;simp(disch:=first|omega|simp only[DI.aK];omega) [Sk,Sk,aI,eG,aU,bl,aL,P1,Xh,b6,cR,lz,ji,xY,Be,-an,-au,-ak,-aq,-List.map_map];exact D _ _ (Z.atf (by simp[bl]) (nK (by simp) (by simp) (by simp) (by simp) (by simp) (by simp)) (λo aB=>by simp(disch:=first|omega|simp only[DI.aK];omega) [-an,-au,-ak,-aq,-List.map_map]))
theorem ao8{u:aG}(h:aG.fX u)(M:oO u=true):bP N 87 [.agg (aI u).toArray] (.bool true):=by
 simp only[oO,a6,ey]at M;obtain⟨A,dD,hZ,jw,aac,aad,EW,aV,bt,bR,a3,a4,ft,mz,FR,C1,adr,adt⟩:=M;refine du (c2 (ax:=⟨[wa,ND,NG,Fz],[]⟩) az8 (by kernel_rfl) (by simp[Zg]) ?_);have D:wc u.eI.length u.cr.length u.aP.length u.aY.length u.dj.length u.aZ.length=true:=by rw[aHc];simp[dD,hZ,jw,aac,aad,EW]
 obtain⟨R,ds,ka⟩: ∃R ds,u.aP=R::ds:=by
  cases bo:u.aP with
  |nil=>rw[bo]at aV;cases aV
  |cons R ds=>exact⟨R,ds,rfl⟩
 have GY:AB R=true:=by rw[ka,Vv,a6]at aV;exact aV.1
 have W5:u.aP.tail=ds:=by rw[ka];rfl
 rw[W5]at C1;have vD: ¬u.aP.length=0:=by rw[ka];simp
 have oE: ¬(u.aP.length:Int)=0:=by omega
 have BL:(0:Int)<u.aP.length:=by omega
 have P1:0<u.aP.length:=by omega
 have g3:u.aP[0]?=some R:=by rw[ka];rfl
 have BG:ds.length<=39:=by rw[ka]at jw;simp at jw;omega
 simp(disch:=first|omega|simp only[DI.aK];omega) [Zg,al3,aI,A,D,vD,-an,-au,-ak,-aq,-List.map_map];refine aqJ (u:=u) (by simp) (by simp) (by simp) (by simp) (by simp) (by simp) (by simp) (by simp(disch:=first|omega|simp only[DI.aK];omega) [aI,-an,-au,-ak,-aq,-List.map_map]) λz t fP Z S=> ?_;refine aFV h bt Z (by simp) mz ((S 9 (by decide)).trans (by simp)) λz t fP Z=> ?_;simp(disch:=first|omega|simp only[DI.aK];omega) [al8,-an,-au,-ak,-aq,-List.map_map];refine aFW h bR (Z.ur (by simp) (nK (by simp) (by simp) (by simp) (by simp) (by simp) (by simp))) (by simp[h5]<;>omega) (by simpa[h5]using FR) (by simp) λz t fP Z=> ?_;refine aF3 h g3 GY Z λz t Z=> ?_;simp(disch:=first|omega|simp only[DI.aK];omega) [Zh,-an,-au,-ak,-aq,-List.map_map];refine aFX h ka aV (Z.ur (by simp) (nK (by simp) (by simp) (by simp) (by simp) (by simp) (by simp))) (by simp[h5]<;>omega) (by simpa[h5]using(aqh C1)) (by simp) λz t fP Z=> ?_;simp(disch:=first|omega|simp only[DI.aK];omega) [al4,-an,-au,-ak,-aq,-List.map_map];refine aFY h a3 (Z.ur (by simp) (nK (by simp) (by simp) (by simp) (by simp) (by simp) (by simp))) (by simp[h5]<;>omega) (by simpa[h5]using C1) (by simp) λz t fP Z=> ?_;simp(disch:=first|omega|simp only[DI.aK];omega) [al5,-an,-au,-ak,-aq,-List.map_map];refine aF1 h a4 (Z.ur (by simp) (nK (by simp) (by simp) (by simp) (by simp) (by simp) (by simp))) (by simp[h5]<;>omega) (by simpa[h5]using adr) (by simp) λz t fP Z=> ?_;simp(disch:=first|omega|simp only[DI.aK];omega) [al6,-an,-au,-ak,-aq,-List.map_map];refine aF2 h ft (Z.ur (by simp) (nK (by simp) (by simp) (by simp) (by simp) (by simp) (by simp))) (by simp[h5]<;>omega) (by simpa[h5]using adt) (by simp) λz t fP Z=> ?_;simp(disch:=first|omega|simp only[DI.aK];omega) [al7,Z.bl,-an,-au,-ak,-aq,-List.map_map]
noncomputable def CL(u:aG)(h:aG.fX u):bx N:= .cK 87 Unit (λ_=>oO u=true) (λ_=>[.agg (aI u).toArray]) (λ_=> .bool true) λ_ M=>ao8 h M
@[simp] theorem aVj{u:aG}{h:aG.fX u}:(CL u h).f=87:=rfl
@[simp] theorem aVk{u:aG}{h:aG.fX u}(M:oO u=true):(CL u h).fn [.agg #[E u.ext,ad (u.eI.map gf) 4,ad (u.cr.map gp) 4,ad (u.aP.map eG) 7,ad (u.aY.map fk) 3,ad (u.dj.map dE) 17,ad (u.aZ.map ga) 2]]=some (.bool true):=bx.dx (x:=()) M λ_ _=>rfl
theorem aF5{u:aG}(h:aG.fX u)(M:oO u=true):bP N 66 [.agg (aI u).toArray] (E 0):=by refine du (c2 (ax:=⟨[CL u h],[]⟩) azN (by kernel_rfl) (by simp[Y4]) ?_);simp(disch:=first|omega|simp only[DI.aK];omega) [Y4,alE,aI,-an,-au,-ak,-aq,-List.map_map]
def jL(u:aG)(i:Nat):Nat:=match u.aP[i]? with|some d=>d.parent.toNat|none=>0
def hD(u:aG)(i:Nat):Int:=match u.aP[i]? with|some d=>d.jQ|none=>0
structure fj(u:aG):Prop where
 xK:oO u=true
 Fb:u.eI.length<=4
 ev:u.cr.length<=4
 fg:u.aP.length<=40
 h2:u.aY.length<=24
 As:u.dj.length<=4
 j4:u.aZ.length<=12
 hl:0<u.aP.length
 q2:hD u 0=0/\ ∀d,u.aP[0]?=some d->d.parent= -1/\d.jQ=0
 lf: ∀(i:Nat) (d:ho),0<i->u.aP[i]?=some d->0<=d.parent/\d.parent<i/\hD u d.parent.toNat=d.jQ-1/\1<=d.jQ/\d.jQ<=4
 tf: ∀(i:Nat) (x:oS),u.aY[i]?=some x->0<=x.model/\x.model<u.cr.length/\0<=x.yD/\x.yD<u.aP.length/\hD u x.yD.toNat=4
 HW: ∀(i:Nat) (x:F8),u.cr[i]?=some x->1<=x.ext/\x.ext<=16
 p9: ∀(i:Nat) (x:hQ),u.dj[i]?=some x->mr x.k x.m x.q x.ax=true/\x.cr≠[]/\(∀m∈x.cr,0<=m/\m<u.cr.length)/\x.cr.Nodup
 N4: ∀(i:Nat) (x:s5),u.aZ[i]?=some x->0<=x.p9/\x.p9<u.dj.length
theorem m9{x a b:Int}(h:fH x a b=true):a<=x/\x<=b:=uG.1 h
theorem aDC{u:aG}(h:oO u=true):fj u:=by
 have bY:=h;simp only[oO,a6,ey]at h;obtain⟨A,D,ai,aT,bF,cW,dU,g1,iQ,DQ,PD,J5,V1,Bv,V2,V3,V4,aOx⟩:=h;unfold uv at g1;cases aV:u.aP with
 |nil=>rw[aV]at g1;cases g1
 | cons R l=>
   rw[aV]at g1;simp only[a6]at g1;obtain⟨c0,az⟩:=g1;simp only[AB,a6,ey]at c0;have ahg:u.aP[0]?=some R:=(by rw[aV];rfl);have aaq: ∀i q,u.aP[i]?=some q->hD u i=q.jQ:= λi q bo=>by simp only[hD,bo]
   refine⟨bY,D,ai,aT,bF,cW,dU,by rw[aV];simp,⟨by rw[aaq 0 R ahg];exact c0.2.1,λd uz=>by rw[ahg]at uz;cases uz;exact⟨c0.2.2.1,c0.2.1⟩⟩,λi d W B=> ?_,λi x B=> ?_,λi x B=> ?_,λi x B=> ?_,λi x B=> ?_⟩
   ·obtain⟨j,rfl⟩: ∃j,i=j+1:=⟨i-1,by omega⟩;have aX:l[j]?=some d:=(by rw[aV,I0]at B;exact B);have:=dP.1 az j (om.2 (cG.1 aX).1);rw[aX]at this;simp only[zC,a6]at this;obtain⟨bt,bR,a3,a4,ft⟩:=this;have er:=m9 bt;have g8:=m9 a3;refine⟨er.1,by omega,?_,g8.1,g8.2⟩;unfold ME at bR;split at bR
    ·next q bo=>rw[aaq _ q (by rw[aV];exact bo)];exact of_decide_eq_true bR
    ·cases bR
   ·have:=dP.1 PD x (fr B);simp only[Bl,a6]at this;obtain⟨bt,bR,a3⟩:=this;have er:=m9 bt;have eO:=m9 bR;refine⟨er.1,by omega,eO.1,by omega,?_⟩;unfold MI at a3;split at a3
    ·next q bo=>rw[aaq _ q bo];exact of_decide_eq_true a3
    ·cases a3
   ·have:=dP.1 DQ x (fr B);simp only[Cm,a6]at this;exact m9 this.1
   ·have:=dP.1 J5 x (fr B);simp only[tW,a6,ey]at this;obtain⟨bt,bR,a3,a4,ft⟩:=this;refine⟨bt,by intro e;rw[e]at bR;simp at bR,λm ab=> ?_,ft⟩;have:=m9 (dP.1 a4 m ab);exact⟨this.1,by omega⟩
   ·have:=dP.1 V1 x (fr B);simp only[FW]at this;have:=m9 this;exact⟨this.1,by omega⟩
section
variable {u:aG}
theorem fj.gl(h:fj u){i:Nat}(W:i<u.aP.length):0<=hD u i/\hD u i<=4:=by
 have B:u.aP[i]?=some u.aP[i]:=c1 W;have e:hD u i=u.aP[i].jQ:=by simp only[hD,B]
 cases i with
 |zero=>rw[h.q2.1];omega
 |succ i=>rw[e];have:=h.lf _ _ (by omega) B;omega
theorem fj.ni(h:fj u){i:Nat}(W:i<u.aP.length)(Z:0<hD u i):jL u i<i/\hD u (jL u i)=hD u i-1/\0<i:=by
 have B:u.aP[i]?=some u.aP[i]:=c1 W;have e:hD u i=u.aP[i].jQ:=by simp only[hD,B]
 have aJ:jL u i=u.aP[i].parent.toNat:=by simp only[jL,B]
 cases i with
 |zero=>rw[h.q2.1]at Z;omega
 | succ i=>have:=h.lf _ _ (by omega) B;rw[aJ,e];refine⟨by omega,this.2.2.1,by omega⟩
theorem fj.vX(h:fj u){i:Nat}(W:i<u.aP.length)(bY:0<i):0<hD u i:=by
 have B:u.aP[i]?=some u.aP[i]:=c1 W;have e:hD u i=u.aP[i].jQ:=by simp only[hD,B]
 have:=h.lf _ _ bY B;omega
def mg(u:aG)(gl:Int):Nat->Nat->Nat
 |0,i=>i
 |k+1,i=>if hD u i>gl then mg u gl k (jL u i)else i
def oA(u:aG)(n:Nat):Nat->Nat->Nat
 |0,i=>i
 |k+1,i=>if i>n then oA u n k (jL u i)else i
theorem U3(h:fj u){n:Nat}(ae:n<u.aP.length): ∀{k e7 i:Nat},i<u.aP.length->hD u i<=hD u n+k->i<=n+e7->(mg u (hD u n) k i=n↔oA u n e7 i=n)
 | k,e7,i,W,A,D=>by
   have vH:=(h.gl ae).1;by_cases e:i=n
   ·subst e;have aD:mg u (hD u i) k i=i:=(by cases k with|zero=>rfl|succ k=>unfold mg;rw[if_neg (by omega)]);have aJ:oA u i e7 i=i:=(by cases e7 with|zero=>rfl|succ k=>unfold oA;rw[if_neg (by omega)]);simp[aD,aJ]
   by_cases b6:hD u i>hD u n
   ·obtain⟨k,rfl⟩: ∃j,k=j+1:=⟨k-1,by omega⟩;obtain⟨a,b,c⟩:=h.ni W (by omega);have aD:mg u (hD u n) (k+1) i=mg u (hD u n) k (jL u i):=(by rw[mg,if_pos b6]);rw[aD];by_cases cR:i>n
    ·obtain⟨e7,rfl⟩: ∃j,e7=j+1:=⟨e7-1,by omega⟩;have aJ:oA u n (e7+1) i=oA u n e7 (jL u i):=(by rw[oA,if_pos cR]);rw[aJ];exact U3 h ae (by omega) (by omega) (by omega)
    ·-- U8 aMF cK i aXk OO n
     have aJ:oA u n e7 i=i:=(by cases e7 with|zero=>rfl|succ k=>unfold oA;rw[if_neg (by omega)]);rw[aJ];have cQ: ∀{k i:Nat},i<u.aP.length->mg u (hD u n) k i<=i:=by
      intro k;induction k with
      |zero=>intro i _;exact c8 _
      | succ k cf=>
        intro i W;unfold mg;split
        ·next aH=>have:=(h.ni W (by omega)).1;have:=cf (i:=jL u i) (by omega);omega
        ·exact c8 _
     have:=cQ (k:=k) (i:=jL u i) (by omega);exact⟨λbT=>by omega,λbT=>absurd bT e⟩
   ·have aD:mg u (hD u n) k i=i:=(by cases k with|zero=>rfl|succ k=>unfold mg;rw[if_neg b6]);rw[aD];refine⟨λbT=>absurd bT e,λbT=> ?_⟩
    -- pR jQ only aN1 on pR aYB iu
    have aCK: ∀{e7 i:Nat},i<u.aP.length->oA u n e7 i=n->i=n\/hD u n<hD u i:=by
     intro e7;induction e7 with
     |zero=>intro i _ bT;exact .inl bT
     | succ e7 cf=>
       intro i W bT;unfold oA at bT;split at bT
       ·next aH=>
        obtain⟨a,b,c⟩:=h.ni W (h.vX W (by omega));rcases cf (by omega) bT with e|e
        ·right;rw[<-e];omega
        ·right;omega
       ·exact .inl bT
    rcases aCK W bT with dd|dd
    ·exact absurd dd e
    ·omega
end
def ly(u:aG)(d:Nat)(n:Int):Bool:=match u.aY[d]? with
 |some x=>decide (n=u.aP.length+d)||(decide (0<n)&&decide (n<u.aP.length)&&decide (oA u n.toNat u.aP.length x.yD.toNat=n.toNat))
 |none=>false
def iD(u:aG)(d:Nat):Nat:=match u.aY[d]? with|some x=>x.yD.toNat|none=>0
def p0(u:aG)(d:Nat):Int:=match u.aY[d]? with
 |some x=>(match u.cr[x.model.toNat]? with|some m=>m.ext|none=>0)
 |none=>0
def kc(u:aG)(cN:List Int):List Int:=(List.range u.aY.length).map λd=>if cN.length=u.aY.length then max 0 (min (cN.getD d 0) (p0 u d))else p0 u d
def Bm(u:aG)(n:Nat):List Int:=((List.range u.aY.length).filter λd=>decide (mg u (hD u n) 5 (iD u d)=n)).map λd:Nat=>(d:Int)
def iF(u:aG)(v:Nat):Int:=match u.aZ[v]? with
 |some x=>(match u.dj[x.p9.toNat]? with|some p=>p.k+p.m|none=>0)
 |none=>0
def Fq(u:aG)(v:Nat)(r:List Int):Bool:=decide ((r.length:Int)=iF u v)&&r.all λx=>decide (-1<=x)&&decide (x<u.aY.length)
def tR(u:aG)(L:List (List Int)):Bool:=decide (L.length=u.aZ.length)&&(List.range L.length).all λv=>match L[v]? with
 |some r=>Fq u v r
 |none=>true
open Go Go.DI
section
set_option maxRecDepth 100000
def amo:cp N 52:=⟨_,by conv=>lhs;reduce⟩
def HE:aw:=aF (a:=bg amo.1.body 151) ⟨_,by conv=>lhs;reduce⟩
def YT:aw:=aF (a:= λx=>bh 151 x amo.1.body) ⟨_,by conv=>lhs;reduce⟩ HE
def HD:b8:=⟨47,[.bJ 4],YT⟩
theorem YU:cd N 52=some HD:=by kernel_rfl
def amq:cp N 63:=⟨_,by conv=>lhs;reduce⟩
def R2:aw:=aF (a:=bg amq.1.body 151) ⟨_,by conv=>lhs;reduce⟩
def alA:aw:=aF (a:= λx=>bh 151 x amq.1.body) ⟨_,by conv=>lhs;reduce⟩ R2
def R1:b8:=⟨53,[.bJ 4],alA⟩
theorem alB:cd N 63=some R1:=by kernel_rfl
def SE:cp N 86:=⟨_,by conv=>lhs;reduce⟩
def LW:aw:=aF (a:=bg SE.1.body 75) ⟨_,by conv=>lhs;reduce⟩
def HJ:aw:=aF (a:=bg SE.1.body 15) ⟨_,by conv=>lhs;reduce⟩
def al2:aw:=aF (a:= λx y=>bh 3 y (bh 18 x (bg SE.1.body 7))) ⟨_,by conv=>lhs;reduce⟩ LW HJ
def Zf:aw:=aF (a:= λx=>bh 7 x SE.1.body) ⟨_,by conv=>lhs;reduce⟩ al2
def Sj:b8:=⟨33,[.bJ 4],Zf⟩
theorem az7:cd N 86=some Sj:=by kernel_rfl
def aAi:cp N 115:=⟨_,by conv=>lhs;reduce⟩
def aip:aw:=aF (a:=aAi.1.body) ⟨_,by conv=>lhs;reduce⟩
def Qu:b8:=⟨6,[.bJ 2],aip⟩
theorem aiq:cd N 115=some Qu:=by kernel_rfl
def Zq:cp N 116:=⟨_,by conv=>lhs;reduce⟩
def Qw:aw:=aF (a:=bg Zq.1.body 151) ⟨_,by conv=>lhs;reduce⟩
def KW:aw:=aF (a:=bg Zq.1.body 31) ⟨_,by conv=>lhs;reduce⟩
def air:aw:=aF (a:= λx y=>bh 31 y (bh 151 x Zq.1.body)) ⟨_,by conv=>lhs;reduce⟩ Qw KW
def Qv:b8:=⟨45,[.bJ 4],air⟩
theorem ais:cd N 116=some Qv:=by kernel_rfl
def Zu:cp N 130:=⟨_,by conv=>lhs;reduce⟩
def QN:aw:=aF (a:=bg Zu.1.body 37) ⟨_,by conv=>lhs;reduce⟩
def K1:aw:=aF (a:=bg Zu.1.body 7) ⟨_,by conv=>lhs;reduce⟩
def aiS:aw:=aF (a:= λx y=>bh 7 y (bh 37 x Zu.1.body)) ⟨_,by conv=>lhs;reduce⟩ QN K1
def QM:b8:=⟨27,[.bJ 6],aiS⟩
theorem aiT:cd N 130=some QM:=by kernel_rfl
def aAo:cp N 132:=⟨_,by conv=>lhs;reduce⟩
def aiW:aw:=aF (a:=aAo.1.body) ⟨_,by conv=>lhs;reduce⟩
def QO:b8:=⟨21,[.bJ 4],aiW⟩
theorem aiX:cd N 132=some QO:=by kernel_rfl
def Sz:cp N 133:=⟨_,by conv=>lhs;reduce⟩
def K2:aw:=aF (a:=bg Sz.1.body 75) ⟨_,by conv=>lhs;reduce⟩
def He:aw:=aF (a:=bg Sz.1.body 15) ⟨_,by conv=>lhs;reduce⟩
def aiY:aw:=aF (a:= λx y=>bh 3 y (bh 18 x (bg Sz.1.body 7))) ⟨_,by conv=>lhs;reduce⟩ K2 He
def XZ:aw:=aF (a:= λx=>bh 7 x Sz.1.body) ⟨_,by conv=>lhs;reduce⟩ aiY
def QP:b8:=⟨50,[.ha 6 true 3,.bJ 7],XZ⟩
theorem axC:cd N 133=some QP:=by kernel_rfl
def amh:cp N 180:=⟨_,by conv=>lhs;reduce⟩
def Lb:aw:=aF (a:=bg amh.1.body 35) ⟨_,by conv=>lhs;reduce⟩
def ajn:aw:=aF (a:= λx=>bh 35 x amh.1.body) ⟨_,by conv=>lhs;reduce⟩ Lb
def Q4:b8:=⟨29,[.bJ 6],ajn⟩
theorem ajo:cd N 180=some Q4:=by kernel_rfl
def aAI:cp N 187:=⟨_,by conv=>lhs;reduce⟩
def ajz:aw:=aF (a:=aAI.1.body) ⟨_,by conv=>lhs;reduce⟩
def Yf:b8:=⟨21,[.bJ 4],ajz⟩
theorem ax3:cd N 187=some Yf:=by kernel_rfl
end
theorem ari{u:aG}(h:fj u){gl:Int}(bY:0<=gl){Q:cM->aC->H->Prop}: ∀(k i:Nat) (z:aC) (t:H),i<u.aP.length->hD u i<=gl+k->t.I 0=some ⟨aI u,true⟩->z 3=bH 0->z 7=E i->z 2=E gl->(∀K af,K 7=E (mg u gl k i)->Q (.cH 0) K af)->ec N (.loop Lb) z t Q:=by
 intro k;induction k with
 | zero=>intro i z t W S aL bW ca bS bb;refine eF (ax:=⟨[],[]⟩) λbM a1=> ?_;obtain⟨d,B⟩:=gk W;have cS:=(cG.1 B).2;have e:hD u i=d.jQ:=(by simp only[hD,B]);have bC:(i:Int)<u.aP.length:=(by omega);have aH: ¬gl<d.jQ:=(by omega);have dD:=aM aL;simp(disch:=omega) [Lb,bW,ca,bS,aL,aI,eG,bC,cS,aH];exact bb _ _ (by simp[ca,mg])
 | succ k cf=>
   intro i z t W S aL bW ca bS bb;refine eF (ax:=⟨[],[]⟩) λbM a1=> ?_;obtain⟨d,B⟩:=gk W;have cS:=(cG.1 B).2;have e:hD u i=d.jQ:=(by simp only[hD,B]);have aJ:jL u i=d.parent.toNat:=(by simp only[jL,B]);have bC:(i:Int)<u.aP.length:=(by omega);have dD:=aM aL;by_cases aH:gl<d.jQ
   ·obtain⟨a,b,c⟩:=h.ni W (by omega);obtain⟨p,Z⟩:=jX (h.lf i d c B).1;have oF:jL u i=p:=(by rw[aJ,Z];rfl);rw[oF]at a b;simp(disch:=omega) [Lb,bW,ca,bS,aL,aI,eG,bC,cS,aH,Z];refine a1 _ _ (cf p _ _ (by omega) (by omega) (by simp(disch:=first|omega|simp only[bE];omega) [aL,aI,-an,-au,-ak,-aq,-List.map_map]) (by simp[bW]) (by simp) (by simp[bS]) λK af F=>bb K af ?_);rw[F,mg,if_pos (by omega),oF]
   ·simp(disch:=omega) [Lb,bW,ca,bS,aL,aI,eG,bC,cS,aH];exact bb _ _ (by rw[mg,if_neg (by omega)];simp[ca])
theorem arj{u:aG}(h:fj u){d:Nat}(aV:d<u.aY.length){gl:Int}(bY:0<=gl):bP N 180 [.agg (aI u).toArray,E d,E gl] (E (mg u gl 5 (iD u d))):=by
 refine du (c2 (ax:=⟨[],[]⟩) ajo (by kernel_rfl) (by simp[Q4]) ?_);obtain⟨x,B⟩:=gk aV;have cS:=(cG.1 B).2;obtain⟨bt,bR,a3,a4,ft⟩:=h.tf d x B;obtain⟨m,ab⟩:=jX a3;have vI:iD u d=m:=by simp only[iD,B,ab];rfl
 have bC:(d:Int)<u.aY.length:=by omega
 rw[ab]at ft;simp(disch:=first|omega|simp only[bE];omega) [Q4,ajn,aI,fk,bC,cS,ab,-an,-au,-ak,-aq,-List.map_map];refine ari h bY 5 m _ _ (by omega) (by have:hD u m=4:=ft;omega) (by simp(disch:=first|omega|simp only[bE];omega) [aI,-an,-au,-ak,-aq,-List.map_map]) (by simp) (by simp) (by simp) λK af F=> ?_;rw[vI];simp(disch:=first|omega|simp only[bE];omega) [F]
noncomputable def TS(u:aG)(h:fj u):bx N:= .cK 180 (Nat×Int) (λx=>x.1<u.aY.length/\0<=x.2) (λx=>[.agg (aI u).toArray,E x.1,E x.2]) (λx=>E (mg u x.2 5 (iD u x.1))) λx B=>arj h B.1 B.2
@[simp] theorem aUI{u:aG}{h:fj u}:(TS u h).f=180:=rfl
@[simp] theorem aUJ{u:aG}{h:fj u}{d:Nat}{gl:Int}(aV:d<u.aY.length/\0<=gl):(TS u h).fn [.agg #[E u.ext,ad (u.eI.map gf) 4,ad (u.cr.map gp) 4,ad (u.aP.map eG) 7,ad (u.aY.map fk) 3,ad (u.dj.map dE) 17,ad (u.aZ.map ga) 2],E d,E gl]=some (E (mg u gl 5 (iD u d))):=bx.dx (x:=(d,gl)) aV λ⟨ko,h6⟩ Y=>by simp at Y⊢;omega
structure cE(u:aG):Prop where
 ok:fj u
 fX:aG.fX u
noncomputable def CM(u:aG)(h:aG.fX u):bx N:= .cK 62 Unit (λ_=>oO u=true) (λ_=>[.agg (aI u).toArray]) (λ_=>E 0) λ_ M=>aqp h M
@[simp] theorem aVG{u:aG}{h:aG.fX u}:(CM u h).f=62:=rfl
@[simp] theorem aVH{u:aG}{h:aG.fX u}(M:oO u=true):(CM u h).fn [.agg #[E u.ext,ad (u.eI.map gf) 4,ad (u.cr.map gp) 4,ad (u.aP.map eG) 7,ad (u.aY.map fk) 3,ad (u.dj.map dE) 17,ad (u.aZ.map ga) 2]]=some (E 0):=bx.dx (x:=()) M λ_ _=>rfl
noncomputable def FB(u:aG)(h:aG.fX u):bx N:= .cK 66 Unit (λ_=>oO u=true) (λ_=>[.agg (aI u).toArray]) (λ_=>E 0) λ_ M=>aF5 h M
@[simp] theorem aVI{u:aG}{h:aG.fX u}:(FB u h).f=66:=rfl
@[simp] theorem aVJ{u:aG}{h:aG.fX u}(M:oO u=true):(FB u h).fn [.agg #[E u.ext,ad (u.eI.map gf) 4,ad (u.cr.map gp) 4,ad (u.aP.map eG) 7,ad (u.aY.map fk) 3,ad (u.dj.map dE) 17,ad (u.aZ.map ga) 2]]=some (E 0):=bx.dx (x:=()) M λ_ _=>rfl
theorem aEk{u:aG}(h:aG.fX u)(M:oO u=true):bP N 115 [.agg (aI u).toArray] (.bool true):=by refine du (c2 (ax:=⟨[CM u h],[]⟩) aiq (by kernel_rfl) (by simp[Qu]) ?_);simp(disch:=first|omega|simp only[bE];omega) [Qu,aip,aI,-an,-au,-ak,-aq,-List.map_map]
noncomputable def CI(u:aG)(h:aG.fX u):bx N:= .cK 115 Unit (λ_=>oO u=true) (λ_=>[.agg (aI u).toArray]) (λ_=> .bool true) λ_ M=>aEk h M
@[simp] theorem aUF{u:aG}{h:aG.fX u}:(CI u h).f=115:=rfl
@[simp] theorem aUG{u:aG}{h:aG.fX u}(M:oO u=true):(CI u h).fn [.agg #[E u.ext,ad (u.eI.map gf) 4,ad (u.cr.map gp) 4,ad (u.aP.map eG) 7,ad (u.aY.map fk) 3,ad (u.dj.map dE) 17,ad (u.aZ.map ga) 2]]=some (.bool true):=bx.dx (x:=()) M λ_ _=>rfl
theorem aCY{G e:Int}(h:0<=e):(if e<(if G<0 then 0 else G)then e else(if G<0 then 0 else G))=max 0 (min G e):=by split<;>split at* <;>omega
theorem aCZ{G e:Int}(h:0<=e):(if 0<(if e<G then e else G)then(if e<G then e else G)else 0)=max 0 (min G e):=by split<;>split at* <;>omega
def h4(u:aG)(cN:List Int)(d:Nat):Int:=if cN.length=u.aY.length then max 0 (min (cN.getD d 0) (p0 u d))else p0 u d
theorem AA{u:aG}{cN:List Int}:kc u cN=iW u.aY.length (h4 u cN):=rfl
theorem su{l:List Int}: ∀r∈l.map (λx=>[E x]),r.length=1/\ ∀v∈r,hB v=true:= λr al=>by obtain⟨x,_,rfl⟩:=gG.1 al;exact⟨rfl,λv M=>by simp at M;subst M;rfl⟩
theorem l5{l:List Int}:(l.map (λx=>[E x])).flatten=l.map E:=by
 induction l with
 |nil=>rfl
 |cons x l cf=>simp[cf]
theorem Xy{l:List Int}: ∀v∈l.map E,hB v=true:= λv M=>by obtain⟨x,_,rfl⟩:=gG.1 M;rfl
theorem aog{u:aG}(h:cE u){cN:List Int}:fc N 63 [.agg (aI u).toArray,bm cN] fJ λv bj=> ∃o,v=b7 o u.aY.length 1/\bj.I o=some ⟨(kc u cN).map E,true⟩:=by
 refine c2 (ax:=⟨[CI u h.fX],[]⟩) alB (by kernel_rfl) (by simp[R1]) ?_;have M:=h.ok.xK;have ic:=h.ok.h2;have e8:(u.aY.length:Int)*8<=140737488355328/\u.aY.length<=140737488355328/\(u.aY.length:Int)<=140737488355328/\(u.aY.length:Int)<=9223372036854775807:=by omega
 simp(disch:=first|omega|simp only[bE];omega) [R1,alA,aI,e8,-an,-au,-ak,-aq,-List.map_map];refine gR (ax:=⟨[CI u h.fX],[]⟩) (λi z t=>t.I 0=some ⟨aI u,true⟩/\t.I 5=some ⟨iW u.aY.length (λj=>if j<i then E (h4 u cN j)else E 0),true⟩/\z 1=bm cN/\z 2=bH 0/\z 5=b7 5 u.aY.length 1/\z 15=E u.aY.length/\z 16=E i) u.aY.length ?_ ?_ 0 _ _ (gi _) ⟨by simp(disch:=first|omega|simp only[bE];omega) [aI,-an,-au,-ak,-aq,-List.map_map],by simp(disch:=first|omega|simp only[bE];omega) [-an,-au,-ak,-aq,-List.map_map];exact abI,by simp,by simp,by simp,by simp,by simp⟩
 ·rintro i z t W ⟨aL,fB,aU,bS,bz,CE,u2⟩ bM a1;obtain⟨x,B⟩:=gk W;have cS:=(cG.1 B).2;obtain⟨bt,bR,a3,a4,ft⟩:=h.ok.tf i x B;obtain⟨m,ab⟩:=jX bt;have rD:m<u.cr.length:=(by omega);obtain⟨y,Y⟩:=gk rD;have mO:=(cG.1 Y).2;have g2:p0 u i=y.ext:=(by simp only[p0,B,ab,ns,Y]);have hb:=h.ok.HW m y Y;have bC:(i:Int)<u.aY.length:=(by omega);have a8:(m:Int)<u.cr.length:=(by omega);have qK:i+1<=u.aY.length:=W;have br:=fz (n:=i) (by omega);have dD:=aM aL;have EW:=aM fB;by_cases al:cN.length=u.aY.length
  ·have p4:(cN.length:Int)=u.aY.length:=(by omega);have n9:i<cN.length:=(by omega);have awr:(i:Int)<cN.length:=(by omega);obtain⟨G,bw⟩:=gk n9;have Xo:=(cG.1 bw).2;have z5:h4 u cN i=max 0 (min G y.ext):=(by unfold h4;rw[if_pos al,g2,nQ,bw];rfl);simp(disch:=first|omega|simp only[bE];omega) [R2,aI,fk,gp,aU,bS,bz,CE,u2,aL,fB,bC,a8,br,cS,ab,mO,al,Xo,vZ,Fp,fC,qK,-an,-au,-ak,-aq,-List.map_map];refine a1 _ _ ⟨by simp(disch:=first|omega|simp only[bE];omega) [aL,aI,-an,-au,-ak,-aq,-List.map_map],?_,by simp[aU],by simp[bS],by simp[bz],by simp[CE],by simp⟩;simp(disch:=first|omega|simp only[bE];omega) [-an,-au,-ak,-aq,-List.map_map];refine sH λj aX=> ?_;by_cases e:j=i
   ·subst e;have pE:j<j+1:=(by omega);rw[if_pos rfl,if_pos pE,z5];exact congrArg E (aCY (by omega))
   ·by_cases c:j<i
    ·have b6:j<i+1:=(by omega);simp only[if_neg e,if_pos c,if_pos b6]
    ·have b6: ¬j<i+1:=(by omega);simp only[if_neg e,if_neg c,if_neg b6]
  ·have p4: ¬(cN.length:Int)=u.aY.length:=(by omega);have z5:h4 u cN i=y.ext:=(by unfold h4;rw[if_neg al,g2]);simp(disch:=first|omega|simp only[bE];omega) [R2,aI,fk,gp,aU,bS,bz,CE,u2,aL,fB,bC,a8,br,cS,ab,mO,p4,Fp,qK,-an,-au,-ak,-aq,-List.map_map];refine a1 _ _ ⟨by simp(disch:=first|omega|simp only[bE];omega) [aL,aI,-an,-au,-ak,-aq,-List.map_map],?_,by simp[aU],by simp[bS],by simp[bz],by simp[CE],by simp⟩;simp(disch:=first|omega|simp only[bE];omega) [-an,-au,-ak,-aq,-List.map_map];refine sH λj aX=> ?_;by_cases e:j=i
   ·subst e;have pE:j<j+1:=(by omega);rw[if_pos rfl,if_pos pE,z5]
   ·by_cases c:j<i
    ·have b6:j<i+1:=(by omega);simp only[if_neg e,if_pos c,if_pos b6]
    ·have b6: ¬j<i+1:=(by omega);simp only[if_neg e,if_neg c,if_neg b6]
 ·rintro z t ⟨aL,fB,aU,bS,bz,CE,u2⟩;simp(disch:=first|omega|simp only[bE];omega) [R2,bz,CE,u2,-an,-au,-ak,-aq,-List.map_map];rw[fB,AA,Im];rw[sH (g:= λj=>E (h4 u cN j)) λj aX=>if_pos aX]
theorem aD9{u:aG}(h:cE u){cN:List Int}:bP N 63 [.agg (aI u).toArray,bm cN] (bm (kc u cN)):=
 NZ (n:=u.aY.length) (by rw[k8,AA,TB]) su (by rw[l5];exact aog h)
theorem TC{u:aG}{cN:List Int}:(kc u cN).length=u.aY.length:=by rw[AA,TB]
theorem ao0{u:aG}(h:cE u){cN:List Int}:fc N 52 [.agg (aI u).toArray,bm cN] fJ λv bj=> ∃o,v=b7 o u.aY.length 1/\bj.I o=some ⟨(kc u cN).map E,true⟩:=by
 refine c2 (ax:=⟨[CL u h.fX],[]⟩) YU (by kernel_rfl) (by simp[HD]) ?_;have M:=h.ok.xK;have ic:=h.ok.h2;simp(disch:=first|omega|simp only[bE];omega) [HD,YT,aI,-an,-au,-ak,-aq,-List.map_map];refine tY (d:=5) (G:=1) (by simp) ?_;refine gR (ax:=⟨[CL u h.fX],[]⟩) (λi z t=>t.I 0=some ⟨aI u,true⟩/\(∃o,o≠0/\z 5=b7 o i 1/\t.I o=some ⟨iW i (λj=>E (h4 u cN j)),true⟩)/\z 1=bm cN/\z 2=bH 0/\z 6=E i) u.aY.length ?_ ?_ 0 _ _ (gi _) ⟨by simp(disch:=first|omega|simp only[bE];omega) [aI,-an,-au,-ak,-aq,-List.map_map],⟨2,by decide,by simp,by simp(disch:=first|omega|simp only[bE];omega) [iW,-an,-au,-ak,-aq,-List.map_map]⟩,by simp,by simp,by simp⟩
 ·rintro i z t W ⟨aL,⟨o,aB,bz,bq⟩,aU,bS,bB⟩ bM a1;obtain⟨x,B⟩:=gk W;have cS:=(cG.1 B).2;obtain⟨bt,bR,a3,a4,ft⟩:=h.ok.tf i x B;obtain⟨m,ab⟩:=jX bt;have rD:m<u.cr.length:=(by omega);obtain⟨y,Y⟩:=gk rD;have mO:=(cG.1 Y).2;have g2:p0 u i=y.ext:=(by simp only[p0,B,ab,ns,Y]);have hb:=h.ok.HW m y Y;have bC:(i:Int)<u.aY.length:=(by omega);have a8:(m:Int)<u.cr.length:=(by omega);have qK:i+1<=u.aY.length:=W;have br:=fz (n:=i) (by omega);have dD:=aM aL;have bk:=aM bq;have e8:(i+1)*8<=140737488355328/\i<=9223372036854775806:=(by omega);by_cases al:cN.length=u.aY.length
  ·have p4:(cN.length:Int)=u.aY.length:=(by omega);have n9:i<cN.length:=(by omega);have awr:(i:Int)<cN.length:=(by omega);obtain⟨G,bw⟩:=gk n9;have Xo:=(cG.1 bw).2;have z5:h4 u cN i=max 0 (min G y.ext):=(by unfold h4;rw[if_pos al,g2,nQ,bw];rfl);have eV: ¬y.ext<0:=(by omega);simp(disch:=first|omega|simp only[bE];omega) [HE,aI,fk,gp,aU,bS,bz,bB,aL,bq,bC,a8,br,cS,ab,mO,al,Xo,e8,-an,-au,-ak,-aq,-List.map_map];refine a1 _ _ ⟨by simp(disch:=first|omega|simp only[bE];omega) [aL,aI,-an,-au,-ak,-aq,-List.map_map],⟨t.next+3,by omega,by simp,?_⟩,by simp[aU],by simp[bS],by simp⟩;rw[cx (by simp),h7 (by simp),abJ,z5];simp only[mB,eM.mk.injEq,and_true,List.append_cancel_left_eq,ub];exact congrArg E (aCZ (by omega))
  ·have p4: ¬(cN.length:Int)=u.aY.length:=(by omega);have z5:h4 u cN i=y.ext:=(by unfold h4;rw[if_neg al,g2]);simp(disch:=first|omega|simp only[bE];omega) [HE,aI,fk,gp,aU,bS,bz,bB,aL,bq,bC,a8,br,cS,ab,mO,p4,e8,-an,-au,-ak,-aq,-List.map_map];refine a1 _ _ ⟨by simp(disch:=first|omega|simp only[bE];omega) [aL,aI,-an,-au,-ak,-aq,-List.map_map],⟨t.next+3,by omega,by simp,?_⟩,by simp[aU],by simp[bS],by simp⟩;rw[cx (by simp),h7 (by simp),abJ,z5]
 ·rintro z t ⟨aL,⟨o,aB,bz,bq⟩,aU,bS,bB⟩;have dD:=aM aL;simp(disch:=first|omega|simp only[bE];omega) [HE,aI,aL,bS,bz,bB,-an,-au,-ak,-aq,-List.map_map];rw[bq,AA,Im]
theorem aFv{u:aG}(h:cE u){cN:List Int}:bP N 52 [.agg (aI u).toArray,bm cN] (bm (kc u cN)):=
 NZ (n:=u.aY.length) (by rw[k8,TC]) su (by rw[l5];exact ao0 h)
noncomputable def acp(u:aG)(h:cE u):bx N:= .cK 63 (List Int) (λ_=>True) (λx=>[.agg (aI u).toArray,bm x]) (λx=>bm (kc u x)) λ_ _=>aD9 h
@[simp] theorem aUz{u:aG}{h:cE u}:(acp u h).f=63:=rfl
@[simp] theorem aUA{u:aG}{h:cE u}{l:List Int}:(acp u h).fn [.agg #[E u.ext,ad (u.eI.map gf) 4,ad (u.cr.map gp) 4,ad (u.aP.map eG) 7,ad (u.aY.map fk) 3,ad (u.dj.map dE) 17,ad (u.aZ.map ga) 2],ad (l.map λx=>[E x]) 1]=some (bm (kc u l)):=bx.dx (x:=l) trivial λy Y=>by simpa using Y
noncomputable def KL(u:aG)(h:cE u):jg N:= .JU 63 (List Int) (λ_=>True) (λx=>[.agg (aI u).toArray,bm x]) (λ_=>u.aY.length) (λ_=>1) (λx=>(kc u x).map E) λ_ _=>UB (λv M=>by simp at M;rcases M with rfl|rfl<;>rfl) Xy (aog h)
@[simp] theorem aPB{u:aG}{h:cE u}:(KL u h).f=63:=rfl
@[simp] theorem aPC{u:aG}{h:cE u}{l:List Int}{t:H}:(KL u h).fn [.agg #[E u.ext,ad (u.eI.map gf) 4,ad (u.cr.map gp) 4,ad (u.aP.map eG) 7,ad (u.aY.map fk) 3,ad (u.dj.map dE) 17,ad (u.aZ.map ga) 2],ad (l.map λx=>[E x]) 1] t=some (.slice (some ⟨t.next,0,none⟩) u.aY.length 1,(t.b0 1).aO t.next (some ⟨(kc u l).map E,true⟩)):=jg.VR (x:=l) trivial λy Y=>by simpa using Y
noncomputable def acu(u:aG)(h:cE u):bx N:= .cK 52 (List Int) (λ_=>True) (λx=>[.agg (aI u).toArray,bm x]) (λx=>bm (kc u x)) λ_ _=>aFv h
@[simp] theorem aU4{u:aG}{h:cE u}:(acu u h).f=52:=rfl
@[simp] theorem aU5{u:aG}{h:cE u}{l:List Int}:(acu u h).fn [.agg #[E u.ext,ad (u.eI.map gf) 4,ad (u.cr.map gp) 4,ad (u.aP.map eG) 7,ad (u.aY.map fk) 3,ad (u.dj.map dE) 17,ad (u.aZ.map ga) 2],ad (l.map λx=>[E x]) 1]=some (bm (kc u l)):=bx.dx (x:=l) trivial λy Y=>by simpa using Y
noncomputable def KM(u:aG)(h:cE u):jg N:= .JU 52 (List Int) (λ_=>True) (λx=>[.agg (aI u).toArray,bm x]) (λ_=>u.aY.length) (λ_=>1) (λx=>(kc u x).map E) λ_ _=>UB (λv M=>by simp at M;rcases M with rfl|rfl<;>rfl) Xy (ao0 h)
@[simp] theorem aPH{u:aG}{h:cE u}:(KM u h).f=52:=rfl
@[simp] theorem aPI{u:aG}{h:cE u}{l:List Int}{t:H}:(KM u h).fn [.agg #[E u.ext,ad (u.eI.map gf) 4,ad (u.cr.map gp) 4,ad (u.aP.map eG) 7,ad (u.aY.map fk) 3,ad (u.dj.map dE) 17,ad (u.aZ.map ga) 2],ad (l.map λx=>[E x]) 1] t=some (.slice (some ⟨t.next,0,none⟩) u.aY.length 1,(t.b0 1).aO t.next (some ⟨(kc u l).map E,true⟩)):=jg.VR (x:=l) trivial λy Y=>by simpa using Y
end Go.Proofs.YtmmkkggfmigppaaGreat
