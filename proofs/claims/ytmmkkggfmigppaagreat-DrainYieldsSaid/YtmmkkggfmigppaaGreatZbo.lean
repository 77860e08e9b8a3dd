/-
  A part of the proof, shortened by tools of ours.
-/
import Derived.Test.YtmmkkggfmigppaaGreatZbn
set_option linter.all false
set_option maxRecDepth 8000
set_option maxHeartbeats 16000000
namespace Go.Proofs.YtmmkkggfmigppaaGreat
open Go Go.DI Go.Big
theorem avE{dP:Type}{l:List dP}{f:dP->ByteArray}{cI:List ByteArray}{i:Nat}{x:dP}(B:l[i]?=some x)(ba:kD (cI++l.map f)=true):xm (cI++(l.take i).map f) (f x)=true:=by
 have e:cI++l.map f=((cI++(l.take i).map f)++[f x])++(l.drop (i+1)).map f:=by
  conv=>lhs;rw[<-List.take_append_drop (i+1) l,Gh B]
  simp
 rw[e]at ba;have:=arF ba;rw[aJe,a7]at this;exact this.2
theorem IJ{u:aL}{dP:Type}{l:List dP}{eJ:dP->ByteArray}{d c ix off:Nat}{ay:mq N}{rI:aB}(ao:3<=d)(eg:d<=7)(dc:l.length<=1000){fU:Nat->Nat}{cn:Nat->List ByteArray}{eE:aD}{t0:G}(Xk:im u fU cn eE t0)(hg:(cn d).length<=10000)(ba:kD (cn d++l.map eJ)=true)
 (ia:eE c=D off) (Hn:off<=1) {Q:cO->aD->G->Prop}
 (body: ∀(i k:Nat) (O:k=i+off) (Y:i<l.length) (z:aD) (t:G) (o:Nat) (L:List ByteArray),l[i]?=some l[i]->IntKind.i64.wrap ((k:Int)+1)=(k:Int)+1->z 1=bC 0->z 8= .bool true->z d= .slice (some ⟨o,0,none⟩) L.length 1->t.F 0=some ⟨aI u,true⟩->t.F o=some ⟨iM L,true⟩->0<t.next->o<t.next->o≠0->L.length<1000000->xm L (eJ l[i])=true->z c=D k-> ∀bO:aD->G->Prop,
  (∀K X o',(∀k∈vC,k≠d->K k=z k)->K 8= .bool true->K d= .slice (some ⟨o',0,none⟩) (L.length+1) 1->X.F o'=some ⟨iM (L++[eJ l[i]]),true⟩->t.next<=o'->t.next<=X.next->(∀b,b<t.next->b≠o->X.F b=t.F b)->K c=D ((k:Int)+1)->bO K X)->iK ay rI z t (sS bO Q))
 (done: ∀(z:aD) (t:G) (k:Nat),k=l.length+off->z 1=bC 0->z 8= .bool true->t.F 0=some ⟨aI u,true⟩->0<t.next->z c=D k->(∀K,(∀k∈vC,K k=z k)->K 8=z 8->Q (.cF ix) K t)->iK ay rI z t (sS (λ_ _=>False) Q))
 (a6: ∀z t jB,im u jB (il cn d (cn d++l.map eJ)) z t->Q (.cF ix) z t):ee N (.loop rI) eE t0 Q:=by
 refine gP (ay:=ay) (λi z t=> ∃jB,im u jB (il cn d (cn d++(l.take i).map eJ)) z t/\z c=D ((i+off:Nat):Int)) l.length ?_ ?_ 0 eE t0 (gd _) ⟨fU,?_,by simpa using ia⟩
 ·rintro i z t Y ⟨jB,ae,ia⟩ bO a1;have B:l[i]?=some l[i]:=c6 Y;have bw:=ae.g d ao eg;have ke:=ae.NP d ao eg;have kI:= λ(o':Nat) (K:aD) (X:G)=>im.step ae d ao eg (o:=o') (z:=K) (t:=X) (M0:=[eJ l[i]]) (n:=1) rfl;rw[Bk]at bw ke kI;have aj:(cn d++(l.take i).map eJ).length<20000:=(by rw[iD,ll,te];omega);refine body i (i+off) rfl Y z t (jB d) _ B (db (by omega) (by omega)) ae.aT ae.bm ke ae.aM bw (aF ae.aM) (aF bw) (ae.zg d ao eg) (by omega) (avE B ba) ia bO λK X o' aG aN ct gC mx l5 Ad qS=> ?_;have:=kI o' K X aG aN (by rw[ct]) gC (.inr mx) l5 Ad;rw[arG,aqS B]at this;exact a1 _ _ ⟨_,this,by rw[qS];congr 1;omega⟩
 ·rintro z t ⟨jB,ae,ia⟩;rw[mQ]at ae;exact done z t _ rfl ae.aT ae.bm ae.aM (aF ae.aM) ia λK A E=>a6 _ _ jB (ae.uN E A)
 ·have:il cn d (cn d++(l.take 0).map eJ)=cn:=by
   funext k;by_cases e:k=d
   ·subst e;simp
   ·rw[uk e]
  rw[this];exact Xk
theorem aHb{u:aL}(h:aL.gl u)(M:u.e7.all lo.zh=true){fU:Nat->Nat}{cn:Nat->List ByteArray}{eE:aD}{t0:G}(ae:im u fU cn eE t0)(hg:(cn 3).length<=10000)(ba:kD (cn 3++u.e7.map (·.name))=true)(h1:eE 9=D 0){Q:cO->aD->G->Prop}
 (a6: ∀z t jB,im u jB (il cn 3 (cn 3++u.e7.map (·.name))) z t->Q (.cF 0) z t):ee N (.loop SM) eE t0 Q:=by
 refine IJ (off:=0) (ay:=⟨[adv],[Ct]⟩) (by decide) (by decide) h.FK ae hg ba (by simpa using h1) (by decide) ?_ ?_ a6
 ·intro i k O Y z t o L B bp aT bm ke aM bw dN bh dB B7 bb h1 bO a1;obtain rfl:k=i:=O;have bA:(k:Int)<u.e7.length:=(by omega);have ej:=h.e7 _ (kp Y);have eD:=ei.1 M _ (kp Y);simp(disch:=first|omega|simp only[DI.aw];omega) [SM,ZV,aI,gE,xn,aT,bm,h1,ke,aM,bw,bA,bp,bb,eD,-ab,-ah,-aa,-ad,-List.map_map];refine a1 _ _ (t.next) (wO (d:=3) ?_ ?_ ?_ ?_ ?_ ?_) ?_ ?_ ?_ (by omega) ?_ (λb hb nO=> ?_) ?_
  all_goals first
   |(intro aW;first|(exact absurd rfl aW)|(simp;done))
   |(simp(disch:=first|omega|simp only[DI.aw];omega) [-ab,-ah,-aa,-ad,-List.map_map];done)
   |(simp(disch:=first|omega|simp only[DI.aw];omega) [hb,nO,-ab,-ah,-aa,-ad,-List.map_map];done)
   |(simp(disch:=first|omega|simp only[DI.aw];omega) [-ab,-ah,-aa,-ad,-List.map_map];omega)
 ·intro z t k O aT bm aM dN h1 ir;have dA: ¬(k:Int)<u.e7.length:=(by omega);simp(disch:=first|omega|simp only[DI.aw];omega) [SM,ZV,aI,aT,h1,aM,dA,-ab,-ah,-aa,-ad,-List.map_map];exact ir _ (nZ (by simp) (by simp) (by simp) (by simp) (by simp) (by simp)) (by simp)
theorem aHc{u:aL}(h:aL.gl u)(M:u.cx.all (CU u.e7.length)=true){fU:Nat->Nat}{cn:Nat->List ByteArray}{eE:aD}{t0:G}(ae:im u fU cn eE t0)(hg:(cn 4).length<=10000)(ba:kD (cn 4++u.cx.map (·.name))=true)(h1:eE 10=D 0){Q:cO->aD->G->Prop}
 (a6: ∀z t jB,im u jB (il cn 4 (cn 4++u.cx.map (·.name))) z t->Q (.cF 2) z t):ee N (.loop SN) eE t0 Q:=by
 refine IJ (off:=0) (ay:=⟨[wL],[Ct]⟩) (by decide) (by decide) h.eJ ae hg ba (by simpa using h1) (by decide) ?_ ?_ a6
 ·intro i k O Y z t o L B bp aT bm ke aM bw dN bh dB B7 bb h1 bO a1;obtain rfl:k=i:=O;have bA:(k:Int)<u.cx.length:=(by omega);have s8:IntKind.i64.wrap ((u.e7.length:Int)-1)=(u.e7.length:Int)-1:=db (by omega) (by have:=h.FK;omega);have f:=ei.1 M _ (kp Y);simp only[CU,a7]at f;obtain⟨ej,eD,gg⟩:=f;simp(disch:=first|omega|simp only[DI.aw];omega) [SN,aI,gN,xn,aT,bm,h1,ke,aM,bw,bA,bp,bb,s8,ej,eD,gg,-ab,-ah,-aa,-ad,-List.map_map];refine a1 _ _ (t.next+7) (wO (d:=4) ?_ ?_ ?_ ?_ ?_ ?_) ?_ ?_ ?_ (by omega) ?_ (λb hb nO=> ?_) ?_
  all_goals first
   |(intro aW;first|(exact absurd rfl aW)|(simp;done))
   |(simp(disch:=first|omega|simp only[DI.aw];omega) [-ab,-ah,-aa,-ad,-List.map_map];done)
   |(simp(disch:=first|omega|simp only[DI.aw];omega) [hb,nO,-ab,-ah,-aa,-ad,-List.map_map];done)
   |(simp(disch:=first|omega|simp only[DI.aw];omega) [-ab,-ah,-aa,-ad,-List.map_map];omega)
 ·intro z t k O aT bm aM dN h1 ir;have dA: ¬(k:Int)<u.cx.length:=(by omega);simp(disch:=first|omega|simp only[DI.aw];omega) [SN,aI,aT,h1,aM,dA,-ab,-ah,-aa,-ad,-List.map_map];exact ir _ (nZ (by simp) (by simp) (by simp) (by simp) (by simp) (by simp)) (by simp)
theorem aHe{u:aL}(h:aL.gl u)(M:u.aZ.all (BU u.cx.length u.aO)=true){fU:Nat->Nat}{cn:Nat->List ByteArray}{eE:aD}{t0:G}(ae:im u fU cn eE t0)(hg:(cn 5).length<=10000)(ba:kD (cn 5++u.aZ.map (·.name))=true)(h1:eE 15=D 0){Q:cO->aD->G->Prop}
 (a6: ∀z t jB,im u jB (il cn 5 (cn 5++u.aZ.map (·.name))) z t->Q (.cF 6) z t):ee N (.loop SP) eE t0 Q:=by
 refine IJ (off:=0) (ay:=⟨[wL],[Ct]⟩) (by decide) (by decide) h.hj ae hg ba (by simpa using h1) (by decide) ?_ ?_ a6
 ·intro i k O Y z t o L B bp aT bm ke aM bw dN bh dB B7 bb h1 bO a1;obtain rfl:k=i:=O;have bA:(k:Int)<u.aZ.length:=(by omega);have s8:IntKind.i64.wrap ((u.cx.length:Int)-1)=(u.cx.length:Int)-1:=db (by omega) (by have:=h.eJ;omega);have Oc:IntKind.i64.wrap ((u.aO.length:Int)-1)=(u.aO.length:Int)-1:=db (by omega) (by have:=h.fp;omega);have f:=ei.1 M _ (kp Y);simp only[BU,a7]at f;obtain⟨ej,eD,gg⟩:=f;obtain⟨aR,dH⟩:=j0 (u5.1 eD).1;rw[dH]at eD gg;have Em:aR<u.aO.length:=(by have:=u5.1 eD;omega);have uU:(aR:Int)<u.aO.length:=(by omega);have bg:u.aO[aR]?=some u.aO[aR]:=c6 Em;have lJ:u.aO[aR].jR=4:=(by unfold MW at gg;rw[nB,bg]at gg;simpa using gg);simp(disch:=first|omega|simp only[DI.aw];omega) [SP,aI,fH,xn,aT,bm,h1,ke,aM,bw,bA,bp,bb,s8,Oc,e6,ej,eD,dH,uU,lJ,-ab,-ah,-aa,-ad,-List.map_map];refine a1 _ _ (t.next+7) (wO (d:=5) ?_ ?_ ?_ ?_ ?_ ?_) ?_ ?_ ?_ (by omega) ?_ (λb hb nO=> ?_) ?_
  all_goals first
   |(intro aW;first|(exact absurd rfl aW)|(simp;done))
   |(simp(disch:=first|omega|simp only[DI.aw];omega) [-ab,-ah,-aa,-ad,-List.map_map];done)
   |(simp(disch:=first|omega|simp only[DI.aw];omega) [hb,nO,-ab,-ah,-aa,-ad,-List.map_map];done)
   |(simp(disch:=first|omega|simp only[DI.aw];omega) [-ab,-ah,-aa,-ad,-List.map_map];omega)
 ·intro z t k O aT bm aM dN h1 ir;have dA: ¬(k:Int)<u.aZ.length:=(by omega);simp(disch:=first|omega|simp only[DI.aw];omega) [SP,aI,aT,h1,aM,dA,-ab,-ah,-aa,-ad,-List.map_map];exact ir _ (nZ (by simp) (by simp) (by simp) (by simp) (by simp) (by simp)) (by simp)
theorem aHi{u:aL}(h:aL.gl u)(M:u.a2.all (Gp u.dv.length)=true){fU:Nat->Nat}{cn:Nat->List ByteArray}{eE:aD}{t0:G}(ae:im u fU cn eE t0)(hg:(cn 7).length<=10000)(ba:kD (cn 7++u.a2.map (·.name))=true)(h1:eE 21=D 0){Q:cO->aD->G->Prop}
 (a6: ∀z t jB,im u jB (il cn 7 (cn 7++u.a2.map (·.name))) z t->Q (.cF 14) z t):ee N (.loop SU) eE t0 Q:=by
 refine IJ (off:=0) (ay:=⟨[wL],[Ct]⟩) (by decide) (by decide) h.iH ae hg ba (by simpa using h1) (by decide) ?_ ?_ a6
 ·intro i k O Y z t o L B bp aT bm ke aM bw dN bh dB B7 bb h1 bO a1;obtain rfl:k=i:=O;have bA:(k:Int)<u.a2.length:=(by omega);have s8:IntKind.i64.wrap ((u.dv.length:Int)-1)=(u.dv.length:Int)-1:=db (by omega) (by have:=h.AT;omega);have ej:=ei.1 M _ (kp Y);simp only[Gp]at ej;simp(disch:=first|omega|simp only[DI.aw];omega) [SU,aI,gD,xn,aT,bm,h1,ke,aM,bw,bA,bp,bb,s8,ej,-ab,-ah,-aa,-ad,-List.map_map];refine a1 _ _ (t.next) (wO (d:=7) ?_ ?_ ?_ ?_ ?_ ?_) ?_ ?_ ?_ (by omega) ?_ (λb hb nO=> ?_) ?_
  all_goals first
   |(intro aW;first|(exact absurd rfl aW)|(simp;done))
   |(simp(disch:=first|omega|simp only[DI.aw];omega) [-ab,-ah,-aa,-ad,-List.map_map];done)
   |(simp(disch:=first|omega|simp only[DI.aw];omega) [hb,nO,-ab,-ah,-aa,-ad,-List.map_map];done)
   |(simp(disch:=first|omega|simp only[DI.aw];omega) [-ab,-ah,-aa,-ad,-List.map_map];omega)
 ·intro z t k O aT bm aM dN h1 ir;have dA: ¬(k:Int)<u.a2.length:=(by omega);simp(disch:=first|omega|simp only[DI.aw];omega) [SU,aI,aT,h1,aM,dA,-ab,-ah,-aa,-ad,-List.map_map];exact ir _ (nZ (by simp) (by simp) (by simp) (by simp) (by simp) (by simp)) (by simp)
theorem aHd{u:aL}(h:aL.gl u){R:hE}{ds:List hE}(j9:u.aO=R::ds)(M:uQ u.aO=true){fU:Nat->Nat}{cn:Nat->List ByteArray}{eE:aD}{t0:G}(ae:im u fU cn eE t0)(hg:(cn 5).length<=10000)(ba:kD (cn 5++ds.map (·.name))=true)(h1:eE 13=D 1){Q:cO->aD->G->Prop}
 (a6: ∀z t jB,im u jB (il cn 5 (cn 5++ds.map (·.name))) z t->Q (.cF 4) z t):ee N (.loop SO) eE t0 Q:=by
 refine IJ (off:=1) (ay:=⟨[wL,Ug],[Ct]⟩) (by decide) (by decide) (by have:=h.fp;rw[j9]at this;simp at this;omega) ae hg ba (by simpa using h1) (by decide) ?_ ?_ a6
 ·intro i k O Y z t o L B bp aT bm ke aM bw dN bh dB B7 bb h1 bO a1;have K5:u.aO.length=ds.length+1:=(by rw[j9];rfl);have lN:=agS (j9▸M) B;rw[<-j9]at lN;obtain⟨b1,ir⟩: ∃b1,b1=ds[i]:=⟨_,rfl⟩;rw[<-ir]at B bb a1 lN;have B:u.aO[k]?=some b1:=(by rw[O,j9,Jn];exact B);have aQs:k<u.aO.length:=(by omega);have cQ:=(cN.1 B).2;have dz:IntKind.i64.wrap ((k:Int)-1)=(i:Int):=(by rw[show(k:Int)-1=i by omega];exact db (by have:=h.fp;omega) (by have:=h.fp;omega));have bA:(k:Int)<u.aO.length:=(by omega);have rV:b1.pB.dz:=h.aO b1 (fX B);clear ir;obtain⟨aPm,VK,VM,aPn,⟨aPl,aPj,aPk⟩⟩:=b1;simp only[Ac,a7]at lN rV bb a1;obtain⟨eD,wi,ej,lJ,rO⟩:=lN;have aPv:=u5.1 ej;have s8:IntKind.i64.wrap (VK-1)=VK-1:=db (by omega) (by omega);have V4:=u5.1 eD;obtain⟨aR,rfl⟩:=j0 V4.1;have Em:aR<u.aO.length:=(by omega);have uU:(aR:Int)<u.aO.length:=(by omega);have bg:u.aO[aR]?=some u.aO[aR]:=c6 Em;have gg:u.aO[aR].jR=VK-1:=(by unfold MS at wi;simp only[nB,bg]at wi;simpa using wi);simp(disch:=first|omega|simp only[DI.aw];omega) [SO,aI,e6,xn,aT,bm,h1,ke,aM,bw,bA,bp,bb,dz,cQ,ej,eD,s8,uU,gg,lJ,rO,-ab,-ah,-aa,-ad,-List.map_map];refine a1 _ _ (t.next+7) (wO (d:=5) ?_ ?_ ?_ ?_ ?_ ?_) ?_ ?_ ?_ (by omega) ?_ (λb hb nO=> ?_) ?_
  all_goals first
   |(intro aW;first|(exact absurd rfl aW)|(simp;done))
   |(simp(disch:=first|omega|simp only[DI.aw];omega) [-ab,-ah,-aa,-ad,-List.map_map];done)
   |(simp(disch:=first|omega|simp only[DI.aw];omega) [hb,nO,-ab,-ah,-aa,-ad,-List.map_map];done)
   |(simp(disch:=first|omega|simp only[DI.aw];omega) [-ab,-ah,-aa,-ad,-List.map_map];omega)
 ·intro z t k O aT bm aM dN h1 ir;have dA: ¬(k:Int)<u.aO.length:=(by rw[j9];simp;omega);simp(disch:=first|omega|simp only[DI.aw];omega) [SO,aI,aT,h1,aM,dA,-ab,-ah,-aa,-ad,-List.map_map];exact ir _ (nZ (by simp) (by simp) (by simp) (by simp) (by simp) (by simp)) (by simp)
theorem aHh{u:aL}(h:aL.gl u)(M:u.dv.all (uo · u.cx.length)=true){fU:Nat->Nat}{cn:Nat->List ByteArray}{eE:aD}{t0:G}(ae:im u fU cn eE t0)(hg:(cn 6).length<=10000)(ba:kD (cn 6++u.dv.map (·.name))=true)(h1:eE 17=D 0){Q:cO->aD->G->Prop}
 (a6: ∀z t jB,im u jB (il cn 6 (cn 6++u.dv.map (·.name))) z t->Q (.cF 8) z t):ee N (.loop SS) eE t0 Q:=by
 refine IJ (off:=0) (ay:=⟨[ads,adr],[Ct]⟩) (by decide) (by decide) h.AT ae hg ba (by simpa using h1) (by decide) ?_ ?_ a6
 ·intro i k O Y z t o L B bp aT bm ke aM bw dN bh dB B7 bb h1 bO a1;obtain rfl:k=i:=O;have bA:(k:Int)<u.dv.length:=(by omega);have lN:=ei.1 M _ (kp Y);obtain⟨eK,gp,kZ,ri⟩:=h.dv _ (kp Y);obtain⟨x,sN⟩: ∃x,x=u.dv[k]:=⟨_,rfl⟩;rw[<-sN]at B bb a1 lN eK gp kZ ri;have cQ:u.dv[k]=x:=sN.symm;clear sN;obtain⟨eJ,wT,m,q,⟨a,b,c,d,e⟩,ik,py,⟨ht,Ds,Dt⟩,⟨aj,ag,hb⟩⟩:=x;simp only[uo,a7,sj]at lN eK gp kZ ri bb a1;obtain⟨ej,axc,eD,axG⟩:=lN;have Cf: ¬ik.length=0:= λe=>by rw[<-List.isEmpty_iff_length_eq_zero,axc]at e;cases e
  have ah5:(0:Int)<ik.length:=(by omega);have axa:0<ik.length:=(by omega);have wo:(0<=m/\m<=4)/\((∀x∈py,x.dz)/\py.length<1000000)/\(cv.mk ht Ds Dt).dz/\(cv.mk aj ag hb).dz:=⟨u5.1 (by simp only[mI,a7]at ej;exact ej.2.1),eK,gp,kZ⟩;simp(disch:=first|omega|simp only[DI.aw];omega) [SS,aI,dU,xn,aT,bm,h1,ke,aM,bw,bA,bb,cQ,ej,eD,axa,-ab,-ah,-aa,-ad,-List.map_map];refine aHg h (x:=⟨eJ,wT,m,q,⟨a,b,c,d,e⟩,ik,py,⟨ht,Ds,Dt⟩,⟨aj,ag,hb⟩⟩) (q:=t.next+5) (by simpa only[abw,a7]using axG) ri (by simp(disch:=first|omega|simp only[DI.aw];omega) [aM,-ab,-ah,-aa,-ad,-List.map_map]) (by simp(disch:=first|omega|simp only[DI.aw];omega) [dU,-ab,-ah,-aa,-ad,-List.map_map]) (by simp[aT]) (by simp) (by simp) (by simp) λc2 H qS=> ?_;have au4:c2 17=D k:=(H 17 (by decide)).trans (by simp[h1]);simp(disch:=first|omega|simp only[DI.aw];omega) [au4,bp,-ab,-ah,-aa,-ad,-List.map_map];refine a1 _ _ (t.next+7) (wO (d:=6) ?_ ?_ ?_ ?_ ?_ ?_) ?_ ?_ ?_ (by omega) ?_ (λb hb nO=> ?_) ?_
  all_goals first
   |(intro aW;first|(exact absurd rfl aW)|(simp[H 1 (by decide),H 3 (by decide),H 4 (by decide),H 5 (by decide),H 7 (by decide)];done))
   |(simp(disch:=first|omega|simp only[DI.aw];omega) [H 6 (by decide),qS,-ab,-ah,-aa,-ad,-List.map_map];done)
   |(simp(disch:=first|omega|simp only[DI.aw];omega) [hb,nO,-ab,-ah,-aa,-ad,-List.map_map];done)
   |(simp(disch:=first|omega|simp only[DI.aw];omega) [-ab,-ah,-aa,-ad,-List.map_map];omega)
 ·intro z t k O aT bm aM dN h1 ir;have dA: ¬(k:Int)<u.dv.length:=(by omega);simp(disch:=first|omega|simp only[DI.aw];omega) [SS,aI,aT,h1,aM,dA,-ab,-ah,-aa,-ad,-List.map_map];exact ir _ (nZ (by simp) (by simp) (by simp) (by simp) (by simp) (by simp)) (by simp)
theorem aGD{x:e4}(bX:0<=x.n):(x.ok&&decide (r1 x .nil=0))=(x.small&& !decide (0<x.n)):=by
 simp only[e4.ok,e4.small,DF,apj bX];by_cases bE:x.n=0
 ·simp[bE]
 ·have:0<x.n:=(by omega);simp[bE,this]
theorem im.auA{u:aL}{fU:Nat->Nat}{cn:Nat->List ByteArray}{z K:aD}{t X:G}(h:im u fU cn z t)(hf:K 8=z 8)(H: ∀k∈vC,K k=z k)(a8: ∀o,o<t.next->X.F o=t.F o):im u fU cn K X:=by obtain⟨a9,bW,cA,fV,g9,mg,TM⟩:=h.uN hf H;exact⟨a9,bW,(a8 _ (aF cA)).trans cA,fV,λk a b=>(a8 _ (aF (g9 k a b))).trans (g9 k a b),mg,TM⟩
theorem aIr{a b c d e f:Nat}:wN a b c d e f=(decide (a<=4)&&(decide (b<=4)&&(decide (c<=40)&&(decide (d<=24)&&(decide (e<=4)&&decide (f<=12)))))):=by
 unfold wN;congr 1
 ·exact decide_eq_decide.2 (by omega)
 congr 1
 ·exact decide_eq_decide.2 (by omega)
 congr 1
 ·exact decide_eq_decide.2 (by omega)
 congr 1
 ·exact decide_eq_decide.2 (by omega)
 congr 1
 ·exact decide_eq_decide.2 (by omega)
 ·exact decide_eq_decide.2 (by omega)
theorem aHj{u:aL}(h:aL.gl u){R:hE}(hh:u.aO[0]?=some R)(ar:A5 R=true){fU:Nat->Nat}{cn:Nat->List ByteArray}{z:aD}{t:G}(ae:im u fU cn z t){Q:cO->aD->G->Prop}
 (E: ∀K X,im u fU cn K X->iK (P:=N) ⟨[wL,NL,NN,F3],[]⟩ ZU K X Q):iK (P:=N) ⟨[wL,NL,NN,F3],[]⟩ SL z t Q:=by
 have Qf:0<u.aO.length:=(cN.1 hh).1;have Qe:(0:Int)<u.aO.length:=by omega
 have XQ:=(cN.1 hh).2;have aa7:R.pB.dz:=h.aO R (fX hh);have aT:=ae.aT;have bm:=ae.bm;have aM:=ae.aM;have dN:=aF aM;have M:=aGD (x:=R.pB.b0) (cv.kb aa7);obtain⟨aVe,aVd,aVi,aVj,⟨ap8,apU,px⟩⟩:=R;simp only[A5]at aa7 M ar;rw[<-M]at ar;simp only[a7,eF]at ar;obtain⟨ck,c9,k9,iq,yv,BL⟩:=ar;have O:(cv.mk ap8 apU px).dz/\(cv.mk ap8 apU px).b0.ok=true:=⟨aa7,yv⟩;simp(disch:=first|omega|simp only[DI.aw];omega) [SL,SL,aI,e6,aT,bm,aM,Qf,XQ,ck,c9,k9,iq,yv,BL,-ab,-ah,-aa,-ad,-List.map_map];exact E _ _ (ae.auA (by simp[bm]) (nZ (by simp) (by simp) (by simp) (by simp) (by simp) (by simp)) (λo aC=>by simp(disch:=first|omega|simp only[DI.aw];omega) [-ab,-ah,-aa,-ad,-List.map_map]))
theorem aqs{u:aL}(h:aL.gl u)(M:o2 u=true):bP N 87 [.agg (aI u).toArray] (.bool true):=by
 simp only[o2,a7,eF]at M;obtain⟨A,dN,hS,jn,abd,abe,CP,aW,br,bQ,a3,a4,fz,ny,Dx,Dy,aem,aeo⟩:=M;refine dJ (c3 (ay:=⟨[wL,NL,NN,F3],[]⟩) aBc (by kernel_rfl) (by simp[ZT]) ?_);have E:wN u.e7.length u.cx.length u.aO.length u.aZ.length u.dv.length u.a2.length=true:=by rw[aIr];simp[dN,hS,jn,abd,abe,CP]
 obtain⟨R,ds,j9⟩: ∃R ds,u.aO=R::ds:=by
  cases bg:u.aO with
  |nil=>rw[bg]at aW;cases aW
  |cons R ds=>exact⟨R,ds,rfl⟩
 have Hq:A5 R=true:=by rw[j9,VL,a7]at aW;exact aW.1
 have XE:u.aO.tail=ds:=by rw[j9];rfl
 rw[XE]at Dy;have uY: ¬u.aO.length=0:=by rw[j9];simp
 have oP: ¬(u.aO.length:Int)=0:=by omega
 have Qe:(0:Int)<u.aO.length:=by omega
 have Qf:0<u.aO.length:=by omega
 have hh:u.aO[0]?=some R:=by rw[j9];rfl
 have v7:ds.length<=39:=by rw[j9]at jn;simp at jn;omega
 simp(disch:=first|omega|simp only[DI.aw];omega) [ZT,anm,aI,A,E,uY,-ab,-ah,-aa,-ad,-List.map_map];refine ar4 (u:=u) (by simp) (by simp) (by simp) (by simp) (by simp) (by simp) (by simp) (by simp(disch:=first|omega|simp only[DI.aw];omega) [aI,-ab,-ah,-aa,-ad,-List.map_map]) λz t fU ae O=> ?_;refine aHb h br ae (by simp) ny ((O 9 (by decide)).trans (by simp)) λz t fU ae=> ?_;simp(disch:=first|omega|simp only[DI.aw];omega) [anr,-ab,-ah,-aa,-ad,-List.map_map];refine aHc h bQ (ae.uN (by simp) (nZ (by simp) (by simp) (by simp) (by simp) (by simp) (by simp))) (by simp[il]<;>omega) (by simpa[il]using Dx) (by simp) λz t fU ae=> ?_;refine aHj h hh Hq ae λz t ae=> ?_;simp(disch:=first|omega|simp only[DI.aw];omega) [ZU,-ab,-ah,-aa,-ad,-List.map_map];refine aHd h j9 aW (ae.uN (by simp) (nZ (by simp) (by simp) (by simp) (by simp) (by simp) (by simp))) (by simp[il]<;>omega) (by simpa[il]using(arF Dy)) (by simp) λz t fU ae=> ?_;simp(disch:=first|omega|simp only[DI.aw];omega) [ann,-ab,-ah,-aa,-ad,-List.map_map];refine aHe h a3 (ae.uN (by simp) (nZ (by simp) (by simp) (by simp) (by simp) (by simp) (by simp))) (by simp[il]<;>omega) (by simpa[il]using Dy) (by simp) λz t fU ae=> ?_;simp(disch:=first|omega|simp only[DI.aw];omega) [ano,-ab,-ah,-aa,-ad,-List.map_map];refine aHh h a4 (ae.uN (by simp) (nZ (by simp) (by simp) (by simp) (by simp) (by simp) (by simp))) (by simp[il]<;>omega) (by simpa[il]using aem) (by simp) λz t fU ae=> ?_;simp(disch:=first|omega|simp only[DI.aw];omega) [anp,-ab,-ah,-aa,-ad,-List.map_map];refine aHi h fz (ae.uN (by simp) (nZ (by simp) (by simp) (by simp) (by simp) (by simp) (by simp))) (by simp[il]<;>omega) (by simpa[il]using aeo) (by simp) λz t fU ae=> ?_;simp(disch:=first|omega|simp only[DI.aw];omega) [anq,ae.bm,-ab,-ah,-aa,-ad,-List.map_map]
noncomputable def Df(u:aL)(h:aL.gl u):bF N:= .cM 87 Unit (λ_=>o2 u=true) (λ_=>[.agg (aI u).toArray]) (λ_=> .bool true) λ_ M=>aqs h M
@[simp] theorem aW0{u:aL}{h:aL.gl u}:(Df u h).f=87:=rfl
@[simp] theorem aW1{u:aL}{h:aL.gl u}(M:o2 u=true):(Df u h).fn [.agg #[D u.ext,ai (u.e7.map gE) 4,ai (u.cx.map gN) 4,ai (u.aO.map e6) 7,ai (u.aZ.map fH) 3,ai (u.dv.map dU) 17,ai (u.a2.map gD) 2]]=some (.bool true):=bF.dK (x:=()) M λ_ _=>rfl
theorem aHl{u:aL}(h:aL.gl u)(M:o2 u=true):bP N 66 [.agg (aI u).toArray] (D 0):=by refine dJ (c3 (ay:=⟨[Df u h],[]⟩) aA3 (by kernel_rfl) (by simp[ZA]) ?_);simp(disch:=first|omega|simp only[DI.aw];omega) [ZA,amL,aI,-ab,-ah,-aa,-ad,-List.map_map]
def kn(u:aL)(i:Nat):Nat:=match u.aO[i]? with|some d=>d.parent.toNat|none=>0
def hT(u:aL)(i:Nat):Int:=match u.aO[i]? with|some d=>d.jR|none=>0
structure gf(u:aL):Prop where
 zE:o2 u=true
 FK:u.e7.length<=4
 eJ:u.cx.length<=4
 fp:u.aO.length<=40
 hj:u.aZ.length<=24
 AT:u.dv.length<=4
 iH:u.a2.length<=12
 g3:0<u.aO.length
 rm:hT u 0=0/\ ∀d,u.aO[0]?=some d->d.parent= -1/\d.jR=0
 lq: ∀(i:Nat) (d:hE),0<i->u.aO[i]?=some d->0<=d.parent/\d.parent<i/\hT u d.parent.toNat=d.jR-1/\1<=d.jR/\d.jR<=4
 tw: ∀(i:Nat) (x:o5),u.aZ[i]?=some x->0<=x.model/\x.model<u.cx.length/\0<=x.y8/\x.y8<u.aO.length/\hT u x.y8.toNat=4
 Iq: ∀(i:Nat) (x:GB),u.cx[i]?=some x->1<=x.ext/\x.ext<=16
 qt: ∀(i:Nat) (x:h3),u.dv[i]?=some x->mI x.k x.m x.q x.ay=true/\x.cx≠[]/\(∀m∈x.cx,0<=m/\m<u.cx.length)/\x.cx.Nodup
 N9: ∀(i:Nat) (x:tj),u.a2[i]?=some x->0<=x.qt/\x.qt<u.dv.length
theorem nk{x a b:Int}(h:fO x a b=true):a<=x/\x<=b:=u5.1 h
theorem aEO{u:aL}(h:o2 u=true):gf u:=by
 have bX:=h;simp only[o2,a7,eF]at h;obtain⟨A,E,ao,aS,bI,cZ,eg,hf,jj,Ek,PQ,KA,Wm,B5,Wn,Wo,Wp,aP6⟩:=h;unfold uQ at hf;cases aW:u.aO with
 |nil=>rw[aW]at hf;cases hf
 | cons R l=>
   rw[aW]at hf;simp only[a7]at hf;obtain⟨c1,aA⟩:=hf;simp only[A5,a7,eF]at c1;have aih:u.aO[0]?=some R:=(by rw[aW];rfl);have abq: ∀i q,u.aO[i]?=some q->hT u i=q.jR:= λi q bg=>by simp only[hT,bg]
   refine⟨bX,E,ao,aS,bI,cZ,eg,by rw[aW];simp,⟨by rw[abq 0 R aih];exact c1.2.1,λd sE=>by rw[aih]at sE;cases sE;exact⟨c1.2.2.1,c1.2.1⟩⟩,λi d Y B=> ?_,λi x B=> ?_,λi x B=> ?_,λi x B=> ?_,λi x B=> ?_⟩
   ·obtain⟨j,rfl⟩: ∃j,i=j+1:=⟨i-1,by omega⟩;have aV:l[j]?=some d:=(by rw[aW,Jn]at B;exact B);have:=ei.1 aA j (pH.2 (cN.1 aV).1);rw[aV]at this;simp only[Ac,a7]at this;obtain⟨br,bQ,a3,a4,fz⟩:=this;have eH:=nk br;have ha:=nk a3;refine⟨eH.1,by omega,?_,ha.1,ha.2⟩;unfold MS at bQ;split at bQ
    ·next q bg=>rw[abq _ q (by rw[aW];exact bg)];exact of_decide_eq_true bQ
    ·cases bQ
   ·have:=ei.1 PQ x (fX B);simp only[BU,a7]at this;obtain⟨br,bQ,a3⟩:=this;have eH:=nk br;have eN:=nk bQ;refine⟨eH.1,by omega,eN.1,by omega,?_⟩;unfold MW at a3;split at a3
    ·next q bg=>rw[abq _ q bg];exact of_decide_eq_true a3
    ·cases a3
   ·have:=ei.1 Ek x (fX B);simp only[CU,a7]at this;exact nk this.1
   ·have:=ei.1 KA x (fX B);simp only[uo,a7,eF]at this;obtain⟨br,bQ,a3,a4,fz⟩:=this;refine⟨br,by intro e;rw[e]at bQ;simp at bQ,λm al=> ?_,fz⟩;have:=nk (ei.1 a4 m al);exact⟨this.1,by omega⟩
   ·have:=ei.1 Wm x (fX B);simp only[Gp]at this;have:=nk this;exact⟨this.1,by omega⟩
section
variable {u:aL}
theorem gf.gb(h:gf u){i:Nat}(Y:i<u.aO.length):0<=hT u i/\hT u i<=4:=by
 have B:u.aO[i]?=some u.aO[i]:=c6 Y;have e:hT u i=u.aO[i].jR:=by simp only[hT,B]
 cases i with
 |zero=>rw[h.rm.1];omega
 |succ i=>rw[e];have:=h.lq _ _ (by omega) B;omega
theorem gf.nV(h:gf u){i:Nat}(Y:i<u.aO.length)(ae:0<hT u i):kn u i<i/\hT u (kn u i)=hT u i-1/\0<i:=by
 have B:u.aO[i]?=some u.aO[i]:=c6 Y;have e:hT u i=u.aO[i].jR:=by simp only[hT,B]
 have aN:kn u i=u.aO[i].parent.toNat:=by simp only[kn,B]
 cases i with
 |zero=>rw[h.rm.1]at ae;omega
 | succ i=>have:=h.lq _ _ (by omega) B;rw[aN,e];refine⟨by omega,this.2.2.1,by omega⟩
theorem gf.x2(h:gf u){i:Nat}(Y:i<u.aO.length)(bX:0<i):0<hT u i:=by
 have B:u.aO[i]?=some u.aO[i]:=c6 Y;have e:hT u i=u.aO[i].jR:=by simp only[hT,B]
 have:=h.lq _ _ bX B;omega
def mr(u:aL)(gb:Int):Nat->Nat->Nat
 |0,i=>i
 |k+1,i=>if hT u i>gb then mr u gb k (kn u i)else i
def oL(u:aL)(n:Nat):Nat->Nat->Nat
 |0,i=>i
 |k+1,i=>if i>n then oL u n k (kn u i)else i
theorem Vf(h:gf u){n:Nat}(aj:n<u.aO.length): ∀{k fk i:Nat},i<u.aO.length->hT u i<=hT u n+k->i<=n+fk->(mr u (hT u n) k i=n↔oL u n fk i=n)
 | k,fk,i,Y,A,E=>by
   have wi:=(h.gb aj).1;by_cases e:i=n
   ·subst e;have aG:mr u (hT u i) k i=i:=(by cases k with|zero=>rfl|succ k=>unfold mr;rw[if_neg (by omega)]);have aN:oL u i fk i=i:=(by cases fk with|zero=>rfl|succ k=>unfold oL;rw[if_neg (by omega)]);simp[aG,aN]
   by_cases ck:hT u i>hT u n
   ·obtain⟨k,rfl⟩: ∃j,k=j+1:=⟨k-1,by omega⟩;obtain⟨a,b,c⟩:=h.nV Y (by omega);have aG:mr u (hT u n) (k+1) i=mr u (hT u n) k (kn u i):=(by rw[mr,if_pos ck]);rw[aG];by_cases c9:i>n
    ·obtain⟨fk,rfl⟩: ∃j,fk=j+1:=⟨fk-1,by omega⟩;have aN:oL u n (fk+1) i=oL u n fk (kn u i):=(by rw[oL,if_pos c9]);rw[aN];exact Vf h aj (by omega) (by omega) (by omega)
    ·-- Vj aOd cM i aYY Vn n
     have aN:oL u n fk i=i:=(by cases fk with|zero=>rfl|succ k=>unfold oL;rw[if_neg (by omega)]);rw[aN];have cU: ∀{k i:Nat},i<u.aO.length->mr u (hT u n) k i<=i:=by
      intro k;induction k with
      |zero=>intro i _;exact c8 _
      | succ k cj=>
        intro i Y;unfold mr;split
        ·next aH=>have:=(h.nV Y (by omega)).1;have:=cj (i:=kn u i) (by omega);omega
        ·exact c8 _
     have:=cU (k:=k) (i:=kn u i) (by omega);exact⟨λbV=>by omega,λbV=>absurd bV e⟩
   ·have aG:mr u (hT u n) k i=i:=(by cases k with|zero=>rfl|succ k=>unfold mr;rw[if_neg ck]);rw[aG];refine⟨λbV=>absurd bV e,λbV=> ?_⟩
    -- pF jR only aPx on pF a0g iC
    have aDQ: ∀{fk i:Nat},i<u.aO.length->oL u n fk i=n->i=n\/hT u n<hT u i:=by
     intro fk;induction fk with
     |zero=>intro i _ bV;exact .inl bV
     | succ fk cj=>
       intro i Y bV;unfold oL at bV;split at bV
       ·next aH=>
        obtain⟨a,b,c⟩:=h.nV Y (h.x2 Y (by omega));rcases cj (by omega) bV with e|e
        ·right;rw[<-e];omega
        ·right;omega
       ·exact .inl bV
    rcases aDQ Y bV with dw|dw
    ·exact absurd dw e
    ·omega
end
def lF(u:aL)(d:Nat)(n:Int):Bool:=match u.aZ[d]? with
 |some x=>decide (n=u.aO.length+d)||(decide (0<n)&&decide (n<u.aO.length)&&decide (oL u n.toNat u.aO.length x.y8.toNat=n.toNat))
 |none=>false
def jb(u:aL)(d:Nat):Nat:=match u.aZ[d]? with|some x=>x.y8.toNat|none=>0
def qe(u:aL)(d:Nat):Int:=match u.aZ[d]? with
 |some x=>(match u.cx[x.model.toNat]? with|some m=>m.ext|none=>0)
 |none=>0
def kd(u:aL)(cR:List Int):List Int:=(List.range u.aZ.length).map λd=>if cR.length=u.aZ.length then max 0 (min (cR.getD d 0) (qe u d))else qe u d
def BW(u:aL)(n:Nat):List Int:=((List.range u.aZ.length).filter λd=>decide (mr u (hT u n) 5 (jb u d)=n)).map λd:Nat=>(d:Int)
def ku(u:aL)(v:Nat):Int:=match u.a2[v]? with
 |some x=>(match u.dv[x.qt.toNat]? with|some p=>p.k+p.m|none=>0)
 |none=>0
open Go Go.DI
section
set_option maxRecDepth 100000
def anF:cy N 52:=⟨_,by conv=>lhs;reduce⟩
def H8:aB:=aJ (a:=bj anF.1.body 151) ⟨_,by conv=>lhs;reduce⟩
def Zq:aB:=aJ (a:= λx=>bk 151 x anF.1.body) ⟨_,by conv=>lhs;reduce⟩ H8
def H7:ca:=⟨47,[.bL 4],Zq⟩
theorem Zr:cm N 52=some H7:=by kernel_rfl
def anH:cy N 63:=⟨_,by conv=>lhs;reduce⟩
def Sq:aB:=aJ (a:=bj anH.1.body 151) ⟨_,by conv=>lhs;reduce⟩
def amH:aB:=aJ (a:= λx=>bk 151 x anH.1.body) ⟨_,by conv=>lhs;reduce⟩ Sq
def Sp:ca:=⟨53,[.bL 4],amH⟩
theorem amI:cm N 63=some Sp:=by kernel_rfl
def aBl:cy N 115:=⟨_,by conv=>lhs;reduce⟩
def ajy:aB:=aJ (a:=aBl.1.body) ⟨_,by conv=>lhs;reduce⟩
def QP:ca:=⟨6,[.bL 2],ajy⟩
theorem ajz:cm N 115=some QP:=by kernel_rfl
def Z2:cy N 116:=⟨_,by conv=>lhs;reduce⟩
def QR:aB:=aJ (a:=bj Z2.1.body 151) ⟨_,by conv=>lhs;reduce⟩
def Lw:aB:=aJ (a:=bj Z2.1.body 31) ⟨_,by conv=>lhs;reduce⟩
def ajA:aB:=aJ (a:= λx y=>bk 31 y (bk 151 x Z2.1.body)) ⟨_,by conv=>lhs;reduce⟩ QR Lw
def QQ:ca:=⟨45,[.bL 4],ajA⟩
theorem ajB:cm N 116=some QQ:=by kernel_rfl
def Z6:cy N 130:=⟨_,by conv=>lhs;reduce⟩
def Q8:aB:=aJ (a:=bj Z6.1.body 37) ⟨_,by conv=>lhs;reduce⟩
def LB:aB:=aJ (a:=bj Z6.1.body 7) ⟨_,by conv=>lhs;reduce⟩
def aj1:aB:=aJ (a:= λx y=>bk 7 y (bk 37 x Z6.1.body)) ⟨_,by conv=>lhs;reduce⟩ Q8 LB
def Q7:ca:=⟨27,[.bL 6],aj1⟩
theorem aj2:cm N 130=some Q7:=by kernel_rfl
def aBr:cy N 132:=⟨_,by conv=>lhs;reduce⟩
def aj5:aB:=aJ (a:=aBr.1.body) ⟨_,by conv=>lhs;reduce⟩
def Q9:ca:=⟨21,[.bL 4],aj5⟩
theorem aj6:cm N 132=some Q9:=by kernel_rfl
def anx:cy N 180:=⟨_,by conv=>lhs;reduce⟩
def LL:aB:=aJ (a:=bj anx.1.body 35) ⟨_,by conv=>lhs;reduce⟩
def akv:aB:=aJ (a:= λx=>bk 35 x anx.1.body) ⟨_,by conv=>lhs;reduce⟩ LL
def Ro:ca:=⟨29,[.bL 6],akv⟩
theorem akw:cm N 180=some Ro:=by kernel_rfl
end
theorem asE{u:aL}(h:gf u){gb:Int}(bX:0<=gb){Q:cO->aD->G->Prop}: ∀(k i:Nat) (z:aD) (t:G),i<u.aO.length->hT u i<=gb+k->t.F 0=some ⟨aI u,true⟩->z 3=bC 0->z 7=D i->z 2=D gb->(∀K X,K 7=D (mr u gb k i)->Q (.cF 0) K X)->ee N (.loop LL) z t Q:=by
 intro k;induction k with
 | zero=>intro i z t Y O aM bH cf bY a6;refine eS (ay:=⟨[],[]⟩) λbO a1=> ?_;obtain⟨d,B⟩:=gM Y;have cQ:=(cN.1 B).2;have e:hT u i=d.jR:=(by simp only[hT,B]);have bA:(i:Int)<u.aO.length:=(by omega);have aH: ¬gb<d.jR:=(by omega);have dN:=aF aM;simp(disch:=omega) [LL,bH,cf,bY,aM,aI,e6,bA,cQ,aH];exact a6 _ _ (by simp[cf,mr])
 | succ k cj=>
   intro i z t Y O aM bH cf bY a6;refine eS (ay:=⟨[],[]⟩) λbO a1=> ?_;obtain⟨d,B⟩:=gM Y;have cQ:=(cN.1 B).2;have e:hT u i=d.jR:=(by simp only[hT,B]);have aN:kn u i=d.parent.toNat:=(by simp only[kn,B]);have bA:(i:Int)<u.aO.length:=(by omega);have dN:=aF aM;by_cases aH:gb<d.jR
   ·obtain⟨a,b,c⟩:=h.nV Y (by omega);obtain⟨p,ae⟩:=j0 (h.lq i d c B).1;have oR:kn u i=p:=(by rw[aN,ae];rfl);rw[oR]at a b;simp(disch:=omega) [LL,bH,cf,bY,aM,aI,e6,bA,cQ,aH,ae];refine a1 _ _ (cj p _ _ (by omega) (by omega) (by simp(disch:=first|omega|simp only[bS];omega) [aM,aI,-ab,-ah,-aa,-ad,-List.map_map]) (by simp[bH]) (by simp) (by simp[bY]) λK X H=>a6 K X ?_);rw[H,mr,if_pos (by omega),oR]
   ·simp(disch:=omega) [LL,bH,cf,bY,aM,aI,e6,bA,cQ,aH];exact a6 _ _ (by rw[mr,if_neg (by omega)];simp[cf])
theorem asF{u:aL}(h:gf u){d:Nat}(aW:d<u.aZ.length){gb:Int}(bX:0<=gb):bP N 180 [.agg (aI u).toArray,D d,D gb] (D (mr u gb 5 (jb u d))):=by
 refine dJ (c3 (ay:=⟨[],[]⟩) akw (by kernel_rfl) (by simp[Ro]) ?_);obtain⟨x,B⟩:=gM aW;have cQ:=(cN.1 B).2;obtain⟨br,bQ,a3,a4,fz⟩:=h.tw d x B;obtain⟨m,al⟩:=j0 a3;have wj:jb u d=m:=by simp only[jb,B,al];rfl
 have bA:(d:Int)<u.aZ.length:=by omega
 rw[al]at fz;simp(disch:=first|omega|simp only[bS];omega) [Ro,akv,aI,fH,bA,cQ,al,-ab,-ah,-aa,-ad,-List.map_map];refine asE h bX 5 m _ _ (by omega) (by have:hT u m=4:=fz;omega) (by simp(disch:=first|omega|simp only[bS];omega) [aI,-ab,-ah,-aa,-ad,-List.map_map]) (by simp) (by simp) (by simp) λK X H=> ?_;rw[wj];simp(disch:=first|omega|simp only[bS];omega) [H]
noncomputable def Ub(u:aL)(h:gf u):bF N:= .cM 180 (Nat×Int) (λx=>x.1<u.aZ.length/\0<=x.2) (λx=>[.agg (aI u).toArray,D x.1,D x.2]) (λx=>D (mr u x.2 5 (jb u x.1))) λx B=>asF h B.1 B.2
@[simp] theorem aWp{u:aL}{h:gf u}:(Ub u h).f=180:=rfl
@[simp] theorem aWq{u:aL}{h:gf u}{d:Nat}{gb:Int}(aW:d<u.aZ.length/\0<=gb):(Ub u h).fn [.agg #[D u.ext,ai (u.e7.map gE) 4,ai (u.cx.map gN) 4,ai (u.aO.map e6) 7,ai (u.aZ.map fH) 3,ai (u.dv.map dU) 17,ai (u.a2.map gD) 2],D d,D gb]=some (D (mr u gb 5 (jb u d))):=bF.dK (x:=(d,gb)) aW λ⟨j6,h2⟩ Z=>by simp at Z⊢;omega
structure cL(u:aL):Prop where
 ok:gf u
 gl:aL.gl u
noncomputable def Dg(u:aL)(h:aL.gl u):bF N:= .cM 62 Unit (λ_=>o2 u=true) (λ_=>[.agg (aI u).toArray]) (λ_=>D 0) λ_ M=>arN h M
@[simp] theorem aXl{u:aL}{h:aL.gl u}:(Dg u h).f=62:=rfl
@[simp] theorem aXm{u:aL}{h:aL.gl u}(M:o2 u=true):(Dg u h).fn [.agg #[D u.ext,ai (u.e7.map gE) 4,ai (u.cx.map gN) 4,ai (u.aO.map e6) 7,ai (u.aZ.map fH) 3,ai (u.dv.map dU) 17,ai (u.a2.map gD) 2]]=some (D 0):=bF.dK (x:=()) M λ_ _=>rfl
noncomputable def F4(u:aL)(h:aL.gl u):bF N:= .cM 66 Unit (λ_=>o2 u=true) (λ_=>[.agg (aI u).toArray]) (λ_=>D 0) λ_ M=>aHl h M
@[simp] theorem aXn{u:aL}{h:aL.gl u}:(F4 u h).f=66:=rfl
@[simp] theorem aXo{u:aL}{h:aL.gl u}(M:o2 u=true):(F4 u h).fn [.agg #[D u.ext,ai (u.e7.map gE) 4,ai (u.cx.map gN) 4,ai (u.aO.map e6) 7,ai (u.aZ.map fH) 3,ai (u.dv.map dU) 17,ai (u.a2.map gD) 2]]=some (D 0):=bF.dK (x:=()) M λ_ _=>rfl
theorem aFw{u:aL}(h:aL.gl u)(M:o2 u=true):bP N 115 [.agg (aI u).toArray] (.bool true):=by refine dJ (c3 (ay:=⟨[Dg u h],[]⟩) ajz (by kernel_rfl) (by simp[QP]) ?_);simp(disch:=first|omega|simp only[bS];omega) [QP,ajy,aI,-ab,-ah,-aa,-ad,-List.map_map]
noncomputable def IW(u:aL)(h:aL.gl u):bF N:= .cM 115 Unit (λ_=>o2 u=true) (λ_=>[.agg (aI u).toArray]) (λ_=> .bool true) λ_ M=>aFw h M
@[simp] theorem aWm{u:aL}{h:aL.gl u}:(IW u h).f=115:=rfl
@[simp] theorem aWn{u:aL}{h:aL.gl u}(M:o2 u=true):(IW u h).fn [.agg #[D u.ext,ai (u.e7.map gE) 4,ai (u.cx.map gN) 4,ai (u.aO.map e6) 7,ai (u.aZ.map fH) 3,ai (u.dv.map dU) 17,ai (u.a2.map gD) 2]]=some (.bool true):=bF.dK (x:=()) M λ_ _=>rfl
theorem aD4{I e:Int}(h:0<=e):(if e<(if I<0 then 0 else I)then e else(if I<0 then 0 else I))=max 0 (min I e):=by split<;>split at* <;>omega
theorem aD5{I e:Int}(h:0<=e):(if 0<(if e<I then e else I)then(if e<I then e else I)else 0)=max 0 (min I e):=by split<;>split at* <;>omega
def iO(u:aL)(cR:List Int)(d:Nat):Int:=if cR.length=u.aZ.length then max 0 (min (cR.getD d 0) (qe u d))else qe u d
theorem A4{u:aL}{cR:List Int}:kd u cR=fc u.aZ.length (iO u cR):=rfl
theorem u7{l:List Int}: ∀r∈l.map (λx=>[D x]),r.length=1/\ ∀v∈r,hH v=true:= λr ar=>by obtain⟨x,_,rfl⟩:=gx.1 ar;exact⟨rfl,λv M=>by simp at M;subst M;rfl⟩
theorem mc{l:List Int}:(l.map (λx=>[D x])).flatten=l.map D:=by
 induction l with
 |nil=>rfl
 |cons x l cj=>simp[cj]
theorem X5{l:List Int}: ∀v∈l.map D,hH v=true:= λv M=>by obtain⟨x,_,rfl⟩:=gx.1 M;rfl
theorem apB{u:aL}(h:cL u){cR:List Int}:fg N 63 [.agg (aI u).toArray,bq cR] fE λv bd=> ∃o,v=bN o u.aZ.length 1/\bd.F o=some ⟨(kd u cR).map D,true⟩:=by
 refine c3 (ay:=⟨[IW u h.gl],[]⟩) amI (by kernel_rfl) (by simp[Sp]) ?_;have M:=h.ok.zE;have hI:=h.ok.hj;have eQ:(u.aZ.length:Int)*8<=140737488355328/\u.aZ.length<=140737488355328/\(u.aZ.length:Int)<=140737488355328/\(u.aZ.length:Int)<=9223372036854775807:=by omega
 simp(disch:=first|omega|simp only[bS];omega) [Sp,amH,aI,eQ,-ab,-ah,-aa,-ad,-List.map_map];refine gP (ay:=⟨[IW u h.gl],[]⟩) (λi z t=>t.F 0=some ⟨aI u,true⟩/\t.F 5=some ⟨fc u.aZ.length (λj=>if j<i then D (iO u cR j)else D 0),true⟩/\z 1=bq cR/\z 2=bC 0/\z 5=bN 5 u.aZ.length 1/\z 15=D u.aZ.length/\z 16=D i) u.aZ.length ?_ ?_ 0 _ _ (gd _) ⟨by simp(disch:=first|omega|simp only[bS];omega) [aI,-ab,-ah,-aa,-ad,-List.map_map],by simp(disch:=first|omega|simp only[bS];omega) [-ab,-ah,-aa,-ad,-List.map_map];exact TR,by simp,by simp,by simp,by simp,by simp⟩
 ·rintro i z t Y ⟨aM,gj,aT,bY,bD,zv,vu⟩ bO a1;obtain⟨x,B⟩:=gM Y;have cQ:=(cN.1 B).2;obtain⟨br,bQ,a3,a4,fz⟩:=h.ok.tw i x B;obtain⟨m,al⟩:=j0 br;have rT:m<u.cx.length:=(by omega);obtain⟨y,Z⟩:=gM rT;have ot:=(cN.1 Z).2;have hX:qe u i=y.ext:=(by simp only[qe,B,al,nB,Z]);have hb:=h.ok.Iq m y Z;have bA:(i:Int)<u.aZ.length:=(by omega);have a9:(m:Int)<u.cx.length:=(by omega);have q0:i+1<=u.aZ.length:=Y;have bp:=fB (n:=i) (by omega);have dN:=aF aM;have CP:=aF gj;by_cases ar:cR.length=u.aZ.length
  ·have mY:(cR.length:Int)=u.aZ.length:=(by omega);have oo:i<cR.length:=(by omega);have Xu:(i:Int)<cR.length:=(by omega);obtain⟨I,bE⟩:=gM oo;have XX:=(cN.1 bE).2;have Az:iO u cR i=max 0 (min I y.ext):=(by unfold iO;rw[if_pos ar,hX,m7,bE];rfl);simp(disch:=first|omega|simp only[bS];omega) [Sq,aI,fH,gN,aT,bY,bD,zv,vu,aM,gj,bA,a9,bp,cQ,al,ot,ar,XX,rl,A3,e1,q0,-ab,-ah,-aa,-ad,-List.map_map];refine a1 _ _ ⟨by simp(disch:=first|omega|simp only[bS];omega) [aM,aI,-ab,-ah,-aa,-ad,-List.map_map],?_,by simp[aT],by simp[bY],by simp[bD],by simp[zv],by simp⟩;simp(disch:=first|omega|simp only[bS];omega) [-ab,-ah,-aa,-ad,-List.map_map];refine rk λj aV=> ?_;by_cases e:j=i
   ·subst e;have pT:j<j+1:=(by omega);rw[if_pos rfl,if_pos pT,Az];exact congrArg D (aD4 (by omega))
   ·by_cases c:j<i
    ·have ck:j<i+1:=(by omega);simp only[if_neg e,if_pos c,if_pos ck]
    ·have ck: ¬j<i+1:=(by omega);simp only[if_neg e,if_neg c,if_neg ck]
  ·have mY: ¬(cR.length:Int)=u.aZ.length:=(by omega);have Az:iO u cR i=y.ext:=(by unfold iO;rw[if_neg ar,hX]);simp(disch:=first|omega|simp only[bS];omega) [Sq,aI,fH,gN,aT,bY,bD,zv,vu,aM,gj,bA,a9,bp,cQ,al,ot,mY,A3,q0,-ab,-ah,-aa,-ad,-List.map_map];refine a1 _ _ ⟨by simp(disch:=first|omega|simp only[bS];omega) [aM,aI,-ab,-ah,-aa,-ad,-List.map_map],?_,by simp[aT],by simp[bY],by simp[bD],by simp[zv],by simp⟩;simp(disch:=first|omega|simp only[bS];omega) [-ab,-ah,-aa,-ad,-List.map_map];refine rk λj aV=> ?_;by_cases e:j=i
   ·subst e;have pT:j<j+1:=(by omega);rw[if_pos rfl,if_pos pT,Az]
   ·by_cases c:j<i
    ·have ck:j<i+1:=(by omega);simp only[if_neg e,if_pos c,if_pos ck]
    ·have ck: ¬j<i+1:=(by omega);simp only[if_neg e,if_neg c,if_neg ck]
 ·rintro z t ⟨aM,gj,aT,bY,bD,zv,vu⟩;simp(disch:=first|omega|simp only[bS];omega) [Sq,bD,zv,vu,-ab,-ah,-aa,-ad,-List.map_map];rw[gj,A4,C8];rw[rk (g:= λj=>D (iO u cR j)) λj aV=>if_pos aV]
theorem aFm{u:aL}(h:cL u){cR:List Int}:bP N 63 [.agg (aI u).toArray,bq cR] (bq (kd u cR)):=
 N4 (n:=u.aZ.length) (by rw[ll,A4,r7]) u7 (by rw[mc];exact apB h)
theorem TS{u:aL}{cR:List Int}:(kd u cR).length=u.aZ.length:=by rw[A4,r7]
theorem aqk{u:aL}(h:cL u){cR:List Int}:fg N 52 [.agg (aI u).toArray,bq cR] fE λv bd=> ∃o,v=bN o u.aZ.length 1/\bd.F o=some ⟨(kd u cR).map D,true⟩:=by
 refine c3 (ay:=⟨[Df u h.gl],[]⟩) Zr (by kernel_rfl) (by simp[H7]) ?_;have M:=h.ok.zE;have hI:=h.ok.hj;simp(disch:=first|omega|simp only[bS];omega) [H7,Zq,aI,-ab,-ah,-aa,-ad,-List.map_map];refine ur (d:=5) (I:=1) (by simp) ?_;refine gP (ay:=⟨[Df u h.gl],[]⟩) (λi z t=>t.F 0=some ⟨aI u,true⟩/\(∃o,o≠0/\z 5=bN o i 1/\t.F o=some ⟨fc i (λj=>D (iO u cR j)),true⟩)/\z 1=bq cR/\z 2=bC 0/\z 6=D i) u.aZ.length ?_ ?_ 0 _ _ (gd _) ⟨by simp(disch:=first|omega|simp only[bS];omega) [aI,-ab,-ah,-aa,-ad,-List.map_map],⟨2,by decide,by simp,by simp(disch:=first|omega|simp only[bS];omega) [fc,-ab,-ah,-aa,-ad,-List.map_map]⟩,by simp,by simp,by simp⟩
 ·rintro i z t Y ⟨aM,⟨o,aC,bD,bw⟩,aT,bY,bo⟩ bO a1;obtain⟨x,B⟩:=gM Y;have cQ:=(cN.1 B).2;obtain⟨br,bQ,a3,a4,fz⟩:=h.ok.tw i x B;obtain⟨m,al⟩:=j0 br;have rT:m<u.cx.length:=(by omega);obtain⟨y,Z⟩:=gM rT;have ot:=(cN.1 Z).2;have hX:qe u i=y.ext:=(by simp only[qe,B,al,nB,Z]);have hb:=h.ok.Iq m y Z;have bA:(i:Int)<u.aZ.length:=(by omega);have a9:(m:Int)<u.cx.length:=(by omega);have q0:i+1<=u.aZ.length:=Y;have bp:=fB (n:=i) (by omega);have dN:=aF aM;have bh:=aF bw;have eQ:(i+1)*8<=140737488355328/\i<=9223372036854775806:=(by omega);by_cases ar:cR.length=u.aZ.length
  ·have mY:(cR.length:Int)=u.aZ.length:=(by omega);have oo:i<cR.length:=(by omega);have Xu:(i:Int)<cR.length:=(by omega);obtain⟨I,bE⟩:=gM oo;have XX:=(cN.1 bE).2;have Az:iO u cR i=max 0 (min I y.ext):=(by unfold iO;rw[if_pos ar,hX,m7,bE];rfl);have eW: ¬y.ext<0:=(by omega);simp(disch:=first|omega|simp only[bS];omega) [H8,aI,fH,gN,aT,bY,bD,bo,aM,bw,bA,a9,bp,cQ,al,ot,ar,XX,eQ,-ab,-ah,-aa,-ad,-List.map_map];refine a1 _ _ ⟨by simp(disch:=first|omega|simp only[bS];omega) [aM,aI,-ab,-ah,-aa,-ad,-List.map_map],⟨t.next+3,by omega,by simp,?_⟩,by simp[aT],by simp[bY],by simp⟩;rw[cb (by simp),hx (by simp),FW,Az];simp only[mP,en.mk.injEq,and_true,List.append_cancel_left_eq,uw];exact congrArg D (aD5 (by omega))
  ·have mY: ¬(cR.length:Int)=u.aZ.length:=(by omega);have Az:iO u cR i=y.ext:=(by unfold iO;rw[if_neg ar,hX]);simp(disch:=first|omega|simp only[bS];omega) [H8,aI,fH,gN,aT,bY,bD,bo,aM,bw,bA,a9,bp,cQ,al,ot,mY,eQ,-ab,-ah,-aa,-ad,-List.map_map];refine a1 _ _ ⟨by simp(disch:=first|omega|simp only[bS];omega) [aM,aI,-ab,-ah,-aa,-ad,-List.map_map],⟨t.next+3,by omega,by simp,?_⟩,by simp[aT],by simp[bY],by simp⟩;rw[cb (by simp),hx (by simp),FW,Az]
 ·rintro z t ⟨aM,⟨o,aC,bD,bw⟩,aT,bY,bo⟩;have dN:=aF aM;simp(disch:=first|omega|simp only[bS];omega) [H8,aI,aM,bY,bD,bo,-ab,-ah,-aa,-ad,-List.map_map];rw[bw,A4,C8]
theorem aGL{u:aL}(h:cL u){cR:List Int}:bP N 52 [.agg (aI u).toArray,bq cR] (bq (kd u cR)):=
 N4 (n:=u.aZ.length) (by rw[ll,TS]) u7 (by rw[mc];exact aqk h)
noncomputable def adn(u:aL)(h:cL u):bF N:= .cM 63 (List Int) (λ_=>True) (λx=>[.agg (aI u).toArray,bq x]) (λx=>bq (kd u x)) λ_ _=>aFm h
@[simp] theorem aWi{u:aL}{h:cL u}:(adn u h).f=63:=rfl
@[simp] theorem aWj{u:aL}{h:cL u}{l:List Int}:(adn u h).fn [.agg #[D u.ext,ai (u.e7.map gE) 4,ai (u.cx.map gN) 4,ai (u.aO.map e6) 7,ai (u.aZ.map fH) 3,ai (u.dv.map dU) 17,ai (u.a2.map gD) 2],ai (l.map λx=>[D x]) 1]=some (bq (kd u l)):=bF.dK (x:=l) trivial λy Z=>by simpa using Z
noncomputable def Lm(u:aL)(h:cL u):jg N:= .Kl 63 (List Int) (λ_=>True) (λx=>[.agg (aI u).toArray,bq x]) (λ_=>u.aZ.length) (λ_=>1) (λx=>(kd u x).map D) λ_ _=>Of (λv M=>by simp at M;rcases M with rfl|rfl<;>rfl) X5 (apB h)
@[simp] theorem aQ7{u:aL}{h:cL u}:(Lm u h).f=63:=rfl
@[simp] theorem aQ8{u:aL}{h:cL u}{l:List Int}{t:G}:(Lm u h).fn [.agg #[D u.ext,ai (u.e7.map gE) 4,ai (u.cx.map gN) 4,ai (u.aO.map e6) 7,ai (u.aZ.map fH) 3,ai (u.dv.map dU) 17,ai (u.a2.map gD) 2],ai (l.map λx=>[D x]) 1] t=some (.slice (some ⟨t.next,0,none⟩) u.aZ.length 1,(t.bU 1).aK t.next (some ⟨(kd u l).map D,true⟩)):=jg.Wb (x:=l) trivial λy Z=>by simpa using Z
noncomputable def adt(u:aL)(h:cL u):bF N:= .cM 52 (List Int) (λ_=>True) (λx=>[.agg (aI u).toArray,bq x]) (λx=>bq (kd u x)) λ_ _=>aGL h
@[simp] theorem aWL{u:aL}{h:cL u}:(adt u h).f=52:=rfl
@[simp] theorem aWM{u:aL}{h:cL u}{l:List Int}:(adt u h).fn [.agg #[D u.ext,ai (u.e7.map gE) 4,ai (u.cx.map gN) 4,ai (u.aO.map e6) 7,ai (u.aZ.map fH) 3,ai (u.dv.map dU) 17,ai (u.a2.map gD) 2],ai (l.map λx=>[D x]) 1]=some (bq (kd u l)):=bF.dK (x:=l) trivial λy Z=>by simpa using Z
noncomputable def Ln(u:aL)(h:cL u):jg N:= .Kl 52 (List Int) (λ_=>True) (λx=>[.agg (aI u).toArray,bq x]) (λ_=>u.aZ.length) (λ_=>1) (λx=>(kd u x).map D) λ_ _=>Of (λv M=>by simp at M;rcases M with rfl|rfl<;>rfl) X5 (aqk h)
@[simp] theorem aRd{u:aL}{h:cL u}:(Ln u h).f=52:=rfl
@[simp] theorem aRe{u:aL}{h:cL u}{l:List Int}{t:G}:(Ln u h).fn [.agg #[D u.ext,ai (u.e7.map gE) 4,ai (u.cx.map gN) 4,ai (u.aO.map e6) 7,ai (u.aZ.map fH) 3,ai (u.dv.map dU) 17,ai (u.a2.map gD) 2],ai (l.map λx=>[D x]) 1] t=some (.slice (some ⟨t.next,0,none⟩) u.aZ.length 1,(t.bU 1).aK t.next (some ⟨(kd u l).map D,true⟩)):=jg.Wb (x:=l) trivial λy Z=>by simpa using Z
def oz(r:List Int):List Value:=[bq r]
abbrev pP(L:List (List Int)):Value:=ai (L.map oz) 1
@[simp] theorem aVk{l c7:List (List Int)}:l.map oz=c7.map oz↔l=c7:=CR λx y h=>by simpa[oz]using h
theorem Wa{u:aL}(h:gf u){v:Nat}(M:v<u.a2.length): ∃x p q,u.a2[v]?=some x/\x.qt=(p:Nat)/\p<u.dv.length/\u.dv[p]?=some q/\ku u v=q.k+q.m/\1<=q.k/\0<=q.m/\q.k+q.m<=8:=by
 obtain⟨x,B⟩:=gM M;obtain⟨a,b⟩:=h.N9 v x B;obtain⟨p,ae⟩:=j0 a;have hg:p<u.dv.length:=by omega
 obtain⟨q,bg⟩:=gM hg;have aj:=(h.qt p q bg).1;simp only[mI,a7,eF]at aj;have A:=nk aj.1;have E:=nk aj.2.1;refine⟨x,p,q,B,ae,hg,bg,?_,A.1,E.1,aj.2.2.1⟩;have e:x.qt.toNat=p:=by omega
 unfold ku;rw[B];simp only[e,bg]
theorem G2{u:aL}(h:gf u){v:Nat}(M:v<u.a2.length):1<=ku u v/\ku u v<=8:=by obtain⟨x,p,q,_,_,_,_,e,a,b,c⟩:=Wa h M;rw[e];omega
theorem asI{u:aL}(h:gf u){v:Nat}(M:v<u.a2.length):bP N 132 [.agg (aI u).toArray,D v] (D (ku u v)):=by
 refine dJ (c3 (ay:=⟨[],[]⟩) aj6 (by kernel_rfl) (by simp[Q9]) ?_);obtain⟨x,p,q,B,ae,hg,bg,bb,A,E,ao⟩:=Wa h M;have cQ:=(cN.1 B).2;have EE:=(cN.1 bg).2;have bA:(v:Int)<u.a2.length:=by omega
 have a9:(p:Int)<u.dv.length:=by omega
 have bp:IntKind.i64.wrap (q.k+q.m)=q.k+q.m:=db (by omega) (by omega);rw[bb];simp(disch:=first|omega|simp only[bS];omega) [Q9,aj5,aI,gD,dU,bA,a9,cQ,ae,EE,bp,-ab,-ah,-aa,-ad,-List.map_map]
noncomputable def Uc(u:aL)(h:gf u):bF N:= .cM 132 Nat (λv=>v<u.a2.length) (λv=>[.agg (aI u).toArray,D v]) (λv=>D (ku u v)) λv M=>asI h M
@[simp] theorem aWy{u:aL}{h:gf u}:(Uc u h).f=132:=rfl
@[simp] theorem aWz{u:aL}{h:gf u}{v:Nat}(M:v<u.a2.length):(Uc u h).fn [.agg #[D u.ext,ai (u.e7.map gE) 4,ai (u.cx.map gN) 4,ai (u.aO.map e6) 7,ai (u.aZ.map fH) 3,ai (u.dv.map dU) 17,ai (u.a2.map gD) 2],D v]=some (D (ku u v)):=bF.dK (x:=v) M λy Z=>by simp at Z⊢;omega
theorem V6{n:Nat}{p:Nat->Bool}:(List.range (n+1)).filter p=(List.range n).filter p++if p n then[n]else[]:=by rw[By,List.filter_append];cases h:p n<;>simp[h]
theorem aE1{u:aL}(h:cL u){n:Nat}(aj:n<u.aO.length):bP N 116 [.agg (aI u).toArray,D n] (bq (BW u n)):=by
 refine dJ (c3 (ay:=⟨[IW u h.gl,Ub u h.ok],[]⟩) ajB (by kernel_rfl) (by simp[QQ]) ?_);have M:=h.ok.zE;have hI:=h.ok.hj;have eM:=h.ok.fp;obtain⟨d,B⟩:=gM aj;have cQ:=(cN.1 B).2;have e:hT u n=d.jR:=by simp only[hT,B]
 have wi:=(h.ok.gb aj).1;have bA:(n:Int)<u.aO.length:=by omega
 have bW: ¬(n:Int)<0:=by omega
 have cA: ¬u.aO.length<=n:=by omega
 simp(disch:=first|omega|simp only[bS];omega) [QQ,ajA,aI,bW,cA,-ab,-ah,-aa,-ad,-List.map_map];refine ur (d:=5) (I:=1) (by simp) ?_;refine gP (ay:=⟨[IW u h.gl,Ub u h.ok],[]⟩) (λi z t=>t.F 0=some ⟨aI u,true⟩/\(∃o l,o≠0/\l=((List.range i).filter λd=>decide (mr u (hT u n) 5 (jb u d)=n))/\z 5=bN o l.length 1/\t.F o=some ⟨l.map (λd:Nat=>D d),true⟩)/\z 1=D n/\z 2=bC 0/\z 24=D u.aZ.length/\z 25=D i) u.aZ.length ?_ ?_ 0 _ _ (gd _) ⟨by simp(disch:=first|omega|simp only[bS];omega) [aI,-ab,-ah,-aa,-ad,-List.map_map],⟨2,[],by decide,rfl,by simp,by simp(disch:=first|omega|simp only[bS];omega) [-ab,-ah,-aa,-ad,-List.map_map]⟩,by simp,by simp,by simp,by simp⟩
 ·rintro i z t Y ⟨aM,⟨o,l,aC,aA,bD,bw⟩,aT,bY,IP,wI⟩ bO a1;have a9:(i:Int)<u.aZ.length:=(by omega);have bp:=fB (n:=i) (by omega);have dN:=aF aM;have bh:=aF bw;have wo:i<u.aZ.length/\0<=d.jR:=⟨Y,by omega⟩;have Ck:l.length<=i:=(by rw[aA];exact mR (On _ _) (by simp));have eQ:(l.length+1)*8<=140737488355328/\l.length<=9223372036854775806:=(by omega);by_cases c:(mr u d.jR 5 (jb u i):Nat)=n
  ·have ck:(mr u d.jR 5 (jb u i):Int)=(n:Int):=(by omega);simp(disch:=first|omega|simp only[bS];omega) [QR,Lw,aI,e6,aT,bY,bD,IP,wI,aM,bw,bA,a9,cQ,c,bp,eQ,-ab,-ah,-aa,-ad,-List.map_map];refine a1 _ _ ⟨by simp(disch:=first|omega|simp only[bS];omega) [aM,aI,-ab,-ah,-aa,-ad,-List.map_map],⟨t.next+3,l++[i],by omega,?_,by simp,?_⟩,by simp[aT],by simp[bY],by simp[IP],by simp⟩
   ·rw[V6,<-aA,e,decide_eq_true c];rfl
   ·rw[cb (by simp),hx (by simp)];simp
  ·have ck: ¬(mr u d.jR 5 (jb u i):Int)=(n:Int):=(by omega);simp(disch:=first|omega|simp only[bS];omega) [QR,Lw,aI,e6,aT,bY,IP,wI,aM,bA,a9,cQ,ck,bp,-ab,-ah,-aa,-ad,-List.map_map];refine a1 _ _ ⟨by simp(disch:=first|omega|simp only[bS];omega) [aM,aI,-ab,-ah,-aa,-ad,-List.map_map],⟨o,l,aC,?_,by simp[bD],by simp(disch:=first|omega|simp only[bS];omega) [bw,-ab,-ah,-aa,-ad,-List.map_map]⟩,by simp[aT],by simp[bY],by simp[IP],by simp⟩;rw[V6,<-aA,e,w0 c];simp
 ·rintro z t ⟨aM,⟨o,l,aC,aA,bD,bw⟩,aT,bY,IP,wI⟩;have dN:=aF aM;have aN:BW u n=l.map λd:Nat=>(d:Int):=by rw[aA];rfl
  rw[aN];simp(disch:=first|omega|simp only[bS];omega) [QR,Lw,Lw,bD,IP,wI,-ab,-ah,-aa,-ad,-List.map_map];have:=uS (t:=t) (n:=8) (o:=o) (l:=l.length) (I:=1) (w:=true) (bJ:=(l.map λd:Nat=>(d:Int)).map λx=>[D x]) (by rw[mc,bw];simp) (by simp) u7;rw[this]
noncomputable def ada(u:aL)(h:cL u):bF N:= .cM 116 Nat (λn=>n<u.aO.length) (λn=>[.agg (aI u).toArray,D n]) (λn=>bq (BW u n)) λn aj=>aE1 h aj
@[simp] theorem aVB{u:aL}{h:cL u}:(ada u h).f=116:=rfl
@[simp] theorem aVC{u:aL}{h:cL u}{n:Nat}(aj:n<u.aO.length):(ada u h).fn [.agg #[D u.ext,ai (u.e7.map gE) 4,ai (u.cx.map gN) 4,ai (u.aO.map e6) 7,ai (u.aZ.map fH) 3,ai (u.dv.map dU) 17,ai (u.a2.map gD) 2],D n]=some (bq (BW u n)):=bF.dK (x:=n) aj λy Z=>by simp at Z⊢;omega
section
set_option maxRecDepth 100000
def Fg:cy N 6:=⟨_,by conv=>lhs;reduce⟩
def Mm:aB:=aJ (a:=bj Fg.1.body 25791) ⟨_,by conv=>lhs;reduce⟩
def Sw:aB:=aJ (a:= λx=>bk 25 x (bj Fg.1.body 1215)) ⟨_,by conv=>lhs;reduce⟩ Mm
def ZD:aB:=aJ (a:=bj Fg.1.body 255) ⟨_,by conv=>lhs;reduce⟩
def ZE:aB:=aJ (a:= λx y=>bk 15 y (bk 75 x (bj Fg.1.body 31))) ⟨_,by conv=>lhs;reduce⟩ Sw ZD
def amQ:aB:=aJ (a:= λx=>bk 3 x (bj Fg.1.body 15)) ⟨_,by conv=>lhs;reduce⟩ ZE
def amP:aB:=aJ (a:= λx=>bk 3 x (bj Fg.1.body 7)) ⟨_,by conv=>lhs;reduce⟩ amQ
def ZC:aB:=aJ (a:= λx=>bk 7 x Fg.1.body) ⟨_,by conv=>lhs;reduce⟩ amP
def Sg:ca:=⟨105,[.bL 6],ZC⟩
theorem aA6:cm N 6=some Sg:=by kernel_rfl
def AK:cy N 7:=⟨_,by conv=>lhs;reduce⟩
def Mt:aB:=aJ (a:=bj AK.1.body 155647) ⟨_,by conv=>lhs;reduce⟩
def am5:aB:=aJ (a:=bj AK.1.body 32767) ⟨_,by conv=>lhs;reduce⟩
def am4:aB:=aJ (a:= λx y=>bk 15 y (bk 75 x (bj AK.1.body 4095))) ⟨_,by conv=>lhs;reduce⟩ Mt am5
def ZM:aB:=aJ (a:= λx=>bk 7 x (bj AK.1.body 1023)) ⟨_,by conv=>lhs;reduce⟩ am4
def am8:aB:=aJ (a:= λx=>bk 3 x (bj AK.1.body 511)) ⟨_,by conv=>lhs;reduce⟩ ZM
def ZL:aB:=aJ (a:= λx=>bk 31 x (bj AK.1.body 31)) ⟨_,by conv=>lhs;reduce⟩ am8
def am7:aB:=aJ (a:= λx=>bk 3 x (bj AK.1.body 15)) ⟨_,by conv=>lhs;reduce⟩ ZL
def am6:aB:=aJ (a:= λx=>bk 3 x (bj AK.1.body 7)) ⟨_,by conv=>lhs;reduce⟩ am7
def ZK:aB:=aJ (a:= λx=>bk 7 x AK.1.body) ⟨_,by conv=>lhs;reduce⟩ am6
def Sx:ca:=⟨112,[.bL 4],ZK⟩
theorem aBb:cm N 7=some Sx:=by kernel_rfl
def aBC:cy N 17:=⟨_,by conv=>lhs;reduce⟩
def azA:aB:=aJ (a:=aBC.1.body) ⟨_,by conv=>lhs;reduce⟩
def akl:ca:=⟨97,[.bL 0],azA⟩
theorem azB:cm N 17=some akl:=by kernel_rfl
def aaj:cy N 21:=⟨_,by conv=>lhs;reduce⟩
def YQ:aB:=aJ (a:=bj aaj.1.body 80279) ⟨_,by conv=>lhs;reduce⟩
def LY:aB:=aJ (a:= λx=>bk 627 x (bj aaj.1.body 151)) ⟨_,by conv=>lhs;reduce⟩ YQ
def ak4:aB:=aJ (a:= λx=>bk 151 x aaj.1.body) ⟨_,by conv=>lhs;reduce⟩ LY
def RB:ca:=⟨46,[.bL 6],ak4⟩
theorem ak5:cm N 21=some RB:=by kernel_rfl
def aam:cy N 22:=⟨_,by conv=>lhs;reduce⟩
def RL:aB:=aJ (a:=bj aam.1.body 9367) ⟨_,by conv=>lhs;reduce⟩
def YY:aB:=aJ (a:= λx=>bk 73 x (bj aam.1.body 151)) ⟨_,by conv=>lhs;reduce⟩ RL
def alh:aB:=aJ (a:= λx=>bk 151 x aam.1.body) ⟨_,by conv=>lhs;reduce⟩ YY
def YR:ca:=⟨39,[.bL 6],alh⟩
theorem az5:cm N 22=some YR:=by kernel_rfl
def aaq:cy N 23:=⟨_,by conv=>lhs;reduce⟩
def HU:aB:=aJ (a:=bj aaq.1.body 151) ⟨_,by conv=>lhs;reduce⟩
def E1:aB:=aJ (a:=bj aaq.1.body 31) ⟨_,by conv=>lhs;reduce⟩
def alr:aB:=aJ (a:= λx y=>bk 31 y (bk 151 x aaq.1.body)) ⟨_,by conv=>lhs;reduce⟩ HU E1
def RM:ca:=⟨39,[.bL 4],alr⟩
theorem als:cm N 23=some RM:=by kernel_rfl
def aar:cy N 24:=⟨_,by conv=>lhs;reduce⟩
def E2:aB:=aJ (a:=bj aar.1.body 151) ⟨_,by conv=>lhs;reduce⟩
def L3:aB:=aJ (a:=bj aar.1.body 31) ⟨_,by conv=>lhs;reduce⟩
def L2:aB:=aJ (a:= λx y=>bk 31 y (bk 151 x aar.1.body)) ⟨_,by conv=>lhs;reduce⟩ E2 L3
def HV:ca:=⟨39,[.bL 4],L2⟩
theorem aAp:cm N 24=some HV:=by kernel_rfl
def Fa:cy N 25:=⟨_,by conv=>lhs;reduce⟩
def L5:aB:=aJ (a:=bj Fa.1.body 71) ⟨_,by conv=>lhs;reduce⟩
def RW:aB:=aJ (a:=bj Fa.1.body 303) ⟨_,by conv=>lhs;reduce⟩
def alP:aB:=aJ (a:=bj Fa.1.body 63) ⟨_,by conv=>lhs;reduce⟩
def alO:aB:=aJ (a:= λx y=>bk 3 y (bk 18 x (bj Fa.1.body 31))) ⟨_,by conv=>lhs;reduce⟩ RW alP
def alN:aB:=aJ (a:= λx y=>bk 3 y (bk 8 x (bj Fa.1.body 15))) ⟨_,by conv=>lhs;reduce⟩ L5 alO
def alM:aB:=aJ (a:= λx=>bk 3 x (bj Fa.1.body 7)) ⟨_,by conv=>lhs;reduce⟩ alN
def Y8:aB:=aJ (a:= λx=>bk 7 x Fa.1.body) ⟨_,by conv=>lhs;reduce⟩ alM
def HY:ca:=⟨70,[.hy 6 true 2,.bL 7],Y8⟩
theorem Y9:cm N 25=some HY:=by kernel_rfl
def Fb:cy N 26:=⟨_,by conv=>lhs;reduce⟩
def E3:aB:=aJ (a:=bj Fb.1.body 71) ⟨_,by conv=>lhs;reduce⟩
def L7:aB:=aJ (a:=bj Fb.1.body 12895) ⟨_,by conv=>lhs;reduce⟩
def L8:aB:=aJ (a:= λx=>bk 25 x (bj Fb.1.body 607)) ⟨_,by conv=>lhs;reduce⟩ L7
def alW:aB:=aJ (a:=bj Fb.1.body 127) ⟨_,by conv=>lhs;reduce⟩
def Zb:aB:=aJ (a:= λx y=>bk 7 y (bk 37 x (bj Fb.1.body 31))) ⟨_,by conv=>lhs;reduce⟩ L8 alW
def L6:aB:=aJ (a:= λx y=>bk 7 y (bk 17 x (bj Fb.1.body 7))) ⟨_,by conv=>lhs;reduce⟩ E3 Zb
def HZ:aB:=aJ (a:= λx=>bk 7 x Fb.1.body) ⟨_,by conv=>lhs;reduce⟩ L6
def CB:ca:=⟨79,[.hy 6 true 2,.bL 7],HZ⟩
theorem alV:cm N 26=some CB:=by kernel_rfl
def aCj:cy N 27:=⟨_,by conv=>lhs;reduce⟩
def Zf:aB:=aJ (a:=aCj.1.body) ⟨_,by conv=>lhs;reduce⟩
def L9:ca:=⟨17,[.bL 4],Zf⟩
theorem al5:cm N 27=some L9:=by kernel_rfl
def aaw:cy N 28:=⟨_,by conv=>lhs;reduce⟩
def q7:aB:=aJ (a:=bj aaw.1.body 37) ⟨_,by conv=>lhs;reduce⟩
def al7:aB:=aJ (a:=bj aaw.1.body 7) ⟨_,by conv=>lhs;reduce⟩
def al6:aB:=aJ (a:= λx y=>bk 7 y (bk 37 x aaw.1.body)) ⟨_,by conv=>lhs;reduce⟩ q7 al7
def Zg:ca:=⟨176,[.hy 8 true 2,.bL 9],al6⟩
theorem aAR:cm N 28=some Zg:=by kernel_rfl
def Fe:cy N 29:=⟨_,by conv=>lhs;reduce⟩
def R5:aB:=aJ (a:=bj Fe.1.body 607) ⟨_,by conv=>lhs;reduce⟩
def Ma:aB:=aJ (a:=bj Fe.1.body 127) ⟨_,by conv=>lhs;reduce⟩
def ama:aB:=aJ (a:= λx y=>bk 3 y (bk 18 x (bj Fe.1.body 63))) ⟨_,by conv=>lhs;reduce⟩ R5 Ma
def Zi:aB:=aJ (a:= λx=>bk 3 x (bj Fe.1.body 31)) ⟨_,by conv=>lhs;reduce⟩ ama
def al9:aB:=aJ (a:= λx=>bk 3 x (bj Fe.1.body 15)) ⟨_,by conv=>lhs;reduce⟩ Zi
def Zh:aB:=aJ (a:= λx=>bk 3 x (bj Fe.1.body 7)) ⟨_,by conv=>lhs;reduce⟩ al9
def R4:aB:=aJ (a:= λx=>bk 7 x Fe.1.body) ⟨_,by conv=>lhs;reduce⟩ Zh
def H2:ca:=⟨62,[.hy 8 true 4,.bL 9],R4⟩
theorem al8:cm N 29=some H2:=by kernel_rfl
def ME:cy N 30:=⟨_,by conv=>lhs;reduce⟩
def Zk:aB:=aJ (a:=bj ME.1.body 151) ⟨_,by conv=>lhs;reduce⟩
def R7:aB:=aJ (a:=bj ME.1.body 31) ⟨_,by conv=>lhs;reduce⟩
def Zj:aB:=aJ (a:= λx y=>bk 3 y (bk 18 x (bj ME.1.body 15))) ⟨_,by conv=>lhs;reduce⟩ Zk R7
def R6:aB:=aJ (a:= λx=>bk 3 x (bj ME.1.body 7)) ⟨_,by conv=>lhs;reduce⟩ Zj
def Mb:aB:=aJ (a:= λx=>bk 7 x ME.1.body) ⟨_,by conv=>lhs;reduce⟩ R6
def H3:ca:=⟨57,[.bL 8,.bL 9],Mb⟩
theorem aAS:cm N 30=some H3:=by kernel_rfl
def aax:cy N 32:=⟨_,by conv=>lhs;reduce⟩
def Zl:aB:=aJ (a:=bj aax.1.body 15) ⟨_,by conv=>lhs;reduce⟩
def Sc:aB:=aJ (a:= λx=>bk 3 x (bj aax.1.body 7)) ⟨_,by conv=>lhs;reduce⟩ Zl
def Mc:aB:=aJ (a:= λx=>bk 7 x aax.1.body) ⟨_,by conv=>lhs;reduce⟩ Sc
def CC:ca:=⟨42,[.hy 8 true 2,.bL 9],Mc⟩
theorem aAT:cm N 32=some CC:=by kernel_rfl
def aay:cy N 36:=⟨_,by conv=>lhs;reduce⟩
def amh:aB:=aJ (a:=bj aay.1.body 15) ⟨_,by conv=>lhs;reduce⟩
def Sd:aB:=aJ (a:= λx=>bk 3 x (bj aay.1.body 7)) ⟨_,by conv=>lhs;reduce⟩ amh
def E4:aB:=aJ (a:= λx=>bk 7 x aay.1.body) ⟨_,by conv=>lhs;reduce⟩ Sd
def xM:ca:=⟨47,[.hy 8 true 2,.bL 9],E4⟩
theorem amg:cm N 36=some xM:=by kernel_rfl
def aCn:cy N 38:=⟨_,by conv=>lhs;reduce⟩
def amk:aB:=aJ (a:=aCn.1.body) ⟨_,by conv=>lhs;reduce⟩
def Zo:ca:=⟨20,[.bL 6],amk⟩
theorem aAV:cm N 38=some Zo:=by kernel_rfl
def aCq:cy N 64:=⟨_,by conv=>lhs;reduce⟩
def Zy:aB:=aJ (a:=aCq.1.body) ⟨_,by conv=>lhs;reduce⟩
def Mh:ca:=⟨18,[.bL 4],Zy⟩
theorem amJ:cm N 64=some Mh:=by kernel_rfl
def aCr:cy N 65:=⟨_,by conv=>lhs;reduce⟩
def Zz:aB:=aJ (a:=aCr.1.body) ⟨_,by conv=>lhs;reduce⟩
def Mi:ca:=⟨19,[.bL 4],Zz⟩
theorem amK:cm N 65=some Mi:=by kernel_rfl
def SY:cy N 67:=⟨_,by conv=>lhs;reduce⟩
def Mk:aB:=aJ (a:=bj SY.1.body 143) ⟨_,by conv=>lhs;reduce⟩
def amM:aB:=aJ (a:= λx=>bk 17 x (bj SY.1.body 15)) ⟨_,by conv=>lhs;reduce⟩ Mk
def Sr:aB:=aJ (a:= λx=>bk 3 x (bj SY.1.body 7)) ⟨_,by conv=>lhs;reduce⟩ amM
def Mj:aB:=aJ (a:= λx=>bk 7 x SY.1.body) ⟨_,by conv=>lhs;reduce⟩ Sr
def Ib:ca:=⟨42,[.bL 6],Mj⟩
theorem aA4:cm N 67=some Ib:=by kernel_rfl
def aCt:cy N 69:=⟨_,by conv=>lhs;reduce⟩
def ZB:aB:=aJ (a:=aCt.1.body) ⟨_,by conv=>lhs;reduce⟩
def Sv:ca:=⟨18,[.bL 4],ZB⟩
theorem aA5:cm N 69=some Sv:=by kernel_rfl
def aaA:cy N 70:=⟨_,by conv=>lhs;reduce⟩
def E7:aB:=aJ (a:=bj aaA.1.body 37) ⟨_,by conv=>lhs;reduce⟩
def AI:aB:=aJ (a:=bj aaA.1.body 7) ⟨_,by conv=>lhs;reduce⟩
def ZF:aB:=aJ (a:= λx y=>bk 7 y (bk 37 x aaA.1.body)) ⟨_,by conv=>lhs;reduce⟩ E7 AI
def Mn:ca:=⟨18,[.bL 4],ZF⟩
theorem amR:cm N 70=some Mn:=by kernel_rfl
def aCv:cy N 72:=⟨_,by conv=>lhs;reduce⟩
def amS:aB:=aJ (a:=aCv.1.body) ⟨_,by conv=>lhs;reduce⟩
def Sy:ca:=⟨20,[.bL 6],amS⟩
theorem amT:cm N 72=some Sy:=by kernel_rfl
def aCw:cy N 74:=⟨_,by conv=>lhs;reduce⟩
def amU:aB:=aJ (a:=aCw.1.body) ⟨_,by conv=>lhs;reduce⟩
def Sz:ca:=⟨10,[.bL 4],amU⟩
theorem amV:cm N 74=some Sz:=by kernel_rfl
def aCx:cy N 75:=⟨_,by conv=>lhs;reduce⟩
def amW:aB:=aJ (a:=aCx.1.body) ⟨_,by conv=>lhs;reduce⟩
def SA:ca:=⟨9,[.bL 4],amW⟩
theorem amX:cm N 75=some SA:=by kernel_rfl
def aaB:cy N 76:=⟨_,by conv=>lhs;reduce⟩
def ZG:aB:=aJ (a:=bj aaB.1.body 15) ⟨_,by conv=>lhs;reduce⟩
def Mp:aB:=aJ (a:= λx=>bk 3 x (bj aaB.1.body 7)) ⟨_,by conv=>lhs;reduce⟩ ZG
def E8:aB:=aJ (a:= λx=>bk 7 x aaB.1.body) ⟨_,by conv=>lhs;reduce⟩ Mp
def y5:ca:=⟨46,[.hy 8 true 2,.bL 9],E8⟩
theorem aA9:cm N 76=some y5:=by kernel_rfl
def aaC:cy N 77:=⟨_,by conv=>lhs;reduce⟩
def ZH:aB:=aJ (a:=bj aaC.1.body 15) ⟨_,by conv=>lhs;reduce⟩
def SB:aB:=aJ (a:= λx=>bk 3 x (bj aaC.1.body 7)) ⟨_,by conv=>lhs;reduce⟩ ZH
def Mq:aB:=aJ (a:= λx=>bk 7 x aaC.1.body) ⟨_,by conv=>lhs;reduce⟩ SB
def CE:ca:=⟨42,[.hy 8 true 2,.bL 9],Mq⟩
theorem aBa:cm N 77=some CE:=by kernel_rfl
def aaD:cy N 80:=⟨_,by conv=>lhs;reduce⟩
def E9:aB:=aJ (a:=bj aaD.1.body 75) ⟨_,by conv=>lhs;reduce⟩
def AJ:aB:=aJ (a:=bj aaD.1.body 15) ⟨_,by conv=>lhs;reduce⟩
def ZN:aB:=aJ (a:= λx y=>bk 15 y (bk 75 x aaD.1.body)) ⟨_,by conv=>lhs;reduce⟩ E9 AJ
def Mu:ca:=⟨27,[.bL 4],ZN⟩
theorem am9:cm N 80=some Mu:=by kernel_rfl
def aBn:cy N 122:=⟨_,by conv=>lhs;reduce⟩
def ajJ:aB:=aJ (a:=aBn.1.body) ⟨_,by conv=>lhs;reduce⟩
def QV:ca:=⟨7,[.bL 3],ajJ⟩
theorem ajK:cm N 122=some QV:=by kernel_rfl
end
end Go.Proofs.YtmmkkggfmigppaaGreat
