/-
  A part of the proof, shortened by tools of ours.
-/
import Derived.Test.YtmmkkggfmigppaaGreatZazae
set_option linter.all false
set_option maxRecDepth 8000
set_option maxHeartbeats 16000000
namespace Go.Proofs.YtmmkkggfmigppaaGreat
open Go Go.DI Go.Big Go.hR
theorem fa.cells{t:H}{o:Nat}{l:List Int}(h:fa t o l): ∃cs,t.I o=some ⟨cs,true⟩/\cs.take l.length=l.map E/\l.length<=cs.length:=by obtain⟨cs,g,a,b,_⟩:=h;exact⟨cs,g,a,b⟩
theorem fa.m1{t:H}{o:Nat}{l:List Int}(h:fa t o l){k:Nat}{x:Int}(B:l[k]?=some x): ∃cs,t.I o=some ⟨cs,true⟩/\cs[k]?=some (E x)/\(∀h,cs[k]'h=E x)/\k<cs.length:=by
 obtain⟨cs,eY,CV,nc,w9⟩:=h;have S:=(cG.1 B).1;have hj:cs[k]?=some (E x):=by have e:=congrArg (λl=>l[k]?) CV;simp only[rf,rh,B]at e;rw[if_pos S]at e;exact e
 exact⟨cs,eY,hj,λh=>(cG.1 hj).2,by omega⟩
theorem abC{u:aG}(h:cE u)(A:1<=u.aZ.length){R ao ay:List Int}(az:ao.length+ay.length<=1000){ej hG:Nat}{Q:cM->aC->H->Prop}: ∀(k:Nat) (z:aC) (t:H) (gg gU:Nat),k<=ao.length->sf u R ej hG z t->fa t gg (ao.take k)->fa t gU (ao.drop k++ay)->gg≠gU->z 8=b7 gg k 1->z 9=b7 gU (ao.drop k++ay).length 1->
 (∀(K:aC) (af:H) (qY qZ:Nat) (a w:List Int),pZ (gh u R) k (ao.take k) (ao.drop k++ay)=(a,w)->sf u R ej hG K af->fa af qY a->fa af qZ w->K 8=b7 qY a.length 1->K 9=b7 qZ w.length 1->Q (.cH 0) K af)->ec N (.loop EB) z t Q
 | 0,z,t,gg,gU,S,c0,aa,aS,fW,bl,cP,bb=>by refine eF (ax:=⟨[CK u h A],[]⟩) λbM a1=> ?_;obtain⟨aL,e1,aU,bW,bB⟩:=id c0;simp(disch:=first|omega|simp only[DI.aK];omega) [EB,bl,-an,-au,-ak,-aq,-List.map_map];exact bb _ _ gg gU [] (ao++ay) rfl (c0.dK rfl rfl (by simp) (by simp) (by simp)) aa (by simpa using aS) (by simp[bl]) (by simp[cP])
 | k+1,z,t,gg,gU,S,c0,aa,aS,fW,bl,cP,bb=>by
   refine eF (ax:=⟨[CK u h A],[]⟩) λbM a1=> ?_;obtain⟨aL,e1,aU,bW,bB⟩:=id c0;have dD:=aM aL;have kR:=aM e1;have step:=af8 (P:=gh u R) (ao:=ao) (ay:=ay) (k:=k) (by omega);obtain⟨aN,b9⟩: ∃aN,aN=ao.take (k+1):=⟨_,rfl⟩;have pD:aN.length=k+1:=(by rw[b9,ri];omega);have PE:ao.take k=aN.take k:=(by rw[b9,List.take_take];congr 1;omega);obtain⟨x,B⟩: ∃x,aN[k]?=some x:=⟨_,c1 (by omega)⟩;have Xg:ao[k]?=some x:=(by rw[b9,rf]at B;simpa using B);have w6:ao.drop k=x::ao.drop (k+1):=(by rw[rb (by omega),(cG.1 Xg).2]);rw[<-b9]at aa step;obtain⟨f9,DH⟩:=vt aa pD;have uW:=Ng aa (k:=k+1);have bC:(0:Int)<(k:Int)+1:=(by omega);have ae:aN.length<=1000000:=(by omega);have br:IntKind.i64.wrap (k:Int)=k:=cY (by omega) (by omega);obtain⟨w,vR⟩: ∃w,w=ao.drop (k+1)++ay:=⟨_,rfl⟩;have Qd:w.length<=1000:=(by rw[vR,iv,F2];omega);rw[<-vR]at aS cP bb step;cases gq:gh u R aN
   ·obtain⟨cs,eY,hj,BE,a8⟩:=aa.m1 B;obtain⟨ds,x6,aHS,Ap⟩:=aS.cells;have bV:k+1<=cs.length:=a8;have cv:(k:Int)<(k:Int)+1:=(by omega);have fQ:(k:Int)<=(k:Int)+1:=(by omega);have Cg:=aa.cQ;have E0:=aS.cQ;have ru:ao.drop k++ay=x::w:=(by rw[w6,vR];rfl);have e8:(1+w.length)*8<=140737488355328/\1+w.length<=9223372036854775807:=(by omega);by_cases x1:w=[]
    ·subst x1;simp(disch:=first|omega|simp only[DI.aK];omega) [EB,aI,aU,bW,bl,cP,aL,f9,uW,bC,gq,br,eY,x6,BE,bV,cv,fQ,fC,-an,-au,-ak,-aq,-List.map_map];have sy: ∀dX b,b<t.next->(((hJ t [gg]).b0 5).aO (t.next+1) dX).I b=t.I b:= λdX b hb=>by rw[a7 (by omega),cJ (by simpa using hb)];rfl
     refine a1 _ _ (abC h A az k _ _ gg (t.next+1) (by omega) (c0.dK (sy _ ej dD) (sy _ hG kR) (by simp) (by simp) (by simp)) (by rw[PE];exact(aa.take (by omega)).dK (sy _ gg Cg)) (by rw[ru];exact fa.cK (cx (by simp))) (by omega) (by simp) (by rw[ru];simp) λK af qY qZ a w' aQ Kg kD kE aD aJ=> ?_);refine bb K af qY qZ a w' ?_ Kg kD kE aD aJ;rw[<-b9,step,if_pos gq];exact aQ
    ·have atj: ¬w.length=0:= λe=>x1 (pU e);simp(disch:=first|omega|simp only[DI.aK];omega) [EB,aI,aU,bW,bl,cP,aL,f9,uW,bC,gq,br,eY,x6,aHS,Ap,BE,bV,cv,fQ,fC,atj,e8,-an,-au,-ak,-aq,-List.map_map];have sy: ∀dX aet b,b<t.next->((((hJ t [gg]).b0 5).aO (t.next+1) dX).aO (t.next+3) aet).I b=t.I b:= λdX aet b hb=>by rw[a7 (by omega),a7 (by omega),cJ (by simpa using hb)];rfl
     refine a1 _ _ (abC h A az k _ _ gg (t.next+3) (by omega) (c0.dK (sy _ _ ej dD) (sy _ _ hG kR) (by simp) (by simp) (by simp)) (by rw[PE];exact(aa.take (by omega)).dK (sy _ _ gg Cg)) (by rw[ru];exact fa.cK (cx (by simp))) (by omega) (by simp) (by rw[ru];simp;omega) λK af qY qZ a w' aQ Kg kD kE aD aJ=> ?_);refine bb K af qY qZ a w' ?_ Kg kD kE aD aJ;rw[<-b9,step,if_pos gq];exact aQ
   ·rw[if_neg (by rw[gq];decide)]at step;simp(disch:=first|omega|simp only[DI.aK];omega) [EB,aI,aU,bW,bl,aL,f9,uW,bC,gq,-an,-au,-ak,-aq,-List.map_map];refine bb _ _ gg gU aN w (by rw[<-b9];exact step) (c0.dK (by simp) (by simp) (by simp) (by simp) (by simp)) (aa.dK (by simp)) (aS.dK (by simp)) (by simp[bl,pD]) (by simp[cP])
theorem aEG{u:aG}(h:cE u)(A:1<=u.aZ.length){R a0 dS:List Int}(az:a0.length+dS.length<=1000){ej hG gg gU ng:Nat}{Q:cM->aC->H->Prop}{z:aC}{t:H}(c0:sf u R ej hG z t)(aa:fa t gg a0)(aS:fa t gU dS)
 (vF:fa t ng []) (DA:gg≠ng/\gU≠ng/\ej≠ng/\hG≠ng) (bl:z 8=b7 gg a0.length 1) (cP:z 9=b7 gU dS.length 1) (gn:z 11=b7 ng 0 1) (g6:z 12=E 0)
 (bb: ∀(K:aC) (af:H) (qY qZ:Nat),sf u R ej hG K af->fa af qY (e6 (gh u R) a0 dS).1->fa af qZ (e6 (gh u R) a0 dS).2->K 8=b7 qY (e6 (gh u R) a0 dS).1.length 1->K 11=b7 qZ (e6 (gh u R) a0 dS).2.length 1->Q (.cH 2) K af):ec N (.loop Lx) z t Q:=by
 refine gR (ax:=⟨[CK u h A],[]⟩) (λi z t=>(∃gg ng,fa t gg (e6 (gh u R) a0 (dS.take i)).1/\fa t ng (e6 (gh u R) a0 (dS.take i)).2/\(gg≠ng/\gU≠ng/\ej≠ng/\hG≠ng)/\z 8=b7 gg (e6 (gh u R) a0 (dS.take i)).1.length 1/\z 11=b7 ng (e6 (gh u R) a0 (dS.take i)).2.length 1)/\sf u R ej hG z t/\fa t gU dS/\z 9=b7 gU dS.length 1/\z 12=E i) dS.length ?_ ?_ 0 z t (gi _) ⟨⟨gg,ng,by simpa[e6]using aa,by simpa[e6]using vF,DA,by simpa[e6]using bl,by simpa[e6]using gn⟩,c0,aS,cP,g6⟩
 ·rintro i z t W ⟨⟨gg,ng,aa,vF,⟨fW,gI,iO,zB⟩,bl,gn⟩,c0,aS,cP,g6⟩ bM a1;obtain⟨x,B⟩:=gk W;have step:=aeF (P:=gh u R) (a:=a0) B;have di:=Ji (P:=gh u R) (dS.take i) a0;rw[ri]at di;obtain⟨a,Wf⟩: ∃a,a=(e6 (gh u R) a0 (dS.take i)).1:=⟨_,rfl⟩;obtain⟨lG,avW⟩: ∃a,a=(e6 (gh u R) a0 (dS.take i)).2:=⟨_,rfl⟩;rw[<-Wf]at aa bl step di;rw[<-avW]at vF gn step di;obtain⟨aL,e1,aU,bW,bB⟩:=id c0;have dD:=aM aL;have kR:=aM e1;have Cg:=aa.cQ;have amW:=vF.cQ;have E0:=aS.cQ;have bC:(i:Int)<dS.length:=(by omega);have a8:i+1<=dS.length:=W;have br:=fz (n:=i) (by omega);obtain⟨cs,x6,hj,BE,bV⟩:=aS.m1 B;have cv:i+1<=cs.length:=bV;obtain⟨zw,eY,CV,nc⟩:=aa.cells;obtain⟨b4,Py,r2,aCu⟩:=vF.cells;have e8:(a.length+1)*8<=140737488355328/\a.length+1<=9223372036854775807/\a.length*8<=140737488355328/\a.length<=9223372036854775807:=(by omega);have aRr:a.length<=9223372036854775806:=(by omega);have aCt:(lG.length+1)*8<=140737488355328/\lG.length<=9223372036854775806:=(by omega);have ae:(a++[x]).length<=1000000:=by simp;omega
  -- Jr 'aYE
  have key: ∀(X:H) (c6:aC),(∀b,b<t.next->X.I b=t.I b)->t.next+7<X.next->X.I (t.next+7)=some ⟨(a++[x]).map E,true⟩->c6 1=bm R->c6 3=bH ej->c6 6=bH hG->c6 8=b7 gg a.length 1->c6 9=b7 gU dS.length 1->c6 11=b7 ng lG.length 1->c6 12=E i->c6 13=b7 (t.next+7) (a.length+1) 1->
   ix (ax:=⟨[CK u h A],[]⟩) Lw c6 X (zt 3 (CX ⟨[CK u h A],[]⟩ (.kl [⟨0,some 54,none,.hs (.tmp 12),[]⟩,⟨1,some 55,none,.nY .add .sC (.tmp 54) (.const (.int .i64 1)),[]⟩,⟨2,some 12,none,.hs (.tmp 55),[]⟩]) (rM bM Q))):= λX c6 na Cp qD aU bW bB bl cP gn g6 pg=>by
   have aL:=(na ej dD).trans aL;have dD:=aM aL;have x6:=(na gU E0).trans x6;have Py:=(na ng amW).trans Py;have aRt:=aM Py;obtain⟨f9,DH⟩:=vt (fa.cK qD) (k:=a.length+1) (by simp);have uW:=Ng (fa.cK qD) (k:=a.length+1);cases gq:gh u R (a++[x])
   ·rw[if_neg (by rw[gq];decide)]at step;simp(disch:=first|omega|simp only[DI.aK];omega) [Lw,aI,aU,bW,cP,gn,g6,pg,aL,f9,uW,gq,x6,BE,bC,cv,fC,Py,r2,aCu,aCt,br,-an,-au,-ak,-aq,-List.map_map];have SR: ∀b,b<t.next->b≠ng->(((((hJ X [t.next+7]).b0 8).aO (X.next+5) (some ⟨[E x],true⟩)).aO ng none).aO (X.next+6) (some ⟨lG.map E++[E x],true⟩)).I b=t.I b:= λb hb bG=>by rw[a7 (by omega),a7 bG,a7 (by omega),cJ (by simp;omega)];exact na b hb
    refine a1 _ _ ⟨⟨gg,X.next+6,?_,?_,⟨by omega,by omega,by omega,by omega⟩,?_,?_⟩,c0.dK (SR ej (by have:=aM c0.aL;omega) iO) (SR hG kR zB) (by simp[aU,c0.aU]) (by simp[bW,c0.bW]) (by simp[bB,c0.bB]),aS.dK (SR gU E0 gI),by simp[cP],by simp⟩
    ·rw[step];exact aa.dK (SR gg Cg fW)
    ·rw[step];exact fa.cK (by rw[cx (by simp)];simp)
    ·rw[step];simp[bl]
    ·rw[step];simp
   ·rw[if_pos gq]at step;simp(disch:=first|omega|simp only[DI.aK];omega) [Lw,aI,aU,bW,g6,pg,aL,f9,uW,gq,br,-an,-au,-ak,-aq,-List.map_map];refine a1 _ _ ⟨⟨t.next+7,ng,?_,?_,⟨by omega,gI,iO,zB⟩,?_,?_⟩,c0.dK (na ej (aM c0.aL)) (na hG kR) (by simp[aU,c0.aU]) (by simp[bW,c0.bW]) (by simp[bB,c0.bB]),aS.dK (na gU E0),by simp[cP],by simp⟩
    ·rw[step];exact fa.cK qD
    ·rw[step];exact vF.dK (na ng amW)
    ·rw[step];simp
    ·rw[step];simp[gn]
  by_cases OX:a=[]
  ·have xB:z 8=b7 gg 0 1:=(by rw[bl,OX];rfl);have aXq:zw.take 0=[]:=rfl;simp(disch:=first|omega|simp only[DI.aK];omega) [Lx,xB,cP,g6,eY,x6,BE,bC,cv,fC,-an,-au,-ak,-aq,-List.map_map];refine key _ _ (λb hb=> ?_) (by simp) ?_ (by simp[aU]) (by simp[bW]) (by simp[bB]) (by simp[bl]) (by simp[cP]) (by simp[gn]) (by simp[g6]) (by simp[OX])
   ·simp(disch:=first|omega|simp only[DI.aK];omega) [-an,-au,-ak,-aq,-List.map_map]
   ·simp(disch:=first|omega|simp only[DI.aK];omega) [OX,-an,-au,-ak,-aq,-List.map_map]
  ·have zx: ¬a.length=0:= λe=>OX (pU e);simp(disch:=first|omega|simp only[DI.aK];omega) [Lx,bl,cP,g6,eY,CV,nc,x6,BE,bC,cv,fC,zx,e8,-an,-au,-ak,-aq,-List.map_map];refine key _ _ (λb hb=> ?_) (by simp) ?_ (by simp[aU]) (by simp[bW]) (by simp[bB]) (by simp[bl]) (by simp[cP]) (by simp[gn]) (by simp[g6]) (by simp)
   ·rw[a7 (by omega),a7 (by omega),a7 (by omega),a7 (by omega),cJ hb]
   ·rw[cx (by simp),h7 (by simp)];simp
 ·rintro z t ⟨⟨gg,ng,aa,vF,_,bl,gn⟩,c0,aS,cP,g6⟩;rw[mY]at aa vF bl gn;simp(disch:=first|omega|simp only[DI.aK];omega) [Lx,Lw,cP,g6,-an,-au,-ak,-aq,-List.map_map];exact bb _ t gg ng (c0.dK rfl rfl (by simp) (by simp) (by simp)) aa vF (by simp[bl]) (by simp[gn])
theorem aFt{u:aG}(h:cE u)(A:1<=u.aZ.length){R ao ay:List Int}(az:ao.length+ay.length<=1000):bP N 26 [.agg (aI u).toArray,bm R,.agg (jV ao ay).toArray] (if hg u (ao++ay)=true then .tuple #[Fm (gh u R) ao ay,E 0]else .tuple #[.agg #[bm [],bm []],E 1]):=by
 have ae:(ao++ay).length<=1000000:=by rw[iv];omega
 have F:=aGn (u:=u) (h:=h) (ao:=ao) (ay:=ay) ae;cases M:hg u (ao++ay)
 ·rw[if_neg (by decide)];refine bP.tX (r:= .tuple #[aaO,E 1]) (du (c2 (ax:=⟨[FA u h],[]⟩) akM (by kernel_rfl) (by simp[B3]) ?_)) (pt.tuple (xs:=[_,_]) (ys:=[_,_]) ⟨pt.agg (xs:=[_,_]) (ys:=[_,_]) ⟨.nil,.nil,trivial⟩,.refl _,trivial⟩);simp(disch:=first|omega|simp only[DI.aK];omega) [B3,Hx,aI,M]
 ·rw[if_pos rfl];refine du (c2 (ax:=⟨[FA u h],[]⟩) akM (by kernel_rfl) (by simp[B3]) ?_);have key: ∀(X:H) (z:aC) (gg gU:Nat),sf u R 0 2 z X->fa X gg ao->fa X gU ay->gg≠gU->z 8=b7 gg ao.length 1->z 9=b7 gU ay.length 1->z 7=E 0->ec N (.loop EB) z X (zt 0 (CX ⟨[FA u h],[]⟩ YG (CB [lP.ha 6 true 2,lP.bJ 7] λv t=>dt 9 t v=some (Value.tuple #[Fm (gh u R) ao ay,E 0])))):= λX z gg gU c0 aa aS fW bl cP ca=>by
   have JL:ao.take ao.length=ao:=mY;have DC:ao.drop ao.length++ay=ay:=(by rw[List.drop_length];rfl);refine abC h A (R:=R) az (ej:=0) (hG:=2) ao.length z X gg gU (c8 _) c0 (by rw[JL];exact aa) (by rw[DC];exact aS) fW bl (by rw[DC];exact cP) λK t gg gU a w aQ c0 aa aS lC ru=> ?_;rw[JL,DC]at aQ;have gZ:=(JQ (P:=gh u R) ao.length ao ay (c8 _)).2.1;rw[aQ]at gZ;have W2:pO (gh u R) ao ay=e6 (gh u R) a w:=(by unfold pO;rw[aQ]);have di:a.length+w.length=ao.length+ay.length:=(by have:=congrArg List.length gZ;simpa using this);obtain⟨aL,e1,aU,bW,bB⟩:=id c0;have dD:=aM aL;have kR:=aM e1;have nc:=aa.cQ;have Ap:=aS.cQ;simp(disch:=omega) [YG];refine tY (d:=11) (G:=1) (by simp) ?_;have e0: ∀b,b<t.next->((t.b0 1).aO t.next (some (eM.mk [] true))).I b=t.I b:= λb hb=>by rw[a7 (by omega),cJ hb]
   refine aEG h A (by omega) (gg:=gg) (gU:=gU) (ng:=t.next) (c0.dK (e0 0 dD) (e0 2 kR) (by simp) (by simp) (by simp)) (aa.dK (e0 gg nc)) (aS.dK (e0 gU Ap)) (fa.cK (cx (by simp))) ⟨by omega,by omega,by omega,by omega⟩ (by simp[lC]) (by simp[ru]) (by simp) (by simp) λc6 eC MR M4 x9 DV w5 JJ JK=> ?_;obtain⟨aL,e1,aU,bW,bB⟩:=id x9;have kR:=aM e1;have dY:MR≠2:= λe=>by obtain⟨cs,eY,_,_,w9⟩:=DV;rw[e,e1]at eY;obtain⟨n,ae⟩:=w9 (.slice none 0 0) (by have aJ:[Value.slice none 0 0,Value.slice none 0 0]=cs:=congrArg eM.cells (De eY);rw[<-aJ];simp);cases ae
   have ee:M4≠2:= λe=>by obtain⟨cs,eY,_,_,w9⟩:=w5;rw[e,e1]at eY;obtain⟨n,ae⟩:=w9 (.slice none 0 0) (by have aJ:[Value.slice none 0 0,Value.slice none 0 0]=cs:=congrArg eM.cells (De eY);rw[<-aJ];simp);cases ae
   rw[<-W2]at DV w5 JJ JK;have rK: ∀dX b,b≠2->(eC.aO 2 dX).I b=eC.I b:= λdX b hb=>a7 hb;have eD:= λdX=>(vt (DV.dK (rK dX MR dY)) rfl).2;have eS:= λdX=>(vt (w5.dK (rK dX M4 ee)) rfl).2;simp(disch:=omega) [akN,bB,e1,JJ,JK,eD,eS,Fm]
  have amT:ao.length*8<=140737488355328/\ao.length<=9223372036854775807:=(by omega);have amV:ay.length*8<=140737488355328/\ay.length<=9223372036854775807:=(by omega);have Nm: ∀(X:H) (z:aC),X.I 0=some ⟨aI u,true⟩->X.I 2=some ⟨[.slice none 0 0,.slice none 0 0],true⟩->z 1=bm R->z 3=bH 0->z 6=bH 2->sf u R 0 2 z X:= λX z a b c d e=>⟨a,b,c,d,e⟩;by_cases j0:ao=[]
  ·have Ds:ao.length=0:=(by rw[j0];rfl);by_cases j1:ay=[]
   ·have zv:ay.length=0:=(by rw[j1];rfl);simp[B3,Hx,Lv,aI,M,Ds,zv];refine tY (d:=8) (G:=1) (by simp) ?_;refine tY (d:=9) (G:=1) (by simp) ?_;refine key _ _ 12 13 (Nm _ _ (by simp[aI]) (by simp) (by simp) (by simp) (by simp)) ?_ ?_ (by decide) (by simp[Ds,fJ]) (by simp[zv,fJ]) (by simp)
    ·rw[j0];exact fa.cK (by simp[fJ])
    ·rw[j1];exact fa.cK (by simp[fJ])
   ·have zv: ¬ay.length=0:= λe=>j1 (pU e);simp(disch:=first|omega|simp only[DI.aK];omega) [B3,Hx,Lv,aI,M,Ds,zv,amV];refine tY (d:=8) (G:=1) (by simp) ?_;refine key _ _ 12 9 (Nm _ _ (by simp[aI]) (by simp) (by simp) (by simp) (by simp)) ?_ ?_ (by decide) (by simp[Ds,fJ]) (by simp[fJ]) (by simp)
    ·rw[j0];exact fa.cK (by simp[fJ,l5])
    ·exact fa.cK (by simp[fJ,l5])
  ·have Ds: ¬ao.length=0:= λe=>j0 (pU e);by_cases j1:ay=[]
   ·have zv:ay.length=0:=(by rw[j1];rfl);simp(disch:=first|omega|simp only[DI.aK];omega) [B3,Hx,Lv,aI,M,Ds,zv,amT];refine tY (d:=9) (G:=1) (by simp) ?_;refine key _ _ 6 12 (Nm _ _ (by simp[aI]) (by simp) (by simp) (by simp) (by simp)) ?_ ?_ (by decide) (by simp[fJ]) (by simp[zv,fJ]) (by simp)
    ·exact fa.cK (by simp[fJ,l5])
    ·rw[j1];exact fa.cK (by simp(disch:=first|omega|simp only[DI.aK];omega) [fJ,l5])
   ·have zv: ¬ay.length=0:= λe=>j1 (pU e);simp(disch:=first|omega|simp only[DI.aK];omega) [B3,Hx,Lv,aI,M,Ds,zv,amT,amV,-an,-au,-ak,-aq,-List.map_map];refine key _ _ 6 9 (Nm _ _ (by simp(disch:=first|omega|simp only[DI.aK];omega) [aI,-an,-au,-ak,-aq,-List.map_map]) (by simp(disch:=first|omega|simp only[DI.aK];omega) [-an,-au,-ak,-aq,-List.map_map]) (by simp) (by simp) (by simp)) ?_ ?_ (by decide) (by simp[]) (by simp[]) (by simp)
    ·exact fa.cK (by simp[fJ,l5])
    ·exact fa.cK (by simp[fJ,l5])
noncomputable def acJ:bx N:= .cK 74 (List Int×Int) (λx=>x.1.length<=999999) (λx=>[bm x.1,E x.2]) (λx=>bm (x.1++[x.2])) λx B=>du ((adM lT.enc B).bD λr af ⟨o,_,al,aH,_⟩=>by rw[al];exact(vt (fa.cK aH) (by simp)).1)
@[simp] theorem aVY:acJ.f=74:=rfl
@[simp] theorem aVZ{l:List Int}{n:Int}(h:l.length<=999999):acJ.fn [ad (l.map λx=>[E x]) 1,.int .i64 n]=some (bm (l++[n])):=bx.dx (x:=(l,n)) h λ⟨ko,h6⟩ Y=>by simpa using Y
noncomputable def acI:bx N:= .cK 75 (List Int×Int) (λx=>x.1.length<=1000000) (λx=>[bm x.1,E x.2]) (λx=>bm (fo x.1 x.2)) λx B=>du ((aqD lT.enc B).bD λr af ⟨o,_,al,aH,_⟩=>by rw[al];exact(vt aH rfl).1)
@[simp] theorem aVW:acI.f=75:=rfl
@[simp] theorem aVX{l:List Int}{n:Int}(h:l.length<=1000000):acI.fn [ad (l.map λx=>[E x]) 1,.int .i64 n]=some (bm (fo l n)):=bx.dx (x:=(l,n)) h λ⟨ko,h6⟩ Y=>by simpa using Y
theorem avo{l:List Int}{n:Int}(az:l.length<=1000000):bP N 70 [bm l,E n] (.bool (decide (n∈l))):=by
 refine du (c2 (ax:=⟨[],[]⟩) alI (by kernel_rfl) (by simp[LM]) ?_);simp[LM,Y6];refine gR (ax:=⟨[],[]⟩) (λi z t=>n∉l.take i/\z 0=bm l/\z 1=E n/\z 5=E i) l.length ?_ ?_ 0 _ _ (gi _) ⟨by simp,by simp,by simp,by simp⟩
 ·rintro i z t W ⟨ae,bO,aU,bz⟩ bM a1;obtain⟨x,B⟩:=gk W;have cS:=(cG.1 B).2;have bC:(i:Int)<l.length:=(by omega);have br:=fz (n:=i) (by omega);by_cases c:x=n
  ·subst c;have ab:x∈l:=fr B;simp(disch:=omega) [EF,Ad,bO,aU,bz,bC,cS,ab]
  ·simp(disch:=first|omega|simp only[DI.aK];omega) [EF,Ad,bO,aU,bz,bC,br,cS,c,-an,-au,-ak,-aq,-List.map_map];refine a1 _ _ ⟨?_,by simp[bO],by simp[aU],by simp⟩;rw[qm,B];simp[ae];exact λe=>c e.symm
 ·rintro z t ⟨ae,bO,aU,bz⟩;rw[mY]at ae;simp[EF,Ad,Ad,bO,bz,ae]
noncomputable def acb:bx N:= .cK 70 (List Int×Int) (λx=>x.1.length<=1000000) (λx=>[bm x.1,E x.2]) (λx=> .bool (decide (x.2∈x.1))) λx B=>avo B
@[simp] theorem aTV:acb.f=70:=rfl
@[simp] theorem aTW{l:List Int}{n:Int}(h:l.length<=1000000):acb.fn [ad (l.map λx=>[E x]) 1,.int .i64 n]=some (.bool (decide (n∈l))):=bx.dx (x:=(l,n)) h λ⟨ko,h6⟩ Y=>by simpa using Y
theorem aF8{l:List Int}{n:Int}(az:l.length<=1000000):bP N 80 [bm l,E n] (bm (fo l n)):=by
 refine du (c2 (ax:=⟨[],[]⟩) az3 (by kernel_rfl) (by simp[Za]) ?_);simp[Za,alR];refine tY (d:=5) (G:=1) (by simp) ?_;refine gR (ax:=⟨[],[]⟩) (λi z t=>(∃o,z 5=b7 o (fo (l.take i) n).length 1/\t.I o=some ⟨(fo (l.take i) n).map E,true⟩)/\z 0=bm l/\z 1=E n/\z 6=E i) l.length ?_ ?_ 0 _ _ (gi _) ⟨⟨_,by simp[fo];rfl,by simp[fo,fJ,cx]⟩,by simp,by simp,by simp⟩
 ·rintro i z t W ⟨⟨o,bz,bq⟩,bO,aU,bB⟩ bM a1;obtain⟨x,B⟩:=gk W;have cS:=(cG.1 B).2;have eV:(fo (l.take i) n).length<=i:=S2;have bC:(i:Int)<l.length:=(by omega);have br:=fz (n:=i) (by omega);have bk:=aM bq;obtain⟨k,S⟩: ∃k,fo (l.take i) n=k:=⟨_,rfl⟩;have e:=HR (x:=n) B;rw[S]at bz bq eV e;have e8:(k.length+1)*8<=140737488355328/\k.length<=9223372036854775806:=(by omega);have mN:List.take k.length (k.map E)=k.map E:=h7 (by simp);by_cases c:x=n
  ·rw[if_pos c]at e;simp(disch:=first|omega|simp only[DI.aK];omega) [Sc,LR,bO,aU,bB,bC,br,cS,c,-an,-au,-ak,-aq,-List.map_map];exact a1 _ _ ⟨⟨o,by rw[e];simp[bz],by rw[e];exact bq⟩,by simp[bO],by simp[aU],by simp⟩
  ·rw[if_neg c]at e;simp(disch:=first|omega|simp only[DI.aK];omega) [Sc,LR,bO,aU,bz,bB,bq,bC,br,cS,c,e8,mN,-an,-au,-ak,-aq,-List.map_map];refine a1 _ _ ⟨⟨t.next+6,by rw[e];simp,?_⟩,by simp[bO],by simp[aU],by simp⟩;rw[e,vf];simp(disch:=first|omega|simp only[DI.aK];omega) [-an,-au,-ak,-aq,-List.map_map]
 ·rintro z t ⟨⟨o,bz,bq⟩,bO,aU,bB⟩;rw[mY]at bz bq;have a5:=vt (fa.cK bq) rfl;simp[Sc,LR,LR,bO,bz,bB,a5.1]
noncomputable def acz:bx N:= .cK 80 (List Int×Int) (λx=>x.1.length<=1000000) (λx=>[bm x.1,E x.2]) (λx=>bm (fo x.1 x.2)) λx B=>aF8 B
@[simp] theorem aVq:acz.f=80:=rfl
@[simp] theorem aVr{l:List Int}{n:Int}(h:l.length<=1000000):acz.fn [ad (l.map λx=>[E x]) 1,.int .i64 n]=some (bm (fo l n)):=bx.dx (x:=(l,n)) h λ⟨ko,h6⟩ Y=>by simpa using Y
theorem aGZ{ao ay nt mH:List Int}(A:ao.length<=1000000)(D:ay.length<=1000000)(ai:nt.length<=1000000)(aT:mH.length<=1000000):bP N 27 [.agg (jV ao ay).toArray,.agg (jV nt mH).toArray] (.bool (decide (ao=nt/\ay=mH))):=by
 refine du (c2 (ax:=⟨[acD],[]⟩) akW (by kernel_rfl) (by simp[Ly]) ?_);have bt:ao.length<=1000000/\nt.length<=1000000:=⟨A,ai⟩;have bR:ay.length<=1000000/\mH.length<=1000000:=⟨D,aT⟩;by_cases c:ao=nt
 ·simp(disch:=first|omega|simp only[DI.aK];omega) [Ly,YK,c]
 ·simp(disch:=first|omega|simp only[DI.aK];omega) [Ly,YK,c]
abbrev Ge:Type:=List Int×List Int×Int
noncomputable def km(u:aG)(R ao ay:List Int):Ge:=if hg u (ao++ay)=true then((pO (gh u R) ao ay).1,(pO (gh u R) ao ay).2,0)else([],[],1)
noncomputable def kx(u:aG)(R ao ay:List Int)(n:Int):Ge:=if hg u (ao++ay)=true/\nH u n=true then(if n∈ao\/n∈ay then([],[],8)else km u R ao (ay++[n]))else([],[],1)
noncomputable def lr(u:aG)(R ao ay:List Int)(n:Int):Ge:=if hg u (ao++ay)=true then(if n∈ao\/n∈ay then km u R (fo ao n) (fo ay n)else([],[],110))else([],[],1)
def il(o:Ge):Value:= .tuple #[.agg #[bm o.1,bm o.2.1],E o.2.2]
theorem wi{e:Int}:pt (.tuple #[aaO,E e]) (il ([],[],e)):=pt.tuple (xs:=[_,_]) (ys:=[_,_]) ⟨pt.agg (xs:=[_,_]) (ys:=[_,_]) ⟨.nil,.nil,trivial⟩,.refl _,trivial⟩
theorem ao7{u:aG}{R ao ay:List Int}:(if hg u (ao++ay)=true then Value.tuple #[Fm (gh u R) ao ay,E 0]else .tuple #[.agg #[bm [],bm []],E 1])=il (km u R ao ay):=by unfold km il Fm;split<;>rfl
noncomputable def Ix(u:aG)(h:cE u)(A:1<=u.aZ.length):bx N:= .cK 25 (List Int×List Int×List Int) (λx=>x.2.1.length+x.2.2.length<=1000) (λx=>[.agg (aI u).toArray,bm x.1,.agg (jV x.2.1 x.2.2).toArray]) (λx=>il (km u x.1 x.2.1 x.2.2)) λx B=>by
 have:=aD8 h A (R:=x.1) B
 rwa [ao7]at this
@[simp] theorem aUw{u:aG}{h:cE u}{A:1<=u.aZ.length}:(Ix u h A).f=25:=rfl
@[simp] theorem oM{u:aG}{h:cE u}{A:1<=u.aZ.length}{R ao ay:List Int}(ae:ao.length+ay.length<=1000):(Ix u h A).fn [.agg #[E u.ext,ad (u.eI.map gf) 4,ad (u.cr.map gp) 4,ad (u.aP.map eG) 7,ad (u.aY.map fk) 3,ad (u.dj.map dE) 17,ad (u.aZ.map ga) 2],ad (R.map λx=>[E x]) 1,.agg #[ad (ao.map λx=>[E x]) 1,ad (ay.map λx=>[E x]) 1]]=some (il (km u R ao ay)):=bx.dx (x:=(R,ao,ay)) ae λ⟨ko,h6,mA⟩ Y=>by simpa using Y
noncomputable def Iy(u:aG)(h:cE u)(A:1<=u.aZ.length):bx N:= .cK 26 (List Int×List Int×List Int) (λx=>x.2.1.length+x.2.2.length<=1000) (λx=>[.agg (aI u).toArray,bm x.1,.agg (jV x.2.1 x.2.2).toArray]) (λx=>il (km u x.1 x.2.1 x.2.2)) λx B=>by
 have:=aFt h A (R:=x.1) B
 rwa [ao7]at this
@[simp] theorem aU1{u:aG}{h:cE u}{A:1<=u.aZ.length}:(Iy u h A).f=26:=rfl
@[simp] theorem nq{u:aG}{h:cE u}{A:1<=u.aZ.length}{R ao ay:List Int}(ae:ao.length+ay.length<=1000):(Iy u h A).fn [.agg #[E u.ext,ad (u.eI.map gf) 4,ad (u.cr.map gp) 4,ad (u.aP.map eG) 7,ad (u.aY.map fk) 3,ad (u.dj.map dE) 17,ad (u.aZ.map ga) 2],ad (R.map λx=>[E x]) 1,.agg #[ad (ao.map λx=>[E x]) 1,ad (ay.map λx=>[E x]) 1]]=some (il (km u R ao ay)):=bx.dx (x:=(R,ao,ay)) ae λ⟨ko,h6,mA⟩ Y=>by simpa using Y
noncomputable abbrev Uh(u:aG)(h:cE u)(A:1<=u.aZ.length)(bK:u.aP.length<=1000)(cz:u.aY.length<=1000):mG N:=⟨[NA u h,xD u bK cz,Iv,acJ,acI,Ix u h A],[]⟩
noncomputable abbrev Ug(u:aG)(h:cE u)(A:1<=u.aZ.length)(bK:u.aP.length<=1000)(cz:u.aY.length<=1000):mG N:=⟨[FA u h,NC u bK cz,acb,acz,Iy u h A],[]⟩
theorem aEf{u:aG}(h:cE u)(A:1<=u.aZ.length){R ao ay:List Int}{n:Int}(az:ao.length+ay.length<=999):bP N 36 [.agg (aI u).toArray,bm R,.agg (jV ao ay).toArray,E n] (il (kx u R ao ay n)):=by
 have eW:=h.ok.fg;have ic:=h.ok.h2;have bK:u.aP.length<=1000:=by omega
 have cz:u.aY.length<=1000:=by omega
 have ae:(ao++ay).length<=1000000:=by rw[iv];omega
 have bs: ∀{r:Value},ix (Uh u h A bK cz) xe.body (ig [.agg (aI u).toArray,bm R,.agg (jV ao ay).toArray,E n]) fJ (CB xe.j6 λv t=>dt 9 t v=some r)->bP N 36 [.agg (aI u).toArray,bm R,.agg (jV ao ay).toArray,E n] r:= λaS=>du (c2 (ax:=Uh u h A bK cz) ak2 (by kernel_rfl) (by simp[xe]) aS);have bt:ao.length<=1000000/\ay.length<=1000000/\ay.length<=999999:=by omega
 cases M:hg u (ao++ay)
 ·have e:kx u R ao ay n=([],[],1):=(by unfold kx;rw[if_neg (by simp[M])]);rw[e];refine(bs ?_).tX wi;simp(disch:=first|omega|simp only[DI.aK];omega) [xe,EC,aI,M]
 cases ab:nH u n
 ·have e:kx u R ao ay n=([],[],1):=(by unfold kx;rw[if_neg (by simp[ab])]);rw[e];refine(bs ?_).tX wi;rw[Ti]at ab;by_cases c:n=0
  ·simp(disch:=first|omega|simp only[DI.aK];omega) [xe,EC,aI,M,c]
  ·have hb:mb u n=false:=(by simpa[c]using ab);simp(disch:=first|omega|simp only[DI.aK];omega) [xe,EC,aI,M,c,hb]
 have rC:=ab;rw[Ti]at rC;simp only[a6,r7,I1]at rC;obtain⟨jN,hb⟩:=rC;by_cases j0:n∈ao
 ·have e:kx u R ao ay n=([],[],8):=(by unfold kx;rw[if_pos ⟨M,ab⟩,if_pos (.inl j0)]);rw[e];refine(bs ?_).tX wi;simp(disch:=first|omega|simp only[DI.aK];omega) [xe,EC,RO,aI,M,jN,hb,j0]
 by_cases j1:n∈ay
 ·have e:kx u R ao ay n=([],[],8):=(by unfold kx;rw[if_pos ⟨M,ab⟩,if_pos (.inr j1)]);rw[e];refine(bs ?_).tX wi;simp(disch:=first|omega|simp only[DI.aK];omega) [xe,EC,RO,aI,M,jN,hb,j0,j1]
 ·have e:kx u R ao ay n=km u R ao (ay++[n]):=(by unfold kx;rw[if_pos ⟨M,ab⟩,if_neg (by simp[j0,j1])]);rw[e];have vD:ao.length+(ay++[n]).length<=1000:=(by simp;omega);refine bs ?_;obtain⟨fY,gX⟩: ∃fY,fY=km u R ao (ay++[n]):=⟨_,rfl⟩;rw[<-gX];have gZ:=oM (u:=u) (h:=h) (A:=A) (R:=R) vD;rw[<-gX]at gZ;simp(disch:=first|omega|simp only[DI.aK];omega) [xe,EC,RO,ak3,aI,M,jN,hb,j0,j1,gZ,il,-List.map_append,-oM,-an,-au,-ak,-aq,-List.map_map]
theorem aEl{u:aG}(h:cE u)(A:1<=u.aZ.length){R ao ay:List Int}{n:Int}(az:ao.length+ay.length<=999):bP N 32 [.agg (aI u).toArray,bm R,.agg (jV ao ay).toArray,E n] (il (lr u R ao ay n)):=by
 have eW:=h.ok.fg;have ic:=h.ok.h2;have bK:u.aP.length<=1000:=by omega
 have cz:u.aY.length<=1000:=by omega
 have ae:(ao++ay).length<=1000000:=by rw[iv];omega
 have bs: ∀{r:Value},ix (Uh u h A bK cz) B4.body (ig [.agg (aI u).toArray,bm R,.agg (jV ao ay).toArray,E n]) fJ (CB B4.j6 λv t=>dt 9 t v=some r)->bP N 32 [.agg (aI u).toArray,bm R,.agg (jV ao ay).toArray,E n] r:= λaS=>du (c2 (ax:=Uh u h A bK cz) azA (by kernel_rfl) (by simp[B4]) aS);have bt:ao.length<=1000000/\ay.length<=1000000/\ay.length<=999999:=by omega
 cases M:hg u (ao++ay)
 ·have e:lr u R ao ay n=([],[],1):=(by unfold lr;rw[if_neg (by simp[M])]);rw[e];refine(bs ?_).tX wi;simp(disch:=first|omega|simp only[DI.aK];omega) [B4,Lz,aI,M]
 have nc:=An (l:=ao) (x:=n);have Ap:=An (l:=ay) (x:=n);have vD:(fo ao n).length+(fo ay n).length<=1000:=by omega
 obtain⟨fY,gX⟩: ∃fY,fY=km u R (fo ao n) (fo ay n):=⟨_,rfl⟩;have gZ:=oM (u:=u) (h:=h) (A:=A) (R:=R) vD;rw[<-gX]at gZ;by_cases j0:n∈ao
 ·have e:lr u R ao ay n=fY:=(by unfold lr;rw[if_pos M,if_pos (.inl j0),gX]);rw[e];refine bs ?_;simp(disch:=first|omega|simp only[DI.aK];omega) [B4,Lz,RK,YM,aI,M,j0,gZ,il,-oM,-an,-au,-ak,-aq,-List.map_map]
 by_cases j1:n∈ay
 ·have e:lr u R ao ay n=fY:=(by unfold lr;rw[if_pos M,if_pos (.inr j1),gX]);rw[e];refine bs ?_;simp(disch:=first|omega|simp only[DI.aK];omega) [B4,Lz,RK,YM,aI,M,j0,j1,gZ,il,-oM,-an,-au,-ak,-aq,-List.map_map]
 ·have e:lr u R ao ay n=([],[],110):=(by unfold lr;rw[if_pos M,if_neg (by simp[j0,j1])]);rw[e];refine(bs ?_).tX wi;simp(disch:=first|omega|simp only[DI.aK];omega) [B4,Lz,RK,aI,M,j0,j1]
theorem aF7{u:aG}(h:cE u)(A:1<=u.aZ.length){R ao ay:List Int}{n:Int}(az:ao.length+ay.length<=999):bP N 77 [.agg (aI u).toArray,bm R,.agg (jV ao ay).toArray,E n] (il (lr u R ao ay n)):=by
 have eW:=h.ok.fg;have ic:=h.ok.h2;have bK:u.aP.length<=1000:=by omega
 have cz:u.aY.length<=1000:=by omega
 have ae:(ao++ay).length<=1000000:=by rw[iv];omega
 have bs: ∀{r:Value},ix (Ug u h A bK cz) B6.body (ig [.agg (aI u).toArray,bm R,.agg (jV ao ay).toArray,E n]) fJ (CB B6.j6 λv t=>dt 9 t v=some r)->bP N 77 [.agg (aI u).toArray,bm R,.agg (jV ao ay).toArray,E n] r:= λaS=>du (c2 (ax:=Ug u h A bK cz) azT (by kernel_rfl) (by simp[B6]) aS);have bt:ao.length<=1000000/\ay.length<=1000000/\ay.length<=999999:=by omega
 cases M:hg u (ao++ay)
 ·have e:lr u R ao ay n=([],[],1):=(by unfold lr;rw[if_neg (by simp[M])]);rw[e];refine(bs ?_).tX wi;simp(disch:=first|omega|simp only[DI.aK];omega) [B6,LP,aI,M]
 have nc:=An (l:=ao) (x:=n);have Ap:=An (l:=ay) (x:=n);have vD:(fo ao n).length+(fo ay n).length<=1000:=by omega
 obtain⟨fY,gX⟩: ∃fY,fY=km u R (fo ao n) (fo ay n):=⟨_,rfl⟩;have gZ:=nq (u:=u) (h:=h) (A:=A) (R:=R) vD;rw[<-gX]at gZ;by_cases j0:n∈ao
 ·have e:lr u R ao ay n=fY:=(by unfold lr;rw[if_pos M,if_pos (.inl j0),gX]);rw[e];refine bs ?_;simp(disch:=first|omega|simp only[DI.aK];omega) [B6,LP,Sb,Y8,aI,M,j0,gZ,il,-nq,-an,-au,-ak,-aq,-List.map_map]
 by_cases j1:n∈ay
 ·have e:lr u R ao ay n=fY:=(by unfold lr;rw[if_pos M,if_pos (.inr j1),gX]);rw[e];refine bs ?_;simp(disch:=first|omega|simp only[DI.aK];omega) [B6,LP,Sb,Y8,aI,M,j0,j1,gZ,il,-nq,-an,-au,-ak,-aq,-List.map_map]
 ·have e:lr u R ao ay n=([],[],110):=(by unfold lr;rw[if_pos M,if_neg (by simp[j0,j1])]);rw[e];refine(bs ?_).tX wi;simp(disch:=first|omega|simp only[DI.aK];omega) [B6,LP,Sb,aI,M,j0,j1]
theorem aut{t:H}{o:Nat}{l:List Int}(h:fa t o l){k:Nat}(S:l.length=k):dt 8 t (b7 o k 1)=some (bm l):=by subst S;exact h.dt
theorem aER{t:H}{o:Nat}{l:List Int}(h:fa t o l){k:Nat}:et 8 t (b7 o k 1)=[o]:=by obtain⟨cs,g,_,_,c⟩:=h;rw[aoC,g];simp only[abx c]
theorem aFE{u:aG}(h:cE u)(A:1<=u.aZ.length){R ao ay:List Int}{n:Int}(az:ao.length+ay.length<=999):bP N 76 [.agg (aI u).toArray,bm R,.agg (jV ao ay).toArray,E n] (il (kx u R ao ay n)):=by
 have eW:=h.ok.fg;have ic:=h.ok.h2;have bK:u.aP.length<=1000:=by omega
 have cz:u.aY.length<=1000:=by omega
 have ae:(ao++ay).length<=1000000:=by rw[iv];omega
 have bs: ∀{r:Value},ix (Ug u h A bK cz) yy.body (ig [.agg (aI u).toArray,bm R,.agg (jV ao ay).toArray,E n]) fJ (CB yy.j6 λv t=>dt 9 t v=some r)->bP N 76 [.agg (aI u).toArray,bm R,.agg (jV ao ay).toArray,E n] r:= λaS=>du (c2 (ax:=Ug u h A bK cz) azS (by kernel_rfl) (by simp[yy]) aS);have bt:ao.length<=1000000/\ay.length<=1000000/\ay.length<=999999:=by omega
 cases M:hg u (ao++ay)
 ·have e:kx u R ao ay n=([],[],1):=(by unfold kx;rw[if_neg (by simp[M])]);rw[e];refine(bs ?_).tX wi;simp(disch:=first|omega|simp only[DI.aK];omega) [yy,EG,aI,M,-an,-au,-ak,-aq,-List.map_map]
 cases ab:nH u n
 ·have e:kx u R ao ay n=([],[],1):=(by unfold kx;rw[if_neg (by simp[ab])]);rw[e];refine(bs ?_).tX wi;simp(disch:=first|omega|simp only[DI.aK];omega) [yy,EG,aI,M,ab,-an,-au,-ak,-aq,-List.map_map]
 by_cases j0:n∈ao
 ·have e:kx u R ao ay n=([],[],8):=(by unfold kx;rw[if_pos ⟨M,ab⟩,if_pos (.inl j0)]);rw[e];refine(bs ?_).tX wi;simp(disch:=first|omega|simp only[DI.aK];omega) [yy,EG,LO,aI,M,ab,j0,-an,-au,-ak,-aq,-List.map_map]
 by_cases j1:n∈ay
 ·have e:kx u R ao ay n=([],[],8):=(by unfold kx;rw[if_pos ⟨M,ab⟩,if_pos (.inr j1)]);rw[e];refine(bs ?_).tX wi;simp(disch:=first|omega|simp only[DI.aK];omega) [yy,EG,LO,aI,M,ab,j0,j1,-an,-au,-ak,-aq,-List.map_map]
 ·have e:kx u R ao ay n=km u R ao (ay++[n]):=(by unfold kx;rw[if_pos ⟨M,ab⟩,if_neg (by simp[j0,j1])]);rw[e];have vD:ao.length+(ay++[n]).length<=1000:=(by simp;omega);refine bs ?_;obtain⟨fY,gX⟩: ∃fY,fY=km u R ao (ay++[n]):=⟨_,rfl⟩;rw[<-gX];have gZ:=nq (u:=u) (h:=h) (A:=A) (R:=R) vD;rw[<-gX]at gZ;have agp:m4 (Value.tuple #[Value.agg #[ad (fY.1.map λx=>[E x]) 1,ad (fY.2.1.map λx=>[E x]) 1],.int .i64 fY.2.2])=false:=(by simp[m4,ei,ad]);have Bp: ∀(t:H) (o:Nat),t.I o=some ⟨(ay++[n]).map E,true⟩->dt 8 t (b7 o (ay.length+1) 1)=some (bm (ay++[n]))/\et 8 t (b7 o (ay.length+1) 1)=[o]:= λt o aB=>⟨aut (fa.cK aB) (by simp),aER (fa.cK aB)⟩;have e8:ay.length*8<=140737488355328/\ay.length<=9223372036854775807/\(ay.length+1)*8<=140737488355328/\ay.length<=9223372036854775806:=(by omega);by_cases x1:ay=[]
  ·have Pe:ay.length=0:=(by rw[x1];rfl);simp(disch:=first|omega|simp only[DI.aK];omega) [yy,EG,LO,Y7,aI,M,ab,j0,j1,Pe,il,-List.map_append,-nq,-an,-au,-ak,-aq,-List.map_map];generalize eE:H.aO _ 13 (some (eM.mk [Value.int IntKind.i64 n] true))=X;have qD:X.I 13=some ⟨(ay++[n]).map E,true⟩:=(by rw[<-eE,x1];simp(disch:=first|omega|simp only[DI.aK];omega) [-an,-au,-ak,-aq,-List.map_map]);have a2:X.I 2=some ⟨[.slice none 0 0,.slice none 0 0],true⟩:=(by rw[<-eE];simp(disch:=first|omega|simp only[DI.aK];omega) [-an,-au,-ak,-aq,-List.map_map]);have jw:=aM a2;obtain⟨f,r⟩:=Bp X 13 qD;rw[Pe]at f r;simp(disch:=first|omega|simp only[DI.aK];omega) [f,r,gZ,a2,qD,il,agp,-List.map_append,-nq,-an,-au,-ak,-aq,-List.map_map]
  ·have Pe: ¬ay.length=0:= λe=>x1 (pU e);simp(disch:=first|omega|simp only[DI.aK];omega) [yy,EG,LO,Y7,aI,M,ab,j0,j1,Pe,e8,l5,il,-List.map_append,-nq,-an,-au,-ak,-aq,-List.map_map];have mN:List.take ay.length (ay.map E)=ay.map E:=h7 (by simp);rw[mN];generalize eE:H.aO _ 13 (some (eM.mk (ay.map E++[Value.int IntKind.i64 n]) true))=X;have qD:X.I 13=some ⟨(ay++[n]).map E,true⟩:=(by rw[<-eE,vf];simp(disch:=first|omega|simp only[DI.aK];omega) [-an,-au,-ak,-aq,-List.map_map]);have a2:X.I 2=some ⟨[.slice none 0 0,.slice none 0 0],true⟩:=(by rw[<-eE];simp(disch:=first|omega|simp only[DI.aK];omega) [-an,-au,-ak,-aq,-List.map_map]);have jw:=aM a2;obtain⟨f,r⟩:=Bp X 13 qD;simp(disch:=first|omega|simp only[DI.aK];omega) [f,r,gZ,a2,qD,il,agp,-List.map_append,-nq,-an,-au,-ak,-aq,-List.map_map]
open Go Go.DI Go.Big
theorem aas{l:List Int}(az:l.length<=140737488355328): ∃(u:aG) (L:List (List Int)) (R:List Int) (i:Nat),Ov u 3/\L.length=u.aZ.length/\A7 u L/\R.length=u.aY.length/\zo 16 R/\i<=1000/\ ∀t:H,fc N 18 [bm l] t λv af=>v= .tuple #[.agg (aI u++[jO L,bm R]).toArray,bH (t.next+4)]/\af.I (t.next+4)=some ⟨[bm l,E i],true⟩/\ ∀b,b<t.next->af.I b=t.I b:=by
 obtain⟨u,kF,bt,bR,ar6⟩:=auc (l:=l) az (i:=0) (by decide) (dw:=3) (by decide);have a5:=Ta bt (by decide);have ic:1<=u.aY.length/\u.aY.length<=9:=bt.h2;have mo:=a5.ok.j4;obtain⟨L,nG,er,eO,g8,asu⟩:=aCh (l:=l) az (i:=kF) (by omega) a5 ic.1;obtain⟨R,i3,b6,cR,lz,x1⟩:=aFk (l:=l) az (i:=nG) (by omega) a5 ic.1;refine⟨u,L,R,i3,bt,er,eO,b6,cR,by omega,λt=> ?_⟩;refine c2 (ax:=⟨[],[EP 60 [E 3] _ _ _ ar6,EP 48 [.agg (aI u).toArray] _ _ _ asu,EP 61 [.agg (aI u).toArray] _ _ _ x1]⟩) ax7 (by kernel_rfl) (by simp[Yc]) ?_;simp(disch:=first|omega|simp only[DI.aK];omega) [Yc,ajB,-an,-au,-ak,-aq,-List.map_map];refine adx (by simp(disch:=first|omega|simp only[DI.aK];omega) [-an,-au,-ak,-aq,-List.map_map]) ?_;have dU:(aI u).length=7:=rfl;have hb:gE [Value.int IntKind.i64 0,Value.slice none 0 0,Value.slice none 0 0,Value.slice none 0 0,Value.slice none 0 0,Value.slice none 0 0,Value.slice none 0 0] 0 (aI u)=aI u:=by simp[gE,aI]
 have ba:List.take 7 (aI u)=aI u:=rfl;simp(disch:=first|omega|simp only[DI.aK];omega) [dU,hb,ba,-an,-au,-ak,-aq,-List.map_map];refine adx (by simp(disch:=first|omega|simp only[DI.aK];omega) [-an,-au,-ak,-aq,-List.map_map]) ?_;simp(disch:=first|omega|simp only[DI.aK];omega) [dU,ba,-an,-au,-ak,-aq,-List.map_map];refine⟨by simp[aI],adx (by simp(disch:=first|omega|simp only[DI.aK];omega) [afI,-an,-au,-ak,-aq,-List.map_map]) ?_⟩;simp(disch:=first|omega|simp only[DI.aK];omega) [amC,-an,-au,-ak,-aq,-List.map_map];refine⟨by simp[gE,aI],by simp[gE,aI],by simp[gE,aI],λb hb=> ?_⟩;rw[a7 (by omega),a7 (by omega),a7 (by omega),a7 (by omega),cJ (by simp;omega),a7 (by omega),cJ (by simp;omega),a7 (by omega),cJ hb]
noncomputable def NH:bx N:= .cK 27 ((List Int×List Int)×(List Int×List Int)) (λx=>(x.1.1.length<=1000000/\x.1.2.length<=1000000)/\(x.2.1.length<=1000000/\x.2.2.length<=1000000)) (λx=>[.agg (jV x.1.1 x.1.2).toArray,.agg (jV x.2.1 x.2.2).toArray]) (λx=> .bool (decide (x.1.1=x.2.1/\x.1.2=x.2.2))) λx B=>aGZ B.1.1 B.1.2 B.2.1 B.2.2
@[simp] theorem aVC:NH.f=27:=rfl
@[simp] theorem aVD{ao ay nt mH:List Int}(h:(ao.length<=1000000/\ay.length<=1000000)/\(nt.length<=1000000/\mH.length<=1000000)):NH.fn [.agg #[ad (ao.map λx=>[E x]) 1,ad (ay.map λx=>[E x]) 1],.agg #[ad (nt.map λx=>[E x]) 1,ad (mH.map λx=>[E x]) 1]]=some (.bool (decide (ao=nt/\ay=mH))):=bx.dx (x:=((ao,ay),(nt,mH))) h λ⟨⟨ko,h6⟩,⟨mA,vd⟩⟩ Y=>by simpa[and_assoc]using Y
theorem Nn{u:aG}{R ao ay:List Int}:(km u R ao ay).1.length+(km u R ao ay).2.1.length<=ao.length+ay.length:=by
 unfold km;split
 ·have:=aoK (P:=gh u R) (a:=ao) (w:=ay);simp only;omega
 ·simp
theorem qB{ao ay:List Int}{e:Int}:m4 (Value.tuple #[Value.agg #[ad (ao.map λx=>[E x]) 1,ad (ay.map λx=>[E x]) 1],.int .i64 e])=false:=by simp[m4,ei,ad]
theorem atA{l:List Int}(az:l.length<=140737488355328){c9 ao ay:List Int}{iZ:Int}(ae:c9.length<=140737488355328)(dG:ao.length<=140737488355328)(qH:ay.length<=140737488355328):bP N 4 [bm l,bm c9,E iZ,.agg (jV ao ay).toArray] (.bool true):=by
 obtain⟨u,L,R,ap4,bt,er,eO,b6,cR,g8,MJ⟩:=aas az;have a5:=Ta bt (by decide);have ll:=bt.j4.1;have eW:=a5.ok.fg;have ic:=a5.ok.h2;have bG:=a5.ok.hl;have p4:=bt.h2.1;refine du (c2 (ax:=⟨[Iu,Ix u a5 ll,Iy u a5 ll,NH,FC],[]⟩) azI (by kernel_rfl) (by simp[Hz]) ?_);by_cases fW:(8:Int)<c9.length
 ·simp[Hz,LC,fW]
 by_cases gI:(30:Int)<ao.length
 ·simp[Hz,LC,fW,gI]
 by_cases iO:(30:Int)<ay.length
 ·simp[Hz,LC,fW,gI,iO]
 simp[Hz,LC,ak8,fW,gI,iO];refine(MJ _).bD λv bj ⟨M,aH,ahm⟩=> ?_;subst M;have MA:=aM aH;have Ci:14<bj.next:=MA
 have aL:bj.I 0=some ⟨jV ao ay,true⟩:=by rw[ahm 0 (by simp[fJ])];simp
 clear ahm aH;have iQ:(aI u++[jO L,bm R]).length=9:=rfl;have Kl:gE [Value.int IntKind.i64 0,Value.slice none 0 0,Value.slice none 0 0,Value.slice none 0 0,Value.slice none 0 0,Value.slice none 0 0,Value.slice none 0 0,Value.slice none 0 0,Value.slice none 0 0] 0 (aI u++[jO L,bm R])=aI u++[jO L,bm R]:=by simp[gE,aI]
 have aCI:7<bj.next:=by omega
 simp(disch:=omega) [iQ,Kl];have ja:(bj.aO 7 (some ⟨aI u++[jO L,bm R],true⟩)).I 7=some ⟨oz u L R,true⟩:=by rw[cx aCI];rfl
 have aL:(bj.aO 7 (some ⟨aI u++[jO L,bm R],true⟩)).I 0=some ⟨jV ao ay,true⟩:=by rw[a7 (by decide)];exact aL
 generalize bj.aO 7 _=eC at ja aL⊢;have aae:=aM ja;have z0:IntKind.i64.wrap ((u.aP.length:Int)+u.aY.length)=(u.aP.length:Int)+u.aY.length:=cY (by omega) (by omega);have hY:IntKind.i64.wrap ((u.aP.length:Int)+u.aY.length-1)=(u.aP.length:Int)+u.aY.length-1:=cY (by omega) (by omega);have nb:(u.aP.length:Int)+u.aY.length-1<=1000000:=by omega
 have Cn: ∀x,0<=iS x ((u.aP.length:Int)+u.aY.length-1)/\iS x ((u.aP.length:Int)+u.aY.length-1)<(u.aP.length:Int)+u.aY.length-1:= λx=>HX (by omega);have jA: ∀x,IntKind.i64.wrap (1+iS x ((u.aP.length:Int)+u.aY.length-1))=1+iS x ((u.aP.length:Int)+u.aY.length-1):= λx=>cY (by have:=Cn x;omega) (by have:=Cn x;omega);simp(disch:=first|omega|simp only[DI.aK];omega) [ak9,-an,-au,-ak,-aq,-List.map_map];refine tY (d:=11) (G:=1) (by simp) ?_;refine aIC (ax:=⟨[FC],[]⟩) (λi z t=>(∃o,(o≠7/\o≠0)/\z 11=b7 o i 1/\t.I o=some ⟨((c9.take i).map λx=>1+iS x ((u.aP.length:Int)+u.aY.length-1)).map E,true⟩)/\t.I 7=some ⟨oz u L R,true⟩/\t.I 0=some ⟨jV ao ay,true⟩/\z 1=bm c9/\z 2=E iZ/\z 7=bH 0/\z 9=bH 7/\z 12=E i) c9.length ?_ ?_ 0 _ _ (gi _) ?_
 ·rintro i z t W ⟨⟨o,⟨aB,yn⟩,gn,bq⟩,ja,aL,aU,bS,ca,cP,g6⟩ bM a1;obtain⟨n,B⟩:=gk W;have cS:=(cG.1 B).2;have bC:(i:Int)<c9.length:=(by omega);have br:=fz (n:=i) (by omega);have aae:=aM ja;have dD:=aM aL;have bk:=aM bq;have e8:(i+1)*8<=140737488355328/\i<=9223372036854775806:=(by omega);have aht:min i c9.length=i:=(by omega);simp(disch:=first|omega|simp only[DI.aK];omega) [YS,RQ,aU,cP,gn,g6,ja,bq,bC,br,z0,hY,jA,cS,e8,aht,-List.map_take,-an,-au,-ak,-aq,-List.map_map];refine a1 _ _ ⟨⟨t.next+18,⟨by omega,by omega⟩,by simp,?_⟩,?_,?_,by simp[aU],by simp[bS],by simp[ca],by simp[cP],by simp⟩
  ·rw[cx (by simp),h7 (by simp[aht])];rw[qm,B];simp
  ·have MO: ¬7=o:= λe=>aB e.symm;simp(disch:=omega) [ja]
  ·have MO: ¬0=o:= λe=>yn e.symm;simp(disch:=omega) [aL]
 ·rintro z t ⟨⟨o,⟨aB,yn⟩,gn,bq⟩,ja,aL,aU,bS,ca,cP,g6⟩;rw[mY]at bq;obtain⟨ov,PI⟩: ∃x,c9.map (λx=>1+iS x ((u.aP.length:Int)+u.aY.length-1))=x:=⟨_,rfl⟩;have avi:ov.length=c9.length:=(by rw[<-PI];simp);rw[PI]at bq;rw[<-avi]at gn;refine aID (o:=o) (d:=11) (G:=1) (bI:=ov.map λx=>[E x]) (by rw[l5];exact bq) su (by rw[gn];simp) ?_;have MO: ¬7=o:= λe=>aB e.symm;have h1: ¬0=o:= λe=>yn e.symm;have ja:(t.aO o none).I 7=some ⟨oz u L R,true⟩:=(by rw[a7 MO];exact ja);have aL:(t.aO o none).I 0=some ⟨jV ao ay,true⟩:=(by rw[a7 h1];exact aL);generalize t.aO o none=t at ja aL⊢;refine eF (ax:=⟨[Iu,Ix u a5 ll,Iy u a5 ll,NH,FC],[]⟩) λbM a1=> ?_;have aae:=aM ja;have dD:=aM aL;have mk:0<=iS iZ ((ov.length:Int)+1)/\iS iZ ((ov.length:Int)+1)<(ov.length:Int)+1:=HX (by omega);obtain⟨aR,dz⟩: ∃aR:Nat,iS iZ ((ov.length:Int)+1)=aR:=⟨(iS iZ ((ov.length:Int)+1)).toNat,by omega⟩;rw[dz]at mk;have aRO:(ov.length:Int)+1<=1000000:=(by omega);have z3:IntKind.i64.wrap ((ov.length:Int)+1)=(ov.length:Int)+1:=cY (by omega) (by omega);have bK:(aR:Int)<=ov.length:=(by omega);have cz:aR<=ov.length:=(by omega);obtain⟨aN,b9⟩: ∃aN,aN=ov.take aR:=⟨_,rfl⟩;obtain⟨C,DR⟩: ∃C,C=ov.drop aR:=⟨_,rfl⟩;have atT:List.take aR (ov.map λx=>[E x])=aN.map λx=>[E x]:=by rw[b9,List.map_take]
  have atU:List.drop aR (ov.map λx=>[E x])=C.map λx=>[E x]:=by rw[DR,List.map_drop]
  have pD:aN.length<=ov.length:=(by rw[b9,ri];omega);have aOA:aN.length+C.length=ov.length:=(by rw[b9,DR,ri,F2];omega);have A:aN.length+C.length<=1000:=(by omega);have D:ao.length+ay.length<=1000:=(by omega);obtain⟨fY,gX⟩: ∃fY,fY=km u R aN C:=⟨_,rfl⟩;obtain⟨ez,GF⟩: ∃ez,ez=km u R ao ay:=⟨_,rfl⟩;have ef:=oM (u:=u) (h:=a5) (A:=ll) (R:=R) A;have e2:=nq (u:=u) (h:=a5) (A:=ll) (R:=R) A;have hF:=oM (u:=u) (h:=a5) (A:=ll) (R:=R) D;have j5:=nq (u:=u) (h:=a5) (A:=ll) (R:=R) D;have aB5:=Nn (u:=u) (R:=R) (ao:=aN) (ay:=C);have aB6:=Nn (u:=u) (R:=R) (ao:=ao) (ay:=ay);rw[<-gX]at ef e2 aB5;rw[<-GF]at hF j5 aB6;have bn:fY.1.length<=1000000/\fY.2.1.length<=1000000:=(by omega);have cI:ez.1.length<=1000000/\ez.2.1.length<=1000000:=(by omega);have r2:List.take ov.length (ov.map λx=>[E x])=ov.map λx=>[E x]:=h7 (by simp);simp(disch:=first|omega|simp only[DI.aK];omega) [YS,RQ,RQ,aU,bS,ca,cP,g6,ja,aL,dz,z3,bK,atT,atU,r2,ef,e2,hF,j5,il,qB,-oM,-nq,-an,-au,-ak,-aq,-List.map_map]
 ·exact⟨⟨eC.next,⟨by omega,by have:=aM aL;omega⟩,by simp,by simp(disch:=first|omega|simp only[DI.aK];omega) [-an,-au,-ak,-aq,-List.map_map]⟩,by simp(disch:=first|omega|simp only[DI.aK];omega) [ja,-an,-au,-ak,-aq,-List.map_map],by have dD:=aM aL;simp(disch:=first|omega|simp only[DI.aK];omega) [aL,-an,-au,-ak,-aq,-List.map_map],by simp,by simp,by simp,by simp,by simp⟩
abbrev tH:fZ:= .slice (.int .i64)
theorem SM(d:tH.bU):Bc tH d=bm (pw (e:= .int .i64) d):=rfl
theorem axo(d:(fZ.int .i64).bU):Bc (.int .i64) d=E d:=rfl
theorem aCw{e:fZ}{l:List e.bU}(h:Fg (.slice e) l):l.length<=140737488355328:=by have:=e.aCy h.1;simp only[reachBytes]at this;exact mD this (by omega)
theorem HP{d:tH.bU}(h:Fg tH d):(pw (e:= .int .i64) d).length<=140737488355328:=aCw (e:= .int .i64) h
abbrev Ui:fZ:= .od tH (.od tH .unit)
theorem aHr(d:Ui.bU):Bc Ui d= .agg (jV (pw (e:= .int .i64) d.1) (pw (e:= .int .i64) d.2.1)).toArray:=rfl
theorem atx(m:H)(dp:List Value)(h:xQ m [tH,tH,.int .i64,Ui] dp):ep N 4 dp m λr _=>r= .bool true:=by
 refine aai (λts ba=> ?_) m dp h;cases ba with
 | @cons _ d _ vs ok F=>
   cases F with
   | @cons _ lB _ y7 Tn mM=>
     cases mM with
     | @cons _ gI _ adC Ff ie=>
       cases ie with
       | @cons _ iO _ aIn anO Eg=>cases Eg;rw[SM,SM,axo,aHr];exact atA (HP ok) (HP Tn) (HP anO.1) (HP anO.2.1)
end Go.Proofs.YtmmkkggfmigppaaGreat
