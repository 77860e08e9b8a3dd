/-
  A part of the proof, shortened by tools of ours.
-/
import Derived.Test.YtmmkkggfmigppaaGreatZby
set_option linter.all false
set_option maxRecDepth 8000
set_option maxHeartbeats 16000000
namespace Go.Proofs.YtmmkkggfmigppaaGreat
open Go Go.DI Go.Big Go.gU
theorem e8.cells{t:G}{o:Nat}{l:List Int}(h:e8 t o l): ∃cs,t.F o=some ⟨cs,true⟩/\cs.take l.length=l.map D/\l.length<=cs.length:=by obtain⟨cs,g,a,b,_⟩:=h;exact⟨cs,g,a,b⟩
theorem e8.mu{t:G}{o:Nat}{l:List Int}(h:e8 t o l){k:Nat}{x:Int}(B:l[k]?=some x): ∃cs,t.F o=some ⟨cs,true⟩/\cs[k]?=some (D x)/\(∀h,cs[k]'h=D x)/\k<cs.length:=by
 obtain⟨cs,eB,Ds,nm,xH⟩:=h;have O:=(cN.1 B).1;have hA:cs[k]?=some (D x):=by have e:=congrArg (λl=>l[k]?) Ds;simp only[ry,sk,B]at e;rw[if_pos O]at e;exact e
 exact⟨cs,eB,hA,λh=>(cN.1 hA).2,by omega⟩
theorem acF{u:aL}(h:cL u)(A:1<=u.a2.length){R af az:List Int}(aA:af.length+az.length<=1000){cY eY:Nat}{Q:cO->aD->G->Prop}: ∀(k:Nat) (z:aD) (t:G) (gk g4:Nat),k<=af.length->su u R cY eY z t->e8 t gk (af.take k)->e8 t g4 (af.drop k++az)->gk≠g4->z 8=bN gk k 1->z 9=bN g4 (af.drop k++az).length 1->
 (∀(K:aD) (X:G) (rg rh:Nat) (a w:List Int),qd (fb u R) k (af.take k) (af.drop k++az)=(a,w)->su u R cY eY K X->e8 X rg a->e8 X rh w->K 8=bN rg a.length 1->K 9=bN rh w.length 1->Q (.cF 0) K X)->ee N (.loop E3) z t Q
 | 0,z,t,gk,g4,O,c1,ag,aQ,gI,bm,cz,a6=>by refine eS (ay:=⟨[zA u h A],[]⟩) λbO a1=> ?_;obtain⟨aM,eP,aT,bH,bo⟩:=id c1;simp(disch:=first|omega|simp only[DI.aw];omega) [E3,bm,-ab,-ah,-aa,-ad,-List.map_map];exact a6 _ _ gk g4 [] (af++az) rfl (c1.dg rfl rfl (by simp) (by simp) (by simp)) ag (by simpa using aQ) (by simp[bm]) (by simp[cz])
 | k+1,z,t,gk,g4,O,c1,ag,aQ,gI,bm,cz,a6=>by
   refine eS (ay:=⟨[zA u h A],[]⟩) λbO a1=> ?_;obtain⟨aM,eP,aT,bH,bo⟩:=id c1;have dN:=aF aM;have jS:=aF eP;have step:=ag9 (P:=fb u R) (af:=af) (az:=az) (k:=k) (by omega);obtain⟨aP,cd⟩: ∃aP,aP=af.take (k+1):=⟨_,rfl⟩;have qW:aP.length=k+1:=(by rw[cd,te];omega);have PR:af.take k=aP.take k:=(by rw[cd,List.take_take];congr 1;omega);obtain⟨x,B⟩: ∃x,aP[k]?=some x:=⟨_,c6 (by omega)⟩;have XP:af[k]?=some x:=(by rw[cd,ry]at B;simpa using B);have sN:af.drop k=x::af.drop (k+1):=(by rw[pG (by omega),(cN.1 XP).2]);rw[<-cd]at ag step;obtain⟨nK,f7⟩:=tA ag qW;have vn:=FR ag (k:=k+1);have bA:(0:Int)<(k:Int)+1:=(by omega);have aj:aP.length<=1000000:=(by omega);have bp:IntKind.i64.wrap (k:Int)=k:=db (by omega) (by omega);obtain⟨w,wx⟩: ∃w,w=af.drop (k+1)++az:=⟨_,rfl⟩;have Qw:w.length<=1000:=(by rw[wx,iD,Jl];omega);rw[<-wx]at aQ cz a6 step;cases gr:fb u R aP
   ·obtain⟨cs,eB,hA,Ce,a9⟩:=ag.mu B;obtain⟨ds,tB,aI3,AQ⟩:=aQ.cells;have bW:k+1<=cs.length:=a9;have cA:(k:Int)<(k:Int)+1:=(by omega);have fV:(k:Int)<=(k:Int)+1:=(by omega);have CQ:=ag.cU;have FB:=aQ.cU;have rJ:af.drop k++az=x::w:=(by rw[sN,wx];rfl);have eQ:(1+w.length)*8<=140737488355328/\1+w.length<=9223372036854775807:=(by omega);by_cases qR:w=[]
    ·subst qR;simp(disch:=first|omega|simp only[DI.aw];omega) [E3,aI,aT,bH,bm,cz,aM,nK,vn,bA,gr,bp,eB,tB,Ce,bW,cA,fV,e1,-ab,-ah,-aa,-ad,-List.map_map];have qo: ∀b7 b,b<t.next->(((hW t [gk]).bU 5).aK (t.next+1) b7).F b=t.F b:= λb7 b hb=>by rw[aX (by omega),cl (by simpa using hb)];rfl
     refine a1 _ _ (acF h A aA k _ _ gk (t.next+1) (by omega) (c1.dg (qo _ cY dN) (qo _ eY jS) (by simp) (by simp) (by simp)) (by rw[PR];exact(ag.take (by omega)).dg (qo _ gk CQ)) (by rw[rJ];exact e8.cM (cb (by simp))) (by omega) (by simp) (by rw[rJ];simp) λK X rg rh a w' aU KQ kG kJ aG aN=> ?_);refine a6 K X rg rh a w' ?_ KQ kG kJ aG aN;rw[<-cd,step,if_pos gr];exact aU
    ·have Aa: ¬w.length=0:= λe=>qR (n2 e);simp(disch:=first|omega|simp only[DI.aw];omega) [E3,aI,aT,bH,bm,cz,aM,nK,vn,bA,gr,bp,eB,tB,aI3,AQ,Ce,bW,cA,fV,e1,Aa,eQ,-ab,-ah,-aa,-ad,-List.map_map];have qo: ∀b7 oH b,b<t.next->((((hW t [gk]).bU 5).aK (t.next+1) b7).aK (t.next+3) oH).F b=t.F b:= λb7 oH b hb=>by rw[aX (by omega),aX (by omega),cl (by simpa using hb)];rfl
     refine a1 _ _ (acF h A aA k _ _ gk (t.next+3) (by omega) (c1.dg (qo _ _ cY dN) (qo _ _ eY jS) (by simp) (by simp) (by simp)) (by rw[PR];exact(ag.take (by omega)).dg (qo _ _ gk CQ)) (by rw[rJ];exact e8.cM (cb (by simp))) (by omega) (by simp) (by rw[rJ];simp;omega) λK X rg rh a w' aU KQ kG kJ aG aN=> ?_);refine a6 K X rg rh a w' ?_ KQ kG kJ aG aN;rw[<-cd,step,if_pos gr];exact aU
   ·rw[if_neg (by rw[gr];decide)]at step;simp(disch:=first|omega|simp only[DI.aw];omega) [E3,aI,aT,bH,bm,aM,nK,vn,bA,gr,-ab,-ah,-aa,-ad,-List.map_map];refine a6 _ _ gk g4 aP w (by rw[<-cd];exact step) (c1.dg (by simp) (by simp) (by simp) (by simp) (by simp)) (ag.dg (by simp)) (aQ.dg (by simp)) (by simp[bm,qW]) (by simp[cz])
theorem aFS{u:aL}(h:cL u)(A:1<=u.a2.length){R a0 eb:List Int}(aA:a0.length+eb.length<=1000){cY eY gk g4 nq:Nat}{Q:cO->aD->G->Prop}{z:aD}{t:G}(c1:su u R cY eY z t)(ag:e8 t gk a0)(aQ:e8 t g4 eb)
 (wg:e8 t nq []) (BR:gk≠nq/\g4≠nq/\cY≠nq/\eY≠nq) (bm:z 8=bN gk a0.length 1) (cz:z 9=bN g4 eb.length 1) (fr:z 11=bN nq 0 1) (fM:z 12=D 0)
 (a6: ∀(K:aD) (X:G) (rg rh:Nat),su u R cY eY K X->e8 X rg (fh (fb u R) a0 eb).1->e8 X rh (fh (fb u R) a0 eb).2->K 8=bN rg (fh (fb u R) a0 eb).1.length 1->K 11=bN rh (fh (fb u R) a0 eb).2.length 1->Q (.cF 2) K X):ee N (.loop L8) z t Q:=by
 refine gP (ay:=⟨[zA u h A],[]⟩) (λi z t=>(∃gk nq,e8 t gk (fh (fb u R) a0 (eb.take i)).1/\e8 t nq (fh (fb u R) a0 (eb.take i)).2/\(gk≠nq/\g4≠nq/\cY≠nq/\eY≠nq)/\z 8=bN gk (fh (fb u R) a0 (eb.take i)).1.length 1/\z 11=bN nq (fh (fb u R) a0 (eb.take i)).2.length 1)/\su u R cY eY z t/\e8 t g4 eb/\z 9=bN g4 eb.length 1/\z 12=D i) eb.length ?_ ?_ 0 z t (gd _) ⟨⟨gk,nq,by simpa[fh]using ag,by simpa[fh]using wg,BR,by simpa[fh]using bm,by simpa[fh]using fr⟩,c1,aQ,cz,fM⟩
 ·rintro i z t Y ⟨⟨gk,nq,ag,wg,⟨gI,hz,iT,tu⟩,bm,fr⟩,c1,aQ,cz,fM⟩ bO a1;obtain⟨x,B⟩:=gM Y;have step:=afC (P:=fb u R) (a:=a0) B;have dc:=JH (P:=fb u R) (eb.take i) a0;rw[te]at dc;obtain⟨a,WH⟩: ∃a,a=(fh (fb u R) a0 (eb.take i)).1:=⟨_,rfl⟩;obtain⟨jo,axy⟩: ∃a,a=(fh (fb u R) a0 (eb.take i)).2:=⟨_,rfl⟩;rw[<-WH]at ag bm step dc;rw[<-axy]at wg fr step dc;obtain⟨aM,eP,aT,bH,bo⟩:=id c1;have dN:=aF aM;have jS:=aF eP;have CQ:=ag.cU;have aof:=wg.cU;have FB:=aQ.cU;have bA:(i:Int)<eb.length:=(by omega);have a9:i+1<=eb.length:=Y;have bp:=fB (n:=i) (by omega);obtain⟨cs,tB,hA,Ce,bW⟩:=aQ.mu B;have cA:i+1<=cs.length:=bW;obtain⟨z7,eB,Ds,nm⟩:=ag.cells;obtain⟨b5,PJ,uj,aDw⟩:=wg.cells;have eQ:(a.length+1)*8<=140737488355328/\a.length+1<=9223372036854775807/\a.length*8<=140737488355328/\a.length<=9223372036854775807:=(by omega);have aS7:a.length<=9223372036854775806:=(by omega);have aDt:(jo.length+1)*8<=140737488355328/\jo.length<=9223372036854775806:=(by omega);have aj:(a++[x]).length<=1000000:=by simp;omega
  -- JQ 'a0j
  have key: ∀(W:G) (c2:aD),(∀b,b<t.next->W.F b=t.F b)->t.next+7<W.next->W.F (t.next+7)=some ⟨(a++[x]).map D,true⟩->c2 1=bq R->c2 3=bC cY->c2 6=bC eY->c2 8=bN gk a.length 1->c2 9=bN g4 eb.length 1->c2 11=bN nq jo.length 1->c2 12=D i->c2 13=bN (t.next+7) (a.length+1) 1->
   iK (ay:=⟨[zA u h A],[]⟩) L7 c2 W (DZ 3 (Je ⟨[zA u h A],[]⟩ (.kN [⟨0,some 54,none,.hY (.tmp 12),[]⟩,⟨1,some 55,none,.oJ .add .ua (.tmp 54) (.const (.int .i64 1)),[]⟩,⟨2,some 12,none,.hY (.tmp 55),[]⟩]) (sS bO Q))):= λW c2 mG vi qV aT bH bo bm cz fr fM pA=>by
   have aM:=(mG cY dN).trans aM;have dN:=aF aM;have tB:=(mG g4 FB).trans tB;have PJ:=(mG nq aof).trans PJ;have aS9:=aF PJ;obtain⟨nK,f7⟩:=tA (e8.cM qV) (k:=a.length+1) (by simp);have vn:=FR (e8.cM qV) (k:=a.length+1);cases gr:fb u R (a++[x])
   ·rw[if_neg (by rw[gr];decide)]at step;simp(disch:=first|omega|simp only[DI.aw];omega) [L7,aI,aT,bH,cz,fr,fM,pA,aM,nK,vn,gr,tB,Ce,bA,cA,e1,PJ,uj,aDw,aDt,bp,-ab,-ah,-aa,-ad,-List.map_map];have Tb: ∀b,b<t.next->b≠nq->(((((hW W [t.next+7]).bU 8).aK (W.next+5) (some ⟨[D x],true⟩)).aK nq none).aK (W.next+6) (some ⟨jo.map D++[D x],true⟩)).F b=t.F b:= λb hb bx=>by rw[aX (by omega),aX bx,aX (by omega),cl (by simp;omega)];exact mG b hb
    refine a1 _ _ ⟨⟨gk,W.next+6,?_,?_,⟨by omega,by omega,by omega,by omega⟩,?_,?_⟩,c1.dg (Tb cY (by have:=aF c1.aM;omega) iT) (Tb eY jS tu) (by simp[aT,c1.aT]) (by simp[bH,c1.bH]) (by simp[bo,c1.bo]),aQ.dg (Tb g4 FB hz),by simp[cz],by simp⟩
    ·rw[step];exact ag.dg (Tb gk CQ gI)
    ·rw[step];exact e8.cM (by rw[cb (by simp)];simp)
    ·rw[step];simp[bm]
    ·rw[step];simp
   ·rw[if_pos gr]at step;simp(disch:=first|omega|simp only[DI.aw];omega) [L7,aI,aT,bH,fM,pA,aM,nK,vn,gr,bp,-ab,-ah,-aa,-ad,-List.map_map];refine a1 _ _ ⟨⟨t.next+7,nq,?_,?_,⟨by omega,hz,iT,tu⟩,?_,?_⟩,c1.dg (mG cY (aF c1.aM)) (mG eY jS) (by simp[aT,c1.aT]) (by simp[bH,c1.bH]) (by simp[bo,c1.bo]),aQ.dg (mG g4 FB),by simp[cz],by simp⟩
    ·rw[step];exact e8.cM qV
    ·rw[step];exact wg.dg (mG nq aof)
    ·rw[step];simp
    ·rw[step];simp[fr]
  by_cases O4:a=[]
  ·have x9:z 8=bN gk 0 1:=(by rw[bm,O4];rfl);have aY3:z7.take 0=[]:=rfl;simp(disch:=first|omega|simp only[DI.aw];omega) [L8,x9,cz,fM,eB,tB,Ce,bA,cA,e1,-ab,-ah,-aa,-ad,-List.map_map];refine key _ _ (λb hb=> ?_) (by simp) ?_ (by simp[aT]) (by simp[bH]) (by simp[bo]) (by simp[bm]) (by simp[cz]) (by simp[fr]) (by simp[fM]) (by simp[O4])
   ·simp(disch:=first|omega|simp only[DI.aw];omega) [-ab,-ah,-aa,-ad,-List.map_map]
   ·simp(disch:=first|omega|simp only[DI.aw];omega) [O4,-ab,-ah,-aa,-ad,-List.map_map]
  ·have xb: ¬a.length=0:= λe=>O4 (n2 e);simp(disch:=first|omega|simp only[DI.aw];omega) [L8,bm,cz,fM,eB,Ds,nm,tB,Ce,bA,cA,e1,xb,eQ,-ab,-ah,-aa,-ad,-List.map_map];refine key _ _ (λb hb=> ?_) (by simp) ?_ (by simp[aT]) (by simp[bH]) (by simp[bo]) (by simp[bm]) (by simp[cz]) (by simp[fr]) (by simp[fM]) (by simp)
   ·rw[aX (by omega),aX (by omega),aX (by omega),aX (by omega),cl hb]
   ·rw[cb (by simp),hx (by simp)];simp
 ·rintro z t ⟨⟨gk,nq,ag,wg,_,bm,fr⟩,c1,aQ,cz,fM⟩;rw[mQ]at ag wg bm fr;simp(disch:=first|omega|simp only[DI.aw];omega) [L8,L7,cz,fM,-ab,-ah,-aa,-ad,-List.map_map];exact a6 _ t gk nq (c1.dg rfl rfl (by simp) (by simp) (by simp)) ag wg (by simp[bm]) (by simp[fr])
theorem aGJ{u:aL}(h:cL u)(A:1<=u.a2.length){R af az:List Int}(aA:af.length+az.length<=1000):bP N 26 [.agg (aI u).toArray,bq R,.agg (jC af az).toArray] (if gT u (af++az)=true then .tuple #[FU (fb u R) af az,D 0]else .tuple #[.agg #[bq [],bq []],D 1]):=by
 have aj:(af++az).length<=1000000:=by rw[iD];omega
 have H:=aHE (u:=u) (h:=h) (af:=af) (az:=az) aj;cases M:gT u (af++az)
 ·rw[if_neg (by decide)];refine bP.uq (r:= .tuple #[abQ,D 1]) (dJ (c3 (ay:=⟨[De u h],[]⟩) alV (by kernel_rfl) (by simp[CB]) ?_)) (pK.tuple (xs:=[_,_]) (ys:=[_,_]) ⟨pK.agg (xs:=[_,_]) (ys:=[_,_]) ⟨.nil,.nil,trivial⟩,.refl _,trivial⟩);simp(disch:=first|omega|simp only[DI.aw];omega) [CB,HZ,aI,M]
 ·rw[if_pos rfl];refine dJ (c3 (ay:=⟨[De u h],[]⟩) alV (by kernel_rfl) (by simp[CB]) ?_);have key: ∀(W:G) (z:aD) (gk g4:Nat),su u R 0 2 z W->e8 W gk af->e8 W g4 az->gk≠g4->z 8=bN gk af.length 1->z 9=bN g4 az.length 1->z 7=D 0->ee N (.loop E3) z W (DZ 0 (Je ⟨[De u h],[]⟩ Zb (A2 [ln.hy 6 true 2,ln.bL 7] λv t=>dx 9 t v=some (Value.tuple #[FU (fb u R) af az,D 0])))):= λW z gk g4 c1 ag aQ gI bm cz cf=>by
   have Kc:af.take af.length=af:=mQ;have D8:af.drop af.length++az=az:=(by rw[Jk];rfl);refine acF h A (R:=R) aA (cY:=0) (eY:=2) af.length z W gk g4 (c8 _) c1 (by rw[Kc];exact ag) (by rw[D8];exact aQ) gI bm (by rw[D8];exact cz) λK t gk g4 a w aU c1 ag aQ qS rJ=> ?_;rw[Kc,D8]at aU;have gR:=(G0 (P:=fb u R) af.length af az (c8 _)).2.1;rw[aU]at gR;have Xz:ox (fb u R) af az=fh (fb u R) a w:=(by unfold ox;rw[aU]);have dc:a.length+w.length=af.length+az.length:=(by have:=congrArg List.length gR;simpa using this);obtain⟨aM,eP,aT,bH,bo⟩:=id c1;have dN:=aF aM;have jS:=aF eP;have nm:=ag.cU;have AQ:=aQ.cU;simp(disch:=omega) [Zb];refine ur (d:=11) (I:=1) (by simp) ?_;have eX: ∀b,b<t.next->((t.bU 1).aK t.next (some (en.mk [] true))).F b=t.F b:= λb hb=>by rw[aX (by omega),cl hb]
   refine aFS h A (by omega) (gk:=gk) (g4:=g4) (nq:=t.next) (c1.dg (eX 0 dN) (eX 2 jS) (by simp) (by simp) (by simp)) (ag.dg (eX gk nm)) (aQ.dg (eX g4 AQ)) (e8.cM (cb (by simp))) ⟨by omega,by omega,by omega,by omega⟩ (by simp[qS]) (by simp[rJ]) (by simp) (by simp) λc2 dR M3 Ng yI Ep tM Ka Kb=> ?_;obtain⟨aM,eP,aT,bH,bo⟩:=id yI;have jS:=aF eP;have ed:M3≠2:= λe=>by obtain⟨cs,eB,_,_,xH⟩:=Ep;rw[e,eP]at eB;obtain⟨n,aj⟩:=xH (.slice none 0 0) (by have aN:[Value.slice none 0 0,Value.slice none 0 0]=cs:=congrArg en.cells (DM eB);rw[<-aN];simp);cases aj
   have er:Ng≠2:= λe=>by obtain⟨cs,eB,_,_,xH⟩:=tM;rw[e,eP]at eB;obtain⟨n,aj⟩:=xH (.slice none 0 0) (by have aN:[Value.slice none 0 0,Value.slice none 0 0]=cs:=congrArg en.cells (DM eB);rw[<-aN];simp);cases aj
   rw[<-Xz]at Ep tM Ka Kb;have pk: ∀b7 b,b≠2->(dR.aK 2 b7).F b=dR.F b:= λb7 b hb=>aX hb;have ej:= λb7=>(tA (Ep.dg (pk b7 M3 ed)) rfl).2;have eD:= λb7=>(tA (tM.dg (pk b7 Ng er)) rfl).2;simp(disch:=omega) [alW,bo,eP,Ka,Kb,ej,eD,FU]
  have Tj:af.length*8<=140737488355328/\af.length<=9223372036854775807:=(by omega);have Tk:az.length*8<=140737488355328/\az.length<=9223372036854775807:=(by omega);have Nw: ∀(W:G) (z:aD),W.F 0=some ⟨aI u,true⟩->W.F 2=some ⟨[.slice none 0 0,.slice none 0 0],true⟩->z 1=bq R->z 3=bC 0->z 6=bC 2->su u R 0 2 z W:= λW z a b c d e=>⟨a,b,c,d,e⟩;by_cases j3:af=[]
  ·have D1:af.length=0:=(by rw[j3];rfl);by_cases ie:az=[]
   ·have z6:az.length=0:=(by rw[ie];rfl);simp[CB,HZ,L6,aI,M,D1,z6];refine ur (d:=8) (I:=1) (by simp) ?_;refine ur (d:=9) (I:=1) (by simp) ?_;refine key _ _ 12 13 (Nw _ _ (by simp[aI]) (by simp) (by simp) (by simp) (by simp)) ?_ ?_ (by decide) (by simp[D1,fE]) (by simp[z6,fE]) (by simp)
    ·rw[j3];exact e8.cM (by simp[fE])
    ·rw[ie];exact e8.cM (by simp[fE])
   ·have z6: ¬az.length=0:= λe=>ie (n2 e);simp(disch:=first|omega|simp only[DI.aw];omega) [CB,HZ,L6,aI,M,D1,z6,Tk];refine ur (d:=8) (I:=1) (by simp) ?_;refine key _ _ 12 9 (Nw _ _ (by simp[aI]) (by simp) (by simp) (by simp) (by simp)) ?_ ?_ (by decide) (by simp[D1,fE]) (by simp[fE]) (by simp)
    ·rw[j3];exact e8.cM (by simp[fE,mc])
    ·exact e8.cM (by simp[fE,mc])
  ·have D1: ¬af.length=0:= λe=>j3 (n2 e);by_cases ie:az=[]
   ·have z6:az.length=0:=(by rw[ie];rfl);simp(disch:=first|omega|simp only[DI.aw];omega) [CB,HZ,L6,aI,M,D1,z6,Tj];refine ur (d:=9) (I:=1) (by simp) ?_;refine key _ _ 6 12 (Nw _ _ (by simp[aI]) (by simp) (by simp) (by simp) (by simp)) ?_ ?_ (by decide) (by simp[fE]) (by simp[z6,fE]) (by simp)
    ·exact e8.cM (by simp[fE,mc])
    ·rw[ie];exact e8.cM (by simp(disch:=first|omega|simp only[DI.aw];omega) [fE,mc])
   ·have z6: ¬az.length=0:= λe=>ie (n2 e);simp(disch:=first|omega|simp only[DI.aw];omega) [CB,HZ,L6,aI,M,D1,z6,Tj,Tk,-ab,-ah,-aa,-ad,-List.map_map];refine key _ _ 6 9 (Nw _ _ (by simp(disch:=first|omega|simp only[DI.aw];omega) [aI,-ab,-ah,-aa,-ad,-List.map_map]) (by simp(disch:=first|omega|simp only[DI.aw];omega) [-ab,-ah,-aa,-ad,-List.map_map]) (by simp) (by simp) (by simp)) ?_ ?_ (by decide) (by simp[]) (by simp[]) (by simp)
    ·exact e8.cM (by simp[fE,mc])
    ·exact e8.cM (by simp[fE,mc])
noncomputable def Um:bF N:= .cM 74 (List Int×Int) (λx=>x.1.length<=999999) (λx=>[bq x.1,D x.2]) (λx=>bq (x.1++[x.2])) λx B=>dJ ((aeG lZ.enc B).bt λr X ⟨o,_,ar,aH,_⟩=>by rw[ar];exact(tA (e8.cM aH) (by simp)).1)
@[simp] theorem aXC:Um.f=74:=rfl
@[simp] theorem aXD{l:List Int}{n:Int}(h:l.length<=999999):Um.fn [ai (l.map λx=>[D x]) 1,.int .i64 n]=some (bq (l++[n])):=bF.dK (x:=(l,n)) h λ⟨j6,h2⟩ Z=>by simpa using Z
noncomputable def Ul:bF N:= .cM 75 (List Int×Int) (λx=>x.1.length<=1000000) (λx=>[bq x.1,D x.2]) (λx=>bq (eI x.1 x.2)) λx B=>dJ ((arZ lZ.enc B).bt λr X ⟨o,_,ar,aH,_⟩=>by rw[ar];exact(tA aH rfl).1)
@[simp] theorem aXA:Ul.f=75:=rfl
@[simp] theorem aXB{l:List Int}{n:Int}(h:l.length<=1000000):Ul.fn [ai (l.map λx=>[D x]) 1,.int .i64 n]=some (bq (eI l n)):=bF.dK (x:=(l,n)) h λ⟨j6,h2⟩ Z=>by simpa using Z
theorem awT{l:List Int}{n:Int}(aA:l.length<=1000000):bP N 70 [bq l,D n] (.bool (decide (n∈l))):=by
 refine dJ (c3 (ay:=⟨[],[]⟩) amR (by kernel_rfl) (by simp[Mn]) ?_);simp[Mn,ZF];refine gP (ay:=⟨[],[]⟩) (λi z t=>n∉l.take i/\z 0=bq l/\z 1=D n/\z 5=D i) l.length ?_ ?_ 0 _ _ (gd _) ⟨by simp,by simp,by simp,by simp⟩
 ·rintro i z t Y ⟨aj,bG,aT,bD⟩ bO a1;obtain⟨x,B⟩:=gM Y;have cQ:=(cN.1 B).2;have bA:(i:Int)<l.length:=(by omega);have bp:=fB (n:=i) (by omega);by_cases c:x=n
  ·subst c;have al:x∈l:=fX B;simp(disch:=omega) [E7,AI,bG,aT,bD,bA,cQ,al]
  ·simp(disch:=first|omega|simp only[DI.aw];omega) [E7,AI,bG,aT,bD,bA,bp,cQ,c,-ab,-ah,-aa,-ad,-List.map_map];refine a1 _ _ ⟨?_,by simp[bG],by simp[aT],by simp⟩;rw[qF,B];simp[aj];exact λe=>c e.symm
 ·rintro z t ⟨aj,bG,aT,bD⟩;rw[mQ]at aj;simp[E7,AI,AI,bG,bD,aj]
noncomputable def NF:bF N:= .cM 70 (List Int×Int) (λx=>x.1.length<=1000000) (λx=>[bq x.1,D x.2]) (λx=> .bool (decide (x.2∈x.1))) λx B=>awT B
@[simp] theorem aVI:NF.f=70:=rfl
@[simp] theorem aVJ{l:List Int}{n:Int}(h:l.length<=1000000):NF.fn [ai (l.map λx=>[D x]) 1,.int .i64 n]=some (.bool (decide (n∈l))):=bF.dK (x:=(l,n)) h λ⟨j6,h2⟩ Z=>by simpa using Z
theorem aHp{l:List Int}{n:Int}(aA:l.length<=1000000):bP N 80 [bq l,D n] (bq (eI l n)):=by
 refine dJ (c3 (ay:=⟨[],[]⟩) am9 (by kernel_rfl) (by simp[Mu]) ?_);simp[Mu,ZN];refine ur (d:=5) (I:=1) (by simp) ?_;refine gP (ay:=⟨[],[]⟩) (λi z t=>(∃o,z 5=bN o (eI (l.take i) n).length 1/\t.F o=some ⟨(eI (l.take i) n).map D,true⟩)/\z 0=bq l/\z 1=D n/\z 6=D i) l.length ?_ ?_ 0 _ _ (gd _) ⟨⟨_,by simp[eI];rfl,by simp[eI,fE,cb]⟩,by simp,by simp,by simp⟩
 ·rintro i z t Y ⟨⟨o,bD,bw⟩,bG,aT,bo⟩ bO a1;obtain⟨x,B⟩:=gM Y;have cQ:=(cN.1 B).2;have eW:(eI (l.take i) n).length<=i:=MO;have bA:(i:Int)<l.length:=(by omega);have bp:=fB (n:=i) (by omega);have bh:=aF bw;obtain⟨k,O⟩: ∃k,eI (l.take i) n=k:=⟨_,rfl⟩;have e:=Fz (x:=n) B;rw[O]at bD bw eW e;have eQ:(k.length+1)*8<=140737488355328/\k.length<=9223372036854775806:=(by omega);have jG:List.take k.length (k.map D)=k.map D:=hx (by simp);by_cases c:x=n
  ·rw[if_pos c]at e;simp(disch:=first|omega|simp only[DI.aw];omega) [E9,AJ,bG,aT,bo,bA,bp,cQ,c,-ab,-ah,-aa,-ad,-List.map_map];exact a1 _ _ ⟨⟨o,by rw[e];simp[bD],by rw[e];exact bw⟩,by simp[bG],by simp[aT],by simp⟩
  ·rw[if_neg c]at e;simp(disch:=first|omega|simp only[DI.aw];omega) [E9,AJ,bG,aT,bD,bo,bw,bA,bp,cQ,c,eQ,jG,-ab,-ah,-aa,-ad,-List.map_map];refine a1 _ _ ⟨⟨t.next+6,by rw[e];simp,?_⟩,by simp[bG],by simp[aT],by simp⟩;rw[e,p7];simp(disch:=first|omega|simp only[DI.aw];omega) [-ab,-ah,-aa,-ad,-List.map_map]
 ·rintro z t ⟨⟨o,bD,bw⟩,bG,aT,bo⟩;rw[mQ]at bD bw;have bb:=tA (e8.cM bw) rfl;simp[E9,AJ,AJ,bG,bD,bo,bb.1]
noncomputable def adx:bF N:= .cM 80 (List Int×Int) (λx=>x.1.length<=1000000) (λx=>[bq x.1,D x.2]) (λx=>bq (eI x.1 x.2)) λx B=>aHp B
@[simp] theorem aW7:adx.f=80:=rfl
@[simp] theorem aW8{l:List Int}{n:Int}(h:l.length<=1000000):adx.fn [ai (l.map λx=>[D x]) 1,.int .i64 n]=some (bq (eI l n)):=bF.dK (x:=(l,n)) h λ⟨j6,h2⟩ Z=>by simpa using Z
theorem aIg{af az n6 nC:List Int}(A:af.length<=1000000)(E:az.length<=1000000)(ao:n6.length<=1000000)(aS:nC.length<=1000000):bP N 27 [.agg (jC af az).toArray,.agg (jC n6 nC).toArray] (.bool (decide (af=n6/\az=nC))):=by
 refine dJ (c3 (ay:=⟨[adB],[]⟩) al5 (by kernel_rfl) (by simp[L9]) ?_);have br:af.length<=1000000/\n6.length<=1000000:=⟨A,ao⟩;have bQ:az.length<=1000000/\nC.length<=1000000:=⟨E,aS⟩;by_cases c:af=n6
 ·simp(disch:=first|omega|simp only[DI.aw];omega) [L9,Zf,c]
 ·simp(disch:=first|omega|simp only[DI.aw];omega) [L9,Zf,c]
abbrev JA:Type:=List Int×List Int×Int
noncomputable def jW(u:aL)(R af az:List Int):JA:=if gT u (af++az)=true then((ox (fb u R) af az).1,(ox (fb u R) af az).2,0)else([],[],1)
noncomputable def kO(u:aL)(R af az:List Int)(n:Int):JA:=if gT u (af++az)=true/\np u n=true then(if n∈af\/n∈az then([],[],8)else jW u R af (az++[n]))else([],[],1)
noncomputable def k4(u:aL)(R af az:List Int)(n:Int):JA:=if gT u (af++az)=true then(if n∈af\/n∈az then jW u R (eI af n) (eI az n)else([],[],110))else([],[],1)
def iN(o:JA):Value:= .tuple #[.agg #[bq o.1,bq o.2.1],D o.2.2]
theorem wU{e:Int}:pK (.tuple #[abQ,D e]) (iN ([],[],e)):=pK.tuple (xs:=[_,_]) (ys:=[_,_]) ⟨pK.agg (xs:=[_,_]) (ys:=[_,_]) ⟨.nil,.nil,trivial⟩,.refl _,trivial⟩
theorem aqr{u:aL}{R af az:List Int}:(if gT u (af++az)=true then Value.tuple #[FU (fb u R) af az,D 0]else .tuple #[.agg #[bq [],bq []],D 1])=iN (jW u R af az):=by unfold jW iN FU;split<;>rfl
noncomputable def NH(u:aL)(h:cL u)(A:1<=u.a2.length):bF N:= .cM 25 (List Int×List Int×List Int) (λx=>x.2.1.length+x.2.2.length<=1000) (λx=>[.agg (aI u).toArray,bq x.1,.agg (jC x.2.1 x.2.2).toArray]) (λx=>iN (jW u x.1 x.2.1 x.2.2)) λx B=>by
 have:=aFk h A (R:=x.1) B
 rwa [aqr]at this
@[simp] theorem aWf{u:aL}{h:cL u}{A:1<=u.a2.length}:(NH u h A).f=25:=rfl
@[simp] theorem oZ{u:aL}{h:cL u}{A:1<=u.a2.length}{R af az:List Int}(aj:af.length+az.length<=1000):(NH u h A).fn [.agg #[D u.ext,ai (u.e7.map gE) 4,ai (u.cx.map gN) 4,ai (u.aO.map e6) 7,ai (u.aZ.map fH) 3,ai (u.dv.map dU) 17,ai (u.a2.map gD) 2],ai (R.map λx=>[D x]) 1,.agg #[ai (af.map λx=>[D x]) 1,ai (az.map λx=>[D x]) 1]]=some (iN (jW u R af az)):=bF.dK (x:=(R,af,az)) aj λ⟨j6,h2,kP⟩ Z=>by simpa using Z
noncomputable def Ue(u:aL)(h:cL u)(A:1<=u.a2.length):bF N:= .cM 26 (List Int×List Int×List Int) (λx=>x.2.1.length+x.2.2.length<=1000) (λx=>[.agg (aI u).toArray,bq x.1,.agg (jC x.2.1 x.2.2).toArray]) (λx=>iN (jW u x.1 x.2.1 x.2.2)) λx B=>by
 have:=aGJ h A (R:=x.1) B
 rwa [aqr]at this
@[simp] theorem aWI{u:aL}{h:cL u}{A:1<=u.a2.length}:(Ue u h A).f=26:=rfl
@[simp] theorem o0{u:aL}{h:cL u}{A:1<=u.a2.length}{R af az:List Int}(aj:af.length+az.length<=1000):(Ue u h A).fn [.agg #[D u.ext,ai (u.e7.map gE) 4,ai (u.cx.map gN) 4,ai (u.aO.map e6) 7,ai (u.aZ.map fH) 3,ai (u.dv.map dU) 17,ai (u.a2.map gD) 2],ai (R.map λx=>[D x]) 1,.agg #[ai (af.map λx=>[D x]) 1,ai (az.map λx=>[D x]) 1]]=some (iN (jW u R af az)):=bF.dK (x:=(R,af,az)) aj λ⟨j6,h2,kP⟩ Z=>by simpa using Z
noncomputable abbrev UC(u:aL)(h:cL u)(A:1<=u.a2.length)(bB:u.aO.length<=1000)(cC:u.aZ.length<=1000):mq N:=⟨[IV u h,Dc u bB cC,T6,Um,Ul,NH u h A],[]⟩
noncomputable abbrev UB(u:aL)(h:cL u)(A:1<=u.a2.length)(bB:u.aO.length<=1000)(cC:u.aZ.length<=1000):mq N:=⟨[De u h,NK u bB cC,NF,adx,Ue u h A],[]⟩
theorem aFr{u:aL}(h:cL u)(A:1<=u.a2.length){R af az:List Int}{n:Int}(aA:af.length+az.length<=999):bP N 36 [.agg (aI u).toArray,bq R,.agg (jC af az).toArray,D n] (iN (kO u R af az n)):=by
 have eM:=h.ok.fp;have hI:=h.ok.hj;have bB:u.aO.length<=1000:=by omega
 have cC:u.aZ.length<=1000:=by omega
 have aj:(af++az).length<=1000000:=by rw[iD];omega
 have bs: ∀{r:Value},iK (UC u h A bB cC) xM.body (ij [.agg (aI u).toArray,bq R,.agg (jC af az).toArray,D n]) fE (A2 xM.j5 λv t=>dx 9 t v=some r)->bP N 36 [.agg (aI u).toArray,bq R,.agg (jC af az).toArray,D n] r:= λaQ=>dJ (c3 (ay:=UC u h A bB cC) amg (by kernel_rfl) (by simp[xM]) aQ);have br:af.length<=1000000/\az.length<=1000000/\az.length<=999999:=by omega
 cases M:gT u (af++az)
 ·have e:kO u R af az n=([],[],1):=(by unfold kO;rw[if_neg (by simp[M])]);rw[e];refine(bs ?_).uq wU;simp(disch:=first|omega|simp only[DI.aw];omega) [xM,E4,aI,M]
 cases al:np u n
 ·have e:kO u R af az n=([],[],1):=(by unfold kO;rw[if_neg (by simp[al])]);rw[e];refine(bs ?_).uq wU;rw[abX]at al;by_cases c:n=0
  ·simp(disch:=first|omega|simp only[DI.aw];omega) [xM,E4,aI,M,c]
  ·have hb:oW u n=false:=(by simpa[c]using al);simp(disch:=first|omega|simp only[DI.aw];omega) [xM,E4,aI,M,c,hb]
 have rS:=al;rw[abX]at rS;simp only[a7,sj,Gv]at rS;obtain⟨jv,hb⟩:=rS;by_cases j3:n∈af
 ·have e:kO u R af az n=([],[],8):=(by unfold kO;rw[if_pos ⟨M,al⟩,if_pos (.inl j3)]);rw[e];refine(bs ?_).uq wU;simp(disch:=first|omega|simp only[DI.aw];omega) [xM,E4,Sd,aI,M,jv,hb,j3]
 by_cases ie:n∈az
 ·have e:kO u R af az n=([],[],8):=(by unfold kO;rw[if_pos ⟨M,al⟩,if_pos (.inr ie)]);rw[e];refine(bs ?_).uq wU;simp(disch:=first|omega|simp only[DI.aw];omega) [xM,E4,Sd,aI,M,jv,hb,j3,ie]
 ·have e:kO u R af az n=jW u R af (az++[n]):=(by unfold kO;rw[if_pos ⟨M,al⟩,if_neg (by simp[j3,ie])]);rw[e];have uY:af.length+(az++[n]).length<=1000:=(by simp;omega);refine bs ?_;obtain⟨gG,g8⟩: ∃gG,gG=jW u R af (az++[n]):=⟨_,rfl⟩;rw[<-g8];have gR:=oZ (u:=u) (h:=h) (A:=A) (R:=R) uY;rw[<-g8]at gR;simp(disch:=first|omega|simp only[DI.aw];omega) [xM,E4,Sd,amh,aI,M,jv,hb,j3,ie,gR,iN,-List.map_append,-oZ,-ab,-ah,-aa,-ad,-List.map_map]
theorem aFy{u:aL}(h:cL u)(A:1<=u.a2.length){R af az:List Int}{n:Int}(aA:af.length+az.length<=999):bP N 32 [.agg (aI u).toArray,bq R,.agg (jC af az).toArray,D n] (iN (k4 u R af az n)):=by
 have eM:=h.ok.fp;have hI:=h.ok.hj;have bB:u.aO.length<=1000:=by omega
 have cC:u.aZ.length<=1000:=by omega
 have aj:(af++az).length<=1000000:=by rw[iD];omega
 have bs: ∀{r:Value},iK (UC u h A bB cC) CC.body (ij [.agg (aI u).toArray,bq R,.agg (jC af az).toArray,D n]) fE (A2 CC.j5 λv t=>dx 9 t v=some r)->bP N 32 [.agg (aI u).toArray,bq R,.agg (jC af az).toArray,D n] r:= λaQ=>dJ (c3 (ay:=UC u h A bB cC) aAT (by kernel_rfl) (by simp[CC]) aQ);have br:af.length<=1000000/\az.length<=1000000/\az.length<=999999:=by omega
 cases M:gT u (af++az)
 ·have e:k4 u R af az n=([],[],1):=(by unfold k4;rw[if_neg (by simp[M])]);rw[e];refine(bs ?_).uq wU;simp(disch:=first|omega|simp only[DI.aw];omega) [CC,Mc,aI,M]
 have nm:=wC (l:=af) (x:=n);have AQ:=wC (l:=az) (x:=n);have uY:(eI af n).length+(eI az n).length<=1000:=by omega
 obtain⟨gG,g8⟩: ∃gG,gG=jW u R (eI af n) (eI az n):=⟨_,rfl⟩;have gR:=oZ (u:=u) (h:=h) (A:=A) (R:=R) uY;rw[<-g8]at gR;by_cases j3:n∈af
 ·have e:k4 u R af az n=gG:=(by unfold k4;rw[if_pos M,if_pos (.inl j3),g8]);rw[e];refine bs ?_;simp(disch:=first|omega|simp only[DI.aw];omega) [CC,Mc,Sc,Zl,aI,M,j3,gR,iN,-oZ,-ab,-ah,-aa,-ad,-List.map_map]
 by_cases ie:n∈az
 ·have e:k4 u R af az n=gG:=(by unfold k4;rw[if_pos M,if_pos (.inr ie),g8]);rw[e];refine bs ?_;simp(disch:=first|omega|simp only[DI.aw];omega) [CC,Mc,Sc,Zl,aI,M,j3,ie,gR,iN,-oZ,-ab,-ah,-aa,-ad,-List.map_map]
 ·have e:k4 u R af az n=([],[],110):=(by unfold k4;rw[if_pos M,if_neg (by simp[j3,ie])]);rw[e];refine(bs ?_).uq wU;simp(disch:=first|omega|simp only[DI.aw];omega) [CC,Mc,Sc,aI,M,j3,ie]
theorem aHn{u:aL}(h:cL u)(A:1<=u.a2.length){R af az:List Int}{n:Int}(aA:af.length+az.length<=999):bP N 77 [.agg (aI u).toArray,bq R,.agg (jC af az).toArray,D n] (iN (k4 u R af az n)):=by
 have eM:=h.ok.fp;have hI:=h.ok.hj;have bB:u.aO.length<=1000:=by omega
 have cC:u.aZ.length<=1000:=by omega
 have aj:(af++az).length<=1000000:=by rw[iD];omega
 have bs: ∀{r:Value},iK (UB u h A bB cC) CE.body (ij [.agg (aI u).toArray,bq R,.agg (jC af az).toArray,D n]) fE (A2 CE.j5 λv t=>dx 9 t v=some r)->bP N 77 [.agg (aI u).toArray,bq R,.agg (jC af az).toArray,D n] r:= λaQ=>dJ (c3 (ay:=UB u h A bB cC) aBa (by kernel_rfl) (by simp[CE]) aQ);have br:af.length<=1000000/\az.length<=1000000/\az.length<=999999:=by omega
 cases M:gT u (af++az)
 ·have e:k4 u R af az n=([],[],1):=(by unfold k4;rw[if_neg (by simp[M])]);rw[e];refine(bs ?_).uq wU;simp(disch:=first|omega|simp only[DI.aw];omega) [CE,Mq,aI,M]
 have nm:=wC (l:=af) (x:=n);have AQ:=wC (l:=az) (x:=n);have uY:(eI af n).length+(eI az n).length<=1000:=by omega
 obtain⟨gG,g8⟩: ∃gG,gG=jW u R (eI af n) (eI az n):=⟨_,rfl⟩;have gR:=o0 (u:=u) (h:=h) (A:=A) (R:=R) uY;rw[<-g8]at gR;by_cases j3:n∈af
 ·have e:k4 u R af az n=gG:=(by unfold k4;rw[if_pos M,if_pos (.inl j3),g8]);rw[e];refine bs ?_;simp(disch:=first|omega|simp only[DI.aw];omega) [CE,Mq,SB,ZH,aI,M,j3,gR,iN,-o0,-ab,-ah,-aa,-ad,-List.map_map]
 by_cases ie:n∈az
 ·have e:k4 u R af az n=gG:=(by unfold k4;rw[if_pos M,if_pos (.inr ie),g8]);rw[e];refine bs ?_;simp(disch:=first|omega|simp only[DI.aw];omega) [CE,Mq,SB,ZH,aI,M,j3,ie,gR,iN,-o0,-ab,-ah,-aa,-ad,-List.map_map]
 ·have e:k4 u R af az n=([],[],110):=(by unfold k4;rw[if_pos M,if_neg (by simp[j3,ie])]);rw[e];refine(bs ?_).uq wU;simp(disch:=first|omega|simp only[DI.aw];omega) [CE,Mq,SB,aI,M,j3,ie]
theorem avH{t:G}{o:Nat}{l:List Int}(h:e8 t o l){k:Nat}(O:l.length=k):dx 8 t (bN o k 1)=some (bq l):=by subst O;exact h.dx
theorem aF7{t:G}{o:Nat}{l:List Int}(h:e8 t o l){k:Nat}:eC 8 t (bN o k 1)=[o]:=by obtain⟨cs,g,_,_,c⟩:=h;rw[apZ,g];simp only[acA c]
theorem aGU{u:aL}(h:cL u)(A:1<=u.a2.length){R af az:List Int}{n:Int}(aA:af.length+az.length<=999):bP N 76 [.agg (aI u).toArray,bq R,.agg (jC af az).toArray,D n] (iN (kO u R af az n)):=by
 have eM:=h.ok.fp;have hI:=h.ok.hj;have bB:u.aO.length<=1000:=by omega
 have cC:u.aZ.length<=1000:=by omega
 have aj:(af++az).length<=1000000:=by rw[iD];omega
 have bs: ∀{r:Value},iK (UB u h A bB cC) y5.body (ij [.agg (aI u).toArray,bq R,.agg (jC af az).toArray,D n]) fE (A2 y5.j5 λv t=>dx 9 t v=some r)->bP N 76 [.agg (aI u).toArray,bq R,.agg (jC af az).toArray,D n] r:= λaQ=>dJ (c3 (ay:=UB u h A bB cC) aA9 (by kernel_rfl) (by simp[y5]) aQ);have br:af.length<=1000000/\az.length<=1000000/\az.length<=999999:=by omega
 cases M:gT u (af++az)
 ·have e:kO u R af az n=([],[],1):=(by unfold kO;rw[if_neg (by simp[M])]);rw[e];refine(bs ?_).uq wU;simp(disch:=first|omega|simp only[DI.aw];omega) [y5,E8,aI,M,-ab,-ah,-aa,-ad,-List.map_map]
 cases al:np u n
 ·have e:kO u R af az n=([],[],1):=(by unfold kO;rw[if_neg (by simp[al])]);rw[e];refine(bs ?_).uq wU;simp(disch:=first|omega|simp only[DI.aw];omega) [y5,E8,aI,M,al,-ab,-ah,-aa,-ad,-List.map_map]
 by_cases j3:n∈af
 ·have e:kO u R af az n=([],[],8):=(by unfold kO;rw[if_pos ⟨M,al⟩,if_pos (.inl j3)]);rw[e];refine(bs ?_).uq wU;simp(disch:=first|omega|simp only[DI.aw];omega) [y5,E8,Mp,aI,M,al,j3,-ab,-ah,-aa,-ad,-List.map_map]
 by_cases ie:n∈az
 ·have e:kO u R af az n=([],[],8):=(by unfold kO;rw[if_pos ⟨M,al⟩,if_pos (.inr ie)]);rw[e];refine(bs ?_).uq wU;simp(disch:=first|omega|simp only[DI.aw];omega) [y5,E8,Mp,aI,M,al,j3,ie,-ab,-ah,-aa,-ad,-List.map_map]
 ·have e:kO u R af az n=jW u R af (az++[n]):=(by unfold kO;rw[if_pos ⟨M,al⟩,if_neg (by simp[j3,ie])]);rw[e];have uY:af.length+(az++[n]).length<=1000:=(by simp;omega);refine bs ?_;obtain⟨gG,g8⟩: ∃gG,gG=jW u R af (az++[n]):=⟨_,rfl⟩;rw[<-g8];have gR:=o0 (u:=u) (h:=h) (A:=A) (R:=R) uY;rw[<-g8]at gR;have aho:nf (Value.tuple #[Value.agg #[ai (gG.1.map λx=>[D x]) 1,ai (gG.2.1.map λx=>[D x]) 1],.int .i64 gG.2.2])=false:=(by simp[nf,ew,ai]);have B1: ∀(t:G) (o:Nat),t.F o=some ⟨(az++[n]).map D,true⟩->dx 8 t (bN o (az.length+1) 1)=some (bq (az++[n]))/\eC 8 t (bN o (az.length+1) 1)=[o]:= λt o aC=>⟨avH (e8.cM aC) (by simp),aF7 (e8.cM aC)⟩;have eQ:az.length*8<=140737488355328/\az.length<=9223372036854775807/\(az.length+1)*8<=140737488355328/\az.length<=9223372036854775806:=(by omega);by_cases qR:az=[]
  ·have Pm:az.length=0:=(by rw[qR];rfl);simp(disch:=first|omega|simp only[DI.aw];omega) [y5,E8,Mp,ZG,aI,M,al,j3,ie,Pm,iN,-List.map_append,-o0,-ab,-ah,-aa,-ad,-List.map_map];generalize dq:G.aK _ 13 (some (en.mk [Value.int IntKind.i64 n] true))=W;have qV:W.F 13=some ⟨(az++[n]).map D,true⟩:=(by rw[<-dq,qR];simp(disch:=first|omega|simp only[DI.aw];omega) [-ab,-ah,-aa,-ad,-List.map_map]);have a5:W.F 2=some ⟨[.slice none 0 0,.slice none 0 0],true⟩:=(by rw[<-dq];simp(disch:=first|omega|simp only[DI.aw];omega) [-ab,-ah,-aa,-ad,-List.map_map]);have jn:=aF a5;obtain⟨f,r⟩:=B1 W 13 qV;rw[Pm]at f r;simp(disch:=first|omega|simp only[DI.aw];omega) [f,r,gR,a5,qV,iN,aho,-List.map_append,-o0,-ab,-ah,-aa,-ad,-List.map_map]
  ·have Pm: ¬az.length=0:= λe=>qR (n2 e);simp(disch:=first|omega|simp only[DI.aw];omega) [y5,E8,Mp,ZG,aI,M,al,j3,ie,Pm,eQ,mc,iN,-List.map_append,-o0,-ab,-ah,-aa,-ad,-List.map_map];have jG:List.take az.length (az.map D)=az.map D:=hx (by simp);rw[jG];generalize dq:G.aK _ 13 (some (en.mk (az.map D++[Value.int IntKind.i64 n]) true))=W;have qV:W.F 13=some ⟨(az++[n]).map D,true⟩:=(by rw[<-dq,p7];simp(disch:=first|omega|simp only[DI.aw];omega) [-ab,-ah,-aa,-ad,-List.map_map]);have a5:W.F 2=some ⟨[.slice none 0 0,.slice none 0 0],true⟩:=(by rw[<-dq];simp(disch:=first|omega|simp only[DI.aw];omega) [-ab,-ah,-aa,-ad,-List.map_map]);have jn:=aF a5;obtain⟨f,r⟩:=B1 W 13 qV;simp(disch:=first|omega|simp only[DI.aw];omega) [f,r,gR,a5,qV,iN,aho,-List.map_append,-o0,-ab,-ah,-aa,-ad,-List.map_map]
open Go Go.DI Go.Big
theorem aol{l:List Int}(aA:l.length<=140737488355328): ∃(u:aL) (L:List (List Int)) (R:List Int) (i:Nat),OA u 3/\L.length=u.a2.length/\BD u L/\R.length=u.aZ.length/\zV 16 R/\i<=1000/\ ∀t:G,fg N 18 [bq l] t λv X=>v= .tuple #[.agg (aI u++[pP L,bq R]).toArray,bC (t.next+4)]/\X.F (t.next+4)=some ⟨[bq l,D i],true⟩/\ ∀b,b<t.next->X.F b=t.F b:=by
 obtain⟨u,kK,br,bQ,atr⟩:=avr (l:=l) aA (i:=0) (by decide) (dQ:=3) (by decide);have bb:=abu br (by decide);have hI:1<=u.aZ.length/\u.aZ.length<=9:=br.hj;have kH:=bb.ok.iH;obtain⟨L,nT,eH,eN,ha,atK⟩:=aDe (l:=l) aA (i:=kK) (by omega) bb hI.1;obtain⟨R,i3,ck,c9,k9,qR⟩:=aGB (l:=l) aA (i:=nT) (by omega) bb hI.1;refine⟨u,L,R,i3,br,eH,eN,ck,c9,by omega,λt=> ?_⟩;refine c3 (ay:=⟨[],[Fj 60 [D 3] _ _ _ atr,Fj 48 [.agg (aI u).toArray] _ _ _ atK,Fj 61 [.agg (aI u).toArray] _ _ _ qR]⟩) azF (by kernel_rfl) (by simp[YI]) ?_;simp(disch:=first|omega|simp only[DI.aw];omega) [YI,akI,-ab,-ah,-aa,-ad,-List.map_map];refine aes (by simp(disch:=first|omega|simp only[DI.aw];omega) [-ab,-ah,-aa,-ad,-List.map_map]) ?_;have eg:(aI u).length=7:=rfl;have hb:gV [Value.int IntKind.i64 0,Value.slice none 0 0,Value.slice none 0 0,Value.slice none 0 0,Value.slice none 0 0,Value.slice none 0 0,Value.slice none 0 0] 0 (aI u)=aI u:=by simp[gV,aI]
 have a8:List.take 7 (aI u)=aI u:=rfl;simp(disch:=first|omega|simp only[DI.aw];omega) [eg,hb,a8,-ab,-ah,-aa,-ad,-List.map_map];refine aes (by simp(disch:=first|omega|simp only[DI.aw];omega) [-ab,-ah,-aa,-ad,-List.map_map]) ?_;simp(disch:=first|omega|simp only[DI.aw];omega) [eg,a8,-ab,-ah,-aa,-ad,-List.map_map];refine⟨by simp[aI],aes (by simp(disch:=first|omega|simp only[DI.aw];omega) [agI,-ab,-ah,-aa,-ad,-List.map_map]) ?_⟩;simp(disch:=first|omega|simp only[DI.aw];omega) [anW,-ab,-ah,-aa,-ad,-List.map_map];refine⟨by simp[gV,aI],by simp[gV,aI],by simp[gV,aI],λb hb=> ?_⟩;rw[aX (by omega),aX (by omega),aX (by omega),aX (by omega),cl (by simp;omega),aX (by omega),cl (by simp;omega),aX (by omega),cl hb]
noncomputable def adC:bF N:= .cM 27 ((List Int×List Int)×(List Int×List Int)) (λx=>(x.1.1.length<=1000000/\x.1.2.length<=1000000)/\(x.2.1.length<=1000000/\x.2.2.length<=1000000)) (λx=>[.agg (jC x.1.1 x.1.2).toArray,.agg (jC x.2.1 x.2.2).toArray]) (λx=> .bool (decide (x.1.1=x.2.1/\x.1.2=x.2.2))) λx B=>aIg B.1.1 B.1.2 B.2.1 B.2.2
@[simp] theorem aXh:adC.f=27:=rfl
@[simp] theorem aXi{af az n6 nC:List Int}(h:(af.length<=1000000/\az.length<=1000000)/\(n6.length<=1000000/\nC.length<=1000000)):adC.fn [.agg #[ai (af.map λx=>[D x]) 1,ai (az.map λx=>[D x]) 1],.agg #[ai (n6.map λx=>[D x]) 1,ai (nC.map λx=>[D x]) 1]]=some (.bool (decide (af=n6/\az=nC))):=bF.dK (x:=((af,az),(n6,nC))) h λ⟨⟨j6,h2⟩,⟨kP,sh⟩⟩ Z=>by simpa[and_assoc]using Z
theorem ac1{u:aL}{R af az:List Int}:(jW u R af az).1.length+(jW u R af az).2.1.length<=af.length+az.length:=by
 unfold jW;split
 ·have:=acG (P:=fb u R) (a:=af) (w:=az);simp only;omega
 ·simp
theorem sA{af az:List Int}{e:Int}:nf (Value.tuple #[Value.agg #[ai (af.map λx=>[D x]) 1,ai (az.map λx=>[D x]) 1],.int .i64 e])=false:=by simp[nf,ew,ai]
end Go.Proofs.YtmmkkggfmigppaaGreat
namespace Go.DI
open Go Go.RowKit
section
variable {P:Program} {ay:mq P} {t:G} {z:aD} {c:aB} {Q:cO->aD->G->Prop}
theorem aJZ(D:Nat->aD->G->Prop)(n:Nat)(step: ∀i z t,i<n->D i z t-> ∀bO:aD->G->Prop,(∀K X,(D (i+1) K X\/asz (D (i+1)) K X)->bO K X)->iK ay c z t (sS bO Q))
 (ML: ∀z t,D n z t->iK ay c z t (sS (λ_ _=>False) Q)): ∀(i:Nat) (z:aD) (t:G),i<=n->D i z t->ee P (.loop c) z t Q:=by
 have key: ∀(r i:Nat) (z:aD) (t:G),i+r=n->D i z t->ee P (.loop c) z t Q:=by
  intro r;induction r with
  | zero=>
    intro i z t Y ja;have e:i=n:=(by omega);subst e;refine eS (ay:=ay) λbO a1=> ?_;have A:=ML z t ja;refine DT A λe z t h=> ?_;cases e with
    |eR=>exact h.elim
    |cF id=>exact h
    |fi=>exact h
  | succ r cj=>
    intro i z t Y ja;refine eS (ay:=ay) λbO a1=>step i z t (by omega) ja bO λK X bV=>a1 _ _ ?_;rcases bV with bV|⟨o,p,j,I,bJ,cells,br,bQ,a3,a4,fz,jh⟩
    ·exact cj (i+1) K X (by omega) bV
    ·exact vH br bQ a3 a4 fz (cj (i+1) K _ (by omega) jh)
 exact λi z t Y ja=>key (n-i) i z t (by omega) ja
end
end Go.DI
namespace Go.Proofs.YtmmkkggfmigppaaGreat
open Go Go.DI Go.Big Go.gU
theorem aIG{u:aL}{l k:List Int}(h:l.Perm k):gT u l=gT u k:=by unfold gT;rw[show l.all (np u)=k.all (np u)from by rw[Bool.eq_iff_iff,ei,ei];exact⟨λa x B=>a x (h.mem_iff.2 B),λa x B=>a x (h.mem_iff.1 B)⟩];congr 1;exact decide_eq_decide.2 h.nodup_iff
theorem TW{u:aL}(h:gf u){R af az:List Int}(bX:(jW u R af az).2.2=0):gT u (af++az)=true/\(jW u R af az).1=(ox (fb u R) af az).1/\(jW u R af az).2.1=(ox (fb u R) af az).2/\gT u ((jW u R af az).1++(jW u R af az).2.1)=true/\(jW u R af az).1.length+(jW u R af az).2.1.length=af.length+az.length:=by
 unfold jW at bX⊢;by_cases c:gT u (af++az)=true
 ·rw[if_pos c]at bX⊢;have ae:=(ap7 (P:=fb u R) (λa b H ae=>acd h a b H ae) af az).2.2;refine⟨c,rfl,rfl,?_,acG⟩;rw[aIG ae];exact c
 ·rw[if_neg c]at bX;cases bX
theorem aIj{u:aL}(h:gf u){R af az:List Int}{n:Int}(bX:(kO u R af az n).2.2=0):kO u R af az n=jW u R af (az++[n])/\(jW u R af (az++[n])).2.2=0/\np u n=true:=by
 unfold kO at bX⊢;by_cases c:gT u (af++az)=true/\np u n=true
 ·rw[if_pos c]at bX⊢;by_cases d:n∈af\/n∈az
  ·rw[if_pos d]at bX;exact absurd bX (by decide)
  ·rw[if_neg d]at bX⊢;exact⟨rfl,bX,c.2⟩
 ·rw[if_neg c]at bX;exact absurd bX (by decide)
theorem aJP{u:aL}(h:gf u){R af az:List Int}{n:Int}(bX:(k4 u R af az n).2.2=0):k4 u R af az n=jW u R (eI af n) (eI az n)/\(jW u R (eI af n) (eI az n)).2.2=0/\(n∈af\/n∈az):=by
 unfold k4 at bX⊢;by_cases c:gT u (af++az)=true
 ·rw[if_pos c]at bX⊢;by_cases d:n∈af\/n∈az
  ·rw[if_pos d]at bX⊢;exact⟨rfl,bX,d⟩
  ·rw[if_neg d]at bX;exact absurd bX (by decide)
 ·rw[if_neg c]at bX;exact absurd bX (by decide)
noncomputable def vD(u:aL)(R af az:List Int)(k n:Int):JA:=if k=1 then kO u R af az n else if k=2 then k4 u R af az n else jW u R af az
theorem aIL{u:aL}(h:gf u){R af az:List Int}{k n:Int}(bX:(vD u R af az k n).2.2=0):gT u ((vD u R af az k n).1++(vD u R af az k n).2.1)=true/\(vD u R af az k n).1.length+(vD u R af az k n).2.1.length<=af.length+az.length+1:=by
 unfold vD at bX⊢;by_cases ck:k=1
 ·rw[if_pos ck]at bX⊢;obtain⟨e,ho,_⟩:=aIj h bX;obtain⟨_,_,_,a,b⟩:=TW h ho;rw[e];exact⟨a,by rw[b];simp;omega⟩
 ·rw[if_neg ck]at bX⊢;by_cases c9:k=2
  ·rw[if_pos c9]at bX⊢;obtain⟨e,ho,_⟩:=aJP h bX;obtain⟨_,_,_,a,b⟩:=TW h ho;rw[e];have:=wC (l:=af) (x:=n);have:=wC (l:=az) (x:=n);exact⟨a,by omega⟩
  ·rw[if_neg c9]at bX⊢;obtain⟨_,_,_,a,b⟩:=TW h bX;exact⟨a,by omega⟩
theorem aIK{u:aL}{R af az:List Int}{k n:Int}:(vD u R af az k n).1.length+(vD u R af az k n).2.1.length<=af.length+az.length+1:=by
 have:=wC (l:=af) (x:=n);have:=wC (l:=az) (x:=n);have eK:=ac1 (u:=u) (R:=R) (af:=af) (az:=az);have gp:=ac1 (u:=u) (R:=R) (af:=af) (az:=az++[n]);have kZ:=ac1 (u:=u) (R:=R) (af:=eI af n) (az:=eI az n);simp only[iD,m8,yj]at gp;unfold vD kO k4;split
 ·split
  ·split
   ·simp
   ·omega
  ·simp
 ·split
  ·split
   ·split
    ·omega
    ·simp
   ·simp
  ·omega
abbrev yq:Type:=List Int×List Int×List Int×Int
noncomputable def ado(u:aL)(h:cL u)(A:1<=u.a2.length):bF N:= .cM 36 yq (λx=>x.2.1.length+x.2.2.1.length<=999) (λx=>[.agg (aI u).toArray,bq x.1,.agg (jC x.2.1 x.2.2.1).toArray,D x.2.2.2]) (λx=>iN (kO u x.1 x.2.1 x.2.2.1 x.2.2.2)) λx B=>aFr h A B
@[simp] theorem aWl{u:aL}{h:cL u}{A:1<=u.a2.length}:(ado u h A).f=36:=rfl
theorem aHz{u:aL}{h:cL u}{A:1<=u.a2.length}{R af az:List Int}{n:Int}(aj:af.length+az.length<=999):(ado u h A).fn [.agg #[D u.ext,ai (u.e7.map gE) 4,ai (u.cx.map gN) 4,ai (u.aO.map e6) 7,ai (u.aZ.map fH) 3,ai (u.dv.map dU) 17,ai (u.a2.map gD) 2],ai (R.map λx=>[D x]) 1,.agg #[ai (af.map λx=>[D x]) 1,ai (az.map λx=>[D x]) 1],.int .i64 n]=some (iN (kO u R af az n)):=bF.dK (x:=((R,af,az,n):yq)) aj λ⟨j6,h2,kP,sh⟩ Z=>by simpa[and_assoc]using Z
noncomputable def adu(u:aL)(h:cL u)(A:1<=u.a2.length):bF N:= .cM 76 yq (λx=>x.2.1.length+x.2.2.1.length<=999) (λx=>[.agg (aI u).toArray,bq x.1,.agg (jC x.2.1 x.2.2.1).toArray,D x.2.2.2]) (λx=>iN (kO u x.1 x.2.1 x.2.2.1 x.2.2.2)) λx B=>aGU h A B
@[simp] theorem aWX{u:aL}{h:cL u}{A:1<=u.a2.length}:(adu u h A).f=76:=rfl
theorem aHF{u:aL}{h:cL u}{A:1<=u.a2.length}{R af az:List Int}{n:Int}(aj:af.length+az.length<=999):(adu u h A).fn [.agg #[D u.ext,ai (u.e7.map gE) 4,ai (u.cx.map gN) 4,ai (u.aO.map e6) 7,ai (u.aZ.map fH) 3,ai (u.dv.map dU) 17,ai (u.a2.map gD) 2],ai (R.map λx=>[D x]) 1,.agg #[ai (af.map λx=>[D x]) 1,ai (az.map λx=>[D x]) 1],.int .i64 n]=some (iN (kO u R af az n)):=bF.dK (x:=((R,af,az,n):yq)) aj λ⟨j6,h2,kP,sh⟩ Z=>by simpa[and_assoc]using Z
noncomputable def Ua(u:aL)(h:cL u)(A:1<=u.a2.length):bF N:= .cM 32 yq (λx=>x.2.1.length+x.2.2.1.length<=999) (λx=>[.agg (aI u).toArray,bq x.1,.agg (jC x.2.1 x.2.2.1).toArray,D x.2.2.2]) (λx=>iN (k4 u x.1 x.2.1 x.2.2.1 x.2.2.2)) λx B=>aFy h A B
@[simp] theorem aWo{u:aL}{h:cL u}{A:1<=u.a2.length}:(Ua u h A).f=32:=rfl
theorem aqD{u:aL}{h:cL u}{A:1<=u.a2.length}{R af az:List Int}{n:Int}(aj:af.length+az.length<=999):(Ua u h A).fn [.agg #[D u.ext,ai (u.e7.map gE) 4,ai (u.cx.map gN) 4,ai (u.aO.map e6) 7,ai (u.aZ.map fH) 3,ai (u.dv.map dU) 17,ai (u.a2.map gD) 2],ai (R.map λx=>[D x]) 1,.agg #[ai (af.map λx=>[D x]) 1,ai (az.map λx=>[D x]) 1],.int .i64 n]=some (iN (k4 u R af az n)):=bF.dK (x:=((R,af,az,n):yq)) aj λ⟨j6,h2,kP,sh⟩ Z=>by simpa[and_assoc]using Z
noncomputable def adw(u:aL)(h:cL u)(A:1<=u.a2.length):bF N:= .cM 77 yq (λx=>x.2.1.length+x.2.2.1.length<=999) (λx=>[.agg (aI u).toArray,bq x.1,.agg (jC x.2.1 x.2.2.1).toArray,D x.2.2.2]) (λx=>iN (k4 u x.1 x.2.1 x.2.2.1 x.2.2.2)) λx B=>aHn h A B
@[simp] theorem aW6{u:aL}{h:cL u}{A:1<=u.a2.length}:(adw u h A).f=77:=rfl
theorem aHG{u:aL}{h:cL u}{A:1<=u.a2.length}{R af az:List Int}{n:Int}(aj:af.length+az.length<=999):(adw u h A).fn [.agg #[D u.ext,ai (u.e7.map gE) 4,ai (u.cx.map gN) 4,ai (u.aO.map e6) 7,ai (u.aZ.map fH) 3,ai (u.dv.map dU) 17,ai (u.a2.map gD) 2],ai (R.map λx=>[D x]) 1,.agg #[ai (af.map λx=>[D x]) 1,ai (az.map λx=>[D x]) 1],.int .i64 n]=some (iN (k4 u R af az n)):=bF.dK (x:=((R,af,az,n):yq)) aj λ⟨j6,h2,kP,sh⟩ Z=>by simpa[and_assoc]using Z
noncomputable abbrev aIA(u:aL)(h:cL u)(A:1<=u.a2.length):mq N:=⟨[ado u h A,adu u h A,Ua u h A,adw u h A,NH u h A,Ue u h A,adC,adH],[]⟩
abbrev zW:Type:=Int×Int×Int
abbrev aEQ(x:zW):List Value:=[D x.1,D x.2.1,D x.2.2]
abbrev BY(l:List zW):Value:=ai (l.map aEQ) 3
structure U7(u:aL)(L:List (List Int))(ops:List zW)(p2:Bool)(o cD px ek i:Nat)(z:aD)(t:G):Prop where
 aIE: ∃R af az,R.length=u.aZ.length/\gT u (af++az)=true/\af.length+az.length<=ek+i/\t.F o=some ⟨uL u L R,true⟩/\t.F cD=some ⟨[bq af,bq az],true⟩
 eP:t.F px=some ⟨[.slice none 0 0,.slice none 0 0],true⟩
 bG:z 0=bC o
 bY:z 2=BY ops
 bH:z 3= .bool p2
 bD:z 5=bC cD
 bm:z 8=bC px
 ey:z 10=D i
theorem aE4{u:aL}(h:cL u)(A:1<=u.a2.length)(mY:1<=u.aZ.length){L:List (List Int)}{ops:List zW}(Ql:ops.length<=500){p2:Bool}{o cD px ek:Nat}(Ax:ek<=400)(gI:o≠cD)(hz:o≠px)(iT:cD≠px){Q:cO->aD->G->Prop}{z:aD}{t:G}(gr:U7 u L ops p2 o cD px ek 0 z t)
 (a6: ∀K X,U7 u L ops p2 o cD px ek ops.length K X->Q (.cF 0) K X):ee N (.loop q7) z t Q:=by
 have eM:=h.ok.fp;have hI:=h.ok.hj;have bx:=h.ok.g3;refine aJZ (ay:=aIA u h A) (λi z t=>U7 u L ops p2 o cD px ek i z t) ops.length ?_ ?_ 0 z t (gd _) gr
 ·rintro i z t Y ⟨⟨R,af,az,qX,kI,dc,bw,gO⟩,eP,bG,bY,bH,bD,bm,ey⟩ bO a1;obtain⟨⟨Fu,fp,TQ⟩,B⟩: ∃x,ops[i]?=some x:=⟨_,c6 Y⟩;have cQ:ops[i]=(Fu,fp,TQ):=(cN.1 B).2;have bA:(i:Int)<ops.length:=(by omega);have bp:=fB (n:=i) (by omega);have bh:=aF bw;have cn:=aF gO;have jS:=aF eP;have Qg:af.length+az.length<=999:=(by omega);have aip:af.length+az.length<=1000:=(by omega);have z0:IntKind.i64.wrap ((u.aO.length:Int)+u.aZ.length)=(u.aO.length:Int)+u.aZ.length:=db (by omega) (by omega);have je:IntKind.i64.wrap ((u.aO.length:Int)+u.aZ.length-1)=(u.aO.length:Int)+u.aZ.length-1:=db (by omega) (by omega);have nb:(u.aO.length:Int)+u.aZ.length-1<=1000000:=(by omega);have aoJ: ∀x,0<=me x ((u.aO.length:Int)+u.aZ.length-1)/\me x ((u.aO.length:Int)+u.aZ.length-1)<(u.aO.length:Int)+u.aZ.length-1:= λx=>abE (by omega);have kf: ∀x,IntKind.i64.wrap (1+me x ((u.aO.length:Int)+u.aZ.length-1))=1+me x ((u.aO.length:Int)+u.aZ.length-1):= λx=>db (by have:=aoJ x;omega) (by have:=aoJ x;omega);obtain⟨kb,nQ⟩: ∃kb,kb=if p2=true then 1+me fp ((u.aO.length:Int)+u.aZ.length-1)else fp:=⟨_,rfl⟩
  obtain⟨gG,g8⟩: ∃gG,gG=vD u R af az Fu kb:=⟨_,rfl⟩;have KO:=aIK (u:=u) (R:=R) (af:=af) (az:=az) (k:=Fu) (n:=kb);rw[<-g8]at KO;have bn:gG.1.length<=1000000/\gG.2.1.length<=1000000:=(by omega);have ax:= λmV:gG.2.2=0=>aIL h.ok (u:=u) (R:=R) (af:=af) (az:=az) (k:=Fu) (n:=kb) (by rw[<-g8];exact mV);rw[<-g8]at ax;by_cases k9:Fu=3
  ·have ahR: ¬R.length=0:=(by omega);have aTA:(R.length:Int)<=1000000:=(by omega);have mk:0<=me kb R.length/\me kb R.length<R.length:=abE (by omega);obtain⟨aR,dH⟩: ∃aR:Nat,me kb R.length=aR:=⟨(me kb R.length).toNat,by omega⟩;rw[dH]at mk;have bB:(aR:Int)<R.length:=(by omega);have cC:aR<R.length:=(by omega);have dO:aR+1<=R.length:=cC;have aoe:R.length*8<=140737488355328/\R.length<=9223372036854775807:=(by omega);subst k9;have mW: ∀(K:aD) (X:G) (q:Nat),X.F q=some ⟨(R.set aR (me TQ 4)).map D,true⟩->q≠o->q≠cD->q≠px->X.F o=some ⟨(uL u L R).set 8 (bN q R.length 1),true⟩->X.F cD=some ⟨[bq af,bq az],true⟩->X.F px=some ⟨[.slice none 0 0,.slice none 0 0],true⟩->K 0=bC o->K 2=BY ops->K 3= .bool p2->K 5=bC cD->K 8=bC px->K 10=D (i+1:Nat)->bO K X:= λK X q hP aG aN ct aE a5 ch t0 dR t3 nx aef wR=>by
    refine a1 _ _ (.inr ⟨q,o,8,1,(R.set aR (me TQ 4)).map λx=>[D x],(uL u L R).set 8 (bN q R.length 1),by rw[mc];exact hP,u7,aE,by simp[uL],aG,⟨⟨R.set aR (me TQ 4),af,az,by rw[List.length_set];exact qX,kI,by omega,?_,?_⟩,?_,t0,dR,t3,nx,aef,wR⟩⟩)
    ·rw[cb (by have:=aF aE;simpa using this)];simp[uL]
    ·rw[aX (λe=>gI e.symm),aX (λe=>aN e.symm)];exact a5
    ·rw[aX (λe=>hz e.symm),aX (λe=>ct e.symm)];exact ch
   cases p2
   ·rw[if_neg (by decide)]at nQ;subst nQ;simp(disch:=first|omega|simp only[DI.aw];omega) [q7,bG,bY,bH,ey,bw,bA,bp,cQ,ahR,dH,bB,dO,aoe,mc,-ab,-ah,-aa,-ad,-List.map_map];refine mW _ _ (t.next+2+4) ?_ (by omega) (by omega) (by omega) ?_ ?_ ?_ (by simp[bG]) (by simp[bY]) (by simp[bH]) (by simp[bD]) (by simp[bm]) (by simp)
    ·rw[List.map_set];simp(disch:=first|omega|simp only[DI.aw];omega) [-ab,-ah,-aa,-ad,-List.map_map]
    ·simp(disch:=first|omega|simp only[DI.aw];omega) [-ab,-ah,-aa,-ad,-List.map_map]
    ·simp(disch:=first|omega|simp only[DI.aw];omega) [gO,-ab,-ah,-aa,-ad,-List.map_map]
    ·simp(disch:=first|omega|simp only[DI.aw];omega) [eP,-ab,-ah,-aa,-ad,-List.map_map]
   ·rw[if_pos rfl]at nQ;have zF:IntKind.i64.wrap kb=kb:=(by rw[nQ];exact kf fp);simp(disch:=first|omega|simp only[DI.aw];omega) [q7,bG,bY,bH,ey,bw,bA,bp,cQ,ahR,dH,bB,dO,aoe,mc,z0,je,zF,<-nQ,-ab,-ah,-aa,-ad,-List.map_map];refine mW _ _ (t.next+2+4) ?_ (by omega) (by omega) (by omega) ?_ ?_ ?_ (by simp[bG]) (by simp[bY]) (by simp[bH]) (by simp[bD]) (by simp[bm]) (by simp)
    ·rw[List.map_set];simp(disch:=first|omega|simp only[DI.aw];omega) [-ab,-ah,-aa,-ad,-List.map_map]
    ·simp(disch:=first|omega|simp only[DI.aw];omega) [-ab,-ah,-aa,-ad,-List.map_map]
    ·simp(disch:=first|omega|simp only[DI.aw];omega) [gO,-ab,-ah,-aa,-ad,-List.map_map]
    ·simp(disch:=first|omega|simp only[DI.aw];omega) [eP,-ab,-ah,-aa,-ad,-List.map_map]
  by_cases ck:Fu=1
  ·have yH:gG=kO u R af az kb:=(by rw[g8];unfold vD;rw[if_pos ck]);have dC:=aHz (h:=h) (A:=A) (R:=R) (n:=kb) Qg;have fK:=aHF (h:=h) (A:=A) (R:=R) (n:=kb) Qg;rw[<-yH]at dC fK;subst ck;cases p2
   ·rw[if_neg (by decide)]at nQ;subst nQ;by_cases mV:gG.2.2=0
    ·obtain⟨x0,IB⟩:=ax mV;simp(disch:=first|omega|simp only[DI.aw];omega) [q7,bG,bY,bH,bD,ey,bw,gO,bA,bp,cQ,dC,fK,mV,iN,sA,-oZ,-o0,-ab,-ah,-aa,-ad,-List.map_map];refine a1 _ _ (.inl ⟨⟨R,gG.1,gG.2.1,qX,x0,by omega,?_,?_⟩,?_,by simp[bG],by simp[bY],by simp[bH],by simp[bD],by simp[bm],by simp⟩)
     ·simp(disch:=first|omega|simp only[DI.aw];omega) [bw,-ab,-ah,-aa,-ad,-List.map_map]
     ·simp(disch:=first|omega|simp only[DI.aw];omega) [-ab,-ah,-aa,-ad,-List.map_map]
     ·simp(disch:=first|omega|simp only[DI.aw];omega) [eP,-ab,-ah,-aa,-ad,-List.map_map]
    ·simp(disch:=first|omega|simp only[DI.aw];omega) [q7,bG,bY,bH,bD,ey,bw,gO,bA,bp,cQ,dC,fK,mV,iN,sA,-oZ,-o0,-ab,-ah,-aa,-ad,-List.map_map];refine a1 _ _ (.inl ⟨⟨R,af,az,qX,kI,by omega,?_,?_⟩,?_,by simp[bG],by simp[bY],by simp[bH],by simp[bD],by simp[bm],by simp⟩)
     ·simp(disch:=first|omega|simp only[DI.aw];omega) [bw,-ab,-ah,-aa,-ad,-List.map_map]
     ·simp(disch:=first|omega|simp only[DI.aw];omega) [gO,-ab,-ah,-aa,-ad,-List.map_map]
     ·simp(disch:=first|omega|simp only[DI.aw];omega) [eP,-ab,-ah,-aa,-ad,-List.map_map]
   ·rw[if_pos rfl]at nQ;have zF:IntKind.i64.wrap kb=kb:=(by rw[nQ];exact kf fp);by_cases mV:gG.2.2=0
    ·obtain⟨x0,IB⟩:=ax mV;simp(disch:=first|omega|simp only[DI.aw];omega) [q7,bG,bY,bH,bD,ey,bw,gO,bA,bp,cQ,dC,fK,mV,iN,sA,z0,je,zF,<-nQ,-oZ,-o0,-ab,-ah,-aa,-ad,-List.map_map];refine a1 _ _ (.inl ⟨⟨R,gG.1,gG.2.1,qX,x0,by omega,?_,?_⟩,?_,by simp[bG],by simp[bY],by simp[bH],by simp[bD],by simp[bm],by simp⟩)
     ·simp(disch:=first|omega|simp only[DI.aw];omega) [bw,-ab,-ah,-aa,-ad,-List.map_map]
     ·simp(disch:=first|omega|simp only[DI.aw];omega) [-ab,-ah,-aa,-ad,-List.map_map]
     ·simp(disch:=first|omega|simp only[DI.aw];omega) [eP,-ab,-ah,-aa,-ad,-List.map_map]
    ·simp(disch:=first|omega|simp only[DI.aw];omega) [q7,bG,bY,bH,bD,ey,bw,gO,bA,bp,cQ,dC,fK,mV,iN,sA,z0,je,zF,<-nQ,-oZ,-o0,-ab,-ah,-aa,-ad,-List.map_map];refine a1 _ _ (.inl ⟨⟨R,af,az,qX,kI,by omega,?_,?_⟩,?_,by simp[bG],by simp[bY],by simp[bH],by simp[bD],by simp[bm],by simp⟩)
     ·simp(disch:=first|omega|simp only[DI.aw];omega) [bw,-ab,-ah,-aa,-ad,-List.map_map]
     ·simp(disch:=first|omega|simp only[DI.aw];omega) [gO,-ab,-ah,-aa,-ad,-List.map_map]
     ·simp(disch:=first|omega|simp only[DI.aw];omega) [eP,-ab,-ah,-aa,-ad,-List.map_map]
  by_cases c9:Fu=2
  ·have yH:gG=k4 u R af az kb:=(by rw[g8];unfold vD;rw[if_neg ck,if_pos c9]);have dC:=aqD (h:=h) (A:=A) (R:=R) (n:=kb) Qg;have fK:=aHG (h:=h) (A:=A) (R:=R) (n:=kb) Qg;rw[<-yH]at dC fK;subst c9;cases p2
   ·rw[if_neg (by decide)]at nQ;subst nQ;by_cases mV:gG.2.2=0
    ·obtain⟨x0,IB⟩:=ax mV;simp(disch:=first|omega|simp only[DI.aw];omega) [q7,bG,bY,bH,bD,ey,bw,gO,bA,bp,cQ,dC,fK,mV,iN,sA,-oZ,-o0,-ab,-ah,-aa,-ad,-List.map_map];refine a1 _ _ (.inl ⟨⟨R,gG.1,gG.2.1,qX,x0,by omega,?_,?_⟩,?_,by simp[bG],by simp[bY],by simp[bH],by simp[bD],by simp[bm],by simp⟩)
     ·simp(disch:=first|omega|simp only[DI.aw];omega) [bw,-ab,-ah,-aa,-ad,-List.map_map]
     ·simp(disch:=first|omega|simp only[DI.aw];omega) [-ab,-ah,-aa,-ad,-List.map_map]
     ·simp(disch:=first|omega|simp only[DI.aw];omega) [eP,-ab,-ah,-aa,-ad,-List.map_map]
    ·simp(disch:=first|omega|simp only[DI.aw];omega) [q7,bG,bY,bH,bD,ey,bw,gO,bA,bp,cQ,dC,fK,mV,iN,sA,-oZ,-o0,-ab,-ah,-aa,-ad,-List.map_map];refine a1 _ _ (.inl ⟨⟨R,af,az,qX,kI,by omega,?_,?_⟩,?_,by simp[bG],by simp[bY],by simp[bH],by simp[bD],by simp[bm],by simp⟩)
     ·simp(disch:=first|omega|simp only[DI.aw];omega) [bw,-ab,-ah,-aa,-ad,-List.map_map]
     ·simp(disch:=first|omega|simp only[DI.aw];omega) [gO,-ab,-ah,-aa,-ad,-List.map_map]
     ·simp(disch:=first|omega|simp only[DI.aw];omega) [eP,-ab,-ah,-aa,-ad,-List.map_map]
   ·rw[if_pos rfl]at nQ;have zF:IntKind.i64.wrap kb=kb:=(by rw[nQ];exact kf fp);by_cases mV:gG.2.2=0
    ·obtain⟨x0,IB⟩:=ax mV;simp(disch:=first|omega|simp only[DI.aw];omega) [q7,bG,bY,bH,bD,ey,bw,gO,bA,bp,cQ,dC,fK,mV,iN,sA,z0,je,zF,<-nQ,-oZ,-o0,-ab,-ah,-aa,-ad,-List.map_map];refine a1 _ _ (.inl ⟨⟨R,gG.1,gG.2.1,qX,x0,by omega,?_,?_⟩,?_,by simp[bG],by simp[bY],by simp[bH],by simp[bD],by simp[bm],by simp⟩)
     ·simp(disch:=first|omega|simp only[DI.aw];omega) [bw,-ab,-ah,-aa,-ad,-List.map_map]
     ·simp(disch:=first|omega|simp only[DI.aw];omega) [-ab,-ah,-aa,-ad,-List.map_map]
     ·simp(disch:=first|omega|simp only[DI.aw];omega) [eP,-ab,-ah,-aa,-ad,-List.map_map]
    ·simp(disch:=first|omega|simp only[DI.aw];omega) [q7,bG,bY,bH,bD,ey,bw,gO,bA,bp,cQ,dC,fK,mV,iN,sA,z0,je,zF,<-nQ,-oZ,-o0,-ab,-ah,-aa,-ad,-List.map_map];refine a1 _ _ (.inl ⟨⟨R,af,az,qX,kI,by omega,?_,?_⟩,?_,by simp[bG],by simp[bY],by simp[bH],by simp[bD],by simp[bm],by simp⟩)
     ·simp(disch:=first|omega|simp only[DI.aw];omega) [bw,-ab,-ah,-aa,-ad,-List.map_map]
     ·simp(disch:=first|omega|simp only[DI.aw];omega) [gO,-ab,-ah,-aa,-ad,-List.map_map]
     ·simp(disch:=first|omega|simp only[DI.aw];omega) [eP,-ab,-ah,-aa,-ad,-List.map_map]
  ·have yH:gG=jW u R af az:=(by rw[g8];unfold vD;rw[if_neg ck,if_neg c9]);have dC:=oZ (u:=u) (h:=h) (A:=A) (R:=R) aip;have fK:=o0 (u:=u) (h:=h) (A:=A) (R:=R) aip;rw[<-yH]at dC fK;cases p2
   ·rw[if_neg (by decide)]at nQ;subst nQ;by_cases mV:gG.2.2=0
    ·obtain⟨x0,IB⟩:=ax mV;simp(disch:=first|omega|simp only[DI.aw];omega) [q7,bG,bY,bH,bD,ey,bw,gO,bA,bp,cQ,dC,fK,mV,iN,sA,ck,c9,k9,-oZ,-o0,-ab,-ah,-aa,-ad,-List.map_map];refine a1 _ _ (.inl ⟨⟨R,gG.1,gG.2.1,qX,x0,by omega,?_,?_⟩,?_,by simp[bG],by simp[bY],by simp[bH],by simp[bD],by simp[bm],by simp⟩)
     ·simp(disch:=first|omega|simp only[DI.aw];omega) [bw,-ab,-ah,-aa,-ad,-List.map_map]
     ·simp(disch:=first|omega|simp only[DI.aw];omega) [-ab,-ah,-aa,-ad,-List.map_map]
     ·simp(disch:=first|omega|simp only[DI.aw];omega) [eP,-ab,-ah,-aa,-ad,-List.map_map]
    ·simp(disch:=first|omega|simp only[DI.aw];omega) [q7,bG,bY,bH,bD,ey,bw,gO,bA,bp,cQ,dC,fK,mV,iN,sA,ck,c9,k9,-oZ,-o0,-ab,-ah,-aa,-ad,-List.map_map];refine a1 _ _ (.inl ⟨⟨R,af,az,qX,kI,by omega,?_,?_⟩,?_,by simp[bG],by simp[bY],by simp[bH],by simp[bD],by simp[bm],by simp⟩)
     ·simp(disch:=first|omega|simp only[DI.aw];omega) [bw,-ab,-ah,-aa,-ad,-List.map_map]
     ·simp(disch:=first|omega|simp only[DI.aw];omega) [gO,-ab,-ah,-aa,-ad,-List.map_map]
     ·simp(disch:=first|omega|simp only[DI.aw];omega) [eP,-ab,-ah,-aa,-ad,-List.map_map]
   ·rw[if_pos rfl]at nQ;have zF:IntKind.i64.wrap kb=kb:=(by rw[nQ];exact kf fp);by_cases mV:gG.2.2=0
    ·obtain⟨x0,IB⟩:=ax mV;simp(disch:=first|omega|simp only[DI.aw];omega) [q7,bG,bY,bH,bD,ey,bw,gO,bA,bp,cQ,dC,fK,mV,iN,sA,ck,c9,k9,z0,je,zF,<-nQ,-oZ,-o0,-ab,-ah,-aa,-ad,-List.map_map];refine a1 _ _ (.inl ⟨⟨R,gG.1,gG.2.1,qX,x0,by omega,?_,?_⟩,?_,by simp[bG],by simp[bY],by simp[bH],by simp[bD],by simp[bm],by simp⟩)
     ·simp(disch:=first|omega|simp only[DI.aw];omega) [bw,-ab,-ah,-aa,-ad,-List.map_map]
     ·simp(disch:=first|omega|simp only[DI.aw];omega) [-ab,-ah,-aa,-ad,-List.map_map]
     ·simp(disch:=first|omega|simp only[DI.aw];omega) [eP,-ab,-ah,-aa,-ad,-List.map_map]
    ·simp(disch:=first|omega|simp only[DI.aw];omega) [q7,bG,bY,bH,bD,ey,bw,gO,bA,bp,cQ,dC,fK,mV,iN,sA,ck,c9,k9,z0,je,zF,<-nQ,-oZ,-o0,-ab,-ah,-aa,-ad,-List.map_map];refine a1 _ _ (.inl ⟨⟨R,af,az,qX,kI,by omega,?_,?_⟩,?_,by simp[bG],by simp[bY],by simp[bH],by simp[bD],by simp[bm],by simp⟩)
     ·simp(disch:=first|omega|simp only[DI.aw];omega) [bw,-ab,-ah,-aa,-ad,-List.map_map]
     ·simp(disch:=first|omega|simp only[DI.aw];omega) [gO,-ab,-ah,-aa,-ad,-List.map_map]
     ·simp(disch:=first|omega|simp only[DI.aw];omega) [eP,-ab,-ah,-aa,-ad,-List.map_map]
 ·rintro z t gr;have bY:=gr.bY;have ey:=gr.ey;simp(disch:=first|omega|simp only[DI.aw];omega) [q7,bY,ey,-ab,-ah,-aa,-ad,-List.map_map];exact a6 _ _ ⟨gr.aIE,gr.eP,by simp[gr.bG],by simp[gr.bY],by simp[gr.bH],by simp[gr.bD],by simp[gr.bm],by simp[gr.ey]⟩
open Go Go.DI Go.Big
abbrev CL:gm:= .slice (.int .i64)
theorem anP(d:CL.b1):GL CL d=bq (qN (e:= .int .i64) d):=rfl
theorem ayY(d:(gm.int .i64).b1):GL (.int .i64) d=D d:=rfl
theorem aDz{e:gm}{l:List e.b1}(h:FN (.slice e) l):l.length<=140737488355328:=by have:=e.aDB h.1;simp only[reachBytes]at this;exact mR this (by omega)
theorem anR{d:CL.b1}(h:FN CL d):(qN (e:= .int .i64) d).length<=140737488355328:=aDz (e:= .int .i64) h
theorem aJ5{f:Nat}{xs ys:List Value}{t:G}{bu:Value->G->Prop}(h:fg N f ys t bu)(aQ:vN xs ys):fg N f xs t bu:= λJ u jf m H aA=>h J u jf m H (aQ.jS aA)
theorem aE5{u:aL}(h:cL u)(A:1<=u.a2.length)(mY:1<=u.aZ.length){L:List (List Int)}{R af az:List Int}{ops:List zW}(Ql:ops.length<=500){p2:Bool}(qX:R.length=u.aZ.length)(kI:gT u (af++az)=true)(aA:af.length+az.length<=400){t:G}{o:Nat}(bw:t.F o=some ⟨uL u L R,true⟩):
 fg N 28 [bC o,.agg (jC af az).toArray,BY ops,.bool p2] t λv X=> ∃iv n6 nC,iv.length=u.aZ.length/\gT u (n6++nC)=true/\n6.length+nC.length<=af.length+az.length+ops.length/\v= .tuple #[.agg (jC n6 nC).toArray,.bool true]/\X.F o=some ⟨uL u L iv,true⟩:=by
 have bh:=aF bw;refine c3 (ay:=⟨[],[]⟩) aAR (by kernel_rfl) (by simp[Zg]) ?_;simp[Zg,al6];refine aE4 h A mY (L:=L) Ql (p2:=p2) (o:=o) (cD:=t.next) (px:=t.next+1) (ek:=af.length+az.length) aA (by omega) (by omega) (by omega) ⟨⟨R,af,az,qX,kI,by omega,?_,?_⟩,?_,by simp,by simp,by simp,by simp,by simp,by simp⟩ λK X gr=> ?_
 ·simp(disch:=omega) [bw]
 ·simp(disch:=first|omega|simp only[DI.aw];omega)
 ·simp(disch:=first|omega|simp only[DI.aw];omega)
 obtain⟨⟨iv,n6,nC,br,bQ,a3,a4,fz⟩,eP,bG,bY,bH,bD,bm,ey⟩:=gr;have abe:=aF a4;have CP:=aF fz;have xS:=aF eP;have aG:t.next≠t.next+1:=by omega
 have aN:o≠t.next+1:=by omega
 simp(disch:=first|omega|simp only[DI.aw];omega) [al7,bD,bm,fz,eP,a4];exact⟨iv,br,n6,nC,bQ,a3,⟨rfl,rfl⟩,rfl⟩
theorem aeP{f:Nat}{xs:List Value}{t:G}{bu:Value->G->Prop}(h:fg N f xs t bu):fg N f xs t λv X=>bu v X/\t.next<=X.next:= λJ u jf m H aA=>(h J u jf m H aA).bt λr U ⟨cV,cE,v,X,A,E,ao,aS⟩=>⟨cV,cE,v,X,⟨A,aS.lk⟩,E,ao,aS⟩
theorem aIF{u:aL}:gT u ([]++[])=true:=by simp[gT]
theorem apt{u:aL}(h:cL u)(A:1<=u.a2.length)(mY:1<=u.aZ.length){L:List (List Int)}{R:List Int}{ops:List zW}(Ql:ops.length<=500){p2:Bool}(qX:R.length=u.aZ.length){t:G}{o:Nat}(bw:t.F o=some ⟨uL u L R,true⟩):
 fg N 28 [bC o,.agg #[.slice none 0 0,.slice none 0 0],BY ops,.bool p2] t λv X=> ∃iv n6 nC,iv.length=u.aZ.length/\gT u (n6++nC)=true/\n6.length+nC.length<=ops.length/\v= .tuple #[.agg (jC n6 nC).toArray,.bool true]/\X.F o=some ⟨uL u L iv,true⟩:=by
 have:=aE5 h A mY (L:=L) (R:=R) (af:=[]) (az:=[]) Ql (p2:=p2) qX aIF (by simp) bw;refine aJ5 (this.bt λv X ⟨iv,n6,nC,br,bQ,a3,a4⟩=>⟨iv,n6,nC,br,bQ,by simpa using a3,a4⟩) ?_;exact⟨.refl _,pK.agg (xs:=[_,_]) (ys:=[_,_]) ⟨.nil,.nil,trivial⟩,.refl _,.refl _,trivial⟩
abbrev M8:gm:= .pt (.int .i64) (.pt (.int .i64) (.pt (.int .i64) .unit))
abbrev IC:gm:= .slice M8
def toOp(d:M8.b1):zW:=(d.1,d.2.1,d.2.2.1)
theorem apg(d:IC.b1):GL IC d=BY ((qN (e:=M8) d).map toOp):=by show ai ((qN (e:=M8) d).map (vT M8)) 3=_;unfold BY;rw[List.map_map];congr 1
end Go.Proofs.YtmmkkggfmigppaaGreat
