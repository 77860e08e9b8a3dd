/-
  A part of the proof of the statement, in texts that tools of ours (wip/shrink.py, irpack.py, relax.py, minify.py, join.py, lay.py) have shortened.
-/
import Derived.LoopN
import Derived.StillTail
import Derived.Test.YtkpifdkccdndcaaGreatZac
set_option linter.all false
set_option maxRecDepth 8000
set_option maxHeartbeats 16000000
namespace Go.DI
open Go Go.RowKit
def wv(l:List cd):List Nat:=l.filterMap (·.d)
section
variable {P:Program} {a9:Nat} {dj:Callee} {base:Nat} {ops:Array Oper} {eb:Nat}
theorem Qh{k i:cd}{b b7:List Nat}(h: ∀t∈b7,t∈b)(aK:tm k i b=true):tm k i b7=true:=by
  have ajW: ∀t,(!b.contains t)=true->(!b7.contains t)=true:=by intro t bm;simp at bm⊢;exact λa6=>bm (h t a6)
  have gf: ∀l:List Nat,(l.all λt=> !b.contains t&&k.d !=some t)=true->(l.all λt=> !b7.contains t&&k.d !=some t)=true:=by intro l aE;rw[hJ]at aE⊢;intro t bm;have:=aE t bm;rw[bK]at this⊢;exact⟨ajW t this.1,this.2⟩
  simp only[tm,bK]at aK⊢;refine⟨aK.1,?_⟩;have pM:=aK.2;split at pM
  · rename_i B;rw[if_pos B];simp only[bK]at pM⊢;exact⟨pM.1,gf _ pM.2⟩
  · rename_i B;rw[if_neg B];split at pM
    · rename_i H;rw[if_pos H];exact pM
    · rename_i H;rw[if_neg H];simp only[bK,yG]at pM⊢;refine⟨pM.1.imp id λaf=>⟨af.1,?_⟩,gf _ pM.2⟩;cases ay:k.d with
      |none=>rfl
      |some d=>rw[ay]at af;exact ajW d af.2
theorem ar9{o:cd}{u ae:aM}{m N:E}(h:iX dj base o u m=some (ae,N)){t:Nat}(bm:o.d≠some t):ae t=u t:=by
  unfold iX at h;split at h
  · split at h
    · split at h
      · cases h;exact BT bm
      · cases h
    · split at h
      · cases h;exact BT bm
      · cases h
  · cases h;exact BT bm
theorem move(dz:ta P a9 dj){i:cd}{post:List cd}{arP:aM×E}: ∀(cj:List cd) (u:aM) (m:E),lL dj base (cj++i::post) u m=some arP->
    (∀cy k C,cj=cy++k::C->tm k i (wv C)=true/\ ∀p∈sN k i,p∈i.bI)->(∀k∈cj,k.bb≠i.bb)->(i.k.gF=true->m.U (base+i.bb)=none/\base+i.bb<m.next)->
    ∃cC bo yL yp UW,iX dj base i u m=some (cC,bo)/\lL dj base (cj++post) cC bo=some arP/\rF i yL yp UW/\(∀t,t∉wv cj->yL t=u t)/\(i.k.mj=true->fY u i.g=true->yp=m/\UW=bo)
  | [],u,m,h,_,_,_=>by obtain⟨cC,bo,B,H,af⟩:=uY h;exact⟨cC,bo,u,m,bo,B,af,H,λ_ _=>rfl,λ_ _=>⟨rfl,rfl⟩⟩
  | k::cj,u,m,h,aK,xW,bs=>by
    obtain⟨ev,cc,B,H,af⟩:=uY h;have ajM:=xW k (by simp);have LS:=aK [] k cj rfl;obtain⟨n2,gC,yL,yp,UW,aj,ba,cD,fs,iU⟩:=move dz cj ev cc af (λcy gI C e=>aK (k::cy) gI C (by rw[e];rfl)) (λgI rM=>xW gI (by simp[rM])) (λgO=>⟨VU dz B (bs gO).2 (by omega) (bs gO).1,nz (bs gO).2 (J4 dz B)⟩)
    -- asP i z5 q3 not a0Y by aZu auC apl
    have aka: ∀t,t∈i.z5->t∉wv cj:=(by intro t bm ay;obtain⟨gI,rM,Fv⟩:=yF.1 ay;obtain⟨cy,C,e⟩:=List.append_of_mem rM;have:=(aK (k::cy) gI C (by rw[e];rfl)).1;simp only[tm,bK]at this;rw[Fv]at this;exact GG this.1.1.2 bm);have Y3:fY yL i.g=fY ev i.g:=by
      cases aq:i.g with
      |none=>rfl
      |some lM=>obtain⟨t,b⟩:=lM;simp only[fY];rw[fs t (aka t (ow _ (by simp[aq])))]
    have Yf: ∀x∈i.k.jg,ad yL x=ad ev x:= λx F=>CC λt bm=>fs t (aka t (pA _ (Ef F bm)));have dD:ahk k i ev cc gC:=by
      intro aS;have jU:=cD (by rw[Y3];exact aS);have hQ:i.k.gM yL yp=i.k.gM ev cc:=by
        rw[(AG (m:=yp) (id:=0) Yf).2.2.2];cases Fq:i.k.mj with
        |true=>rw[(iU Fq aS).1]
        |false=>rw[vF Fq,vF Fq]
      rw[hQ]at jU;have xT:=LS.1;simp only[tm,bK]at xT;obtain⟨_,xT⟩:=xT;cases bz:i.k.gM ev cc with
      | some mT=>
        have nI:=P9 bz;rw[bz]at jU;simp only at jU⊢;obtain⟨rfl,rfl⟩:=iU nI aS;rw[if_pos nI]at xT;simp only[bK]at xT;intro p Y b K;have e9:=Y;simp only[sN,nI,if_true]at e9;obtain⟨x,F,rfl⟩:=iK.1 e9;refine jU _ (LS.2 _ Y) b ?_;rw[show ad yL x=ad ev x from CC λt bm=>fs t (λay=> ?_)]
        · exact K
        · have:=hJ.1 xT.2 t (Ef F bm);simp at this;exact this.1 ay
      | none=>
        rw[bz]at jU;simp only[mb,hJ]at jU;simp only;intro p Y a b aC K e;by_cases nI:i.k.mj=true
        · -- l9 aU0 aZq aYV gl aPZ aP9:apl aRF not run
          have:=W3 aS bz aj;rw[nI]at this;cases this
        rw[if_neg nI]at xT;by_cases vv:k.k.mj=true
        · simp only[sN,if_neg nI,if_pos vv]at Y;cases Y
        rw[if_neg vv]at xT;simp only[bK,yG,Ak]at xT;have e9:=Y;simp only[sN,if_neg nI,if_neg vv]at e9;have akg: ∀x∈k.k.l3++k.k.pv,ad yL x=ad ev x:= λx F=>CC λt bm=>fs t λay=>by have:=hJ.1 xT.2 t (Ef F bm);simp at this;exact this.1 ay
        have fG:ad yL p.1=ad ev p.1/\ad yL p.2=ad ev p.2:=by
          rcases mM.1 e9 with aL|aL
          · obtain⟨x,F,cm⟩:=Al.1 aL;obtain⟨y,ab,rfl⟩:=iK.1 cm;refine⟨?_,Yf y (ae3 y ab)⟩;rcases mM.1 F with dK|dK
            · exact akg x (ow _ dK)
            · split at dK
              · rename_i gO;rcases xT.1 with hh|hh
                · rw[gO]at hh;cases hh
                · cases ay:k.d with
                  |none=>rw[ay]at dK;cases dK
                  | some d=>rw[ay]at dK hh;simp only[Ql,Aj]at dK;subst dK;exact fs d (GG hh.2)
              · cases dK
          · obtain⟨x,F,cm⟩:=Al.1 aL;obtain⟨y,ab,rfl⟩:=iK.1 cm;exact⟨akg x (pA _ F),Yf y (ae3 y (ow _ ab))⟩
        have:=jU p (LS.2 p Y);obtain⟨x,y⟩:=p;simp only at this aC K fG;rw[fG.1,fG.2,aC,K]at this;simp[e]at this
    obtain⟨cC,bo,bC,cq,cZ,fR⟩:=aLK dz LS.1 ajM (λgO=>(bs gO).1) (λgO=>(bs gO).2) B H aj dD;refine⟨cC,bo,yL,yp,UW,bC,BY cq cZ ba,cD,λt bm=> ?_,λcm dK=> ?_⟩
    · have Mk:t∉wv cj:= λay=>bm (by
        obtain⟨gI,rM,Fv⟩:=yF.1 ay;exact yF.2 ⟨gI,by simp[rM],Fv⟩)
      have azW:k.d≠some t:= λay=>bm (yF.2 ⟨k,by simp,ay⟩);rw[fs t Mk,ar9 B azW]
    · have ajV:vR i.z5 k.d=true:=by
        have:=LS.1;simp only[tm,bK]at this;exact this.1.1.2
      have az5:fY ev i.g=true:=by
        cases aq:i.g with
        |none=>rfl
        | some lM=>
          obtain⟨t,b⟩:=lM;rw[aq]at dK;simp only[fY]at dK⊢;rw[ar9 B (t:=t) λay=> ?_]
          · exact dK
          · rw[ay]at ajV;exact GG ajV (ow _ (by simp[aq]))
      obtain⟨rfl,rfl⟩:=iU cm az5;exact⟨(fR cm dK).1.symm,(fR cm dK).2.symm⟩
def sh(iY:List Nat):List cd->Prop
  |[]=>True
  |k::b4=>(∀cj i post,b4=cj++i::post->(iY.getD i.bb 0).testBit k.bb=true\/(tm k i (wv cj)=true/\ ∀p∈sN k i,p∈i.bI))/\sh iY b4
theorem sh.qb{iY:List Nat}: ∀(cy:List cd) (k:cd) (C:List cd) (i:cd) (cn:List cd),sh iY (cy++k::C++i::cn)->(iY.getD i.bb 0).testBit k.bb=true\/(tm k i (wv C)=true/\ ∀p∈sN k i,p∈i.bI)
  |[],_,C,i,cn,h=>h.1 C i cn rfl
  |_::cy,k,C,i,cn,h=>sh.qb cy k C i cn h.2
theorem sh.ard{iY:List Nat}: ∀(cy:List cd) (x:cd) (C:List cd),sh iY (cy++x::C)->sh iY (cy++C)
  |[],_,_,h=>h.2
  | k::cy,x,C,h=>by
    refine⟨λcj i post e=> ?_,sh.ard cy x C h.2⟩;rcases List.append_eq_append_iff.1 e with⟨a1i,aX,bg⟩|⟨lR,aX,bg⟩
    · -- i aTY P0 x
      have:=h.1 (cy++x::a1i) i post (by rw[bg];simp);refine this.imp id λa6=>⟨Qh (λt bm=> ?_) a6.1,a6.2⟩;rw[aX]at bm;obtain⟨gI,rM,Fv⟩:=yF.1 bm;refine yF.2 ⟨gI,?_,Fv⟩;rcases mM.1 rM with B|B
      · exact pA _ B
      · exact ow _ (by simp[B])
    · cases lR with
      | nil=>simp only[An]at aX;simp only[xv]at bg;have:=h.1 (cy++[x]) i post (by rw[<-bg];simp);refine this.imp id λa6=>⟨Qh (λt bm=> ?_) a6.1,a6.2⟩;rw[<-aX]at bm;obtain⟨gI,rM,Fv⟩:=yF.1 bm;exact yF.2 ⟨gI,pA _ rM,Fv⟩
      | cons b lR=>simp only[Cg,ox]at bg;obtain⟨rfl,bg⟩:=bg;exact h.1 cj i (lR++x::C) (by rw[aX];simp)
theorem aHp{iY:List Nat}{o:Oper}{b:Nat}(h:(US iY o).testBit b=true): ∃e∈o.after,Region.binds .any e=true/\(e.on=b\/(iY.getD e.on 0).testBit b=true):=by
  unfold US at h;have key: ∀(l:List Edge) (s:Nat),(l.foldl (λs e=>if Region.binds .any e then s|||2^e.on|||iY.getD e.on 0 else s) s).testBit b=true->s.testBit b=true\/ ∃e∈l,Region.binds .any e=true/\(e.on=b\/(iY.getD e.on 0).testBit b=true):=by
    intro l;induction l with
    |nil=>intro s h;exact .inl h
    | cons e l cB=>
      intro s h;simp only[qN]at h;rcases cB _ h with B|⟨eD,CX,H⟩
      · split at B
        · rename_i K;simp only[Nat.testBit_or,yG,Nat.testBit_two_pow,fU]at B;rcases B with(B|B)|B
          · exact .inl B
          · exact .inr ⟨e,by simp,K,.inl B⟩
          · exact .inr ⟨e,by simp,K,.inr B⟩
        · exact .inl B
      · exact .inr ⟨eD,by simp[CX],H⟩
  rcases key _ 0 h with B|⟨e,a2,H⟩
  · simp at B
  · exact⟨e,by simpa using a2,H⟩
theorem aef{j7:Nat->Prop}(aju: ∀j jf,ops[j]?=some jf->j7 j-> ∀e∈jf.after,Region.binds .any e=true->j7 e.on):
    ∀ (l:List Oper) (eF:List Nat),(∀j,l[j]?=ops[eF.length+j]?)->
      (∀j,j<eF.length-> ∀jf,ops[j]?=some jf->(∀e∈jf.after,Region.binds .any e=true->j7 e.on)-> ∀b,(eF.getD j 0).testBit b=true->j7 b)->
      ∀j jf,ops[j]?=some jf->(∀e∈jf.after,Region.binds .any e=true->j7 e.on)-> ∀b,((DO l eF).getD j 0).testBit b=true->j7 b
  | [],eF,aE,QW,j,jf,c6,ay,b,K=>by
    simp only[DO]at K;by_cases h:j<eF.length
    · exact QW j h jf c6 ay b K
    · rw[mr,Ai (by omega)]at K;simp at K
  | o::l,eF,aE,QW,j,jf,c6,ay,b,K=>by
    have ah:ops[eF.length]?=some o:=(by have:=aE 0;simpa using this.symm);refine aef aju l (eF++[US eF o]) (λi=>by have:=aE (i+1);simp at this⊢;rw[this];congr 1;omega) (λi ag GJ Ia Q2 b7 hi=> ?_) j jf c6 ay b K;simp only[mo,nB,Hh]at ag;by_cases h:i<eF.length
    · rw[mr,yE h,<-mr]at hi;exact QW i h GJ Ia Q2 b7 hi
    · have qk:i=eF.length:=(by omega);subst qk;rw[mr,Cf (eB _)]at hi;simp only[Nat.sub_self,List.getElem?_cons_zero,Hf]at hi;have:GJ=o:=Ch (Ia.symm.trans ah);subst this;obtain⟨e,a2,oa,H⟩:=aHp hi;have aj0:=Q2 e a2 oa;rcases H with rfl|H
      · exact aj0
      · by_cases af:e.on<eF.length
        · have nH: ∃U9,ops[e.on]?=some U9:=by
            have M:eF.length<ops.size:=(Ah.1 ah).1;exact⟨ops[e.on],Hk (by omega)⟩
          obtain⟨U9,jy⟩:=nH;exact QW e.on af U9 jy (aju e.on U9 jy aj0) b7 H
        · rw[mr,Ai (by omega)]at H;simp at H
end
section
variable {P:Program} {a9:Nat} {dj:Callee} {base:Nat} {ops:Array Oper} {eb:Nat}
theorem UK{j7:Array Bool}{i j:Nat}(ag:i<j7.size):(j7.setIfInBounds i true).getD j false=true↔(j=i\/j7.getD j false=true):=by
  by_cases h:i=j
  · subst h;simp[ag]
  · rw[getD_set_ne false h];constructor
    · exact .inr
    · rintro(b6|b6)
      · exact absurd b6.symm h
      · exact b6
theorem ahz(dz:ta P a9 dj){Q:Exit->Act->World->Prop}{atp:aM}{DP:E}{WM:Nat}: ∀(mx:Nat) (L:List cd) (j7:Array Bool) (u:aM) (m:E) (a:Act) (w:World) (ak:fC),
    L.length=mx->j7.size=ops.size->(∀j,j<ops.size->(j7.getD j false=true↔ ∀cX∈L,cX.bb≠j))->
    (∀j jf,ops[j]?=some jf->j7.getD j false=true-> ∀e∈jf.after,Region.binds .any e=true->j7.getD e.on false=true)->
    (∀cX∈L,∃o,At P ops eb cX o)->(L.map (·.bb)).Nodup->sh (DO ops.toList []) L->
    (∀cj cX post,L=cj++cX::post-> ∀jf,ops[cX.bb]?=some jf-> ∀e∈jf.after,Region.binds .any e=true->j7.getD e.on false=true\/ ∃k∈cj,k.bb=e.on)->
    h2 ak eb u a->eW a9 ak m w->a9<=w.heap.size->WM<=base->(∀cX∈L,cX.k.gF=true->base+cX.bb<m.next/\m.U (base+cX.bb)=none/\ak (base+cX.bb)=none)->base<=m.next->
    lL dj base L u m=some (atp,DP)->
    (∀cI ee dw,hM ak dw->(∀b,b<WM->dw b=ak b)->h2 dw eb atp cI->eW a9 dw DP ee->Below a9 w ee->Q .normal cI ee)->wpAny P .any ops Q mx j7 a w
  | 0,L,j7,u,m,a,w,ak,fN,jc,Fz,_,_,_,_,_,M,aN,_,_,_,_,k0,a1=>by have fh:L=[]:=pz.1 fN;subst fh;simp only[lL,nA,ui]at k0;obtain⟨rfl,rfl⟩:=k0;refine⟨?_,a1 a w ak (hM.refl ak) (λ_ _=>rfl) M aN (Below.refl _ _)⟩;apply List.eq_nil_iff_forall_not_mem.2;intro i ag;obtain⟨B,jf,H,_⟩:=mem_ready.1 ag;have cg:i<ops.size:=(Ah.1 H).1;have:=(Fz i cg).2 (by simp);rw[getD_both B]at this;cases this
  | mx+1,L,j7,u,m,a,w,ak,fN,jc,Fz,ajt,A2,lp,ajC,tD,M,aN,dt,mh,fA,X4,k0,a1=>by
    refine⟨λYQ=> ?_,λi ag=> ?_⟩
    · -- lN first ek aU3 q3 ready
      exfalso;cases L with
      |nil=>simp at fN
      | cons cX L=>
        obtain⟨o,ah⟩:=A2 cX (by simp);have cg:cX.bb<ops.size:=(Ah.1 ah.1).1;have wH:cX.bb∈Region.ready .any ops j7:=by
          refine mem_ready.2 ⟨?_,o,ah.1,λe a2 K=> ?_⟩
          · have:j7.getD cX.bb false≠true:= λh=>(Fz cX.bb cg).1 h cX (by simp) rfl;exact getD_in (by rw[jc];exact cg) (by simpa using this)
          · rcases tD [] cX L rfl o ah.1 e a2 K with h|⟨k,aa,_⟩
            · exact h
            · cases aa
        rw[YQ]at wH;cases wH
    · obtain⟨azY,GJ,Ia,ajw⟩:=mem_ready.1 ag;have cg:i<ops.size:=(Ah.1 Ia).1;have azZ:j7.getD i false=false:=getD_both azY;have wG: ∃cX∈L,cX.bb=i:=by
        by_cases h: ∃cX∈L,cX.bb=i
        · exact h
        · exfalso;have:=(Fz i cg).2 (λcX mU e=>h ⟨cX,mU,e⟩);rw[azZ]at this;cases this
      obtain⟨cX,mU,rfl⟩:=wG;obtain⟨cj,post,rfl⟩:=List.append_of_mem mU;simp only[oy,n0,EB,List.nodup_cons]at lp;have Ie: ∀k∈cj,k.bb≠cX.bb:= λk aa e=>lp.2.2 k.bb (iK.2 ⟨k,aa,rfl⟩) cX.bb (by simp) e;have Q1: ∀cy k C,cj=cy++k::C->tm k cX (wv C)=true/\ ∀p∈sN k cX,p∈cX.bI:=by
        intro cy k C e;subst e;rcases sh.qb cy k C cX post (by simpa using ajC)with h|h
        · exfalso;have aa:j7.getD k.bb false=true:=aef (ops:=ops) (j7:= λj=>j7.getD j false=true) ajt ops.toList [] (by simp) (by simp) cX.bb GJ Ia ajw k.bb h;obtain⟨aey,Mb⟩:=A2 k (by simp);exact(Fz k.bb (Ah.1 Mb.1).1).1 aa k (by simp) rfl
        · exact h
      have Q6:=fA cX (by simp);obtain⟨cC,bo,_,_,_,B,H,_,_,_⟩:=move dz cj u m k0 Q1 Ie (λgO=>⟨(Q6 gO).2.1,(Q6 gO).1⟩);obtain⟨o,ah⟩:=A2 cX (by simp);have hR:=J4 dz B;refine asb dz ah M aN dt (λgO=>(Q6 gO).1) (λgO=>(Q6 gO).2.2) B λcI ee dw bC cq cZ fR gA=> ?_;refine ahz dz mx (cj++post) (j7.setIfInBounds cX.bb true) cC bo cI ee dw (by simp at fN⊢;omega) (by simp[jc]) (λj c6=> ?_) (λj jf wJ c6 e a2 K=> ?_) (λk aa=>A2 k (by
          rcases mM.1 aa with h|h
          · exact pA _ h
          · exact ow _ (by simp[h]))) ?_ (sh.ard cj cX post ajC) (λaID k aqT e jf wJ CA a2 K=> ?_) cZ fR (nC dt gA.size) mh (λk aa gO=> ?_) (by omega) H (λbt fB o0 ez fj gK iB l2=>a1 bt fB o0 (bC.trans ez) (λb K=>(fj b K).trans (cq b (by omega) (by omega))) gK iB (gA.trans l2))
      · rw[UK (by rw[jc];exact cg)];constructor
        · rintro(rfl|h) k aa e
          · rcases mM.1 aa with h|h
            · exact Ie k h e
            · exact lp.2.1.1 (iK.2 ⟨k,h,e⟩)
          · refine(Fz j c6).1 h k ?_ e;rcases mM.1 aa with h|h
            · exact pA _ h
            · exact ow _ (by simp[h])
        · intro h;by_cases e:j=cX.bb
          · exact .inl e
          · refine .inr ((Fz j c6).2 λk aa eD=> ?_);rcases mM.1 aa with b6|b6
            · exact h k (pA _ b6) eD
            · rcases oz.1 b6 with b6|b6
              · subst b6;exact e eD.symm
              · exact h k (ow _ b6) eD
      · rw[UK (by rw[jc];exact cg)]at c6⊢;rcases c6 with rfl|c6
        · have:jf=GJ:=Ch (wJ.symm.trans Ia);subst this;exact .inr (ajw e a2 K)
        · exact .inr (ajt j jf wJ c6 e a2 K)
      · simp only[oy,EB];exact⟨lp.1,lp.2.1.2,λx F y ab=>lp.2.2 x F y (by simp[ab])⟩
      · rw[UK (by rw[jc];exact cg)];rcases List.append_eq_append_iff.1 e with⟨a1i,aX,bg⟩|⟨lR,aX,bg⟩
        · rcases tD (cj++cX::a1i) k aqT (by rw[bg];simp) jf wJ CA a2 K with h|⟨gI,rM,dU⟩
          · exact .inl (.inr h)
          · rcases mM.1 rM with h|h
            · exact .inr ⟨gI,by rw[aX];exact pA _ h,dU⟩
            · rcases oz.1 h with h|h
              · subst h;exact .inl (.inl dU.symm)
              · exact .inr ⟨gI,by rw[aX];exact ow _ h,dU⟩
        · cases lR with
          | nil=>
            simp only[An]at aX;simp only[xv]at bg;rcases tD (cj++[cX]) k aqT (by rw[<-bg];simp) jf wJ CA a2 K with h|⟨gI,rM,dU⟩
            · exact .inl (.inr h)
            · rcases mM.1 rM with h|h
              · exact .inr ⟨gI,by rw[<-aX];exact h,dU⟩
              · simp only[Aj]at h;subst h;exact .inl (.inl dU.symm)
          | cons b lR=>
            simp only[Cg,ox]at bg;obtain⟨rfl,bg⟩:=bg;rcases tD aID k (lR++cX::post) (by rw[aX];simp) jf wJ CA a2 K with h|h
            · exact .inl (.inr h)
            · exact .inr h
      · have tw:k∈cj++cX::post:=by
          rcases mM.1 aa with h|h
          · exact pA _ h
          · exact ow _ (by simp[h])
        have ajM:k.bb≠cX.bb:=by
          rcases mM.1 aa with h|h
          · exact Ie k h
          · exact λe=>lp.2.1.1 (iK.2 ⟨k,h,e⟩)
        obtain⟨aj,ba,cD⟩:=fA k tw gO;exact⟨by omega,VU dz B aj (by omega) ba,by rw[cq _ aj (by omega)];exact cD⟩
theorem ahQ{bb:Nat}{cX:cd}(h:P5 P ops eb bb=some cX):cX.bb=bb/\ ∃o,At P ops eb cX o:=by
  unfold P5 at h;split at h
  · rename_i o ah;split at h
    · rename_i k g aa aq;split at h
      · rename_i ay;cases h;exact⟨rfl,o,ah,aa,aq,rfl,ay⟩
      · cases h
    · cases h
  · cases h
theorem WZ: ∀(tI:List Nat) (L:List cd),Ht P ops eb tI=some L->L.map (·.bb)=tI/\ ∀cX∈L,∃o,At P ops eb cX o
  |[],L,h=>by simp[Ht]at h;subst h;simp
  | bb::r,L,h=>by
    simp only[Ht]at h;split at h
    · rename_i cX b4 B H;cases h;obtain⟨e,o,ah⟩:=ahQ B;obtain⟨aj,ba⟩:=WZ r b4 H;refine⟨by simp[e,aj],λk aa=> ?_⟩;rcases oz.1 aa with rfl|aa
      · exact⟨o,ah⟩
      · exact ba k aa
    · cases h
theorem ah5{iY:List Nat}{i:cd}: ∀(nT:List cd) (vh:List Nat),Qd iY i nT vh=true->(∀p∈xG iY i nT,p∈i.bI)->
    ∀cy k C,nT=cy++k::C->(iY.getD i.bb 0).testBit k.bb=true\/(tm k i (vh++wv cy)=true/\ ∀p∈sN k i,p∈i.bI)
  |[],_,_,_,cy,k,C,e=>by simp at e
  | x::nT,vh,h,jU,cy,k,C,e=>by
    simp only[Qd,bK,yG]at h;cases cy with
    | nil=>
      simp only[xv,ox]at e;obtain⟨rfl,rfl⟩:=e;rcases h.1 with B|B
      · exact .inl B
      · by_cases K:(iY.getD i.bb 0).testBit x.bb=true
        · exact .inl K
        · refine .inr ⟨by simpa[wv]using B,λp Y=>jU p ?_⟩;simp only[xG,if_neg K];exact pA _ Y
    | cons a cy=>
      simp only[Cg,ox]at e;obtain⟨rfl,rfl⟩:=e;have:=ah5 (cy++k::C) (vh++x.d.toList) h.2 (λp Y=>jU p (by simp only[xG];exact ow _ Y)) cy k C rfl;refine this.imp id λa6=>⟨Qh (λt bm=> ?_) a6.1,a6.2⟩;simp only[wv,List.filterMap_cons]at bm⊢;cases ay:x.d with
      |none=>rw[ay]at bm;simpa using bm
      |some d=>rw[ay]at bm;simpa using bm
theorem ahP{iY:List Nat}: ∀(tI:List Nat) (nT:List cd) (L:List cd),KS P ops eb iY tI nT=some L->sh iY nT.reverse->
    L.map (·.bb)=tI/\(∀cX∈L,∃o,At P ops eb cX o)/\sh iY (nT.reverse++L)/\
    (∀cj cX post,L=cj++cX::post-> ∀jf,ops[cX.bb]?=some jf-> ∀e∈jf.after,Region.binds .any e=true-> ∃k∈nT.reverse++cj,k.bb=e.on)
  | [],nT,L,h,aq=>by simp[KS]at h;subst h;exact⟨rfl,by simp,by simpa using aq,by simp⟩
  | bb::r,nT,L,h,aq=>by
    simp only[KS]at h;split at h
    · rename_i cA B;split at h
      · rename_i jU;split at h
        · rename_i b4 Ii;cases h;simp only[bK]at jU;obtain⟨aX,op,cw⟩:=ahQ B;have aK:At P ops eb ⟨cA.bb,cA.d,cA.g,cA.k,xG iY cA nT⟩ op:=cw;have sy:sh iY (cd.mk cA.bb cA.d cA.g cA.k (xG iY cA nT)::nT).reverse:=by
            rw[List.reverse_cons];have nK:=ah5 nT [] jU.1 (λp Y=>by
              have: ∀(l:List cd),xG iY ⟨cA.bb,cA.d,cA.g,cA.k,xG iY cA nT⟩ l=xG iY cA l:=by
                intro l;induction l with
                |nil=>rfl
                |cons x l cB=>simp only[xG];rw[cB];rfl
              rw[this]at Y;exact Y)
            -- lN new hS P0 all
            have key: ∀(l:List cd) (x:cd),sh iY l->(∀cy k C,l=cy++k::C->(iY.getD x.bb 0).testBit k.bb=true\/(tm k x (wv C)=true/\ ∀p∈sN k x,p∈x.bI))->sh iY (l++[x]):=by
              intro l x;induction l with
              |nil=>intro _ _;exact⟨by intro cj i post e;simp at e,trivial⟩
              | cons k l cB=>
                intro aE F;refine⟨λcj i post e=> ?_,cB aE.2 λcy gI C e=>F (k::cy) gI C (by rw[e];rfl)⟩;rcases List.append_eq_append_iff.1 e with⟨a1i,aX,bg⟩|⟨lR,aX,bg⟩
                · cases a1i with
                  | nil=>simp only[xv,ox]at bg;obtain⟨rfl,_⟩:=bg;simp only[An]at aX;subst aX;exact F [] k cj rfl
                  |cons y a1i=>simp at bg
                · cases lR with
                  | nil=>simp only[xv,ox]at bg;obtain⟨rfl,_⟩:=bg;simp only[An]at aX;subst aX;exact F [] k l rfl
                  | cons y lR=>simp only[Cg,ox]at bg;obtain⟨rfl,bg⟩:=bg;exact aE.1 cj i lR aX
            refine key _ _ aq λcy k C e=> ?_;have eD:nT=C.reverse++k::cy.reverse:=by have:=congrArg List.reverse e;simpa using this
            refine(nK C.reverse k cy.reverse eD).imp id λa6=>⟨Qh (λt bm=> ?_) a6.1,a6.2⟩;simp only[wv,xv,yF,List.mem_reverse]at bm⊢;exact bm
          obtain⟨aj,ba,cD,fs⟩:=ahP r _ b4 Ii sy;refine⟨by simp[aX,aj],λk aa=> ?_,by simpa using cD,λcj cX post e jf wJ CA a2 K=> ?_⟩
          · rcases oz.1 aa with rfl|aa
            · exact⟨op,aK⟩
            · exact ba k aa
          · cases cj with
            | nil=>
              simp only[xv,ox]at e;obtain⟨rfl,_⟩:=e;have cm:=jU.2;simp only[aX]at wJ;simp only[asq,wJ]at cm;simp only[hJ,yG,Ak,List.any_eq_true,beq_iff_eq]at cm;rcases cm CA (by simpa using a2)with dK|⟨k,aa,dK⟩
              · rw[K]at dK;cases dK
              · exact⟨k,by simpa using aa,dK⟩
            | cons x cj=>simp only[Cg,ox]at e;obtain⟨rfl,e⟩:=e;obtain⟨k,aa,dK⟩:=fs cj cX post e jf wJ CA a2 K;exact⟨k,by simpa using aa,dK⟩
        · cases h
      · cases h
    · cases h
end
def dp.r9:dp->Exit
  | .gu=> .normal
  | .bw id=> .exit id
  | .aT=> .ret
section
variable {P:Program} {a9:Nat} {dj:Callee} {eb n:Nat}
theorem aqt: ∀(l:List Nat),BO l=true->l.Nodup
  |[],_=>List.nodup_nil
  | x::l,h=>by simp only[BO,bK,Ak,List.contains_eq_mem,Ew]at h;exact List.nodup_cons.2 ⟨h.1,aqt l h.2⟩
theorem aIs{l:List Nat}(h:aeO n l=true):l.Nodup/\(∀i,i∈l↔i<n)/\l.length=n:=by simp only[aeO,bK,fU,hJ,yJ,List.contains_iff_mem]at h;obtain⟨⟨⟨B,H⟩,af⟩,aL⟩:=h;exact⟨aqt l H,λi=>⟨λag=>af i ag,λag=>aL i ag⟩,B⟩
theorem axX{m:E}{b:Nat}(h:m.next<=b):m.U b=none:=by unfold E.U;rw[if_neg (by omega)]
theorem OP(L:List cd)(m:E):m.next<=(kK L m).next/\((∃o∈L,o.k.gF=true)->(kK L m).next=m.next+L.length):=by
  unfold kK;split
  · exact⟨by rw[E.xD];omega,λ_=>rfl⟩
  · rename_i h;refine⟨eB _,λ⟨o,ah,H⟩=>absurd (List.any_eq_true.2 ⟨o,ah,H⟩) h⟩
theorem arc(L:List cd)(m:E)(b:Nat):(kK L m).U b=m.U b:=by
  unfold kK;split
  · exact E.gm m _ b
  · rfl
theorem eW.kK{m:E}{w:World}{ak:fC}(h:eW a9 ak m w)(L:List cd):eW a9 ak (Go.DI.kK L m) w:=by
  unfold Go.DI.kK;split
  · exact h.bx _
  · exact h
theorem ah2{ops:Array Oper}{Q:Exit->Act->World->Prop}(bm:asj ops=true)(CU:ah1 (DO ops.toList []) ops.size=true): ∀(mx k:Nat) (j7:Array Bool) (a:Act) (w:World),k+mx=ops.size->j7.size=ops.size->
    (∀j,j<ops.size->(j7.getD j false=true↔j<k))->wpOps P ops Q (List.range' k mx) a w->wpAny P .any ops Q mx j7 a w
  | 0,k,j7,a,w,aa,jc,aE,h=>by refine⟨?_,h⟩;apply List.eq_nil_iff_forall_not_mem.2;intro i ag;obtain⟨B,jf,H,_⟩:=mem_ready.1 ag;have cg:i<ops.size:=(Ah.1 H).1;have:=(aE i cg).2 (by omega);rw[getD_both B]at this;cases this
  | mx+1,k,j7,a,w,aa,jc,aE,h=>by
    have L4:k<ops.size:=(by omega);have agT: ∀j jf,ops[j]?=some jf-> ∀e∈jf.after,Region.binds .any e=true->e.on<j:=by
      intro j jf c6 e a2 K;have cg:j<ops.size:=(Ah.1 c6).1;have:=hJ.1 bm j (yJ.2 cg);simp only[c6,hJ,yG,Ak,fU]at this;rcases this e (by simpa using a2)with h|h
      · rw[K]at h;cases h
      · exact h
    have dz: ∀j jf,ops[j]?=some jf->j7.getD j false=true-> ∀e∈jf.after,Region.binds .any e=true->j7.getD e.on false=true:=(by intro j jf c6 ay9 e a2 K;have cg:j<ops.size:=(Ah.1 c6).1;have B:=agT j jf c6 e a2 K;have H:=(aE j cg).1 ay9;exact(aE e.on (by omega)).2 (by omega));rw[List.range'_succ,wpOps_cons]at h;have step: ∀i∈Region.ready .any ops j7,i=k:=by
      intro i ag;obtain⟨B,GJ,H,af⟩:=mem_ready.1 ag;have cg:i<ops.size:=(Ah.1 H).1;have av: ¬i<k:= λxX=>by have:=(aE i cg).2 xX;rw[getD_both B]at this;cases this
      by_cases e:i=k
      · exact e
      · exfalso;have K:((DO ops.toList []).getD i 0).testBit k=true:=by
          have:=hJ.1 CU i (yJ.2 cg);exact hJ.1 this k (yJ.2 (by omega))
        have:=aef (ops:=ops) (j7:= λj=>j7.getD j false=true) dz ops.toList [] (by simp) (by simp) i GJ H af k K;have:=(aE k L4).1 this;omega
    refine⟨λaH=> ?_,λi ag=> ?_⟩
    · exfalso;obtain⟨o,ah⟩: ∃o,ops[k]?=some o:=⟨ops[k],Hk L4⟩;have wH:k∈Region.ready .any ops j7:=by
        refine mem_ready.2 ⟨?_,o,ah,λe a2 K=> ?_⟩
        · have:j7.getD k false≠true:= λh=>by have:=(aE k L4).1 h;omega
          exact getD_in (by rw[jc];exact L4) (by simpa using this)
        · exact(aE e.on (by have:=agT k o ah e a2 K;omega)).2 (agT k o ah e a2 K)
      rw[aH]at wH;cases wH
    · have e:=step i ag;subst e;refine wpOp_mono (λa w h=>ah2 bm CU mx (i+1) _ a w (by omega) (by simp[jc]) (λj c6=> ?_) h) h;rw[UK (by rw[jc];exact L4),aE j c6];omega
theorem aie: ∀{L:List cd} {r:List cd×cd×List cd},K4 L=some r->L=r.1++r.2.1::r.2.2/\r.2.1.k.gF=true
  |[],_,h=>by simp[K4]at h
  | o::L,r,h=>by
    unfold K4 at h;split at h
    · rename_i aa;cases h;exact⟨rfl,by simp[aa,al.gF]⟩
    · simp only[xq]at h;obtain⟨⟨a,b,c⟩,B,H⟩:=h;obtain⟨aj,ba⟩:=aie B;subst H;exact⟨by simp only at aj⊢;rw[aj];rfl,ba⟩
theorem aGE(pP:P.follows .mixedOrders=true)(dz: ∀a9,ta P a9 dj){id:Nat}{ops:Array Oper}{vm:Bool}{sD:J}(aK:WY P eb ops vm=some sD){u ae:aM}{m N:E}{e:dp}
    (h:fx dj n sD u m=some (e,ae,N)) {a:Act} {w:World} {ak:fC} (M:h2 ak eb u a) (aN:eW a9 ak m w) (dt:a9<=w.heap.size) {Q:Exit->Act->World->Prop}
    (a1: ∀cI ee dw,hM ak dw->(∀b,b<m.next->dw b=ak b)->h2 dw eb ae cI->eW a9 dw N ee->Below a9 w ee->Q e.r9 cI ee):(Code.region id ops vm).wp P Q a w:=by
  have Io: ∀b,m.next<=b->ak b=none:=by
    intro b K;cases aH:ak b with
    |none=>rfl
    |some l=>have:=aN.qU b l aH;omega
  unfold WY at aK;split at aK
  · rename_i CU;split at aK
    · rename_i L fh;simp only[xq]at aK;obtain⟨⟨cj,cy,b4⟩,X8,rfl⟩:=aK;obtain⟨B,H⟩:=WZ _ _ fh;obtain⟨aX,gO⟩:=aie X8;simp only at aX gO;subst aX;have fN:cj.length+(b4.length+1)=ops.size:=(by have:=congrArg List.length B;simpa using this);have lp:((cj++cy::b4).map (·.bb)).Nodup:=(by rw[B];exact List.nodup_range);have xW: ∀cX∈cj++cy::b4,cX.bb<ops.size:= λcX mU=>by
        have:cX.bb∈(cj++cy::b4).map (·.bb):=iK.2 ⟨cX,mU,rfl⟩;rw[B,yJ]at this;exact this
      rw[oy,n0,EB,List.nodup_cons]at lp;simp only[fx]at h;split at h
      · rename_i cC bo akb;split at h
        · rename_i aA;split at h
          · rename_i ev cc akc;cases h;have hR:m.next+ops.size<=bo.next:=by have:=OS (dz a9) _ _ _ _ akb;rw[E.xD,fN]at this;exact this
            have qZ:(cy.k.iH (m.next+cy.bb) cC bo).next=bo.next:=by
              unfold pX at aA;simp only[bK]at aA;have:=aA.1.2;split at this
              · rename_i aa;rw[aa];simp only[al.iH];split
                · rfl
                · unfold mY;split<;>rfl
              · cases this
            have rO:bo.next<=cc.next:=OS (dz a9) _ _ _ _ akc
            have key: ∀bc,eW a9 ak m bc->a9<=bc.heap.size->Below a9 w bc->wpOps P ops Q (List.range ops.size) a bc:=by
              intro bc C1 XR mh;rw[<-B,oy,n0];refine aeC (base:=m.next) (dz a9) cj u _ a bc ak cC bo (λcX mU=>H cX (by simp[mU])) lp.1 M (C1.bx _) XR (λcX mU _=>⟨by rw[E.xD,fN];have:=xW cX (by simp[mU]);omega,Io _ (by omega)⟩) akb λbh da oZ bC cq cZ fR gA=> ?_;obtain⟨aUK,lF⟩:=H cy (by simp);have aRo:=xW cy (by simp);rw[wpOps_cons];refine aGF (base:=m.next) lF cZ fR (nC XR gA.size) (by omega) ?_ aA λbt fB o0 ez fj gK iB l2 r7=> ?_
              · rw[cq _ (by rw[E.xD,fN];omega) (λcX mU e=>lp.2.2 cX.bb (iK.2 ⟨cX,mU,rfl⟩) cy.bb (by simp) (by omega))];exact Io _ (by omega)
              · refine aqK (base:=m.next) (dz fB.heap.size) b4 _ (qq bo) bt fB o0 ae cc (λcX mU=>H cX (by simp[mU])) lp.2.1.2 gK l2 (eB _) (λcX mU _=>⟨?_,?_⟩) akc λc1 ij aNc eT fk hB js mm=> ?_
                · show _<bo.next
                  have:=xW cX (by simp[mU]);omega
                · have F:=xW cX (by simp[mU]);have dE:cX.bb≠cy.bb:= λe=>lp.2.1.1 (iK.2 ⟨cX,mU,e⟩);rw[fj _ (by omega),cq _ (by rw[E.xD,fN];omega) (λk aa e=>lp.2.2 k.bb (iK.2 ⟨k,aa,rfl⟩) cX.bb (by simp only[oz,iK];exact .inr ⟨cX,mU,rfl⟩) (by omega))];exact Io _ (by omega)
                · have fM:a9<=fB.heap.size:=nC XR (nC gA.size r7.size);refine a1 c1 ij aNc (bC.trans (ez.trans eT)) (λb K=> ?_) hB ?_ (mh.trans (gA.trans (r7.trans (mm.mono fM))))
                  · rw[fk b K (by show b<bo.next;omega),fj b (by omega),cq b (by rw[E.xD];omega) (λ_ _=>by omega)]
                  · have:=aGD rfl iB js eT (by rw[qZ];exact rO) mm
                    rwa [qZ]at this
            cases vm
            · exact wp_region (key w aN dt (Below.refl _ _))
            · simp only[Bool.not_true,Bool.false_or,bK]at CU;refine wp_region_any pP ?_;refine ah2 CU.2.1 CU.2.2 ops.size 0 _ a _ (by omega) (by simp) (λj c6=>by rw[getD_replicate_false];simp) ?_;rw[<-Kr];exact key _ (aN.asU rfl) dt ⟨rfl,rfl,rfl,eB _,λ_ _=>rfl⟩
          · cases h
        · cases h
      · cases h
    · cases aK
  · cases aK
theorem aJm(pP:P.follows .mixedOrders=true)(dz:ta P a9 dj){id:Nat}{ops:Array Oper}{vm:Bool}{sD:J}(aK:P6 P eb ops vm=some sD){u ae:aM}{m N:E}{e:dp}
    (h:fx dj n sD u m=some (e,ae,N)) {a:Act} {w:World} {ak:fC} (M:h2 ak eb u a) (aN:eW a9 ak m w) (dt:a9<=w.heap.size) {Q:Exit->Act->World->Prop}
    (a1: ∀cI ee dw,hM ak dw->(∀b,b<m.next->dw b=ak b)->h2 dw eb ae cI->eW a9 dw N ee->Below a9 w ee->Q e.r9 cI ee):(Code.region id ops vm).wp P Q a w:=by
  have Io: ∀b,m.next<=b->ak b=none:=by
    intro b K;cases aH:ak b with
    |none=>rfl
    |some l=>have:=aN.qU b l aH;omega
  cases vm
  · simp only[P6]at aK;split at aK
    · rename_i L fh;cases aK;obtain⟨B,H⟩:=WZ _ _ fh;simp only[fx]at h;split at h
      · rename_i cC bo k0;cases h;have fN:L.length=ops.size:=(by have:=congrArg List.length B;simpa using this);refine wp_region ?_;rw[<-B];refine aqK (base:=m.next) dz L u _ a w ak ae N H (by rw[B];exact List.nodup_range) M (aN.kK L) dt (λcX mU gO=> ?_) k0 λcI ee dw bC cq cZ fR gA=>a1 cI ee dw bC (λb K=>cq b K (by have:=(OP L m).1;omega)) cZ fR gA;have:cX.bb∈L.map (·.bb):=iK.2 ⟨cX,mU,rfl⟩;rw[B,yJ]at this;exact⟨by rw[(OP L m).2 ⟨cX,mU,gO⟩];omega,Io _ (by omega)⟩
      · cases h
    · cases aK
  · simp only[P6]at aK;split at aK
    · rename_i azG;split at aK
      · rename_i L fh;cases aK;obtain⟨ez,fj,gK⟩:=aIs azG;obtain⟨B,H,af,aL⟩:=ahP _ [] L fh trivial;simp only[List.reverse_nil,xv]at af aL;simp only[fx]at h;split at h
        · rename_i cC bo k0;cases h;have fN:L.length=ops.size:=(by rw[<-gK,<-B];simp);have zj:eW a9 ak (kK L m) {w with drawn:=w.drawn+1}:=(aN.kK L).asU rfl;refine wp_region_any pP ?_;refine ahz (base:=m.next) (WM:=m.next) dz ops.size L _ u _ a _ ak fN (by simp) (λj c6=> ?_) (λj jf _ aE=>by rw[getD_replicate_false]at aE;cases aE) H (by rw[B];exact ez) af (λcj cX post e jf wJ CA a2 K=> .inr (aL cj cX post e jf wJ CA a2 K)) M zj dt (eB _) (λcX mU gO=> ?_) (OP L m).1 k0 λcI ee dw bC cq cZ fR gA=>a1 cI ee dw bC cq cZ fR (Below.trans (a:=w) (b:={w with drawn:=w.drawn+1}) ⟨rfl,rfl,rfl,eB _,λ_ _=>rfl⟩ gA)
          · rw[getD_replicate_false];constructor
            · intro h;cases h
            · intro h;exfalso;have:j∈L.map (·.bb):=(by rw[B,fj];exact c6);obtain⟨cX,mU,e⟩:=iK.1 this;exact h cX mU e
          · have:cX.bb∈L.map (·.bb):=iK.2 ⟨cX,mU,rfl⟩;rw[B,fj]at this;exact⟨by rw[(OP L m).2 ⟨cX,mU,gO⟩];omega,by rw[arc];exact axX (by omega),Io _ (by omega)⟩
        · cases h
      · cases aK
    · cases aK
theorem N3{f:aM->E->Option (dp×aM×E)}{j:Nat}{u:aM}{m:E}{r:dp×aM×E}(h:lq f (j+1) u m=some r):
    (∃cC bo,f u m=some (.gu,cC,bo)/\lq f j cC bo=some r)\/(f u m=some r/\r.1≠ .gu):=by
  simp only[lq]at h;split at h
  · rename_i cC bo B;exact .inl ⟨cC,bo,B,h⟩
  · rename_i B;refine .inr ⟨h,λe=> ?_⟩;obtain⟨eT,fk,hB⟩:=r;simp only at e;subst e;exact B _ _ h
theorem wx(dz:ta P a9 dj): ∀(c:J) (u:aM) (m:E) (e:dp) (ae:aM) (N:E),fx dj n c u m=some (e,ae,N)->m.next<=N.next/\ ∀b,b<m.next->m.U b=none->N.U b=none
  | .skip,u,m,e,ae,N,h=>by simp[fx]at h;obtain⟨_,_,rfl⟩:=h;exact⟨eB _,λ_ _ h=>h⟩
  | .G ops,u,m,e,ae,N,h=>by
    simp only[fx]at h;split at h
    · rename_i cC bo k0;cases h;have B:=OS dz ops u _ _ k0;have H:=(OP ops m).1;exact⟨by simp only at B;omega,λb K aq=>afn dz K ops u _ _ H k0 (by rw[arc];exact aq)⟩
    · cases h
  | .w1 cj o b4,u,m,e,ae,N,h=>by
    simp only[fx]at h;split at h
    · rename_i cC bo B;split at h
      · rename_i aA;split at h
        · rename_i ev cc H;cases h;have aj:=OS dz _ _ _ _ B;rw[E.xD]at aj;have rR:iX dj m.next o cC bo=some (dO cC o.d (o.k.val (m.next+o.bb) cC bo),o.k.iH (m.next+o.bb) cC bo):=by
            unfold pX at aA;simp only[bK,Ev]at aA;refine asa ?_ (vF (Va aA.2)) aA.2;rw[aA.1.1];rfl
          have ba:=J4 dz rR;rw[E.xD];refine⟨by simp only at aj;omega,λb K aq=> ?_⟩;rw[E.gm];exact VU dz rR (by simp only at aj;omega) (by omega) (afn dz K cj u _ _ (by rw[E.xD];omega) B (by rw[E.gm];exact aq))
        · cases h
      · cases h
    · cases h
  | .D c d,u,m,e,ae,N,h=>by
    simp only[fx]at h;split at h
    · rename_i cC bo B;obtain⟨bh,bt⟩:=wx dz c u m _ cC bo B;obtain⟨cM,dq⟩:=wx dz d cC bo _ _ _ h;exact⟨by omega,λb K aq=>dq b (by omega) (bt b K aq)⟩
    · exact wx dz c u m _ _ _ h
  | .a8 x c d,u,m,e,ae,N,h=>by
    simp only[fx]at h;split at h
    · split at h
      · exact wx dz c u m _ _ _ h
      · exact wx dz d u m _ _ _ h
    · cases h
  | .block id c,u,m,e,ae,N,h=>by
    simp only[fx]at h;split at h
    · rename_i lV cC bo B;have:=wx dz c u m _ cC bo B;split at h<;>cases h<;>exact this
    · exact wx dz c u m _ _ _ h
  | .loop c,u,m,e,ae,N,h=>by
    simp only[fx]at h;have key: ∀(j:Nat) (u:aM) (m:E),lq (fx dj n c) j u m=some (e,ae,N)->m.next<=N.next/\ ∀b,b<m.next->m.U b=none->N.U b=none:=by
      intro j;induction j with
      |zero=>intro u m h;simp[lq]at h
      | succ j cB=>
        intro u m h;rcases N3 h with⟨cC,bo,B,H⟩|⟨B,_⟩
        · obtain⟨bh,bt⟩:=wx dz c u m _ cC bo B;obtain⟨cM,dq⟩:=cB cC bo H;exact⟨by omega,λb K aq=>dq b (by omega) (bt b K aq)⟩
        · exact wx dz c u m _ _ _ B
    exact key n u m h
  | .bw id,u,m,e,ae,N,h=>by simp[fx]at h;obtain⟨_,_,rfl⟩:=h;exact⟨eB _,λ_ _ h=>h⟩
  | .aT,u,m,e,ae,N,h=>by simp[fx]at h;obtain⟨_,_,rfl⟩:=h;exact⟨eB _,λ_ _ h=>h⟩
theorem aso{e:dp}(h:e≠ .gu):e.r9≠ .normal:=by cases e<;>simp[dp.r9]at h⊢
theorem asm{aU:Act->World->Prop}{Q:Exit->Act->World->Prop}{e:Exit}{a:Act}{w:World}(h:e≠ .normal)(bz:Q e a w):Exit.then aU Q e a w:=by cases e<;>first|exact bz|exact absurd rfl h
theorem yX(pP:P.follows .mixedOrders=true)(dz: ∀a9,ta P a9 dj): ∀(c:Code) (sD:J),uv P eb c=some sD-> ∀(u:aM) (m:E) (e:dp) (ae:aM) (N:E),fx dj n sD u m=some (e,ae,N)->
    ∀(a:Act) (w:World) (ak:fC),h2 ak eb u a->eW a9 ak m w->a9<=w.heap.size-> ∀(Q:Exit->Act->World->Prop),
    (∀cI ee dw,hM ak dw->(∀b,b<m.next->dw b=ak b)->h2 dw eb ae cI->eW a9 dw N ee->Below a9 w ee->Q e.r9 cI ee)->c.wp P Q a w
  | .skip,sD,aK,u,m,e,ae,N,h,a,w,ak,M,aN,dt,Q,a1=>by cases aK;simp[fx]at h;obtain⟨rfl,rfl,rfl⟩:=h;exact wp_skip (a1 a w ak (hM.refl ak) (λ_ _=>rfl) M aN (Below.refl _ _))
  | .region id ops vm,sD,aK,u,m,e,ae,N,h,a,w,ak,M,aN,dt,Q,a1=>by
    simp only[uv]at aK;split at aK
    · rename_i c aE;cases aK;exact aGE pP dz aE h M aN dt a1
    · exact aJm pP (dz a9) aK h M aN dt a1
  | .seq c d,sD,aK,u,m,e,ae,N,h,a,w,ak,M,aN,dt,Q,a1=>by
    simp only[uv]at aK;split at aK
    · rename_i x y F ab;cases aK;refine wp_seq ?_;simp only[fx]at h;split at h
      · rename_i cC bo B;refine yX pP dz c x F u m _ cC bo B a w ak M aN dt _ λbh da oZ bC cq cZ fR gA=> ?_;have av:=(wx (dz a9) x u m _ cC bo B).1;refine yX pP dz d y ab cC bo e ae N h bh da oZ cZ fR (nC dt gA.size) Q λbt fB o0 ez fj gK iB l2=> ?_;exact a1 bt fB o0 (bC.trans ez) (λb K=>(fj b (by omega)).trans (cq b K)) gK iB (gA.trans l2)
      · rename_i dE;refine yX pP dz c x F u m _ ae N h a w ak M aN dt _ λbh da oZ bC cq cZ fR gA=> ?_;refine asm (aso λa2=> ?_) (a1 bh da oZ bC cq cZ fR gA);subst a2;exact dE _ _ h
    · cases aK
  | .cond x c d,sD,aK,u,m,e,ae,N,h,a,w,ak,M,aN,dt,Q,a1=>by
    simp only[uv]at aK;split at aK
    · rename_i y O ab cl;split at aK<;>cases aK;rename_i F;simp only[fx]at h;split at h
      · rename_i K;have aH:=M.ad F;cases S:ad u x<;>simp[S,wU]at K;rename_i t;rw[S]at aH h;refine wp_cond aH.uN ?_;simp only[yT]at h;cases t
        · exact yX pP dz d O cl u m e ae N h a w ak M aN dt Q a1
        · exact yX pP dz c y ab u m e ae N h a w ak M aN dt Q a1
      · cases h
    · cases aK
  | .block id c,sD,aK,u,m,e,ae,N,h,a,w,ak,M,aN,dt,Q,a1=>by
    simp only[uv]at aK;split at aK
    · rename_i x F;cases aK;refine wp_block ?_;simp only[fx]at h;split at h
      · rename_i lV cC bo B;refine yX pP dz c x F u m _ cC bo B a w ak M aN dt _ λbh da oZ bC cq cZ fR gA=> ?_;show if lV=id then Q .normal bh da else Q (.exit lV) bh da
        split at h
        · rename_i a2;cases h;rw[if_pos a2];exact a1 bh da oZ bC cq cZ fR gA
        · rename_i a2;cases h;rw[if_neg a2];exact a1 bh da oZ bC cq cZ fR gA
      · rename_i dE;refine yX pP dz c x F u m _ ae N h a w ak M aN dt _ λbh da oZ bC cq cZ fR gA=> ?_;have:=a1 bh da oZ bC cq cZ fR gA;cases e with
        |gu=>exact this
        |aT=>exact this
        |bw lV=>exact absurd h (dE _ _ _)
    · cases aK
  | .loop c,sD,aK,u,m,e,ae,N,h,a,w,ak,M,aN,dt,Q,a1=>by
    simp only[uv]at aK;split at aK
    · rename_i x F;cases aK;simp only[fx]at h;refine wp_loop_rounds n ?_
      have key: ∀(j:Nat) (u:aM) (m:E) (a:Act) (w:World) (ak:fC),lq (fx dj n x) j u m=some (e,ae,N)->h2 ak eb u a->eW a9 ak m w->a9<=w.heap.size->
          (∀cI ee dw,hM ak dw->(∀b,b<m.next->dw b=ak b)->h2 dw eb ae cI->eW a9 dw N ee->Below a9 w ee->Q e.r9 cI ee)->Code.rounds P c Q j a w:=by
        intro j;induction j with
        |zero=>intro u m a w ak h;simp[lq]at h
        | succ j cB=>
          intro u m a w ak h M aN dt a1;rw[rounds_succ];rcases N3 h with⟨cC,bo,B,H⟩|⟨B,dE⟩
          · have av:=(wx (dz a9) x u m _ cC bo B).1;refine yX pP dz c x F u m _ cC bo B a w ak M aN dt _ λbh da oZ bC cq cZ fR gA=> ?_;exact cB cC bo bh da oZ H cZ fR (nC dt gA.size) λbt fB o0 ez fj gK iB l2=>a1 bt fB o0 (bC.trans ez) (λb K=>(fj b (by omega)).trans (cq b K)) gK iB (gA.trans l2)
          · refine yX pP dz c x F u m _ ae N B a w ak M aN dt _ λbh da oZ bC cq cZ fR gA=> ?_;exact asm (aso dE) (a1 bh da oZ bC cq cZ fR gA)
      exact key n u m a w ak h M aN dt a1
    · cases aK
  | .exit id,sD,aK,u,m,e,ae,N,h,a,w,ak,M,aN,dt,Q,a1=>by cases aK;simp[fx]at h;obtain⟨rfl,rfl,rfl⟩:=h;exact wp_exit (a1 a w ak (hM.refl ak) (λ_ _=>rfl) M aN (Below.refl _ _))
  | .ret,sD,aK,u,m,e,ae,N,h,a,w,ak,M,aN,dt,Q,a1=>by cases aK;simp[fx]at h;obtain⟨rfl,rfl,rfl⟩:=h;exact wp_ret (a1 a w ak (hM.refl ak) (λ_ _=>rfl) M aN (Below.refl _ _))
  | .rangeFunc _ _ _ _,_,aK,_,_,_,_,_,_,_,_,_,_,_,_,_,_=>by cases aK
  | .scope _,_,aK,_,_,_,_,_,_,_,_,_,_,_,_,_,_=>by cases aK
  | .label _,_,aK,_,_,_,_,_,_,_,_,_,_,_,_,_,_=>by cases aK
  | .goto _,_,aK,_,_,_,_,_,_,_,_,_,_,_,_,_,_=>by cases aK
  | .refuse _,_,aK,_,_,_,_,_,_,_,_,_,_,_,_,_,_=>by cases aK
def JT(a:Act):ResultVar->Sem Value
  | .tmp t=>Pure.pure (a.tmps.getD t undef)
  | .cell x t=>do loadVar t (<-asAddr (a.tmps.getD x undef))
theorem W0: ∀(l:List ResultVar) (bf:List nD),AD P eb l=some bf-> ∀{u:aM} {m:E} {a:Act} {w:World} {ak:fC},h2 ak eb u a->eW a9 ak m w->nU m u bf=true->
    ∃dh:List Value,(l.mapM (m:=Sem) (JT a)).run P w= .ok dh w/\dW ak (bf.map (tU m u)) dh
  | [],bf,h,u,m,a,w,ak,M,aN,aA=>by simp[AD]at h;subst h;exact⟨[],by simp,dW.nil ak⟩
  | .tmp t::r,bf,h,u,m,a,w,ak,M,aN,aA=>by
    simp only[AD]at h;split at h
    · rename_i l aE;split at h<;>cases h;simp only[nU,uh,bK]at aA;obtain⟨dh,B,H⟩:=W0 r l aE M aN aA.2;refine⟨a.tmps.getD t undef::dh,?_,dW.cons (M.vV t) H⟩;have rQ:(JT a (.tmp t)).run P w= .ok (a.tmps.getD t undef) w:=rfl;simp only[List.mapM_cons,Sem.run_bind,rQ,Result.andThen_ok,B,Sem.run_pure]
    · cases h
  | .cell x t::r,bf,h,u,m,a,w,ak,M,aN,aA=>by
    simp only[AD]at h;split at h
    · rename_i df n l xS av aE;split at h<;>cases h;simp only[nU,uh,bK,sT,yG,fU]at aA;obtain⟨dh,B,H⟩:=W0 r l aE M aN aA.2;obtain⟨fr,ds,aX,bg,dU,ha⟩:=ad9 aN (M.vV x) aA.1.1 aA.1.2;refine⟨_::dh,?_,dW.cons ha H⟩;have rQ:(JT a (.cell x t)).run P w= .ok (if df then .agg ds.toArray else ds.headD undef) w:=by
        simp only[JT,Sem.run_bind,aX,asAddr,Sem.run_pure,Result.andThen_ok,afr xS av aA.1.2 bg dU]
      simp only[List.mapM_cons,Sem.run_bind,rQ,Result.andThen_ok,B,Sem.run_pure]
    · cases h
theorem aJu{fn:Func}{bf:List nD}(h:AD P eb fn.results.toList=some bf){u:aM}{m:E}{a:Act}{w:World}{ak:fC}(M:h2 ak eb u a)(aN:eW a9 ak m w)(aA:nU m u bf=true):
    ∃v,(results fn a.tmps).run P w= .ok v w/\eY ak (oq m u bf) v:=by
  obtain⟨dh,B,H⟩:=W0 _ _ h M aN aA;refine⟨if h:dh.toArray.size=1 then dh.toArray[0]else .tuple dh.toArray,?_,?_⟩
  · unfold results;simp only[Sem.run_bind];rw[Array.mapM_eq_mapM_toList];simp only[Sem.run_map];have bs:(List.mapM (m:=Sem) (JT a) fn.results.toList).run P w= .ok dh w:=B;change (((Sem.run P (List.mapM (m:=Sem) (JT a) fn.results.toList) w).andThen _).andThen _)=_;rw[bs];rfl
  · have fN:=H.1
    match bf,dh,H,fN with
    |[r],[v],H,_=>exact H.2 0 _ _ rfl rfl
    |[],[],H,_=>exact eY.undef ak
    |[_],[],_,aE=>simp at aE
    |[_],_::_::_,_,aE=>simp at aE
    |[],_::_,_,aE=>simp at aE
    |_::_::_,[],_,aE=>simp at aE
    |_::_::_,[_],_,aE=>simp at aE
    | eT::fk::bf,uc::wa::dh,H,_=>simp only[oq,List.size_toArray,nB];rw[dif_neg (by omega)];exact H.tuple
theorem auS{f:Nat}{z:cR}(h:cO P f=some z): ∃fn c,P.funcs[f]?=some fn∧fn.body=some c∧(fn.name== "runtime.NumGoroutine")=false∧uv P fn.ntmps c=some z.body∧AD P fn.ntmps fn.results.toList=some z.rm∧z.eb=fn.ntmps:=by
  unfold cO at h;split at h
  · rename_i fn H3;split at h
    · cases h
    · rename_i nJ;split at h
      · rename_i c aK;split at h
        · rename_i b bf K aH;cases h;exact⟨fn,c,H3,aK,by simpa using nJ,K,aH,rfl⟩
        · cases h
      · cases h
  · cases h
theorem aAm{ak:fC}{args:List Value}{sk:Array Value}(h:dW ak args sk.toList)(fM:args.length<=eb):h2 ak eb (eX args) {tmps:=sk++Array.replicate (eb-sk.size) undef,defers:=[]}:=by
  have aE:sk.size=args.length:=by have:=h.1;simp at this;exact this.symm
  refine⟨by simp;omega,rfl,λt=> ?_⟩;simp only[eX];rw[mr,Array.getD_eq_getD_getElem?];by_cases bm:t<args.length
  · obtain⟨y,ab,x4⟩:=h.U (c0 bm);rw[c0 bm,Wq (by omega)];rw[Pu]at ab;rw[ab];exact x4
  · rw[Ai (by omega)];rw[Array.getElem?_append_right (by omega),Array.getElem?_replicate];split<;>exact eY.undef ak
theorem ahV(pP:P.follows .mixedOrders=true): ∀k a9,ta P a9 (lA P k)
  |0,a9,f,args,m,r,N,h=>by simp[lA]at h
  | k+1,a9,f,args,m,r,N,h=>by
    have cB:=ahV pP k;have azJ: ∀id x,id<m.next->m.U id=none->lA P (k+1) f args (m.an id x)=some (r,N.an id x):= λid x B H=>by obtain⟨hs,aj,ba⟩:=WC.KV (k+1) x f args m r N h (m.an id x) ⟨rfl,B,H⟩;rw[aj,ba.eq]
    simp only[lA]at h;split at h
    · rename_i z dD;obtain⟨fn,c,B,H,af,aL,cm,dK⟩:=auS dD;split at h
      · rename_i fM
        have tO: ∀(e:dp) (ae:aM) (bo:E),fx (lA P k) k z.body (eX args) m=some (e,ae,bo)->(∀id,e≠ .bw id)->nU bo ae z.rm=true->oq bo ae z.rm=r->bo=N->
            Kw P f/\m.next<=N.next/\(∀b,b<m.next->m.U b=none->N.U b=none)/\
            (∀id x,id<m.next->m.U id=none->lA P (k+1) f args (m.an id x)=some (r,N.an id x))/\
            ∀ ak w (sk:Array Value),dW ak args sk.toList->eW a9 ak m w->a9<=w.heap.size->
              Calls P f sk w λe ee=> ∃v dw,e= .returned v/\hM ak dw/\(∀b,b<m.next->dw b=ak b)/\eY dw r v/\eW a9 dw N ee/\Below a9 w ee:=by
          intro e ae bo nH dE aA aH zj;subst aH;subst zj;have nJ:=wx (cB a9) z.body _ _ _ _ _ nH;refine⟨⟨fn,B,by rw[H];rfl,af⟩,nJ.1,nJ.2,azJ,λak w sk aC aN dt=> ?_⟩;refine calls_of_wp B H ?_;rw[dK]at fM;refine yX pP cB c z.body aL (eX args) m e ae bo nH _ w ak (aAm aC fM) aN dt _ λcI ee dw bC cq cZ fR gA=> ?_;obtain⟨v,aj,ba⟩:=aJu cm cZ fR aA
          have aj5:cI.defers=[]/\ ∃v,(results fn cI.tmps).run P ee= .ok v ee/\(λ(e:Ending) (ee:World)=> ∃v dw,e= .returned v/\hM ak dw/\(∀b,b<m.next->dw b=ak b)/\eY dw (oq bo ae z.rm) v/\eW a9 dw bo ee/\Below a9 w ee) (.returned v) ee:=
            ⟨cZ.defers,v,aj,v,dw,rfl,bC,cq,ba,fR,gA⟩
          cases e with
          |gu=>exact aj5
          |aT=>exact aj5
          |bw id=>exact absurd rfl (dE id)
        split at h
        · cases h
        · rename_i e ae bo dE nH;split at h
          · rename_i aA;cases h;exact tO e ae N nH (λid a2=>dE id a2) aA rfl rfl
          · cases h
        · cases h
      · cases h
    · cases h
end
section aD
variable {dj Cx:Callee}
def PB(dj Cx:Callee):Prop:= ∀f a m r,dj f a m=some r->Cx f a m=some r
theorem aLC(h:PB dj Cx){base:Nat}{o:cd}{u:aM}{m:E}{r:aM×E}(M:iX dj base o u m=some r):iX Cx base o u m=some r:=by
  unfold iX at M⊢;by_cases aS:fY u o.g=true
  · rw[if_pos aS]at M⊢;cases aK:o.k.gM u m with
    |none=>rw[aK]at M;exact M
    | some mT=>
      obtain⟨f,args⟩:=mT;rw[aK]at M;simp only at M⊢;cases bs:dj f args m with
      |none=>rw[bs]at M;cases M
      |some Kj=>rw[bs]at M;rw[h _ _ _ _ bs];exact M
  · rw[if_neg aS]at M⊢;exact M
theorem GV(h:PB dj Cx){base:Nat}: ∀{L:List cd} {u:aM} {m:E} {r:aM×E},lL dj base L u m=some r->lL Cx base L u m=some r
  |[],_,_,_,M=>M
  | _::_,_,_,_,M=>by obtain⟨cC,bo,B,H,af⟩:=uY M;exact BY (aLC h B) H (GV h af)
theorem UC{f g:aM->E->Option (dp×aM×E)}(h: ∀u m r,f u m=some r->g u m=some r): ∀{n cz:Nat} {u:aM} {m:E} {r:dp×aM×E},n<=cz->lq f n u m=some r->lq g cz u m=some r
  |0,_,_,_,_,_,M=>by simp[lq]at M
  |n+1,0,_,_,_,av,_=>by omega
  | n+1,cz+1,u,m,r,av,M=>by
    rcases N3 M with⟨cC,bo,B,H⟩|⟨B,H⟩
    · simp only[lq,h _ _ _ B];exact UC h (by omega) H
    · obtain⟨eT,fk,hB⟩:=r;simp only[lq,h _ _ _ B];cases eT with
      |gu=>exact absurd rfl H
      |bw id=>rfl
      |aT=>rfl
theorem y2(h:PB dj Cx){n cz:Nat}(av:n<=cz): ∀{c:J} {u:aM} {m:E} {r:dp×aM×E},fx dj n c u m=some r->fx Cx cz c u m=some r
  | .skip,_,_,_,M=>M
  | .G ops,u,m,r,M=>by
    simp only[fx]at M⊢;split at M
    · rename_i aH;rw[GV h aH];exact M
    · cases M
  | .w1 cj o b4,u,m,r,M=>by
    simp only[fx]at M⊢;split at M
    · rename_i B;split at M
      · rename_i aA;split at M
        · rename_i H;rw[GV h B];simp only[aA,if_true,GV h H];exact M
        · cases M
      · cases M
    · cases M
  | .D a b,u,m,r,M=>by
    simp only[fx]at M⊢;split at M
    · rename_i B;rw[y2 h av B];exact y2 h av M
    · rename_i dE;rw[y2 h av M];obtain⟨eT,fk,hB⟩:=r;cases eT with
      |gu=>exact absurd M (dE _ _)
      |bw id=>rfl
      |aT=>rfl
  | .a8 x a b,u,m,r,M=>by
    simp only[fx]at M⊢;split at M
    · rename_i B;rw[if_pos B];split at M
      · rename_i H;rw[if_pos H];exact y2 h av M
      · rename_i H;rw[if_neg H];exact y2 h av M
    · cases M
  | .block id c,u,m,r,M=>by
    simp only[fx]at M⊢;split at M
    · rename_i B;rw[y2 h av B];exact M
    · rename_i dE;rw[y2 h av M];obtain⟨eT,fk,hB⟩:=r;cases eT with
      |gu=>rfl
      |bw id=>exact absurd M (dE _ _ _)
      |aT=>rfl
  | .loop c,u,m,r,M=>by simp only[fx]at M⊢;exact UC (λu m r B=>y2 h av B) av M
  | .bw id,_,_,_,M=>M
  | .aT,_,_,_,M=>M
theorem Cv{P:Program}: ∀{n cz:Nat},n<=cz->PB (lA P n) (lA P cz)
  |0,_,_=> λf a m r h=>by simp[lA]at h
  |n+1,0,av=>by omega
  | n+1,cz+1,av=> λf a m r h=>by
    simp only[lA]at h⊢;split at h
    · rename_i z dD;split at h
      · rename_i fM;rw[if_pos fM];split at h
        · cases h
        · rename_i e ae N dE nH;rw[y2 (Cv (by omega:n<=cz)) (by omega:n<=cz) nH];cases e with
          |gu=>exact h
          |aT=>exact h
          |bw id=>exact absurd rfl (dE id)
        · cases h
      · cases h
    · cases h
end aD
section wp
variable (P:Program)
def bU(f:Nat)(args:List Value)(m:E)(aI:Value->E->Prop):Prop:= ∃n r N,lA P n f args m=some (r,N)/\aI r N
def cH(c:J)(u:aM)(m:E)(Q:dp->aM->E->Prop):Prop:= ∃n e ae N,fx (lA P n) n c u m=some (e,ae,N)/\Q e ae N
def gW(base:Nat)(ops:List cd)(u:aM)(m:E)(aU:aM->E->Prop):Prop:= ∃n ae N,lL (lA P n) base ops u m=some (ae,N)/\aU ae N
def tY(b:J)(Q:dp->aM->E->Prop)(e:dp)(u:aM)(m:E):Prop:=match e with| .gu=>cH P b u m Q|e=>Q e u m
def tj(id:Nat)(Q:dp->aM->E->Prop)(e:dp)(u:aM)(m:E):Prop:=match e with| .bw lV=>if lV=id then Q .gu u m else Q (.bw lV) u m|e=>Q e u m
def UL(c:J)(Q:dp->aM->E->Prop)(e:dp)(u:aM)(m:E):Prop:=match e with| .gu=>cH P (.loop c) u m Q|e=>Q e u m
def eU(bf:List nD)(aI:Value->E->Prop)(e:dp)(u:aM)(m:E):Prop:=match e with| .bw _=>False|_=>nU m u bf=true/\aI (oq m u bf) m
def AE(base:Nat)(d:Option Nat)(bI:List (Operand×Operand))(b4:List cd)(u:aM)(m:E)(aU:aM->E->Prop)(r:Value)(N:E):Prop:=yk u bI m N/\gW P base b4 (dO u d r) N aU
variable {P} {u:aM} {m:E} {Q:dp->aM->E->Prop}
theorem asl{b:J}:tY P b Q .gu u m=cH P b u m Q:=rfl
theorem aLR{b:J}{id:Nat}:tY P b Q (.bw id) u m=Q (.bw id) u m:=rfl
theorem aLS{b:J}:tY P b Q .aT u m=Q .aT u m:=rfl
theorem auJ{id:Nat}:tj id Q .gu u m=Q .gu u m:=rfl
theorem P2{id lV:Nat}:tj id Q (.bw lV) u m=if lV=id then Q .gu u m else Q (.bw lV) u m:=rfl
theorem auK{id:Nat}:tj id Q .aT u m=Q .aT u m:=rfl
theorem apX{c:J}:UL P c Q .gu u m=cH P (.loop c) u m Q:=rfl
theorem aG1{c:J}{id:Nat}:UL P c Q (.bw id) u m=Q (.bw id) u m:=rfl
theorem aG2{c:J}:UL P c Q .aT u m=Q .aT u m:=rfl
theorem aJv{z:List nD}{aI:Value->E->Prop}:eU z aI .gu u m=(nU m u z=true/\aI (oq m u z) m):=rfl
theorem aJw{z:List nD}{aI:Value->E->Prop}:eU z aI .aT u m=(nU m u z=true/\aI (oq m u z) m):=rfl
theorem HF{n cz:Nat}(h:n<=cz){c:J}{r:dp×aM×E}(M:fx (lA P n) n c u m=some r):fx (lA P cz) cz c u m=some r:=y2 (Cv h) h M
theorem as3:cH P .skip u m Q=Q .gu u m:=by refine propext ⟨λ⟨n,e,ae,N,h,q⟩=> ?_,λh=>⟨0,_,_,_,rfl,h⟩⟩;cases h;exact q
theorem asX{id:Nat}:cH P (.bw id) u m Q=Q (.bw id) u m:=by refine propext ⟨λ⟨n,e,ae,N,h,q⟩=> ?_,λh=>⟨0,_,_,_,rfl,h⟩⟩;cases h;exact q
theorem as1:cH P .aT u m Q=Q .aT u m:=by refine propext ⟨λ⟨n,e,ae,N,h,q⟩=> ?_,λh=>⟨0,_,_,_,rfl,h⟩⟩;cases h;exact q
theorem as0{ops:List cd}:cH P (.G ops) u m Q=gW P m.next ops u (kK ops m) (Q .gu):=by
  refine propext ⟨λ⟨n,e,ae,N,h,q⟩=> ?_,λ⟨n,ae,N,h,q⟩=>⟨n,.gu,ae,N,by simp only[fx,h],q⟩⟩;simp only[fx]at h;split at h
  · rename_i aH;cases h;exact⟨n,_,_,aH,q⟩
  · cases h
def Oc(o:cd)(Q:dp->aM->E->Prop)(id:Nat)(cC:aM)(bo:E)(ev:aM)(cc:E):Prop:=Q .gu ev ((o.k.iH id cC bo).bx (cc.next-bo.next))
theorem asY{cj:List cd}{o:cd}{b4:List cd}:cH P (.w1 cj o b4) u m Q=gW P m.next cj u (m.bx (cj.length+(b4.length+1))) λcC bo=>
    pX o cC bo=true/\gW P m.next b4 (dO cC o.d (o.k.val (m.next+o.bb) cC bo)) (qq bo) (Oc o Q (m.next+o.bb) cC bo):=by
  refine propext ⟨λ⟨n,e,ae,N,h,q⟩=> ?_,λ⟨n,cC,bo,h,aA,dV,ev,cc,H,q⟩=>⟨max n dV,.gu,ev,_,by simp only[fx,GV (Cv (Nat.le_max_left n dV)) h,aA,if_true,GV (Cv (Nat.le_max_right n dV)) H],q⟩⟩;simp only[fx]at h;split at h
  · rename_i cC bo B;split at h
    · rename_i aA;split at h
      · rename_i ev cc H;cases h;exact⟨n,cC,bo,B,aA,n,_,cc,H,q⟩
      · cases h
    · cases h
  · cases h
theorem as2{a b:J}:cH P (.D a b) u m Q=cH P a u m (tY P b Q):=by
  refine propext ⟨λ⟨n,e,ae,N,h,q⟩=> ?_,λ⟨n,e,ae,N,h,q⟩=> ?_⟩
  · simp only[fx]at h;split at h
    · rename_i cC bo B;exact⟨n,.gu,cC,bo,B,n,e,ae,N,h,q⟩
    · rename_i dE;refine⟨n,e,ae,N,h,?_⟩;cases e with
      |gu=>exact absurd h (dE _ _)
      |bw id=>exact q
      |aT=>exact q
  · cases e with
    | gu=>obtain⟨dV,bg,ev,cc,H,cq⟩:=q;refine⟨max n dV,bg,ev,cc,?_,cq⟩;simp only[fx,HF (Nat.le_max_left n dV) h];exact HF (Nat.le_max_right n dV) H
    |bw id=>exact⟨n,_,ae,N,by simp only[fx,h],q⟩
    |aT=>exact⟨n,_,ae,N,by simp only[fx,h],q⟩
theorem asW{c:Operand}{a b:J}:cH P (.a8 c a b) u m Q=(wU (ad u c)=true/\if yT (ad u c)=true then cH P a u m Q else cH P b u m Q):=by
  refine propext ⟨λ⟨n,e,ae,N,h,q⟩=> ?_,λ⟨B,H⟩=> ?_⟩
  · simp only[fx]at h;split at h
    · rename_i B;refine⟨B,?_⟩;split at h
      · rename_i H;rw[if_pos H];exact⟨n,e,ae,N,h,q⟩
      · rename_i H;rw[if_neg H];exact⟨n,e,ae,N,h,q⟩
    · cases h
  · split at H
    · rename_i af;obtain⟨n,e,ae,N,h,q⟩:=H;exact⟨n,e,ae,N,by simp only[fx,if_pos B,if_pos af,h],q⟩
    · rename_i af;obtain⟨n,e,ae,N,h,q⟩:=H;exact⟨n,e,ae,N,by simp only[fx,if_pos B,if_neg af,h],q⟩
theorem asV{id:Nat}{c:J}:cH P (.block id c) u m Q=cH P c u m (tj id Q):=by
  refine propext ⟨λ⟨n,e,ae,N,h,q⟩=> ?_,λ⟨n,e,ae,N,h,q⟩=> ?_⟩
  · simp only[fx]at h;split at h
    · rename_i lV cC bo B;refine⟨n,.bw lV,cC,bo,B,?_⟩;rw[P2];split at h
      · rename_i a2;cases h;rw[if_pos a2];exact q
      · rename_i a2;cases h;rw[if_neg a2];exact q
    · rename_i dE;refine⟨n,e,ae,N,h,?_⟩;cases e with
      |gu=>exact q
      |bw lV=>exact absurd h (dE _ _ _)
      |aT=>exact q
  · cases e with
    |gu=>exact⟨n,.gu,ae,N,by simp only[fx,h],q⟩
    |aT=>exact⟨n,.aT,ae,N,by simp only[fx,h],q⟩
    | bw lV=>
      rw[P2]at q;split at q
      · rename_i a2;exact⟨n,.gu,ae,N,by simp only[fx,h,if_pos a2],q⟩
      · rename_i a2;exact⟨n,.bw lV,ae,N,by simp only[fx,h,if_neg a2],q⟩
theorem asZ{c:J}:cH P (.loop c) u m Q=cH P c u m (UL P c Q):=by
  refine propext ⟨λ⟨n,e,ae,N,h,q⟩=> ?_,λ⟨n,e,ae,N,h,q⟩=> ?_⟩
  · simp only[fx]at h;cases n with
    |zero=>simp[lq]at h
    | succ n=>
      rcases N3 h with⟨cC,bo,B,H⟩|⟨B,H⟩
      · refine⟨n+1,.gu,cC,bo,B,n+1,e,ae,N,?_,q⟩;simp only[fx];exact UC (λ_ _ _ h=>h) (by omega) H
      · refine⟨n+1,e,ae,N,B,?_⟩;cases e with
        |gu=>exact absurd rfl H
        |bw id=>exact q
        |aT=>exact q
  · cases e with
    | gu=>obtain⟨dV,bg,ev,cc,H,cq⟩:=q;refine⟨max n dV+1,bg,ev,cc,?_,cq⟩;simp only[fx]at H⊢;have B:fx (lA P (max n dV+1)) (max n dV+1) c u m=some (.gu,ae,N):=HF (by omega) h;simp only[lq,B];exact UC (λ_ _ _ h=>HF (by omega) h) (by omega) H
    |bw id=>exact⟨n+1,_,ae,N,by simp only[fx,lq];rw[HF (by omega:n<=n+1) h],q⟩
    |aT=>exact⟨n+1,_,ae,N,by simp only[fx,lq];rw[HF (by omega:n<=n+1) h],q⟩
theorem fK{f:Nat}{args:List Value}{aI:Value->E->Prop}{z:cR}(dD:cO P f=some z)(aE:args.length<=z.eb):bU P f args m aI=cH P z.body (eX args) m (eU z.rm aI):=by
  refine propext ⟨λ⟨n,r,N,h,q⟩=> ?_,λ⟨n,e,ae,N,h,q⟩=> ?_⟩
  · cases n with
    |zero=>simp[lA]at h
    | succ n=>
      simp only[lA,dD,if_pos aE]at h;split at h
      · cases h
      · rename_i e ae bo dE nH;split at h
        · rename_i aA;cases h;refine⟨n,e,ae,N,nH,?_⟩;cases e with
          |gu=>exact⟨aA,q⟩
          |aT=>exact⟨aA,q⟩
          |bw id=>exact absurd rfl (dE id)
        · cases h
      · cases h
  · cases e with
    |gu=>exact⟨n+1,_,N,by simp only[lA,dD,if_pos aE,h,q.1,if_true],q.2⟩
    |aT=>exact⟨n+1,_,N,by simp only[lA,dD,if_pos aE,h,q.1,if_true],q.2⟩
    |bw id=>exact q.elim
def oB(P:Program)(f:Nat)(args:List Value)(m:E)(r:Value)(N:E):Prop:= ∃n,lA P n f args m=some (r,N)
theorem oB.wp{f:Nat}{args:List Value}{r:Value}{N:E}(h:oB P f args m r N){aI:Value->E->Prop}:bU P f args m aI=aI r N:=by obtain⟨n,av⟩:=h;refine propext ⟨λ⟨cz,hy,GA,b6,q⟩=> ?_,λq=>⟨n,r,N,av,q⟩⟩;have B:=Cv (Nat.le_max_left n cz) _ _ _ _ av;have H:=Cv (Nat.le_max_right n cz) _ _ _ _ b6;rw[B]at H;cases H;exact q
theorem oB.r5{f:Nat}{args:List Value}{r:Value}{N:E}(h:bU P f args m λhy GA=>hy=r/\GA=N):oB P f args m r N:=by obtain⟨n,hy,GA,B,rfl,rfl⟩:=h;exact⟨n,B⟩
theorem bU.aT{f:Nat}{args:List Value}{aI:Value->E->Prop}(h:bU P f args m aI): ∃r N,oB P f args m r N/\aI r N:=by obtain⟨n,r,N,B,q⟩:=h;exact⟨r,N,⟨n,B⟩,q⟩
theorem bU.aD{f:Nat}{args:List Value}{aI jR:Value->E->Prop}(h:bU P f args m aI)(bz: ∀r N,aI r N->jR r N):bU P f args m jR:=by obtain⟨n,r,N,B,q⟩:=h;exact⟨n,r,N,B,bz _ _ q⟩
theorem cH.aD{c:J}{Cn:dp->aM->E->Prop}(h:cH P c u m Q)(bz: ∀e ae N,Q e ae N->Cn e ae N):cH P c u m Cn:=by obtain⟨n,e,ae,N,B,q⟩:=h;exact⟨n,e,ae,N,B,bz _ _ _ q⟩
variable {aU:aM->E->Prop} {base bb:Nat} {b4:List cd} {d:Option Nat} {g:Option (Nat×Bool)} {bI:List (Operand×Operand)}
theorem as8:gW P base [] u m aU=aU u m:=by refine propext ⟨λ⟨n,ae,N,h,q⟩=> ?_,λh=>⟨0,_,_,rfl,h⟩⟩;cases h;exact q
theorem aKi{n cz:Nat}(h:n<=cz){L:List cd}{r:aM×E}(M:lL (lA P n) base L u m=some r):lL (lA P cz) base L u m=some r:=GV (Cv h) M
theorem oW{k:al}(aa:k.mj=false):gW P base (⟨bb,d,none,k,bI⟩::b4) u m aU=(k.ok u m=true/\mb u bI=true/\gW P base b4 (dO u d (k.val (base+bb) u m)) (k.iH (base+bb) u m) aU):=by
  have hQ:k.gM u m=none:=vF aa;refine propext ⟨λ⟨n,ae,N,h,q⟩=> ?_,λ⟨B,H,n,ae,N,af,q⟩=> ?_⟩
  · obtain⟨cC,bo,B,H,af⟩:=uY h;obtain⟨aA,e⟩:=agH (o:=⟨bb,d,none,k,bI⟩) rfl hQ B;cases e;have aL:=H rfl;simp only[hQ]at aL;exact⟨aA,aL,n,ae,N,af,q⟩
  · refine⟨n,ae,N,BY (asa (o:=⟨bb,d,none,k,bI⟩) rfl hQ B) (λ_=> ?_) af,q⟩;simp only[hQ];exact H
theorem as7{k:al}{t:Nat}{b:Bool}:gW P base (⟨bb,d,some (t,b),k,bI⟩::b4) u m aU=if fY u (some (t,b))=true then gW P base (⟨bb,d,none,k,bI⟩::b4) u m aU else gW P base b4 (dO u d undef) m aU:=by
  split
  · rename_i aS;have rR: ∀dj:Callee,iX dj base ⟨bb,d,some (t,b),k,bI⟩ u m=iX dj base ⟨bb,d,none,k,bI⟩ u m:= λdj=>by
      unfold iX;simp only[aS,if_true,show fY u none=true from rfl]
    have H0: ∀N,rF ⟨bb,d,some (t,b),k,bI⟩ u m N↔rF ⟨bb,d,none,k,bI⟩ u m N:= λN=>⟨λh _=>h aS,λh _=>h rfl⟩;refine propext ⟨λ⟨n,ae,N,h,q⟩=> ?_,λ⟨n,ae,N,h,q⟩=> ?_⟩
    · obtain⟨cC,bo,B,H,af⟩:=uY h;exact⟨n,ae,N,BY (by rw[<-rR];exact B) ((H0 _).1 H) af,q⟩
    · obtain⟨cC,bo,B,H,af⟩:=uY h;exact⟨n,ae,N,BY (by rw[rR];exact B) ((H0 _).2 H) af,q⟩
  · rename_i aS;have vA:fY u (some (t,b))=false:=(by simpa using aS);refine propext ⟨λ⟨n,ae,N,h,q⟩=> ?_,λ⟨n,ae,N,h,q⟩=> ?_⟩
    · obtain⟨cC,bo,B,H,af⟩:=uY h;rw[Eg (o:=⟨bb,d,some (t,b),k,bI⟩) vA]at B;cases B;exact⟨n,ae,N,af,q⟩
    · exact⟨n,ae,N,BY (Eg (o:=⟨bb,d,some (t,b),k,bI⟩) vA) (λh=>absurd h aS) h,q⟩
theorem as5{k:al}{f:Nat}{args:List Value}(hQ:k.gM u m=some (f,args)):gW P base (⟨bb,d,none,k,bI⟩::b4) u m aU=bU P f args m (AE P base d bI b4 u m aU):=by
  refine propext ⟨λ⟨n,ae,N,h,q⟩=> ?_,λ⟨n,r,bo,h,B,dV,ev,cc,H,q⟩=> ?_⟩
  · obtain⟨cC,bo,B,H,af⟩:=uY h;obtain⟨v,cc,aj,ba⟩:=J5 (o:=⟨bb,d,none,k,bI⟩) rfl hQ B;cases ba;have aL:=H rfl;simp only[hQ]at aL;exact⟨n,v,_,aj,aL,n,ae,N,af,q⟩
  · refine⟨max n dV,ev,cc,BY (Pb (o:=⟨bb,d,none,k,bI⟩) rfl hQ (Cv (Nat.le_max_left n dV) _ _ _ _ h)) (λ_=> ?_) (aKi (Nat.le_max_right n dV) H),q⟩;simp only[hQ];exact B
theorem as4{f:Nat}{a1i:List Operand}:gW P base (⟨bb,d,none,.gl f a1i,bI⟩::b4) u m aU=bU P f (a1i.map (ad u)) m (AE P base d bI b4 u m aU):=as5 rfl
theorem as6{x:Operand}{a1i:List Operand}{f:Nat}{first lB:Array Value}(h:ad u x= .func (.func f) first lB):
    gW P base (⟨bb,d,none,.ln x a1i,bI⟩::b4) u m aU=bU P f (first.toList++a1i.map (ad u)++lB.toList) m (AE P base d bI b4 u m aU):=as5 (by simp only[al.gM,h])
theorem KU{r:Value}{N:E}:AE P base d [] b4 u m aU r N=gW P base b4 (dO u d r) N aU:=by simp[AE,yk]
theorem awc:mb u []=true:=rfl
end wp
theorem eW.empty{a9:Nat}{w:World}:eW a9 (λ_=>none) ⟨0,λ_=>none,λ_=>none⟩ w where
  qU:= λ_ _ h=>by cases h
  oO:= λ_ _ h=>by cases h
  ph:= λb x h=>by unfold E.U at h;split at h<;>cases h
  vp:= λb x b7 hY l eZ h=>by unfold E.U at h;split at h<;>cases h
  yn:= λ_ _ h=>by cases h
  jB:= λb bJ h=>by simp only[E.fg,E.U,Nat.not_lt_zero,if_false]at h;cases h
open Go
def xE(s:ByteArray)(i:Nat):Int:=((s.data.toList.getD i 0).toNat:Nat)
def aqa(gJ:mu)(m:E)(x k:Value):Bool:=match ml m x with
  |some bJ=>mD gJ k bJ
  |none=>false
def aqb(zero:Value)(o:Bool)(m:E)(x k:Value):Value:=
  if o then .tuple #[((ml m x).bind (jY k)).getD zero,.bool ((ml m x).bind (jY k)).isSome]else((ml m x).bind (jY k)).getD zero
def aqg(gJ:mu)(m:E)(x k v:Value):Bool:=match x with
  | .map (some b)=>(match m.fg b with
    |some bJ=>mD gJ k bJ&&au v
    |none=>false)
  |_=>false
def aqf(m:E)(x k v:Value):E:=m.hx (DN x) (m2 k v ((m.fg (DN x)).getD []))
@[simp] theorem aUi{gJ:mu}{m:E}{b:Nat}{k:Value}:aqa gJ m (.map (some b)) k=(match m.fg b with|some bJ=>mD gJ k bJ|none=>false):=rfl
@[simp] theorem aUj{O:Value}{o:Bool}{m:E}{b:Nat}{k:Value}:aqb O o m (.map (some b)) k=if o then .tuple #[((m.fg b).bind (jY k)).getD O,.bool ((m.fg b).bind (jY k)).isSome]else((m.fg b).bind (jY k)).getD O:=rfl
@[simp] theorem aUl{gJ:mu}{m:E}{b:Nat}{k v:Value}:aqg gJ m (.map (some b)) k v=(match m.fg b with|some bJ=>mD gJ k bJ&&au v|none=>false):=rfl
@[simp] theorem aUk{m:E}{b:Nat}{k v:Value}:aqf m (.map (some b)) k v=m.hx b (m2 k v ((m.fg b).getD [])):=rfl
attribute [simp] as3 asX as1 as0 as2 asW asV asl aLR aLS auJ P2 auK apX aG1 aG2 aJv aJw
  as8 as7 as4 KU awc
section
variable {P:Program} {base bb:Nat} {d:Option Nat} {b4:List cd} {u:aM} {m:E} {aU:aM->E->Prop} {bI:List (Operand×Operand)}
@[simp] theorem a0S(x:Operand):gW P base (⟨bb,d,none,.pk x,bI⟩::b4) u m aU=(mb u bI=true/\gW P base b4 (dO u d (ad u x)) (m) aU):=by rw[oW rfl];simp only[al.ok,true_and];try rfl
@[simp] theorem a0T(c a b:Operand):gW P base (⟨bb,d,none,.tR c a b,bI⟩::b4) u m aU=(wU (ad u c)=true/\mb u bI=true/\gW P base b4 (dO u d (if yT (ad u c)=true then ad u a else ad u b)) (m) aU):=by rw[oW rfl];rfl
@[simp] theorem a0C(O:List Value):gW P base (⟨bb,d,none,.eC O,bI⟩::b4) u m aU=(mb u bI=true/\gW P base b4 (dO u d (.pointer (some ⟨base+bb,0,none⟩))) (m.an (base+bb) (some ⟨O,true⟩)) aU):=by rw[oW rfl];simp only[al.ok,true_and];try rfl
@[simp] theorem a0F(x:Operand):gW P base (⟨bb,d,none,.pK x,bI⟩::b4) u m aU=(aB (ad u x)=true/\mb u bI=true/\gW P base b4 (dO u d (.pointer (some ⟨base+bb,0,none⟩))) (m.an (base+bb) (some ⟨ao (ad u x),true⟩)) aU):=by rw[oW rfl];rfl
@[simp] theorem a0H(O:List Value)(en:List (Nat×Nat×Operand)):gW P base (⟨bb,d,none,.hg O en,bI⟩::b4) u m aU=(sP O u en=true/\mb u bI=true/\gW P base b4 (dO u d (.agg (oo O u en).toArray)) (m) aU):=by rw[oW rfl];rfl
@[simp] theorem a0G(O n:Nat)(cs:List Value)(en:List (Nat×Nat×Operand)):gW P base (⟨bb,d,none,.jx O n cs en,bI⟩::b4) u m aU=(sP cs u en=true/\mb u bI=true/\gW P base b4 (dO u d (.slice (some ⟨base+bb,0,none⟩) n O)) (m.an (base+bb) (some ⟨oo cs u en,true⟩)) aU):=by rw[oW rfl];rfl
@[simp] theorem a0Q(df:Bool)(n:Nat)(x:Operand):gW P base (⟨bb,d,none,.fu df n x,bI⟩::b4) u m aU=((g8 m (ad u x) n&&(df||decide (n=1)))=true/\mb u bI=true/\gW P base b4 (dO u d (k4 m df n (ad u x))) (m) aU):=by rw[oW rfl];rfl
@[simp] theorem a0W(n:Nat)(x v:Operand):gW P base (⟨bb,d,none,.store n x v,bI⟩::b4) u m aU=((g8 m (ad u x) n&&sj m (ad u x)&&aB (ad u v)&&decide ((ao (ad u v)).length=n))=true/\mb u bI=true/\gW P base b4 (dO u d (undef)) (rq m (ad u x) (ao (ad u v))) aU):=by rw[oW rfl];rfl
@[simp] theorem a0E(op:BinOp)(c:xB)(x y:Operand):gW P base (⟨bb,d,none,.gL op c x y,bI⟩::b4) u m aU=(vg op c (ad u x) (ad u y)=true/\mb u bI=true/\gW P base b4 (dO u d (ng op (ad u x) (ad u y))) (m) aU):=by rw[oW rfl];rfl
@[simp] theorem a0X(op:UnOp)(x:Operand):gW P base (⟨bb,d,none,.oU op x,bI⟩::b4) u m aU=(Ca op (ad u x)=true/\mb u bI=true/\gW P base b4 (dO u d (G9 op (ad u x))) (m) aU):=by rw[oW rfl];rfl
@[simp] theorem a0J(k:IntKind)(x:Operand):gW P base (⟨bb,d,none,.yY k x,bI⟩::b4) u m aU=(gi (ad u x)=true/\mb u bI=true/\gW P base b4 (dO u d (.int k (k.wrap (gy (ad u x))))) (m) aU):=by rw[oW rfl];rfl
@[simp] theorem a0V(O:Nat)(x:Operand)(cK ag:Option Operand):gW P base (⟨bb,d,none,.qI O x cK ag,bI⟩::b4) u m aU=((al.qI O x cK ag).ok u m=true/\mb u bI=true/\gW P base b4 (dO u d (ou (ad u x) O (hT u cK 0).toNat (hT u ag (ib (ad u x))).toNat)) (m) aU):=by rw[oW rfl];try rfl
@[simp] theorem a0R(O bytes:Nat)(mO:List Value)(l c:Operand):gW P base (⟨bb,d,none,.nN O bytes mO l c,bI⟩::b4) u m aU=((al.nN O bytes mO l c).ok u m=true/\mb u bI=true/\gW P base b4 (dO u d (.slice (some ⟨base+bb,0,none⟩) (gy (ad u l)).toNat O)) (m.an (base+bb) (some ⟨(List.replicate (gy (ad u l)).toNat mO).flatten,true⟩)) aU):=by rw[oW rfl];try rfl
@[simp] theorem a0L(off:Nat)(x:Operand):gW P base (⟨bb,d,none,.vq off x,bI⟩::b4) u m aU=(tS (ad u x)=true/\mb u bI=true/\gW P base b4 (dO u d (z2 (ad u x) off)) (m) aU):=by rw[oW rfl];rfl
@[simp] theorem a0M(O:Nat)(x i:Operand):gW P base (⟨bb,d,none,.sC O x i,bI⟩::b4) u m aU=((kr O (ad u x)&&gi (ad u i)&&decide (0<=gy (ad u i))&&decide (gy (ad u i)<ib (ad u x)))=true/\mb u bI=true/\gW P base b4 (dO u d (mH (ad u x) O (gy (ad u i)))) (m) aU):=by rw[oW rfl];rfl
@[simp] theorem a0N(x i:Operand):gW P base (⟨bb,d,none,.x5 x i,bI⟩::b4) u m aU=((nq (ad u x)&&gi (ad u i)&&decide (0<=gy (ad u i))&&decide (gy (ad u i)<ib (ad u x)))=true/\mb u bI=true/\gW P base b4 (dO u d (.int .u8 (xE (ve (ad u x)) (gy (ad u i)).toNat))) (m) aU):=by rw[oW rfl];rfl
@[simp] theorem a0K(i:Nat)(x:Operand):gW P base (⟨bb,d,none,.ext i x,bI⟩::b4) u m aU=(G7 (ad u x) i=true/\mb u bI=true/\gW P base b4 (dO u d (Ej (ad u x) i)) (m) aU):=by rw[oW rfl];rfl
@[simp] theorem a0O(x:Operand):gW P base (⟨bb,d,none,.w3 x,bI⟩::b4) u m aU=(nq (ad u x)=true/\mb u bI=true/\gW P base b4 (dO u d (.int .i64 (ib (ad u x)))) (m) aU):=by rw[oW rfl];rfl
@[simp] theorem a0P(x:Operand):gW P base (⟨bb,d,none,.vO x,bI⟩::b4) u m aU=(zD (ad u x)=true/\mb u bI=true/\gW P base b4 (dO u d (.int .i64 (ib (ad u x)))) (m) aU):=by rw[oW rfl];rfl
@[simp] theorem a0D(O bytes:Nat)(x y:Operand):gW P base (⟨bb,d,none,.app O bytes x y,bI⟩::b4) u m aU=((al.app O bytes x y).ok u m=true/\mb u bI=true/\gW P base b4 (dO u d ((al.app O bytes x y).val (base+bb) u m)) ((al.app O bytes x y).iH (base+bb) u m) aU):=by rw[oW rfl];try rfl
@[simp] theorem a0U(O:Nat)(x:Operand)(cK:Option Operand)(ag fQ:Operand):gW P base (⟨bb,d,none,.xg O x cK ag fQ,bI⟩::b4) u m aU=((al.xg O x cK ag fQ).ok u m=true/\mb u bI=true/\gW P base b4 (dO u d (ou (ad u x) O (hT u cK 0).toNat (gy (ad u ag)).toNat)) (m) aU):=by rw[oW rfl];try rfl
@[simp] theorem aSq{t bu:TypeId}{v:Value}:Mr t (.iface bu v)=decide (bu=t):=rfl
@[simp] theorem aSr{t:TypeId}{v:Value}:akx (.iface t v)=v:=rfl
@[simp] theorem aQK{t:Nat}:ad u (.tmp t)=u t:=rfl
@[simp] theorem aQI{v:Value}:ad u (.const v)=v:=rfl
@[simp] theorem aQJ{f:Nat}:ad u (.func f)= .func (.func f) #[] #[]:=rfl
@[simp] theorem aVg{t:Nat}{v:Value}:dO u (some t) v=p4 u t v:=rfl
@[simp] theorem aVf{v:Value}:dO u none v=u:=rfl
@[simp] theorem aMf{t aG:Nat}{v:Value}:p4 u t v aG=if aG=t then v else u aG:=rfl
@[simp] theorem aSt{fm:Value}{l:List Value}:eX (fm::l) 0=fm:=rfl
@[simp] theorem aSu{fm bh:Value}{l:List Value}:eX (fm::bh::l) 1=bh:=rfl
@[simp] theorem aSv{fm bh bt:Value}{l:List Value}:eX (fm::bh::bt::l) 2=bt:=rfl
@[simp] theorem aSw{fm bh bt c1:Value}{l:List Value}:eX (fm::bh::bt::c1::l) 3=c1:=rfl
@[simp] theorem aSx{fm bh bt c1 e0:Value}{l:List Value}:eX (fm::bh::bt::c1::e0::l) 4=e0:=rfl
@[simp] theorem aSy{fm bh bt c1 e0 hK:Value}{l:List Value}:eX (fm::bh::bt::c1::e0::hK::l) 5=hK:=rfl
@[simp] theorem aSz{fm bh bt c1 e0 hK h3:Value}{l:List Value}:eX (fm::bh::bt::c1::e0::hK::h3::l) 6=h3:=rfl
@[simp] theorem aSA{fm bh bt c1 e0 hK h3 jk:Value}{l:List Value}:eX (fm::bh::bt::c1::e0::hK::h3::jk::l) 7=jk:=rfl
def ag9(v:Value)(b:Bool):Bool:=match v with| .bool c=>c==b|_=>false
@[simp] theorem a0v{c b:Bool}:ag9 (.bool c) b=(c==b):=rfl
@[simp] theorem a0w{b:Bool}:ag9 undef b=false:=rfl
@[simp] theorem a0x{t:Nat}{b:Bool}:fY u (some (t,b))=ag9 (u t) b:=rfl
@[simp] theorem aVU{r:nD}:oq m u [r]=tU m u r:=rfl
@[simp] theorem aVT:oq m u []= .tuple #[]:=rfl
@[simp] theorem aVV{r s:nD}{l:List nD}:oq m u (r::s::l)= .tuple ((r::s::l).map (tU m u)).toArray:=rfl
@[simp] theorem aVP{t:Nat}:tU m u (.bq t)=u t:=rfl
@[simp] theorem aVO{t n:Nat}{df:Bool}:tU m u (.h8 t df n)=k4 m df n (u t):=rfl
@[simp] theorem aVS{l:List nD}:nU m u l=l.all (sT m u):=rfl
@[simp] theorem aVN{t:Nat}:sT m u (.bq t)=true:=rfl
@[simp] theorem aVM{t n:Nat}{df:Bool}:sT m u (.h8 t df n)=(g8 m (u t) n&&(df||decide (n=1))):=rfl
@[simp] theorem aVL{l:List cd}:kK l m=if l.any (λo=>o.k.gF)=true then m.bx l.length else m:=by unfold kK;rfl
end
attribute [simp] yT wU gy gi ve ao ku ai aB Gj tS z2 KJ nq Ej G7 Qw Lf uO hT qF rb ra Jv WU sP oo
  vg ng It Rt Eh Pc xJ rI tH G9 Ca kj Cw iM g9
attribute [simp] mD q4 jY m2 au
@[simp] theorem aS1:al.pj.gF=true:=rfl
@[simp] theorem aSB(a:List Value):(al.eC a).gF=true:=rfl
@[simp] theorem aSE(a:Operand):(al.pK a).gF=true:=rfl
@[simp] theorem aSF(a b:Nat)(c:List Value)(d:List (Nat×Nat×Operand)):(al.jx a b c d).gF=true:=rfl
@[simp] theorem aSM(a:Operand):(al.sn a).gF=true:=rfl
@[simp] theorem aS2(a b:Nat)(c:List Value)(d e:Operand):(al.nN a b c d e).gF=true:=rfl
@[simp] theorem aSC(a b:Nat)(c d:Operand):(al.app a b c d).gF=true:=rfl
@[simp] theorem aS3(a:mu)(b:Value)(c:Bool)(d e:Operand):(al.pY a b c d e).gF=false:=rfl
@[simp] theorem aS5(a:mu)(b c d:Operand):(al.p0 a b c d).gF=false:=rfl
@[simp] theorem aS8(a b:Nat)(c:Operand):(al.sY a b c).gF=false:=rfl
@[simp] theorem aS9(a:Nat)(b:Operand)(c:Option Operand)(d e:Operand):(al.xg a b c d e).gF=false:=rfl
@[simp] theorem aS0(a:TypeId)(b:Operand):(al.JE a b).gF=false:=rfl
@[simp] theorem aTd(a:TypeId)(b:Operand):(al.Kb a b).gF=false:=rfl
@[simp] theorem aST(a:List (TypeId×Nat×Option (Bool×Nat)))(b:Operand)(c:List Operand):(al.q2 a b c).gF=false:=rfl
@[simp] theorem aS4(a:Operand):(al.pk a).gF=false:=rfl
@[simp] theorem aS7(a b c:Operand):(al.tR a b c).gF=false:=rfl
@[simp] theorem aS6(a:Operand):(al.DV a).gF=false:=rfl
@[simp] theorem aSG(a:List Value)(b:List (Nat×Nat×Operand)):(al.hg a b).gF=false:=rfl
@[simp] theorem aSX(a:Bool)(b:Nat)(c:Operand):(al.fu a b c).gF=false:=rfl
@[simp] theorem aTc(a:Nat)(b c:Operand):(al.store a b c).gF=false:=rfl
@[simp] theorem aSD(a:BinOp)(b:xB)(c d:Operand):(al.gL a b c d).gF=false:=rfl
@[simp] theorem aSN(a:Bool)(b:List sg)(c d:Operand):(al.pL a b c d).gF=false:=rfl
@[simp] theorem aTe(a:UnOp)(b:Operand):(al.oU a b).gF=false:=rfl
@[simp] theorem aSK(a:IntKind)(b:Operand):(al.yY a b).gF=false:=rfl
@[simp] theorem aSL(a:Operand):(al.Hv a).gF=false:=rfl
@[simp] theorem aSJ(a:Operand):(al.qR a).gF=false:=rfl
@[simp] theorem aTb(a:Operand)(b c:Option Operand):(al.G2 a b c).gF=false:=rfl
@[simp] theorem aTa(a:Nat)(b:Operand)(c d:Option Operand):(al.qI a b c d).gF=false:=rfl
@[simp] theorem aSP(a:Nat)(b:Operand):(al.vq a b).gF=false:=rfl
@[simp] theorem aSQ(a:Bool)(b c:Nat)(d:Operand):(al.field a b c d).gF=false:=rfl
@[simp] theorem aSR(a:Nat)(b c:Operand):(al.sC a b c).gF=false:=rfl
@[simp] theorem aSS(a b:Nat)(c d:Operand):(al.wN a b c d).gF=false:=rfl
@[simp] theorem aSU(a b:Operand):(al.x5 a b).gF=false:=rfl
@[simp] theorem aSO(a:Nat)(b:Operand):(al.ext a b).gF=false:=rfl
@[simp] theorem aSV(a:Operand):(al.w3 a).gF=false:=rfl
@[simp] theorem aSW(a:Operand):(al.vO a).gF=false:=rfl
@[simp] theorem aSY(a:Bool)(b:Operand)(c:List Operand):(al.yo a b c).gF=false:=rfl
@[simp] theorem aSZ(a:Fn)(b c:List Operand):(al.uR a b c).gF=false:=rfl
@[simp] theorem aSH(a:Nat)(b:List Operand):(al.gl a b).gF=false:=rfl
@[simp] theorem aSI(a:Operand)(b:List Operand):(al.ln a b).gF=false:=rfl
abbrev I(n:Nat):Operand:= .tmp n
abbrev A(i d x:Nat):cd:=⟨i,some d,none,.pk (.tmp x),[]⟩
abbrev b0(i d:Nat)(n:Int):cd:=⟨i,some d,none,.pk (.const (.int .i64 n)),[]⟩
abbrev ca(i d:Nat)(b:Bool):cd:=⟨i,some d,none,.pk (.const (.bool b)),[]⟩
abbrev aP(i d x:Nat):cd:=⟨i,some d,none,.fu false 1 (.tmp x),[]⟩
abbrev ct(i d n x:Nat):cd:=⟨i,some d,none,.fu true n (.tmp x),[]⟩
abbrev aY(i d n x:Nat):cd:=⟨i,some d,none,.vq n (.tmp x),[]⟩
abbrev eJ(i d:Nat)(op:BinOp)(x y:Operand):cd:=⟨i,some d,none,.gL op .ir x y,[]⟩
abbrev b9(i d O x y:Nat):cd:=⟨i,some d,none,.sC O (.tmp x) (.tmp y),[]⟩
abbrev bZ(i d x:Nat):cd:=⟨i,some d,none,.vO (.tmp x),[]⟩
abbrev dN(i d n x:Nat):cd:=⟨i,some d,none,.ext n (.tmp x),[]⟩
abbrev cF(i d f:Nat)(a1i:List Operand):cd:=⟨i,some d,none,.gl f a1i,[]⟩
abbrev c9(i n x y:Nat):cd:=⟨i,none,none,.store n (.tmp x) (.tmp y),[]⟩
abbrev bV(i d:Nat)(k:al):cd:=⟨i,some d,none,k,[]⟩
abbrev ef(i d j:Nat)(b:Bool)(k:al):cd:=⟨i,some d,some (j,b),k,[]⟩
abbrev pc(i d:Nat)(k:al)(bI:List (Operand×Operand)):cd:=⟨i,some d,none,k,bI⟩
abbrev Mt(i:Nat)(k:al):cd:=⟨i,none,none,k,[]⟩
abbrev dd(cr cx c8 eM:Nat):cd:=bV cr cx (.tR (I c8) (I eM) (.const (.bool false)))
abbrev dk(cr cx c8 eM gY:Nat):cd:=ef cr cx c8 true (.vq eM (I gY))
abbrev dr(cr cx c8 eM gY:Nat):cd:=ef cr cx c8 false (.vq eM (I gY))
abbrev dx(cr cx c8 eM:Nat):cd:=bV cr cx (.tR (I c8) (.const (.bool true)) (I eM))
abbrev dA(cr cx c8:Nat):cd:=eJ cr cx .add (I c8) (.const (.int .i64 1))
abbrev dF(cr cx c8 gY:Nat):cd:=ef cr cx c8 true (.fu false 1 (I gY))
abbrev dR(cr cx c8 eM:Nat):cd:=eJ cr cx .lss (I c8) (I eM)
abbrev dZ(cr cx c8 gY:Nat):cd:=ef cr cx c8 false (.fu false 1 (I gY))
abbrev ft(cr cx c8:Nat):cd:=bV cr cx (.pK (I c8))
abbrev fO(cr cx:Nat):cd:=bV cr cx (.pk (.const (.slice none 0 0)))
abbrev fX(cr cx c8 eM:Nat):cd:=ef cr cx c8 false (.pk (I eM))
abbrev gj(cr cx c8 eM gY:Nat):cd:=cF cr cx c8 [I eM,I gY]
abbrev gT(cr cx c8 eM:Nat):cd:=ef cr cx c8 true (.pk (I eM))
abbrev im(cr cx c8:Nat):cd:=bV cr cx (.oU .not (I c8))
abbrev iq(cr cx c8 eM:Nat):cd:=ef cr cx c8 false (.vO (I eM))
abbrev iP(cr cx c8:Nat):cd:=bV cr cx (.yY .u64 (I c8))
abbrev jm(cr cx c8 eM:Nat):cd:=eJ cr cx .add (I c8) (I eM)
abbrev jM(cr cx c8 eM gY:Nat):cd:=ef cr cx c8 true (.fu true eM (I gY))
abbrev jN(cr cx c8 eM:Nat):cd:=ef cr cx c8 false (.oU .not (I eM))
abbrev kH(cr cx c8 eM gY:Nat):cd:=ef cr cx c8 false (.fu true eM (I gY))
abbrev kI(cr cx c8 eM gY:Nat):cd:=ef cr cx c8 false (.gl eM [I gY])
abbrev kJ(cr cx c8 eM:Nat):cd:=eJ cr cx .neq (I c8) (I eM)
abbrev k2(cr cx c8 eM gY:Nat):cd:=ef cr cx c8 false (.gL .neq .ir (I eM) (I gY))
abbrev k3(cr cx c8 eM gY qL:Nat):cd:=bV cr cx (.app c8 eM (I gY) (I qL))
abbrev lY(cr:Nat)(cx:Nat)(c8:Nat)(eM:Int):cd:=eJ cr cx .eql (I c8) (.const (.int .i64 eM))
abbrev lZ(cr cx c8:Nat):cd:=bV cr cx (.yY .u32 (I c8))
abbrev mC(cr:Nat)(cx:Nat)(c8:Nat)(eM:Int):cd:=eJ cr cx .sub (I c8) (.const (.int .i64 eM))
abbrev nr(cr cx c8 eM gY:Nat):cd:=ef cr cx c8 true (.gl eM [I gY])
abbrev oh(cr:Nat)(cx:Nat)(c8:Nat)(eM:Nat)(gY:Int):cd:=ef cr cx c8 true (.gL .leq .ir (I eM) (.const (.int .i64 gY)))
abbrev oQ(cr cx c8:Nat):cd:=bV cr cx (.DV (I c8))
abbrev pf(cr cx c8 eM:Nat):cd:=ef cr cx c8 true (.vO (I eM))
abbrev pV(cr:Nat)(cx:Nat)(c8:Nat)(eM:Int):cd:=eJ cr cx .gtr (I c8) (.const (.int .i64 eM))
abbrev pW(cr:Nat)(cx:Nat)(c8:Nat)(eM:Nat)(gY:Int):cd:=ef cr cx c8 false (.gL .gtr .ir (I eM) (.const (.int .i64 gY)))
abbrev qu(cr:Nat)(cx:Nat)(c8:Int):cd:=bV cr cx (.pk (.const (.int .u64 c8)))
abbrev rV(cr cx eM gY:Nat):cd:=bV cr cx (.qI 1 (I eM) none (some (I gY)))
abbrev sG(cr cx c8 eM gY qL:Nat):cd:=ef cr cx c8 false (.gl eM [I gY,I qL])
abbrev sH(cr cx:Nat):cd:=bV cr cx (.ln (I 18) [I 22,I 26])
abbrev tJ(cr:Nat)(cx:Nat)(c8:Nat)(eM:Int):cd:=eJ cr cx .lss (I c8) (.const (.int .i64 eM))
abbrev tK(cr cx c8 eM gY qL:Nat):cd:=ef cr cx c8 true (.gl eM [I gY,I qL])
abbrev tL(cr:Nat)(cx:Nat)(c8:Nat)(eM:Int):cd:=eJ cr cx .shr (I c8) (.const (.int .u64 eM))
abbrev vH(cr cx c8 eM gY qL:Nat):cd:=ef cr cx c8 false (.sC eM (I gY) (I qL))
abbrev vI(cr cx c8 eM:Nat):cd:=ef cr cx c8 true (.gL .sub .ir (I eM) (.const (.int .i64 1)))
abbrev vJ(cr cx c8 eM gY qL Ag:Nat):cd:=ef cr cx c8 true (.gl eM [I gY,I qL,.func Ag])
abbrev wV(cr cx c8 eM gY qL:Nat):cd:=ef cr cx c8 true (.sC eM (I gY) (I qL))
abbrev wW(cr cx c8 eM gY qL:Nat):cd:=pc cr cx (.gl c8 [I eM]) [(I gY,I qL)]
abbrev wX(cr:Nat)(cx:Nat)(c8:Nat)(eM:Nat)(gY:Int):cd:=ef cr cx c8 true (.gL .eql .ir (I eM) (.const (.int .i64 gY)))
abbrev wY(cr cx qL Ag:Nat):cd:=bV cr cx (.nN 1 4 [.int .u32 0] (I qL) (I Ag))
abbrev zE(cr:Nat)(cx:Nat)(c8:Nat)(eM:Int):cd:=eJ cr cx .geq (I c8) (.const (.int .i64 eM))
abbrev zF(cr cx Ag:Nat):cd:=bV cr cx (.jx 1 1 [.string ⟨#[]⟩] [(0,1,I Ag)])
abbrev zG(cr cx c8 eM gY Ag:Nat):cd:=ef cr cx c8 true (.gl eM [I gY,.const (.int .i64 0),I Ag])
abbrev Bw(cr:Nat)(cx:Nat)(c8:Nat)(eM:Nat)(gY:Int)(qL:Int):cd:=cF cr cx c8 [I eM,.const (.int .i64 gY),.const (.int .i64 qL)]
abbrev Bx(cr cx c8 eM gY:Nat):cd:=ef cr cx c8 true (.gL .eql .ir (I eM) (I gY))
abbrev By(cr:Nat)(cx:Nat)(c8:Nat)(eM:Nat)(gY:Int):cd:=bV cr cx (.sC c8 (I eM) (.const (.int .i64 gY)))
abbrev Gm(cr cx Wf:Nat):cd:=bV cr cx (.hg [.string ⟨#[]⟩,.slice none 0 0,.slice none 0 0,.slice none 0 0,.int .i64 0,.int .i64 0] [(0,4,I Wf)])
abbrev Gn(cr cx Wg:Nat):cd:=bV cr cx (.jx 6 1 [.string ⟨#[]⟩,.slice none 0 0,.slice none 0 0,.slice none 0 0,.int .i64 0,.int .i64 0] [(0,6,I Wg)])
abbrev Gp(cr:Nat)(cx:Nat)(c8:Nat)(eM:Nat)(gY:Nat)(Ag:Int):cd:=ef cr cx c8 true (.gl eM [I gY,.const (.int .i64 1),.const (.int .i64 Ag)])
abbrev Gq(cr cx c8:Nat):cd:=eJ cr cx .shl (I c8) (.const (.int .u64 32))
abbrev Gr(cr:Nat)(cx:Nat)(c8:Nat)(eM:Nat)(gY:Int):cd:=ef cr cx c8 true (.gL .leq .ir (I eM) (.const (.int .u8 gY)))
abbrev Jw(cr cx c8 eM:Nat):cd:=ef cr cx c8 false (.gL .neq .ir (I eM) (.const (.int .i64 0)))
abbrev Jx(cr cx atf:Nat):cd:=bV cr cx (.jx 1 1 [.int .u32 0] [(0,1,I atf)])
abbrev N4(cr cx c8 eM:Nat):cd:=ef cr cx c8 true (.gL .gtr .ir (I eM) (.const (.int .i64 0)))
abbrev N5(cr cx We:Nat):cd:=bV cr cx (.jx 3 1 [.bool false,.slice none 0 0,.slice none 0 0] [(0,3,I We)])
abbrev N6(cr cx Wg:Nat):cd:=bV cr cx (.jx 9 1 [.int .i64 0,.string ⟨#[]⟩,.int .i64 0,.bool false,.slice none 0 0,.slice none 0 0,.string ⟨#[]⟩,.int .i64 0,.int .i64 0] [(0,9,I Wg)])
abbrev N7(cr cx En:Nat):cd:=bV cr cx (.hg [.int .i64 0,.slice none 0 0,.slice none 0 0,.slice none 0 0,.slice none 0 0,.slice none 0 0] [(1,1,I En)])
abbrev UD(cr cx We:Nat):cd:=bV cr cx (.jx 6 1 [.string ⟨#[]⟩,.int .i64 0,.int .i64 0,.string ⟨#[]⟩,.int .i64 0,.int .i64 0] [(0,6,I We)])
abbrev adS(cr cx aMF:Nat):cd:=bV cr cx (.jx 19 1 [.string ⟨#[]⟩,.int .i64 0,.int .i64 0,.int .i64 0,.int .i64 0,.int .i64 0,.int .i64 0,.int .i64 0,.int .i64 0,.slice none 0 0,.slice none 0 0,.bool false,.slice none 0 0,.slice none 0 0,.bool false,.slice none 0 0,.slice none 0 0,.int .i64 0,.int .i64 0] [(0,19,I aMF)])
abbrev adT(cr cx En Pp ahg:Nat):cd:=bV cr cx (.hg [.int .i64 0,.string ⟨#[]⟩,.int .i64 0,.bool false,.slice none 0 0,.slice none 0 0,.string ⟨#[]⟩,.int .i64 0,.int .i64 0] [(0,1,.const (.int .i64 5)),(1,1,I En),(3,3,I Pp),(6,1,I ahg)])
abbrev adU(cr cx Wf En Pp ahg:Nat):cd:=bV cr cx (.hg [.int .i64 0,.string ⟨#[]⟩,.int .i64 0,.bool false,.slice none 0 0,.slice none 0 0,.string ⟨#[]⟩,.int .i64 0,.int .i64 0] [(0,1,I Wf),(1,1,I En),(2,1,I Pp),(3,3,I ahg)])
abbrev adV(cr cx En Pp:Nat):cd:=ef cr cx 52 true (.jx 3 2 [.bool false,.slice none 0 0,.slice none 0 0,.bool false,.slice none 0 0,.slice none 0 0] [(0,3,I En),(3,3,I Pp)])
attribute [simp] dd dk dr dx dA dF dR dZ ft fO fX gj gT im iq iP jm jM jN kH kI kJ k2 k3 lY lZ mC nr oh oQ pf pV pW qu rV sG sH tJ tK tL vH vI vJ wV wW wX wY zE zF zG Bw Bx By Gm Gn Gp Gq Gr Jw Jx N4 N5 N6 N7 UD adS adT adU adV
attribute [simp] I A b0 ca aP ct aY eJ b9 bZ dN cF c9 bV ef pc Mt
end Go.DI
