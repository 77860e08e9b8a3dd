/-
  A part of the proof of the statement, in texts that tools of ours (wip/shrink.py, irpack.py, relax.py, minify.py, join.py, lay.py) have shortened.
-/
import Derived.Test.YtkpifdkccdndcaaGreatZan
set_option linter.all false
set_option maxRecDepth 8000
set_option maxHeartbeats 16000000
namespace Go.Proofs.YtkpifdkccdndcaaGreat
open Go Go.DI Go.Big
theorem aMs{m:E}{de:ByteArray}{dh ji kV:Value}{bf:List (List bp)}{n cJ:Nat}(aH:iG.uQ.ax m ji bf)(tC:bf.length=n)(oK:n<1000000)(oM: ∀cS∈bf,cS.length<140737488355329)(mi:m.next<=cJ){aI:Value->E->Prop}(dD: ∀N,a7 m N->sV n 0 bf=false->aI (.bool false) N): ∀(dX:List (List bp)) (i:Nat) (bk:E) (u:aM),bf.drop i=dX->i+dX.length=n->(sV n i dX=sV n 0 bf)->a7 m bk->bk.U cJ=some ⟨[.string de,dh,ji,kV],true⟩->
    u 1=cb cJ->u 3=X n->u 45=ji->u 46=X n->u 47=X i->
    (∀ae N,sV n 0 bf=true->a7 m N->N.U cJ=some ⟨[.string de,dh,ji,kV],true⟩->ae 1=cb cJ->ae 3=X n->cH Z DF ae N (eU [.bq 2] aI))->
    cH Z (.loop N1) u bk (tj 0 (tY Z DF (eU [.bq 2] aI))):=by
  intro dX;induction dX with
  | nil=>intro i bk u ay ag b8 ah jV aw bA vY tW uZ a1;refine fc λcp aZ=> ?_;have e:i=n:=(by simpa using ag);subst e;simp[N1,Uw,Ux,Uy,tW,uZ];exact a1 _ _ b8.symm ah jV (by simp[aw]) (by simp[bA])
  | cons cS dX cB=>
    intro i bk u ay ag b8 ah jV aw bA vY tW uZ a1;refine fc λcp aZ=> ?_;have F:bf[i]?=some cS:=(by rw[<-xu,ay];rfl);have nm:bf.drop (i+1)=dX:=(by rw[<-yK,ay];rfl);simp only[nB]at ag;obtain⟨B,H,af,aL⟩:=aH.len
    replace af:kr 1 ji=true:=af
    rw[tC]at B;have bn:(i:Int)<n:=(by omega);have bc:=e7 (n:=i) (by omega);obtain⟨w,cM,dq,wM⟩:=g0.ax.Of rfl aH (cU.l1 ah) F;obtain⟨ck,cE,eo,e8⟩:=wM.len
    replace eo:kr 3 w=true:=eo
    simp only[sV]at b8;by_cases bM:cS.length=n
    · have N9:(cS.length:Int)=n:=(by omega);rw[N9]at ck;simp[N1,Uw,Ux,Uy,bA,vY,tW,uZ,bn,B,af,cM,dq,ck,cE];refine(WK (p:=bp.small) (wM.aD (cU.l1 ah)) (by omega) (λN e x _ S=>Zl S)).aD λeT bo fG=> ?_;obtain⟨cA,rfl⟩:=fG;have jo:=ah.trans cA;cases dL:cS.all bp.small with
      | false=>simp[];exact dD _ jo (by rw[<-b8];simp[tV,dL])
      | true=>
        obtain⟨x,lH⟩: ∃x,cS[i]?=some x:=⟨_,c0 (by omega)⟩;obtain⟨q,a,c,lK,cI,eH,bh,bt,k1⟩:=iG.fu (wM.aD (cU.l1 jo)) (cU.refl _) lH;simp[ck,eo,bn,bh,bt];refine(PO k1).aD λfk cc e9=> ?_;obtain⟨dG,rfl⟩:=e9;have kb:=jo.trans dG;have aq:=HO lH;cases fp:decide (0<x.n)with
        | true=>simp[];exact dD _ kb (by rw[<-b8];simp[tV,aq,fp])
        | false=>have aA:tV n i cS=true:=(by simp[tV,bM,dL,aq,fp]);rw[aA,oY]at b8;simp[uZ,bc];exact aZ _ _ (cB (i+1) cc _ nm (by omega) b8 kb ((cA.trans dG).some jV) (by simp[aw]) (by simp[bA]) (by simp[vY]) (by simp[tW]) (by simp) a1)
    · have N9: ¬(cS.length:Int)=n:=(by omega);simp[N1,Uw,Ux,Uy,bA,vY,tW,uZ,bn,B,af,cM,dq,ck,cE,N9];exact dD _ ah (by rw[<-b8];simp[tV,bM])
end Go.Proofs.YtkpifdkccdndcaaGreat
namespace Go.Big
theorem aud{x y:bp}(F:0<=x.n)(ab:0<=y.n)(h:(kh x y).1=0):(kh x y).2.ok=true:=by
  have K:=PR F ab h;unfold kh at h K⊢;split at h
  · rename_i aa;rw[if_pos aa]at K⊢;simp only[bK]at aa;obtain⟨K7,_,_⟩:=bp.rj.1 aa.1;obtain⟨K8,_,_⟩:=bp.rj.1 aa.2;obtain⟨dm,hN⟩:=ahu F ab K7 K8;unfold mG at h K⊢;split at h
    · rename_i bs;rw[if_pos bs]at K⊢;exact bp.rj.2 ⟨(Gx (x:=oC x y) hN).1,K.2.2.2,K.2.1⟩
    · cases h
  · cases h
theorem G5: ∀(l:List bp) {s:bp},s.ok=true->0<=s.n->(∀x∈l,0<=x.n)->(k7 s l).1=0->(k7 s l).2.ok=true/\0<=(k7 s l).2.n
  |[],s,h,bH,_,_=>⟨h,bH⟩
  | x::l,s,h,bH,aE,a2=>by
    simp only[k7]at a2⊢;split at a2
    · rename_i k;rw[if_pos k];have K:=PR bH (aE x (by simp)) k;exact G5 l (aud bH (aE x (by simp)) k) K.1 (λy ab=>aE y (by simp[ab])) a2
    · rename_i k;exact absurd a2 k
theorem J8: ∀(l:List bp) {s:bp},(k7 s l).1≠0->(k7 s l).2= .zero
  |[],s,h=>by simp[k7]at h
  | x::l,s,h=>by
    simp only[k7]at h⊢;split at h
    · rename_i k;rw[if_pos k];exact J8 l h
    · rename_i k;rw[if_neg k]
end Go.Big
namespace Go.Proofs.YtkpifdkccdndcaaGreat
open Go Go.DI Go.Big
theorem iG.qB{m:E}{v:Value}{l:List bp}(h:iG.ax m v l): ∀x∈l,0<=x.n:= λx F=>by obtain⟨i,ag,rfl⟩:=s7 F;obtain⟨_,_,_,_,_,_,_,_,S⟩:=iG.fu h (cU.refl _) (c0 ag);exact S.dm
theorem EG.aHA{m N:E}{v:Value}{s e:List bp}{bf:List (List bp)}(h:EG m v s bf e)(ah:a7 m N):EG N v s bf e:=by obtain⟨de,dh,ji,kV,bH,B,H,af⟩:=h;exact⟨de,dh,ji,kV,bH,B.aD (cU.l1 ah),H.aD (cU.l1 ah),af.aD (cU.l1 ah)⟩
theorem aM9:bp.zero.ok=false:=by simp[bp.ok,bp.zero]
theorem aMu{m:E}{v:Value}{s e:List bp}{bf:List (List bp)}(h:EG m v s bf e)(nn:s.length<1000000)(ayI:e.length<1000000)(aj8:bf.length<1000000)(oM: ∀cS∈bf,cS.length<140737488355329):
    bU Z 9 [v] m λr N=>a7 m N/\r= .bool (nR s bf e):=by
  rw[avW (by simp)];have fh:=h;obtain⟨de,dh,ji,kV,rfl,M,aH,a2⟩:=h;obtain⟨bh,bt,_,_⟩:=M.len;obtain⟨cM,dq,_,_⟩:=aH.len;obtain⟨bY,cN,_,_⟩:=a2.len;obtain⟨ez,du,py,rfl⟩:=g0.ax.gz M;obtain⟨fj,dV,u3,rfl⟩:=g0.ax.gz aH;obtain⟨gK,p1,u4,rfl⟩:=g0.ax.gz a2;simp only[ib]at bh cM bY;obtain rfl:du=s.length:=by omega
  obtain rfl:dV=bf.length:=by omega
  obtain rfl:p1=e.length:=by omega
  obtain⟨bk,ey⟩: ∃bk,bk=(m.bx 2).an m.next (some ⟨[.string de,.slice ez s.length py,.slice fj bf.length u3,.slice gK e.length u4],true⟩):=⟨_,rfl⟩
  have fD:a7 m bk:=by rw[ey];exact((a7.refl m).bx 2).an (by omega)
  have aq:bk.U m.next=some ⟨[.string de,.slice ez s.length py,.slice fj bf.length u3,.slice gK e.length u4],true⟩:=by rw[ey,cW (by simp)]
  by_cases bM:(1:Int)<=s.length
  · by_cases dL:(s.length:Int)<=4
    · by_cases fp:(e.length:Int)=s.length
      · by_cases ns:(bf.length:Int)=s.length
        · simp(disch:=first|omega|simp only[b3];omega) [Gi,Jq,Jr,Ms,bM,dL,fp,ns];have bC:1<=s.length:=(by omega);have cq:s.length<=4:=(by omega);have cZ:e.length=s.length:=(by omega);have fR:bf.length=s.length:=(by omega);rw[<-ey];have ar1:= λ(N:E) (v:Value) (x:bp) (h:iL N v x)=>Zl h;have vS:=iG.qB M;refine(WK (p:=bp.small) (M.aD (cU.l1 fD)) nn (λN e x _ S=>ar1 N e x S)).aD λeT bo fG=> ?_;obtain⟨cA,rfl⟩:=fG;have aj:=cA.some aq;have jo:=fD.trans cA;cases mX:s.all bp.small with
          | false=>simp(disch:=first|omega|simp only[b3];omega) [];exact⟨jo,by simp[nR,mX]⟩
          | true=>
            simp(disch:=first|omega|simp only[b3];omega) [aj];refine(WK (p:=bp.small) (a2.aD (cU.l1 jo)) ayI (λN e x _ S=>ar1 N e x S)).aD λfk cc e9=> ?_;obtain⟨dG,rfl⟩:=e9;have ba:=dG.some aj;have kb:=jo.trans dG;cases pg:e.all bp.small with
            | false=>simp(disch:=first|omega|simp only[b3];omega) [];exact⟨kb,by simp[nR,mX,pg]⟩
            | true=>
              simp(disch:=first|omega|simp only[b3];omega) [Js,ba];refine aMs (m:=m) (n:=s.length) (de:=de) (cJ:=m.next) aH fR nn oM (eB _) (aI:= λr N=>a7 m N/\r= .bool (nR s bf e)) (λN o bs=>⟨o,by simp[nR,bs]⟩) bf 0 cc _ rfl (by omega) rfl kb ba (by simp) (by simp) (by simp) (by simp[ns]) (by simp) λae gC A6 e1 cD aw bA=> ?_;have sz: ∀(i:Nat) (cS:List bp),bf[i]?=some cS->cS.length=s.length:= λi cS F=>by have:=Vs A6 F;simp only[tV,bK,fU]at this;exact this.1
              have aA:nR s bf e=(decide ((k7 .nil s).1=0)&&decide (iI (k7 .nil s).2 .hS=0)&&La (ik e) (bf.map ik) s.length):=(by simp[nR,bC,cq,cZ,fR,mX,pg,A6]);rw[aA];have pO:=aO cD;simp(disch:=first|omega|simp only[b3];omega) [DF,aw,cD];have bE:= λk=>(a7.refl gC).bx k;refine(axI ((M.aD (cU.l1 e1)).aD (cU.l1 (bE _))) nn).aD λjs iA km=> ?_;obtain⟨hb,q,rfl,bz⟩:=km;obtain⟨W,b8⟩: ∃W,W=(k7 .nil s).1:=⟨_,rfl⟩;obtain⟨Q,a1⟩: ∃Q,Q=(k7 .nil s).2:=⟨_,rfl⟩;rw[<-b8,<-a1];rw[<-a1]at bz;obtain⟨hU,iQ,qK,sc,Ac,B9,rfl⟩:=bz.gz;have YF:=hb.next
              simp only[vQ]at YF;have e2:iA.U (gC.next+6)=none:=hb.none (by simp) (LD 9 6);have nS:=(e1.bx 9).trans hb;have fs:=((e1).trans ((bE 9).trans hb));have XH:=((bE 9).trans hb).some cD;have YB:gC.next+6<iA.next:=by omega
              have L9:=e1.next
              simp(disch:=first|omega|simp only[b3];omega) [];obtain⟨pC,xR⟩: ∃pC,pC=iA.an (gC.next+6) (some ⟨[.bool Q.bQ,.slice hU iQ qK,.slice sc Ac B9],true⟩):=⟨_,rfl⟩;rw[<-xR];have U8:a7 m pC:=(by rw[xR];exact nS.an (by omega));have me:pC.U (gC.next+6)=some ⟨[.bool Q.bQ,.slice hU iQ qK,.slice sc Ac B9],true⟩:=(by rw[xR,cW YB]);have XG:pC.U m.next=some ⟨[.string de,.slice ez s.length py,.slice fj bf.length u3,.slice gK e.length u4],true⟩:=by rw[xR,dC (by have:=aO cD;omega)];exact XH
              have YO:jj pC (.agg #[.bool Q.bQ,.slice hU iQ qK,.slice sc Ac B9]) Q:=(by rw[xR];exact bz.sub (cU.an e2));simp(disch:=first|omega|simp only[b3];omega) [Jt];have aH6:=(a7.refl pC).bx 7;refine(aqC (m:=pC.bx 7)).aD λmm hA h9=> ?_;obtain⟨gU,gA,rfl,Mf⟩:=h9;obtain⟨uc,wa,s3,wb,Ae,Cc,rfl⟩:=Mf.gz;have YG:=gU.next
              simp only[vQ]at YG;have ayR:hA.U (pC.next+4)=none:=gU.none (by simp) (LD 7 4);have aH3:=aH6.trans gU;have xY:pC.next+4<hA.next:=by omega
              simp(disch:=first|omega|simp only[b3];omega);obtain⟨Ho,CN⟩: ∃Ho,Ho=hA.an (pC.next+4) (some ⟨[.bool bp.hS.bQ,.slice uc wa s3,.slice wb Ae Cc],true⟩):=⟨_,rfl⟩;rw[<-CN];have U7:a7 pC Ho:=(by rw[CN];exact aH3.an (by omega));have axZ:=U7.some me;have axP:=U7.some XG;have axY:Ho.U (pC.next+4)=some ⟨[.bool bp.hS.bQ,.slice uc wa s3,.slice wb Ae Cc],true⟩:=(by rw[CN,cW xY]);have rQ:iL Ho (.agg #[.bool bp.hS.bQ,.slice uc wa s3,.slice wb Ae Cc]) .hS:=(by rw[CN];exact(Mf.sub (cU.an ayR)).Wa GL (by decide));have aH5:=U8.trans U7;have azN:iL Ho (.agg #[.bool Q.bQ,.slice hU iQ qK,.slice sc Ac B9]) Q:=by
                refine(YO.aD U7).Pn ?_ ?_ ?_ ?_<;>by_cases qX:W=0
                · rw[a1];exact(G5 s DU (by decide) vS (by rw[<-b8];exact qX)).2
                · rw[a1,J8 s (by rw[<-b8];exact qX)];decide
                · have:=(G5 s DU (by decide) vS (by rw[<-b8];exact qX)).1;rw[<-a1]at this;exact(CJ this).2.2
                · rw[a1,J8 s (by rw[<-b8];exact qX)];exact k6 512
                · have:=(G5 s DU (by decide) vS (by rw[<-b8];exact qX)).1;rw[<-a1]at this;exact Int.le_of_lt (CJ this).1
                · rw[a1,J8 s (by rw[<-b8];exact qX)];decide
                · have:=(G5 s DU (by decide) vS (by rw[<-b8];exact qX)).1;rw[<-a1]at this;exact(CJ this).2.1
                · rw[a1,J8 s (by rw[<-b8];exact qX)];exact k6 512
              simp(disch:=first|omega|simp only[b3];omega) [Ju,axZ,axY];refine(aiH azN rQ).aD λxa iW od=> ?_;obtain⟨ic,rfl⟩:=od;have QM:=ic.some axP;have zZ:=aH5.trans ic;by_cases qX:W=0
              · have QV:Q.ok=true:=(by rw[a1];exact(G5 s DU (by decide) vS (by rw[<-b8];exact qX)).1);by_cases qv:iI Q .hS=0
                · simp(disch:=first|omega|simp only[b3];omega) [QV,GL,qv,qX,aw,QM,DE];refine(aw6 (fh.aHA zZ) fR cZ sz (by omega)).aD λVl q8 A5=> ?_;obtain⟨qD,rfl⟩:=A5;simp(disch:=first|omega|simp only[b3];omega);exact zZ.trans qD
                · simp(disch:=first|omega|simp only[b3];omega) [QV,GL,qv,qX,DE];exact zZ
              · have ays:Q= .zero:=(by rw[a1];exact J8 s (by rw[<-b8];exact qX));have QV:Q.ok=false:=(by rw[ays];exact aM9);simp(disch:=first|omega|simp only[b3];omega) [QV,qX,DE];exact zZ
        · simp(disch:=first|omega|simp only[b3];omega) [Gi,Jq,Jr,Js,DF,Jt,Ju,DE,Ms,bM,dL,fp,ns];rw[<-ey];exact⟨fD,by simp[nR];omega⟩
      · simp(disch:=first|omega|simp only[b3];omega) [Gi,Jq,Jr,Js,DF,Jt,Ju,DE,Ms,bM,dL,fp];rw[<-ey];exact⟨fD,by simp[nR];omega⟩
    · simp(disch:=first|omega|simp only[b3];omega) [Gi,Jq,Jr,Js,DF,Jt,Ju,DE,Ms,bM,dL];rw[<-ey];exact⟨fD,by simp[nR];omega⟩
  · simp(disch:=first|omega|simp only[b3];omega) [Gi,Jq,Jr,Js,DF,Jt,Ju,DE,Ms,bM];rw[<-ey];exact⟨fD,by simp[nR];omega⟩
end Go.Proofs.YtkpifdkccdndcaaGreat
namespace Go.Big
theorem ar0{x:bp}(h:x.small=true)(bH:0<=x.n):iI x .nil=if 0<x.n then 1 else 0:=by
  have av:(g4 x).bQ=false:=by simp[bp.small]at h;exact h.2.1
  have e:x.n*bp.nil.d=x.n:=by show x.n*1=x.n;omega
  have bg:bp.nil.n*x.d=0:=by show 0*x.d=0;omega
  have dU:bp.nil.bQ=false:=rfl;unfold iI;rw[e,bg,dU];have x1:(x.bQ&&decide (x.n≠0))=false:=by
    by_cases cl:x.n=0
    · simp[cl]
    · have Y:decide (0<x.n)=true:=(by simp;omega);have:(g4 x).bQ=(x.bQ&&decide (0<x.n)):=rfl;rw[this,Y,Bool.and_true]at av;simp[av]
  simp only[x1,Ao,lv,if_false];unfold ix;by_cases Y:0<x.n
  · rw[if_neg (by omega),if_pos Y]
  · rw[if_neg (by omega),if_neg Y]
theorem arS{x:bp}(h:x.small=true)(bH:0<=x.n):(0<iI x .nil)=(0<x.n):=by rw[ar0 h bH];apply propext;split<;>simp_all
theorem aLo{x:bp}(h:x.small=true)(bH:0<=x.n):(iI x .nil=0)= ¬(0<x.n):=by rw[ar0 h bH];apply propext;split<;>simp_all
end Go.Big
namespace Go.Proofs.YtkpifdkccdndcaaGreat
open Go Go.DI Go.Big
theorem aJ6{m:E}{v:Value}{bN:List bp}{n:Nat}(S:iG.ax m v bN)(av:bN.length=n)(fN:n<1000000): ∀(dX:List bp) (i:Nat) (bk:E) (u:aM),bN.drop i=dX->i+dX.length=n->a7 m bk->
    u 0=v->u 1=X n->u 5=X i->
    cH Z (.loop Nl) u bk (tj 0 (tY Z IW (eU [.bq 4] λr N=>a7 m N/\r= .bool (dX.all bp.small)))):=by
  intro dX;induction dX with
  | nil=>intro i bk u ay ag ah b1 aw cv;refine fc λcp aZ=> ?_;have e:i=n:=(by simpa using ag);subst e;simp[Nl,Tj,IW,aw,cv];exact ah
  | cons x dX cB=>
    intro i bk u ay ag ah b1 aw cv;refine fc λcp aZ=> ?_;have F:bN[i]?=some x:=(by rw[<-xu,ay];rfl);have nm:bN.drop (i+1)=dX:=(by rw[<-yK,ay];rfl);simp only[nB]at ag;obtain⟨B,H,af,aL⟩:=S.len
    replace af:kr 3 v=true:=af
    rw[av]at B;have bn:(i:Int)<n:=(by omega);obtain⟨q,a,c,lK,cI,eH,bh,bt,k1⟩:=iG.fu (S.aD (cU.l1 ah)) (cU.refl _) F;have bc:=e7 (n:=i) (by omega);cases k:x.small with
    | true=>have b8:(x::dX).all bp.small=dX.all bp.small:=(by simp[k]);rw[b8]at aZ⊢;simp[Nl,Tj,IW,b1,aw,cv,bn,B,af,bh,bt];refine(afl k1).aD λr bo Y=> ?_;obtain⟨cA,rfl⟩:=Y;simp[k,cv,bc];exact aZ _ _ (cB (i+1) _ _ nm (by omega) (ah.trans cA) (by simp[b1]) (by simp[aw]) (by simp))
    | false=>have b8:(x::dX).all bp.small=false:=(by simp[k]);rw[b8];simp[Nl,Tj,IW,b1,aw,cv,bn,B,af,bh,bt];refine(afl k1).aD λr bo Y=> ?_;obtain⟨cA,rfl⟩:=Y;simp[k];exact ah.trans cA
theorem Vu{m:E}{v:Value}{bN:List bp}{n:Nat}(S:iG.ax m v bN)(fN:n<1000000):bU Z 29 [v,X n] m λr N=>a7 m N/\r= .bool (decide (bN.length=n)&&bN.all bp.small):=by
  rw[avI (by simp)];obtain⟨B,H,af,aL⟩:=S.len;by_cases k:(bN.length:Int)=n
  · have gI:bN.length=n:=(by omega);rw[k]at B;simp[Ti,acp,acq,B,H];have:=aJ6 S gI fN bN 0 m (p4 (p4 (p4 (p4 (p4 (p4 (eX [v,X n]) 4 (oA false)) 6 v) 7 (X n)) 8 (X n)) 9 (oA false)) 5 (X 0)) rfl (by simp[gI]) (a7.refl m) (by simp) (by simp) (by simp);simpa[gI]using this
  · have gI: ¬bN.length=n:=(by omega);simp[Ti,acp,acq,IW,B,H,k];exact⟨a7.refl m,by simp[gI]⟩
theorem aJo{m:E}{de:ByteArray}{dh ji kV:Value}{bf:List (List bp)}{cS:List bp}{n i fE cJ:Nat}(dE:cJ≠fE)(aH:iG.uQ.ax m ji bf)(tC:bf.length=n)(aAc:bf[i]?=some cS)(av:cS.length=n)(Mj:cS.all bp.small=true)(oK:n<1000000)(ag:i<n)(oM:m.next<=fE){sM:Value}{Q:dp->aM->E->Prop}: ∀(r k:Nat) (R:List Bool) (bk:E) (u:aM),k+r=n->R.length=n->a7 m bk->bk.U fE=some ⟨R.map oA,true⟩->bk.U cJ=some ⟨[.string de,dh,ji,kV],true⟩->
    u 1=cb cJ->u 3=X n->u 7= .slice (some ⟨fE,0,none⟩) n 1->u 8=sM->u 9=X i->u 10=X k->
    (∀ae N,a7 m N->N.U fE=some ⟨(oP (ik cS) i (List.range' k r) R).map oA,true⟩->N.U cJ=some ⟨[.string de,dh,ji,kV],true⟩->ae 1=cb cJ->ae 3=X n->ae 7= .slice (some ⟨fE,0,none⟩) n 1->ae 8=sM->ae 9=X i->Q (.bw 6) ae N)->
    cH Z (.loop MH) u bk Q:=by
  intro r;induction r with
  | zero=>intro k R bk u aa gN ah aq jV aw bA c7 ch e4 jE a1;refine fc λcp aZ=> ?_;have e:k=n:=(by omega);subst e;simp[MH,RB,bA,jE];exact a1 _ _ ah (by simpa[oP]using aq) jV (by simp[aw]) (by simp[bA]) (by simp[c7]) (by simp[ch]) (by simp[e4])
  | succ r cB=>
    intro k R bk u aa gN ah aq jV aw bA c7 ch e4 jE a1;refine fc λcp aZ=> ?_;obtain⟨x,uL⟩: ∃x,cS[k]?=some x:=⟨_,c0 (by omega)⟩;have x3:x.small=true:=hJ.1 Mj x (fT uL);obtain⟨B,H,af,aL⟩:=aH.len
    replace af:kr 1 ji=true:=af
    rw[tC]at B;have cg:=aO aq;have bn:(k:Int)<n:=(by omega);have bC:(i:Int)<n:=(by omega);obtain⟨w,cM,dq,wM⟩:=g0.ax.Of rfl aH (cU.l1 ah) aAc;obtain⟨ck,cE,eo,e8⟩:=wM.len
    replace eo:kr 3 w=true:=eo
    rw[av]at ck;obtain⟨q,a,c,lK,cI,eH,bh,bt,k1⟩:=iG.fu (wM.aD (cU.l1 ah)) (cU.refl _) uL;have cr:=k1.dm;have bc:=e7 (n:=k) (by omega);have ue:=HP (l:=R) (i:=i) (by omega);have ahj:=HP (l:=R) (i:=k) (by omega);obtain⟨Od,nj⟩:=dg.1 ue;obtain⟨aGV,Xp⟩:=dg.1 ahj;have gk:i+1<=n:=(by omega);have h6:k+1<=n:=(by omega);have wL:List.range' k (r+1)=k::List.range' (k+1) r:=rfl;cases tr:hu R i with
    | true=>have b8:oP (ik cS) i (List.range' k (r+1)) R=oP (ik cS) i (List.range' (k+1) r) (R.set i true):=(by rw[wL,oP,tr];rfl);rw[b8]at a1;rw[tr]at ue nj;simp(disch:=first|omega|simp only[b3];omega) [MH,RB,bA,c7,e4,jE,bn,bC,aq,gN,nj,gk,bc,lj];refine aZ _ _ (cB (k+1) (R.set i true) _ _ (by omega) (by simp[gN]) (ah.an oM) (by rw[cW cg];exact congrArg (λc=>some (fV.mk c true)) zS) (by rw[dC dE,jV]) (by simp[aw]) (by simp[bA]) (by simp[c7]) (by simp[ch]) (by simp[e4]) (by simp) a1)
    | false=>
      have b8:oP (ik cS) i (List.range' k (r+1)) R=oP (ik cS) i (List.range' (k+1) r) (R.set i (decide (0<x.n)&&hu R k)):=(by rw[wL,oP,tr,HO uL];rfl);rw[b8]at a1;rw[tr]at ue nj;simp(disch:=first|omega|simp only[b3];omega) [MH,RB,aw,bA,c7,e4,jE,bn,bC,B,af,cM,dq,ck,eo,bh,bt,aq,jV,gN,nj,gk,lj];refine(Vt k1 (J3 x3)).aD λeT bo fG=> ?_;obtain⟨cA,rfl⟩:=fG;have aj:=cA.some aq;have LA:=cA.some jV;have ql:=aO aj;have jo:=ah.trans cA;have a0:=arS x3 cr;by_cases FH:0<x.n
      · have ay:decide (0<x.n)=true:=(by simp[FH]);rw[ay]at a1;simp(disch:=first|omega|simp only[b3];omega) [c7,jE,bn,bC,aj,gN,Xp,gk,h6,bc,a0,FH,lj];refine aZ _ _ (cB (k+1) (R.set i (hu R k)) _ _ (by omega) (by simp[gN]) (jo.an oM) (by rw[cW ql];exact congrArg (λc=>some (fV.mk c true)) zS) (by rw[dC dE];exact LA) (by simp[aw]) (by simp[bA]) (by simp[c7]) (by simp[ch]) (by simp[e4]) (by simp) (by simpa using a1))
      · have ay:decide (0<x.n)=false:=(by simp[FH]);rw[ay]at a1;simp[jE,bC,aj,gN,gk,bc,a0,FH];refine aZ _ _ (cB (k+1) (R.set i false) _ _ (by omega) (by simp[gN]) (jo.an oM) (by rw[cW ql];exact congrArg (λc=>some (fV.mk c true)) zS) (by rw[dC dE];exact LA) (by simp[aw]) (by simp[bA]) (by simp[c7]) (by simp[ch]) (by simp[e4]) (by simp) (by simpa using a1))
theorem aJq{m:E}{de:ByteArray}{dh ji kV:Value}{bf:List (List bp)}{e:List bp}{n fE cJ:Nat}(aH:iG.uQ.ax m ji bf)(a2:iG.ax m kV e)(tC:bf.length=n)(wE:e.length=n)(sA: ∀(i:Nat) (cS:List bp),bf[i]?=some cS->cS.length=n/\cS.all bp.small=true)(H2:e.all bp.small=true)(oK:n<1000000)(oM:m.next<=fE)(mi:m.next<=cJ)(dE:cJ≠fE){sM:Value}{Q:dp->aM->E->Prop}: ∀(r i:Nat) (R:List Bool) (bk:E) (u:aM),i+r=n->R.length=n->a7 m bk->bk.U fE=some ⟨R.map oA,true⟩->bk.U cJ=some ⟨[.string de,dh,ji,kV],true⟩->
    u 1=cb cJ->u 3=X n->u 7= .slice (some ⟨fE,0,none⟩) n 1->u 8=sM->u 9=X i->
    (∀ae N,a7 m N->N.U fE=some ⟨(sU (ik e) (bf.map ik) n (List.range' i r) R).map oA,true⟩->N.U cJ=some ⟨[.string de,dh,ji,kV],true⟩->ae 1=cb cJ->ae 3=X n->ae 7= .slice (some ⟨fE,0,none⟩) n 1->ae 8=sM->Q (.bw 4) ae N)->
    cH Z (.loop MI) u bk Q:=by
  intro r;induction r with
  | zero=>intro i R bk u aa gN ah aq jV aw bA c7 ch e4 a1;refine fc λcp aZ=> ?_;have e:i=n:=(by omega);subst e;simp[MI,Rz,RA,bA,e4];exact a1 _ _ ah (by simpa[sU]using aq) jV (by simp[aw]) (by simp[bA]) (by simp[c7]) (by simp[ch])
  | succ r cB=>
    intro i R bk u aa gN ah aq jV aw bA c7 ch e4 a1;refine fc λcp aZ=> ?_;obtain⟨cS,uL⟩: ∃cS,bf[i]?=some cS:=⟨_,c0 (by omega)⟩;obtain⟨y,Ik⟩: ∃y,e[i]?=some y:=⟨_,c0 (by omega)⟩;have aks:y.small=true:=hJ.1 H2 y (fT Ik);obtain⟨sz,Mi⟩:=sA i cS uL;obtain⟨aj,ba,cD,fs⟩:=a2.len
    replace cD:kr 3 kV=true:=cD
    rw[wE]at aj;have cg:=aO aq;have H9:=aO jV;have bn:(i:Int)<n:=(by omega);obtain⟨q,a,c,lK,cI,eH,bh,bt,vC⟩:=iG.fu (a2.aD (cU.l1 ah)) (cU.refl _) Ik;have pw:=vC.dm;have bc:=e7 (n:=i) (by omega);have ue:=HP (l:=R) (i:=i) (by omega);obtain⟨Od,nj⟩:=dg.1 ue;have gk:i+1<=n:=(by omega);have wL:List.range' i (r+1)=i::List.range' (i+1) r:=rfl;have Yl:hu (ik e) i=decide (0<y.n):=HO Ik;have Ym:(bf.map ik).getD i []=ik cS:=(by rw[mr,p6,uL];rfl);have b8:sU (ik e) (bf.map ik) n (List.range' i (r+1)) R=sU (ik e) (bf.map ik) n (List.range' (i+1) r) (oP (ik cS) i (List.range' 0 n) (R.set i (hu R i||decide (0<y.n)))):=by rw[wL,sU,Yl,Ym,Kr]
    rw[b8]at a1
    have b4: ∀(b:Bool) (cc:E) (ev:aM),b=(hu R i||decide (0<y.n))->a7 m cc->cc.U fE=some ⟨(R.set i b).map oA,true⟩->cc.U cJ=some ⟨[.string de,dh,ji,kV],true⟩->ev 1=cb cJ->ev 3=X n->ev 7= .slice (some ⟨fE,0,none⟩) n 1->ev 8=sM->ev 9=X i->
        cH Z RA ev cc (tj 5 (tY Z (.G [⟨0,some 91,none,.pk (.tmp 9),[]⟩,⟨1,some 92,none,.gL .add .ir (.tmp 91) (.const (.int .i64 1)),[]⟩,⟨2,some 9,none,.pk (.tmp 92),[]⟩]) (ym cp Q))):=by
      intro b cc ev K dG qW QL eu ps Ph agR agS;simp[RA];refine aJo (n:=n) (i:=i) (bf:=bf) dE aH tC uL sz Mi oK (by omega) oM (sM:=sM) n 0 (R.set i b) cc _ (by omega) (by simp[gN]) dG qW QL (by simp[eu]) (by simp[ps]) (by simp[Ph]) (by simp[agR]) (by simp[agS]) (by simp) λn2 gC e1 y7 Fe hU qK V3 u8 aL3=> ?_;rw[K]at y7;simp(disch:=first|omega|simp only[b3];omega) [aL3,bc];exact aZ _ _ (cB (i+1) _ gC _ (by omega) (by rw[akC];simp[gN]) e1 y7 Fe (by simp[hU]) (by simp[qK]) (by simp[V3]) (by simp[u8]) (by simp) a1)
    cases tr:hu R i with
    | true=>rw[tr]at ue nj b4;simp(disch:=first|omega|simp only[b3];omega) [MI,Rz,bA,c7,e4,bn,aq,gN,nj,gk,lj];exact b4 true _ _ (by simp) (ah.an oM) (by rw[cW cg];exact congrArg (λc=>some (fV.mk c true)) zS) (by rw[dC dE,jV]) (by simp[aw]) (by simp[bA]) (by simp[c7]) (by simp[ch]) (by simp[e4])
    | false=>rw[tr]at ue nj b4;simp(disch:=omega) [MI,Rz,aw,bA,c7,e4,bn,aq,jV,gN,nj,gk,aj,cD,bh,bt,lj];refine(Vt vC (J3 aks)).aD λeT bo fG=> ?_;obtain⟨cA,rfl⟩:=fG;have LY:=cA.some aq;have ql:=aO LY;have a0:=arS aks pw;simp[LY,gN,gk,bn,a0];exact b4 (decide (0<y.n)) _ _ (by simp) ((ah.trans cA).an oM) (by rw[cW ql];exact congrArg (λc=>some (fV.mk c true)) zS) (by rw[dC dE];exact cA.some jV) (by simp[aw]) (by simp[bA]) (by simp[c7]) (by simp[ch]) (by simp[e4])
theorem aJp{m:E}{de:ByteArray}{dh ji kV:Value}{bf:List (List bp)}{e:List bp}{n fE cJ:Nat}(aH:iG.uQ.ax m ji bf)(a2:iG.ax m kV e)(tC:bf.length=n)(wE:e.length=n)(sA: ∀(i:Nat) (cS:List bp),bf[i]?=some cS->cS.length=n/\cS.all bp.small=true)(H2:e.all bp.small=true)(oK:n<1000000)(oM:m.next<=fE)(mi:m.next<=cJ)(dE:cJ≠fE){Q:dp->aM->E->Prop}: ∀(r k:Nat) (bk:E) (u:aM),k+r=n->a7 m bk->bk.U fE=some ⟨(lX (ik e) (bf.map ik) n k).map oA,true⟩->bk.U cJ=some ⟨[.string de,dh,ji,kV],true⟩->
    u 1=cb cJ->u 3=X n->u 7= .slice (some ⟨fE,0,none⟩) n 1->u 8=X k->
    (∀ae N,a7 m N->N.U fE=some ⟨(lX (ik e) (bf.map ik) n n).map oA,true⟩->ae 3=X n->ae 7= .slice (some ⟨fE,0,none⟩) n 1->Q (.bw 2) ae N)->
    cH Z (.loop RK) u bk Q:=by
  intro r;induction r with
  | zero=>intro k bk u aa ah aq jV aw bA c7 ch a1;refine fc λcp aZ=> ?_;have e:k=n:=(by omega);subst e;simp[RK,Zz,bA,ch];exact a1 _ _ ah aq (by simp[bA]) (by simp[c7])
  | succ r cB=>intro k bk u aa ah aq jV aw bA c7 ch a1;refine fc λcp aZ=> ?_;have c:(k:Int)<n:=(by omega);have bc:=e7 (n:=k) (by omega);simp[RK,Zz,bA,ch,c];refine aJq (n:=n) (sM:=X k) aH a2 tC wE sA H2 oK oM mi dE n 0 _ bk _ (by omega) (Gl k) ah aq jV (by simp[aw]) (by simp[bA]) (by simp[c7]) (by simp[ch]) (by simp) λn2 gC e1 cD Fe hU qK V3 u8=> ?_;simp[u8,bc];exact aZ _ _ (cB (k+1) gC _ (by omega) e1 (by rw[cD,lX,Kr]) Fe (by simp[hU]) (by simp[qK]) (by simp[V3]) (by simp) a1)
theorem aJc{m:E}{R:List Bool}{n fE:Nat}(gN:R.length=n)(av:n<1000000)(aq:m.U fE=some ⟨R.map oA,true⟩){aI:Value->E->Prop}: ∀(rB:List Bool) (i:Nat) (u:aM),R.drop i=rB->i+rB.length=n->
    u 3=X n->u 7= .slice (some ⟨fE,0,none⟩) n 1->u 11=X i->aI (.bool (rB.all λb=>b)) m->
    cH Z (.loop MJ) u m (tj 8 (tY Z Dc (eU [.bq 2] aI))):=by
  intro rB;induction rB with
  | nil=>intro i u ay ag bA c7 hc oN;refine fc λcp aZ=> ?_;have e:i=n:=(by simpa using ag);subst e;simp[MJ,RD,Dc,bA,hc];exact oN
  | cons b rB cB=>
    intro i u ay ag bA c7 hc oN;refine fc λcp aZ=> ?_;have F:R[i]?=some b:=(by rw[<-xu,ay];rfl);have nm:R.drop (i+1)=rB:=(by rw[<-yK,ay];rfl);simp only[nB]at ag;obtain⟨Od,nj⟩:=dg.1 F;have bn:(i:Int)<n:=(by omega);have gk:i+1<=n:=(by omega);have bc:=e7 (n:=i) (by omega);cases b with
    | true=>simp(disch:=first|omega|simp only[b3];omega) [MJ,RD,Dc,bA,c7,hc,bn,aq,gN,nj,gk,lj,bc];exact aZ _ _ (cB (i+1) _ nm (by omega) (by simp[bA]) (by simp[c7]) (by simp) (by simpa using oN))
    | false=>simp(disch:=omega) [MJ,RD,Dc,bA,c7,hc,bn,aq,gN,nj,gk,lj];simpa using oN
theorem aKJ{m:E}{de:ByteArray}{dh ji kV:Value}{bf:List (List bp)}{n cJ:Nat}(aH:iG.uQ.ax m ji bf)(tC:bf.length=n)(oK:n<1000000)(mi:m.next<=cJ){aI:Value->E->Prop}(dD: ∀N,a7 m N->sV n 0 bf=false->aI (.bool false) N){aU:J}: ∀(dX:List (List bp)) (i:Nat) (bk:E) (u:aM),bf.drop i=dX->i+dX.length=n->(sV n i dX=sV n 0 bf)->a7 m bk->bk.U cJ=some ⟨[.string de,dh,ji,kV],true⟩->
    u 1=cb cJ->u 3=X n->u 4=X i->
    (∀ae N,sV n 0 bf=true->a7 m N->N.U cJ=some ⟨[.string de,dh,ji,kV],true⟩->ae 1=cb cJ->ae 3=X n->cH Z aU ae N (eU [.bq 2] aI))->
    cH Z (.loop RJ) u bk (tj 0 (tY Z aU (eU [.bq 2] aI))):=by
  intro dX;induction dX with
  | nil=>intro i bk u ay ag b8 ah jV aw bA fv a1;refine fc λcp aZ=> ?_;have e:i=n:=(by simpa using ag);subst e;simp[RJ,Zy,bA,fv];exact a1 _ _ b8.symm ah jV (by simp[aw]) (by simp[bA])
  | cons cS dX cB=>
    intro i bk u ay ag b8 ah jV aw bA fv a1;refine fc λcp aZ=> ?_;have F:bf[i]?=some cS:=(by rw[<-xu,ay];rfl);have nm:bf.drop (i+1)=dX:=(by rw[<-yK,ay];rfl);simp only[nB]at ag;obtain⟨B,H,af,aL⟩:=aH.len
    replace af:kr 1 ji=true:=af
    rw[tC]at B;have bn:(i:Int)<n:=(by omega);have bc:=e7 (n:=i) (by omega);obtain⟨w,cM,dq,wM⟩:=g0.ax.Of rfl aH (cU.l1 ah) F;obtain⟨ck,cE,eo,e8⟩:=wM.len
    replace eo:kr 3 w=true:=eo
    simp only[sV]at b8;simp[RJ,Zy,aw,bA,fv,bn,B,af,cM,dq,jV];refine(Vu (wM.aD (cU.l1 ah)) oK).aD λeT bo fG=> ?_;obtain⟨cA,rfl⟩:=fG;have jo:=ah.trans cA;have LA:=cA.some jV;by_cases bM:cS.length=n
    · cases dL:cS.all bp.small with
      | false=>simp[bM];exact dD _ jo (by rw[<-b8];simp[tV,dL])
      | true=>
        obtain⟨x,lH⟩: ∃x,cS[i]?=some x:=⟨_,c0 (by omega)⟩;have x3:x.small=true:=hJ.1 dL x (fT lH);obtain⟨ee,auA,auB,akd⟩:=g0.ax.Of rfl aH (cU.l1 jo) F;obtain⟨HG,xK,Le,aQM⟩:=akd.len
        replace Le:kr 3 ee=true:=Le
        rw[bM]at HG;obtain⟨q,a,c,lK,cI,eH,bh,bt,k1⟩:=iG.fu (akd.aD (cU.l1 jo)) (cU.refl _) lH;have cr:=k1.dm;simp[bM,aw,fv,LA,bn,B,af,auA,auB,HG,Le,bh,bt];refine(Vt k1 (J3 x3)).aD λfk cc e9=> ?_;obtain⟨dG,rfl⟩:=e9;have kb:=jo.trans dG;have aq:=HO lH;have agL:=aLo x3 cr;by_cases fp:0<x.n
        · simp[agL,fp];exact dD _ kb (by rw[<-b8];simp[tV,aq,fp])
        · have aA:tV n i cS=true:=(by simp[tV,bM,dL,aq,fp]);rw[aA,oY]at b8;simp[agL,fp,fv,bc];exact aZ _ _ (cB (i+1) cc _ nm (by omega) b8 kb (dG.some LA) (by simp[aw]) (by simp[bA]) (by simp) a1)
    · simp[bM];exact dD _ jo (by rw[<-b8];simp[tV,bM])
theorem aKL{m:E}{v:Value}{s e:List bp}{bf:List (List bp)}(h:EG m v s bf e)(nn:s.length<1000000):
    bU Z 10 [v] m λr N=>a7 m N/\r= .bool (nR s bf e):=by
  rw[auT (by simp)];have fh:=h;obtain⟨de,dh,ji,kV,rfl,M,aH,a2⟩:=h;obtain⟨bh,bt,_,_⟩:=M.len;obtain⟨cM,dq,_,_⟩:=aH.len;obtain⟨ez,du,py,rfl⟩:=g0.ax.gz M;obtain⟨fj,dV,u3,rfl⟩:=g0.ax.gz aH;obtain⟨gK,p1,u4,rfl⟩:=g0.ax.gz a2;simp only[ib]at bh cM;obtain rfl:du=s.length:=by omega
  obtain rfl:dV=bf.length:=by omega
  obtain⟨bk,ey⟩: ∃bk,bk=(m.bx 2).an m.next (some ⟨[.string de,.slice ez s.length py,.slice fj bf.length u3,.slice gK p1 u4],true⟩):=⟨_,rfl⟩
  have fD:a7 m bk:=by rw[ey];exact((a7.refl m).bx 2).an (by omega)
  have aq:bk.U m.next=some ⟨[.string de,.slice ez s.length py,.slice fj bf.length u3,.slice gK p1 u4],true⟩:=by rw[ey,cW (by simp)]
  have vS:=iG.qB M;by_cases bM:(s.length:Int)<1
  · simp(disch:=first|omega|simp only[b3];omega) [MF,Ry,RE,RF,RG,MG,RH,RI,RC,Dc,bM];rw[<-ey];exact⟨fD,by simp[nR];omega⟩
  by_cases dL:(s.length:Int)>4
  · simp(disch:=first|omega|simp only[b3];omega) [MF,Ry,RE,RF,RG,MG,RH,RI,RC,Dc,bM,dL];rw[<-ey];exact⟨fD,by simp[nR];omega⟩
  have bC:1<=s.length:=by omega
  have cq:s.length<=4:=by omega
  simp(disch:=first|omega|simp only[b3];omega) [MF,Ry,RE,bM,dL];rw[<-ey];refine(Vu (M.aD (cU.l1 fD)) nn).aD λeT bo fG=> ?_;obtain⟨cA,rfl⟩:=fG;have aj:=cA.some aq;have jo:=fD.trans cA;cases mX:s.all bp.small with
  | false=>simp[];exact⟨jo,by simp[nR,mX]⟩
  | true=>
    simp[aj];refine(Vu (a2.aD (cU.l1 jo)) nn).aD λfk cc e9=> ?_;obtain⟨dG,rfl⟩:=e9;have ba:=dG.some aj;have kb:=jo.trans dG;by_cases fp:e.length=s.length
    · cases pg:e.all bp.small with
      | false=>simp[fp];exact⟨kb,by simp[nR,mX,pg]⟩
      | true=>
        by_cases ns:(bf.length:Int)=s.length
        · have fR:bf.length=s.length:=(by omega);simp[fp,ns,ba,RF];refine aKJ (m:=m) (n:=s.length) (de:=de) (cJ:=m.next) aH fR nn (eB _) (aI:= λr N=>a7 m N/\r= .bool (nR s bf e)) (λN o bs=>⟨o,by simp[nR,bs]⟩) bf 0 cc _ rfl (by omega) rfl kb ba (by simp) (by simp) (by simp) λae gC A6 e1 cD aw bA=> ?_;have sz: ∀(i:Nat) (cS:List bp),bf[i]?=some cS->cS.length=s.length/\cS.all bp.small=true:= λi cS F=>by
            have:=Vs A6 F;simp only[tV,bK,fU]at this;exact⟨this.1,this.2.1⟩
          have aA:nR s bf e=(decide ((k7 .nil s).1=0)&&decide (iI (k7 .nil s).2 .hS=0)&&La (ik e) (bf.map ik) s.length):=(by simp[nR,bC,cq,fp,fR,mX,pg,A6]);rw[aA];have pO:=aO cD;simp(disch:=omega) [RG,RH,RI,RC,Dc,aw,cD];have bE:= λk=>(a7.refl gC).bx k;refine(aJD ((M.aD (cU.l1 e1)).aD (cU.l1 (bE _))) nn).aD λjs iA km=> ?_;obtain⟨hb,q,rfl,bz⟩:=km;obtain⟨W,b8⟩: ∃W,W=(k7 .nil s).1:=⟨_,rfl⟩;obtain⟨Q,a1⟩: ∃Q,Q=(k7 .nil s).2:=⟨_,rfl⟩;rw[<-b8,<-a1];rw[<-a1]at bz;obtain⟨hU,iQ,qK,sc,Ac,B9,rfl⟩:=bz.gz;have YF:=hb.next
          simp only[vQ]at YF;have e2:iA.U (gC.next+6)=none:=hb.none (by simp) (LD 9 6);have nS:=(e1.bx 9).trans hb;have XH:=((bE 9).trans hb).some cD;have YB:gC.next+6<iA.next:=by omega
          have L9:=e1.next
          simp(disch:=omega) [];obtain⟨pC,xR⟩: ∃pC,pC=iA.an (gC.next+6) (some ⟨[.bool Q.bQ,.slice hU iQ qK,.slice sc Ac B9],true⟩):=⟨_,rfl⟩;rw[<-xR];have U8:a7 m pC:=(by rw[xR];exact nS.an (by omega));have me:pC.U (gC.next+6)=some ⟨[.bool Q.bQ,.slice hU iQ qK,.slice sc Ac B9],true⟩:=(by rw[xR,cW YB]);have XG:pC.U m.next=some ⟨[.string de,.slice ez s.length py,.slice fj bf.length u3,.slice gK p1 u4],true⟩:=by rw[xR,dC (by have:=aO cD;omega)];exact XH
          have YO:jj pC (.agg #[.bool Q.bQ,.slice hU iQ qK,.slice sc Ac B9]) Q:=(by rw[xR];exact bz.sub (cU.an e2));have ajQ:=aO me;by_cases qX:W=0
          · have QU:=G5 s DU (by decide) vS (by rw[<-b8];exact qX);rw[<-a1]at QU;simp[MG,qX,me];refine(Vp (n:=1) (by omega) (by omega)).aD λmm hA h9=> ?_;obtain⟨gU,Mf⟩:=h9;rw[aAq]at Mf;refine yW gU (λp Y b K=>by simp at Y;rcases Y with rfl;simp[ai]at K;omega) ?_;simp;refine(aru ((YO.Wa QU.1 QU.2).aD gU) (Mf.Wa GL (by decide)) QU.1 GL).aD λxa iW od=> ?_;obtain⟨ic,rfl⟩:=od;have zZ:=(U8.trans gU).trans ic;have QM:=(gU.trans ic).some XG;by_cases qv:iI Q .hS=0
            · have fP:((s.length:Nat):Int)*1<=140737488355328:=(by omega);have dX:(s.length:Int)<=140737488355328:=(by omega);have DJ:(s.length:Int)<=9223372036854775807:=(by omega);have azd:=aO QM;simp[qv,bA,dX,DJ];refine aJp (m:=m) (de:=de) (n:=s.length) (fE:=iW.next+1) (cJ:=m.next) aH a2 fR fp sz pg nn (by have:=zZ.next;omega) (eB _) (by have:=zZ.next;omega) s.length 0 _ _ (by omega) ((zZ.bx 3).an (by have:=zZ.next;omega)) (by rw[cW (by simp)];simp[lX]) (by rw[dC (by omega),gm azd];exact QM) (by simp[aw]) (by simp[bA]) (by simp) (by simp) λa1h Oj zY Fc ps Ph=> ?_;simp[];exact aJc (Gl _) nn Fc _ 0 _ rfl (by simp[Gl]) (by simp[ps]) (by simp[Ph]) (by simp) ⟨zY,by simp[La]⟩
            · simp[qv];exact zZ
          · simp[MG,qX];exact U8
        · have fR: ¬bf.length=s.length:=(by omega);simp[fp,ns,ba];exact⟨kb,by simp[nR,fR]⟩
    · simp[fp];exact⟨kb,by simp[nR,fp]⟩
end Go.Proofs.YtkpifdkccdndcaaGreat
namespace Go.Big
structure dY where
  name:ByteArray
  s:List aV
  bf:List (List aV)
  e:List aV
  deriving DecidableEq
def dY.bD(x:dY):Prop:=(∀r∈x.s,r.bD)/\(∀l∈x.bf,∀r∈l,r.bD)/\(∀r∈x.e,r.bD)/\x.s.length<1000000/\x.bf.length<1000000/\x.e.length<1000000/\ ∀l∈x.bf,l.length<140737488355329
def dY.oj(x:dY):Bool:=nR (x.s.map aV.bG) (x.bf.map (·.map aV.bG)) (x.e.map aV.bG)
theorem dY.aqy{x:dY}(aa:x.bD)(h:x.oj=true): ∀l∈x.bf,l.length<1000000:= λl aE=>by
  unfold dY.oj nR at h;simp only[bK]at h;obtain⟨i,ag,rfl⟩:=s7 aE;have aH:sV (x.s.map aV.bG).length 0 (x.bf.map (·.map aV.bG))=true:=by first|exact h.1.1.2|exact h.1.2|exact h.2.1|exact h.1.1.1.2
  have:=Vs (j:=i) aH (by rw[p6,c0 ag];rfl);simp only[tV,bK,fU,jZ]at this;have iV:=aa.2.2.2.1;have mf:=this.1;omega
end Go.Big
namespace Go.Proofs.YtkpifdkccdndcaaGreat
open Go Go.DI Go.Big
abbrev oF(l:List (List aV)):Value:=aQ (l.map λr=>[dQ r]) 1
def fH(x:dY):List Value:=[.string x.name,dQ x.s,oF x.bf,dQ x.e]
@[simp] theorem aRf{l eZ:List (List aV)}:(l.map λr=>[dQ r])=(eZ.map λr=>[dQ r])↔l=eZ:=GD λx y h=>by simpa using h
theorem aGH{x y:dY}:fH x=fH y↔x=y:=by obtain⟨a,b,c,d⟩:=x;obtain⟨cI,b7,eH,o4⟩:=y;simp[fH]
abbrev nZ(x:dY):Value:= .agg (fH x).toArray
theorem b5.axA{z:iS}{W:gZ}{x y O aG:Value}{mO:List Value}(h:b5 z W [x,y,O,aG] mO): ∃a b c d,mO=[a,b,c,d]/\cQ z W x a/\cQ z W y b/\cQ z W O c/\cQ z W aG d:=by
  match mO,h with
  |[a,b,c,d],h=>exact⟨a,b,c,d,rfl,h.2 0 x a rfl rfl,h.2 1 y b rfl rfl,h.2 2 O c rfl rfl,h.2 3 aG d rfl rfl⟩
  |[],h=>simp[b5]at h
  |[_],h=>simp[b5]at h
  |[_,_],h=>simp[b5]at h
  |[_,_,_],h=>simp[b5]at h
  |_::_::_::_::_::_,h=>simp[b5]at h
theorem ajZ{m:E}{v:Value}{x:dY}(aa:x.bD)(h:vb m (nZ x) v):EG m v (x.s.map aV.bG) (x.bf.map (·.map aV.bG)) (x.e.map aV.bG):=by
  obtain⟨ys,rfl,aE⟩:=h.wP;obtain⟨a,b,c,d,e,B,H,af,aL⟩:=b5.axA (x:= .string x.name) (y:=dQ x.s) (O:=oF x.bf) (aG:=dQ x.e) aE;have eD:ys= #[a,b,c,d]:=by rw[<-wh (xs:=ys),e]
  subst eD;rw[B.zp];refine⟨x.name,b,c,d,rfl,YK aa.1 H,?_,YK aa.2.2.1 aL⟩;have cm:afu.uQ.ax m c x.bf:=arH.uQ.agW aa.2.1 af;exact g0.ax.r9 (q:=iG.uQ) (λl:List aV=>l.map aV.bG) cm rfl λcs l _ F=>by obtain⟨v,rfl,S⟩:=F;exact⟨v,rfl,arI S⟩
theorem aMt{x:dY}(aa:x.bD):c4 Z 9 [nZ x] (.bool x.oj):=q6 λm fl aC=>by obtain⟨v,rfl,h⟩:=aC.hS;refine(aMu (ajZ aa h) (by simpa using aa.2.2.2.1) (by simpa using aa.2.2.2.2.2.1) (by simpa using aa.2.2.2.2.1) (λcS aH=> ?_)).aD λr N ⟨B,H⟩=>⟨B,by rw[H];exact .dc rfl⟩;obtain⟨l,aE,rfl⟩:=iK.1 aH;simpa using aa.2.2.2.2.2.2 l aE
theorem aKK{x:dY}(aa:x.bD):c4 Z 10 [nZ x] (.bool x.oj):=q6 λm fl aC=>by obtain⟨v,rfl,h⟩:=aC.hS;exact(aKL (ajZ aa h) (by simpa using aa.2.2.2.1)).aD λr N ⟨B,H⟩=>⟨B,by rw[H];exact .dc rfl⟩
def tN(x:dY):dY:=⟨x.name,x.s.map hE,x.bf.map (·.map hE),x.e.map hE⟩
noncomputable def D9:cf Z:= .ek 68 (List aV) (λl=>(∀x∈l,x.bD)/\l.length<1000000) (λl=>[dQ l]) (λl=>dQ (l.map hE)) λ_ h=>aHe h.1 h.2
@[simp] theorem aWZ:D9.f=68:=rfl
@[simp] theorem arL{l:List aV}(h:(∀x∈l,x.bD)/\l.length<1000000):D9.fn [aQ (l.map ec) 3]=some (dQ (l.map hE)):=cf.eP (x:=l) h λy ab=>by simpa using ab
theorem aiS{l:List (List aV)}: ∀r∈l.map (λr=>[dQ r]),r.length=1/\ ∀v∈r,il v=true:= λr aH=>by obtain⟨x,_,rfl⟩:=iK.1 aH;exact⟨rfl,λv S=>by simp at S;subst S;rfl⟩
theorem aiT(l:List (List aV)):(l.map λr=>[dQ r]).flatten=l.map dQ:=by
  induction l with
  |nil=>rfl
  |cons x l cB=>simp[cB]
theorem l6{α:Type}{l:List α}{i:Nat}{x:α}(h:l[i]?=some x):l.take (i+1)=l.take i++[x]:=by rw[List.take_add_one,h];rfl
theorem aHb{bf:List (List aV)}{de:ByteArray}{cy a9:Value}{EO:fV}(dL: ∀l∈bf,∀r∈l,r.bD)(mX:bf.length<1000000)(qv: ∀l∈bf,l.length<1000000){cN dI o:Nat}{Q:dp->aM->E->Prop}{u:aM}{t:E}(rZ:cN≠dI)(azB:o≠dI)(azC:cN≠o)
    (cD:t.U dI=some ⟨[.string de,cy,.slice (some ⟨o,0,none⟩) 0 1,a9],true⟩) (bj:t.U o=some ⟨[],true⟩) (ba:t.U cN=some EO) (bR:u 2=cb cN) (bA:u 3=cb dI) (OU:u 16=oF bf) (l4:u 17=X bf.length) (mF:u 18=X 0)
    (a1: ∀ae bu o',ae 2=cb cN->ae 3=cb dI->bu.U cN=some EO->bu.U dI=some ⟨[.string de,cy,.slice (some ⟨o',0,none⟩) bf.length 1,a9],true⟩->bu.U o'=some ⟨((bf.map (·.map hE)).map λr=>[dQ r]).flatten,true⟩->o'≠cN->Q (.bw 0) ae bu):gD Z (.loop TP) u t Q:=by
  refine hC (a0:=⟨[D9],[]⟩) (λi u t=> ∃o cs,cs=(((bf.take i).map (·.map hE)).map λr=>[dQ r]).flatten/\o≠dI/\o≠cN/\t.U dI=some ⟨[.string de,cy,.slice (some ⟨o,0,none⟩) i 1,a9],true⟩/\t.U o=some ⟨cs,true⟩/\t.U cN=some EO/\u 2=cb cN/\u 3=cb dI/\u 16=oF bf/\u 17=X bf.length/\u 18=X i) bf.length ?_ ?_ 0 u t (hf _) ⟨o,[],by simp,azB,λh=>azC h.symm,cD,bj,ba,bR,bA,OU,l4,mF⟩
  · rintro i u t ag ⟨o,cs,fe,du,dV,cD,bj,ba,bR,bA,OU,l4,mF⟩ cp aZ;have F:bf[i]?=some bf[i]:=c0 ag;have aN:bf[i]∈bf:=qM ag;have bc:=e7 (n:=i) (by omega);have bn:(i:Int)<bf.length:=(by omega);have bh:(∀r∈bf[i],r.bD)/\bf[i].length<1000000:=⟨dL _ aN,qv _ aN⟩;have DJ:=aO cD;have cK:=aO bj;have dX:=aO ba;have gr:cs.length=i:=(by rw[fe,aiT];simp;omega);have hd:cs.take i=cs:=fw (by omega);have gv:(i+1)*24<=140737488355328/\i<=9223372036854775806:=(by omega);simp(disch:=first|omega|simp only[b3];omega) [TP,ac8,ac9,bA,OU,l4,mF,bn,bc,cD,bj,gr,hd,gv,-ao,-aB,-ai,-au,-List.map_map];refine aZ _ _ ⟨t.next+5,cs++[dQ (bf[i].map hE)],?_,?_,?_,?_,?_,?_,?_,?_,?_,?_,?_⟩
    · rw[l6 F,fe,oy,oy,Px];rfl
    all_goals first|omega|(simp(disch:=first|omega|simp only[b3];omega) [bR,bA,OU,l4,ba,-ao,-aB,-ai,-au,-List.map_map])
  · rintro u t ⟨o,cs,fe,du,dV,cD,bj,ba,bR,bA,OU,l4,mF⟩;simp(disch:=omega) [TP,ac8,ac9,l4,mF,-ao,-aB,-ai,-au,-List.map_map];exact a1 _ _ o (by simp[bR]) (by simp[bA]) ba cD (by rw[bj,fe,kM]) dV
theorem aHc{x:dY}(aa:x.bD)(hh: ∀l∈x.bf,l.length<1000000):c4 Z 67 [nZ x] (nZ (tN x)):=by refine gR (ga (a0:=⟨[D9],[]⟩) aEz (by kernel_rfl) (by simp[ac7]) ?_);obtain⟨bM,dL,fp,ns,mX,pg,qv⟩:=aa;have bh:(∀r∈x.s,r.bD)/\x.s.length<1000000:=⟨bM,ns⟩;have bt:(∀r∈x.e,r.bD)/\x.e.length<1000000:=⟨fp,pg⟩;simp(disch:=first|omega|simp only[b3];omega) [ac7,aow,aox,aoy,fH,-ao,-aB,-ai,-au,-List.map_map];refine ahe (o:=11) (j:=2) (O:=1) (cW (by simp)) rfl ?_;refine aHb (bf:=x.bf) (de:=x.name) (cy:=dQ (x.s.map hE)) (a9:=dQ (x.e.map hE)) (cN:=1) (dI:=11) (o:=13) dL mX hh (by decide) (by decide) (by decide) (by simp(disch:=first|omega|simp only[b3];omega) [-ao,-aB,-ai,-au,-List.map_map]) (by simp(disch:=first|omega|simp only[b3];omega) [-ao,-aB,-ai,-au,-List.map_map]) (by simp(disch:=first|omega|simp only[b3];omega) [-ao,-aB,-ai,-au,-List.map_map];rfl) (by simp) (by simp) (by simp) (by simp) (by simp) λae bu o' B H af aL cm dK=> ?_;have zf: ∀cV,DI.eg 8 (bu.an 1 cV) (.slice (some ⟨o',0,none⟩) x.bf.length 1)=some (oF (x.bf.map (·.map hE))):= λcV=>E3 (n:=7) (by rw[dC dK];exact cm) (by simp) aiS;have fP:=aO af;simp(disch:=first|omega|simp only[b3];omega) [aoz,B,H,af,aL,zf,fH,tN,-ao,-aB,-ai,-au,-List.map_map]
end Go.Proofs.YtkpifdkccdndcaaGreat
namespace Go.Big
def eG(a b c:Int):Bool:=decide (b<=a)&&decide (a<=c)
end Go.Big
namespace Go.Proofs.YtkpifdkccdndcaaGreat
open Go Go.DI Go.Big
theorem aAl{a b c:Int}:c4 Z 21 [X a,X b,X c] (.bool (eG a b c)):=by refine gR (ga (a0:=⟨[],[]⟩) anm (by kernel_rfl) (by simp[ab7]) ?_);by_cases h:b<=a<;>simp[ab7,S7,ab8,h,eG]
noncomputable def vZ:cf Z:= .ek 21 (Int×Int×Int) (λ⟨a,b,c⟩=>True) (λ⟨a,b,c⟩=>[X a,X b,X c]) (λ⟨a,b,c⟩=> .bool (eG a b c)) (λ⟨a,b,c⟩ h=>aAl)
@[simp] theorem aWI:vZ.f=21:=rfl
@[simp] theorem aWJ{a:Int}{b:Int}{c:Int}:vZ.fn ([X a,X b,X c])=some (.bool (eG a b c)):=cf.eP (x:=(a,b,c)) trivial λy ab=>by obtain⟨pw,gk,h6⟩:=y;simpa using ab
theorem aAn{x:aV}(aa:x.bD):c4 Z 23 [eV x] (.bool x.bG.small):=q6 λm fl aC=>by obtain⟨v,rfl,h⟩:=aC.hS;exact(Zl (uJ aa h)).aD λr N ⟨B,H⟩=>⟨B,by rw[H];exact .dc rfl⟩
theorem at9{x:aV}(aa:x.bD):c4 Z 24 [eV x] (.bool (decide (0<x.bG.n))):=q6 λm fl aC=>by obtain⟨v,rfl,h⟩:=aC.hS;exact(PO (uJ aa h)).aD λr N ⟨B,H⟩=>⟨B,by rw[H];exact .dc rfl⟩
theorem Ek{x:aV}{n:Bool}{a b:List Int}(h:[eV x]=[.agg #[.bool n,dy a,dy b]]):x=⟨n,a,b⟩:=by obtain⟨cz,cI,b7⟩:=x;simpa[ec]using h
noncomputable def JX:cf Z:= .ek 23 aV aV.bD (λx=>[eV x]) (λx=> .bool x.bG.small) λ_ aa=>aAn aa
@[simp] theorem aWG:JX.f=23:=rfl
@[simp] theorem aWH{n:Bool}{a b:List Int}(h:(aV.mk n a b).bD):JX.fn [.agg #[.bool n,dy a,dy b]]=some (.bool (aV.mk n a b).bG.small):=cf.eP (x:=aV.mk n a b) h λy ab=>Ek ab
noncomputable def Vz:cf Z:= .ek 24 aV aV.bD (λx=>[eV x]) (λx=> .bool (decide (0<x.bG.n))) λ_ aa=>at9 aa
@[simp] theorem aV3:Vz.f=24:=rfl
@[simp] theorem aV4{n:Bool}{a b:List Int}(h:(aV.mk n a b).bD):Vz.fn [.agg #[.bool n,dy a,dy b]]=some (.bool (decide (0<(aV.mk n a b).bG.n))):=cf.eP (x:=aV.mk n a b) h λy ab=>Ek ab
noncomputable def afJ(z:Nat)(l:List aV)(p:aV->Bool)(Y: ∀x∈l,c4 Z z [eV x] (.bool (p x))):cf Z:= .ek z aV (λx=>x∈l) (λx=>[eV x]) (λx=> .bool (p x)) Y
@[simp] theorem aWy{z:Nat}{l:List aV}{p:aV->Bool}{Y: ∀x∈l,c4 Z z [eV x] (.bool (p x))}:(afJ z l p Y).f=z:=rfl
@[simp] theorem aWz{z:Nat}{l:List aV}{p:aV->Bool}{Y: ∀x∈l,c4 Z z [eV x] (.bool (p x))}{n:Bool}{a b:List Int}(h:aV.mk n a b∈l):(afJ z l p Y).fn [.agg #[.bool n,dy a,dy b]]=some (.bool (p ⟨n,a,b⟩)):=
  cf.eP (x:=aV.mk n a b) h λy ab=>Ek ab
theorem aul{z:Nat}{l:List aV}{p:aV->Bool}(av:l.length<1000000)(Y: ∀x∈l,c4 Z z [eV x] (.bool (p x))):c4 Z 22 [dQ l,.func (.func z) #[] #[]] (.bool (l.all p)):=by
  refine gR (ga (a0:=⟨[],[]⟩) ann (by kernel_rfl) (by simp[ab9]) ?_);simp[ab9,S8,aca];refine hC (a0:=⟨[afJ z l p Y],[]⟩) (λi u t=>(l.take i).all p=true/\u 1= .func (.func z) #[] #[]/\u 7=dQ l/\u 8=X l.length/\u 9=X i) l.length ?_ ?_ 0 _ _ (hf _) ⟨by simp,by simp,by simp,by simp,by simp⟩
  · rintro i u t ag ⟨aC,aw,c7,ch,e4⟩ cp aZ;have F:l[i]?=some l[i]:=c0 ag;have aN:l[i]∈l:=qM ag;have bc:=e7 (n:=i) (by omega);have bn:(i:Int)<l.length:=(by omega);cases K:p l[i]
    · simp(disch:=first|omega|simp only[b3];omega) [Dq,Dm,Dn,Dp,Bi,aw,c7,ch,e4,bn,K,ec];exact⟨_,aN,K⟩
    · simp(disch:=first|omega|simp only[b3];omega) [Dq,Dm,Dn,Dp,Bi,aw,c7,ch,e4,bn,bc,K,ec,-ao,-aB,-ai,-au,-List.map_map];exact aZ _ _ ⟨by rw[l6 F,xt,aC];simp[K],by simp[aw],by simp[c7],by simp[ch],by simp⟩
  · rintro u t ⟨aC,aw,c7,ch,e4⟩;rw[kM]at aC;simp[Dq,Dm,Dn,Dp,Bi,ch,e4,Bi,Dm,Dn,Dp];simpa using aC
end Go.Proofs.YtkpifdkccdndcaaGreat
namespace Go.Big
structure Hq where
  l:Int
  c:Int
  deriving DecidableEq
structure PJ where
  qw:dY
  p:Hq
  deriving DecidableEq
structure PK where
  name:ByteArray
  ext:Int
  BS:Int
  qw:ByteArray
  p:Hq
  deriving DecidableEq
structure l8 where
  g3:Int
  name:ByteArray
  xj:Int
  ju:aV
  model:ByteArray
  p:Hq
  deriving DecidableEq
structure j2 where
  a:Int
  b:Int
  c:Int
  d:Int
  e:Int
  deriving DecidableEq
structure EK where
  name:ByteArray
  k:Int
  m:Int
  q:Int
  a0:j2
  aR:List ByteArray
  hz:List aV
  kU:aV
  eS:aV
  p:Hq
  deriving DecidableEq
structure PL where
  name:ByteArray
  w9:ByteArray
  p:Hq
  deriving DecidableEq
structure pD where
  ext:Int
  bO:List PJ
  aR:List PK
  qA:List l8
  bT:List EK
  cP:List PL
  deriving DecidableEq
structure o1 where
  name:ByteArray
  ext:Int
  BS:Int
  qw:Int
  deriving DecidableEq
structure gp where
  name:ByteArray
  g3:Int
  parent:Int
  xj:Int
  ju:aV
  deriving DecidableEq
structure pB where
  name:ByteArray
  model:Int
  q9:Int
  deriving DecidableEq
structure hr where
  name:ByteArray
  k:Int
  m:Int
  q:Int
  a0:j2
  aR:List Int
  hz:List aV
  kU:aV
  eS:aV
  deriving DecidableEq
structure uj where
  name:ByteArray
  w9:Int
  deriving DecidableEq
structure a4 where
  ext:Int
  bO:List dY
  aR:List o1
  br:List gp
  c5:List pB
  bT:List hr
  cP:List uj
  deriving DecidableEq
def a4.nil:a4:=⟨0,[],[],[],[],[],[]⟩
end Go.Big
namespace Go.Proofs.YtkpifdkccdndcaaGreat
open Go Go.DI Go.Big
abbrev ei(s:ByteArray):Value:= .string s
def mI(x:PJ):List Value:=[ei x.qw.name,dQ x.qw.s,oF x.qw.bf,dQ x.qw.e,X x.p.l,X x.p.c]
def mJ(x:PK):List Value:=[ei x.name,X x.ext,X x.BS,ei x.qw,X x.p.l,X x.p.c]
def qJ(x:l8):List Value:=[X x.g3,ei x.name,X x.xj,.bool x.ju.bQ,dy x.ju.a,dy x.ju.b,ei x.model,X x.p.l,X x.p.c]
abbrev ux(l:List ByteArray):Value:=aQ (l.map λs=>[ei s]) 1
abbrev lS(l:List Int):Value:=aQ (l.map λs=>[X s]) 1
def nx(x:EK):List Value:=[ei x.name,X x.k,X x.m,X x.q,X x.a0.a,X x.a0.b,X x.a0.c,X x.a0.d,X x.a0.e,ux x.aR,dQ x.hz,.bool x.kU.bQ,dy x.kU.a,dy x.kU.b,.bool x.eS.bQ,dy x.eS.a,dy x.eS.b,X x.p.l,X x.p.c]
def l5(x:PL):List Value:=[ei x.name,ei x.w9,X x.p.l,X x.p.c]
def jQ(x:pD):List Value:=[X x.ext,aQ (x.bO.map mI) 6,aQ (x.aR.map mJ) 6,aQ (x.qA.map qJ) 9,aQ (x.bT.map nx) 19,aQ (x.cP.map l5) 4]
def hD(x:o1):List Value:=[ei x.name,X x.ext,X x.BS,X x.qw]
def eL(x:gp):List Value:=[ei x.name,X x.g3,X x.parent,X x.xj,.bool x.ju.bQ,dy x.ju.a,dy x.ju.b]
def hO(x:pB):List Value:=[ei x.name,X x.model,X x.q9]
def eR(x:hr):List Value:=[ei x.name,X x.k,X x.m,X x.q,X x.a0.a,X x.a0.b,X x.a0.c,X x.a0.d,X x.a0.e,lS x.aR,dQ x.hz,.bool x.kU.bQ,dy x.kU.a,dy x.kU.b,.bool x.eS.bQ,dy x.eS.a,dy x.eS.b]
def iy(x:uj):List Value:=[ei x.name,X x.w9]
def bl(x:a4):List Value:=[X x.ext,aQ (x.bO.map fH) 4,aQ (x.aR.map hD) 4,aQ (x.br.map eL) 7,aQ (x.c5.map hO) 3,aQ (x.bT.map eR) 17,aQ (x.cP.map iy) 2]
@[simp] theorem aZo{l eZ:List ByteArray}:(l.map λs=>[ei s])=(eZ.map λs=>[ei s])↔l=eZ:=GD λx y h=>by simpa using h
@[simp] theorem aGk{l eZ:List Int}:(l.map λs=>[X s])=(eZ.map λs=>[X s])↔l=eZ:=GD λx y h=>by simpa using h
end Go.Proofs.YtkpifdkccdndcaaGreat
namespace Go.Big
def sJ(x:bp):Bool:=x.ok&&decide (iI x .hS<=0)
def sR(x:aV):Bool:=x.bG.small&&decide (0<x.bG.n)
def rk(m:Int)(r:List aV)(t h:aV):Bool:=decide ((r.length:Int)=if 1>m then 1 else m)&&(r.all sR&&(t.bG.small&&(sJ t.bG&&h.bG.small)))
end Go.Big
namespace Go.Proofs.YtkpifdkccdndcaaGreat
open Go Go.DI Go.Big
theorem W4{x:bp}(B:0<=x.n)(H:0<=x.d):(qQ x).bG=x:=by obtain⟨n,a,b⟩:=x;simp only[qQ,aV.bG,(EX _ _ (eB _) B).2,(EX _ _ (eB _) H).2]
theorem KX{x:bp}(B:0<=x.n)(H:0<=x.d)(af:x.n<a3 512)(aL:x.d<a3 512):(qQ x).bD:=by have aX:=rG B af;have bg:=rG H aL;exact⟨(EX _ _ (eB _) B).1.1,(EX _ _ (eB _) H).1.1,by simp only[qQ];omega,by simp only[qQ];omega⟩
theorem JM:(1:Int)<a3 512:=Int.lt_trans BV z4
theorem aqB:(qQ .hS).bD:=KX (by decide) (by decide) JM JM
theorem aeB:(qQ .hS).bG= .hS:=W4 (by decide) (by decide)
noncomputable def af3(o:aV)(h:c4 Z 26 [X 1,X 1] (.tuple #[eV o,X 0])):cf Z:= .ek 26 Unit (λ_=>True) (λ_=>[X 1,X 1]) (λ_=> .tuple #[eV o,X 0]) λ_ _=>h
@[simp] theorem aXo{o:aV}{h:c4 Z 26 [X 1,X 1] (.tuple #[eV o,X 0])}:(af3 o h).f=26:=rfl
@[simp] theorem aXp{o:aV}{h:c4 Z 26 [X 1,X 1] (.tuple #[eV o,X 0])}:(af3 o h).fn [X 1,X 1]=some (.tuple #[eV o,X 0]):=cf.eP (x:=()) trivial λ_ _=>rfl
noncomputable def afD(x y:aV)(b:Bool)(k:Int)(h:c4 Z 27 [eV x,eV y] (if b then .tuple #[X k,X 0]else .tuple #[X 0,X 1])):cf Z:= .ek 27 Unit (λ_=>True) (λ_=>[eV x,eV y]) (λ_=>if b then .tuple #[X k,X 0]else .tuple #[X 0,X 1]) λ_ _=>h
@[simp] theorem aWj{x y:aV}{b:Bool}{k:Int}{h:c4 Z 27 [eV x,eV y] (if b then .tuple #[X k,X 0]else .tuple #[X 0,X 1])}:(afD x y b k h).f=27:=rfl
@[simp] theorem aWk{x y:aV}{b:Bool}{k:Int}{h:c4 Z 27 [eV x,eV y] (if b then .tuple #[X k,X 0]else .tuple #[X 0,X 1])}:(afD x y b k h).fn [.agg #[.bool x.bQ,dy x.a,dy x.b],.agg #[.bool y.bQ,dy y.a,dy y.b]]=some (if b then .tuple #[X k,X 0]else .tuple #[X 0,X 1]):=cf.eP (x:=()) trivial λ_ _=>rfl
theorem aGM{x o:aV}{b:Bool}{k:Int}(ah:c4 Z 26 [X 1,X 1] (.tuple #[eV o,X 0]))(aK:c4 Z 27 [eV x,eV o] (if b then .tuple #[X k,X 0]else .tuple #[X 0,X 1])):c4 Z 143 [eV x] (.bool (b&&decide (k<=0))):=by refine gR (ga (a0:=⟨[af3 o ah,afD x o b k aK],[]⟩) aCd (by kernel_rfl) (by simp[aat]) ?_);cases b<;>simp[aat,alA,alB,alC,alD,ec]
theorem aGL{x:aV}(aa:x.bD):c4 Z 143 [eV x] (.bool (sJ x.bG)):=by have h:=aiG aa aqB;rw[aeB,GL,Bool.and_true]at h;exact aGM aIa h
theorem aJd{x:aV}(aa:x.bD):c4 Z 142 [eV x] (.bool (sR x)):=by refine gR (ga (a0:=⟨[JX,Vz],[]⟩) aCc (by kernel_rfl) (by simp[aas]) ?_);cases h:x.bG.small<;>simp(disch:=first|omega|simp only[b3];omega) [aas,aly,alz,ec,h,sR]
noncomputable def afR:cf Z:= .ek 143 aV aV.bD (λx=>[eV x]) (λx=> .bool (sJ x.bG)) λ_ aa=>aGL aa
@[simp] theorem aWS:afR.f=143:=rfl
@[simp] theorem aWT{n:Bool}{a b:List Int}(h:(aV.mk n a b).bD):afR.fn [.agg #[.bool n,dy a,dy b]]=some (.bool (sJ (aV.mk n a b).bG)):=cf.eP (x:=aV.mk n a b) h λy ab=>Ek ab
noncomputable def agd:cf Z:= .ek 22 (List aV) (λl=>(∀x∈l,x.bD)/\l.length<1000000) (λl=>[dQ l,.func (.func 142) #[] #[]]) (λl=> .bool (l.all sR)) λ_ h=>aul h.2 λx F=>aJd (h.1 x F)
@[simp] theorem aX9:agd.f=22:=rfl
@[simp] theorem aYa{l:List aV}(h:(∀x∈l,x.bD)/\l.length<1000000):agd.fn [aQ (l.map ec) 3,.func (.func 142) #[] #[]]=some (.bool (l.all sR)):=cf.eP (x:=l) h λy ab=>by simpa using ab
theorem aJe{m:Int}{r:List aV}{t h:aV}(aH:(∀x∈r,x.bD)/\r.length<1000000)(bm:t.bD)(a6:h.bD):c4 Z 103 [X m,dQ r,eV t,eV h] (.bool (rk m r t h)):=by
  refine gR (ga (a0:=⟨[agd,JX,afR],[]⟩) aAz (by kernel_rfl) (by simp[Ix]) ?_);by_cases B:(r.length:Int)=if 1>m then 1 else m
  · cases H:r.all sR
    · simp(disch:=omega) [Ix,MA,MB,ec,B,H,rk]
    · cases af:t.bG.small
      · simp(disch:=first|omega|simp only[b3];omega) [Ix,MA,MB,ec,B,H,af,rk]
      · cases aL:sJ t.bG<;>simp(disch:=first|omega|simp only[b3];omega) [Ix,MA,MB,ec,B,H,af,aL,rk]
  · simp[Ix,MA,MB,ec,B,rk]
end Go.Proofs.YtkpifdkccdndcaaGreat
namespace Go.Big
def pn(k m q:Int)(s:j2):Bool:=eG k 1 6&&(eG m 0 4&&(decide (k+m<=8)&&(eG q k (k+m)&&(decide (s.a=0)&&(eG s.a 0 8&&(eG s.b 0 8&&(eG s.c 0 8&&(eG s.d 0 8&&eG s.e 0 8))))))))
end Go.Big
namespace Go.Proofs.YtkpifdkccdndcaaGreat
open Go Go.DI Go.Big
theorem aAk{x:Int}:c4 Z 141 [X x] (.bool (eG x 0 8)):=by refine gR (ga (a0:=⟨[vZ],[]⟩) aCb (by kernel_rfl) (by simp[aar]) ?_);simp[aar,alw,alx]
noncomputable def afM:cf Z:= .ek 141 (Int) (λx=>True) (λx=>[X x]) (λx=> .bool (eG x 0 8)) (λx h=>aAk)
@[simp] theorem aWE:afM.f=141:=rfl
@[simp] theorem aWF{x:Int}:afM.fn ([X x])=some (.bool (eG x 0 8)):=cf.eP (x:=x) trivial λy ab=>by simpa using ab
theorem ahy{l:List Int}(av:l.length<1000000):c4 Z 140 [lS l,.func (.func 141) #[] #[]] (.bool (l.all λx=>eG x 0 8)):=by
  refine gR (ga (a0:=⟨[],[]⟩) aCa (by kernel_rfl) (by simp[aaq]) ?_);simp[aaq,alu,alv];refine hC (a0:=⟨[afM],[]⟩) (λi u t=>((l.take i).all λx=>eG x 0 8)=true/\u 1= .func (.func 141) #[] #[]/\u 7=lS l/\u 8=X l.length/\u 9=X i) l.length ?_ ?_ 0 _ _ (hf _) ⟨by simp,by simp,by simp,by simp,by simp⟩
  · rintro i u t ag ⟨aC,aw,c7,ch,e4⟩ cp aZ;have F:l[i]?=some l[i]:=c0 ag;have aN:l[i]∈l:=qM ag;have bc:=e7 (n:=i) (by omega);have bn:(i:Int)<l.length:=(by omega);cases K:eG l[i] 0 8
    · simp(disch:=first|omega|simp only[b3];omega) [R9,MV,MW,MX,MY,aw,c7,ch,e4,bn,K];exact⟨_,aN,K⟩
    · simp(disch:=first|omega|simp only[b3];omega) [R9,MV,MW,MX,MY,aw,c7,ch,e4,bn,bc,K,-ao,-aB,-ai,-au,-List.map_map];exact aZ _ _ ⟨by rw[l6 F,xt,aC];simp[K],by simp[aw],by simp[c7],by simp[ch],by simp⟩
  · rintro u t ⟨aC,aw,c7,ch,e4⟩;rw[kM]at aC;simp[R9,MV,MW,MX,MY,ch,e4,MY,MV,MW,MX];simpa using aC
noncomputable def afA:cf Z:= .ek 140 (List Int) (λl=>l.length<1000000) (λl=>[lS l,.func (.func 141) #[] #[]]) (λl=> .bool (l.all λx=>eG x 0 8)) λ_ h=>ahy h
@[simp] theorem aV5:afA.f=140:=rfl
@[simp] theorem aV6{a b c d e:Int}:afA.fn [aQ [[X a],[X b],[X c],[X d],[X e]] 1,.func (.func 141) #[] #[]]=some (.bool (eG a 0 8&&(eG b 0 8&&(eG c 0 8&&(eG d 0 8&&eG e 0 8))))):=by
  have:=cf.eP (ok:= λ_ h=>ahy h) (x:=[a,b,c,d,e]) (cj:= λl=>l.length<1000000) (enc:= λl=>[lS l,.func (.func 141) #[] #[]]) (by simp) λy ab=>aGk.1 (Zk.1 (List.cons.inj ab).1).1;have e:[a,b,c,d,e].all (λx=>eG x 0 8)=(eG a 0 8&&(eG b 0 8&&(eG c 0 8&&(eG d 0 8&&eG e 0 8)))):=by simp
  rw[<-e];exact this
theorem aH1{k m q:Int}{s:j2}:c4 Z 102 [X k,X m,X q,.agg #[X s.a,X s.b,X s.c,X s.d,X s.e]] (.bool (pn k m q s)):=by
  refine gR (ga (a0:=⟨[vZ,afA],[]⟩) aAy (by kernel_rfl) (by simp[Db]) ?_);have azh:5<=maxLen:=by unfold maxLen;omega
  cases B:eG k 1 6
  · simp[Db,FN,FO,FP,B,pn]
  · cases H:eG m 0 4
    · simp[Db,FN,FO,FP,B,H,pn]
    · have bc:IntKind.i64.wrap (k+m)=k+m:=(by simp[eG]at B H;exact fo (by omega) (by omega));by_cases af:k+m<=8
      · have g1: ¬(8<k+m):=(by omega);cases aL:eG q k (k+m)
        · simp[Db,FN,FO,FP,B,H,af,g1,aL,bc,pn]
        · by_cases cm:s.a=0
          · simp[Db,FN,FO,FP,B,H,af,g1,aL,cm,bc,azh,ss,sS,pn]
          · simp[Db,FN,FO,FP,B,H,af,g1,aL,cm,bc,pn]
      · have g1:8<k+m:=(by omega);simp[Db,FN,FO,FP,B,H,af,g1,bc,pn]
end Go.Proofs.YtkpifdkccdndcaaGreat
namespace Go.DI
open Go
section
variable {P:Program}
open Classical in
noncomputable def ly.ek(f:Nat)(cy:Type)(enc:cy->List Value)(z:cy->E->Option (Value×E))(ok: ∀x t r bu,z x t=some (r,bu)-> ∀aI:Value->E->Prop,aI r bu->iE P f (enc x) t aI):ly P:=
  ⟨f,λargs t=>if h: ∃x,enc x=args then z h.choose t else none,λargs t r bu h=>by
    split at h
    · next F=>have:=ok _ t r bu h;rw[F.choose_spec]at this;exact this
    · cases h⟩
theorem ly.eP{f:Nat}{cy:Type}{enc:cy->List Value}{z:cy->E->Option (Value×E)}{ok: ∀x t r bu,z x t=some (r,bu)-> ∀aI:Value->E->Prop,aI r bu->iE P f (enc x) t aI}{x:cy}{t:E}(ag: ∀y,enc y=enc x->y=x):(ly.ek f cy enc z ok).fn (enc x) t=z x t:=by have nH: ∃y,enc y=enc x:=⟨x,rfl⟩;simp only[ly.ek,dif_pos nH];rw[ag _ nH.choose_spec]
theorem Xh{t:E}{i c:Nat}{cV di:Option fV}(ag:t.U i=none)(aK:i≠c): ∀b x,(t.an c di).U b=some x->((t.an i cV).an c di).U b=some x:= λb x h=>by
  by_cases K:b=c
  · subst K;by_cases aE:b<t.next
    · rw[cW aE]at h;rw[cW (by simpa using aE)];exact h
    · have:(t.an b di).U b=none:=n6 (by simp;omega);rw[this]at h;cases h
  · rw[dC K]at h⊢;by_cases oa:b=i
    · subst oa;rw[ag]at h;cases h
    · rw[dC oa];exact h
theorem ais{t:E}{i:Nat}{cV:Option fV}(ag:t.U i=none): ∀b x,t.U b=some x->(t.an i cV).U b=some x:= λb x h=>by
  have oa:b≠i:= λe=>by subst e;rw[ag]at h;cases h
  rw[dC oa];exact h
theorem awG{t:E}{i c:Nat}{cV:Option fV}{bJ:List (Value×Value)}(ag:t.U i=none)(aK:i≠c): ∀b x,(t.hx c bJ).U b=some x->((t.an i cV).hx c bJ).U b=some x:= λb x h=>by
  by_cases K:b=c
  · subst K;by_cases aE:b<t.next
    · rw[Fh aE]at h;rw[Fh (by simpa using aE)];exact h
    · have:(t.hx b bJ).U b=none:=n6 (by simp;omega);rw[this]at h;cases h
  · rw[o8 K]at h⊢;by_cases oa:b=i
    · subst oa;rw[ag]at h;cases h
    · rw[dC oa];exact h
theorem aIR{t:E}{c k:Nat}{bJ:List (Value×Value)}(h:c<t.next):(t.hx c bJ).bx k=(t.bx k).hx c bJ:=by
  simp only[E.bx,E.hx,E.mk.injEq,and_true,true_and];funext i;by_cases B:i=c
  · subst B;simp[h]
  · simp[B]
theorem ahL{t:E}{k:Nat}:(t.bx k).U t.next=none:=by rw[E.gm];exact n6 (eB _)
end
end Go.DI
namespace Go.Proofs.YtkpifdkccdndcaaGreat
open Go Go.DI Go.Big
def K0(c:Nat)(ok:Bool)(e l k:Int)(t:E):Option fV->Option (Value×E)
  | some ⟨[fm,bh,bt,c1,e0,hK,h3,jk,lf,lz,n4,pE,pF,pG,pH,pI,pJ,.int .i64 iF,et,eK],true⟩=>
    if iF=0/\ok=false then some (.bool (decide (e=0)),(t.bx 2).an c (some ⟨[fm,bh,bt,c1,e0,hK,h3,jk,lf,lz,n4,pE,pF,pG,pH,pI,pJ,X e,X l,X k],true⟩))
    else some (.bool (decide (iF=0)),t.bx 2)
  |_=>none
@[simp] theorem aQn{c:Nat}{ok:Bool}{e l k iF:Int}{t:E}{fm bh bt c1 e0 hK h3 jk lf lz n4 pE pF pG pH pI pJ et eK:Value}:K0 c ok e l k t (some ⟨[fm,bh,bt,c1,e0,hK,h3,jk,lf,lz,n4,pE,pF,pG,pH,pI,pJ,.int .i64 iF,et,eK],true⟩)=
    if iF=0/\ok=false then some (.bool (decide (e=0)),(t.bx 2).an c (some ⟨[fm,bh,bt,c1,e0,hK,h3,jk,lf,lz,n4,pE,pF,pG,pH,pI,pJ,X e,X l,X k],true⟩))else some (.bool (decide (iF=0)),t.bx 2):=rfl
structure xy where
  c:Nat
  ok:Bool
  e:Int
  l:Int
  k:Int
theorem awa{x:xy}{t bu:E}{r:Value}(h:K0 x.c x.ok x.e x.l x.k t (t.U x.c)=some (r,bu))(aI:Value->E->Prop)(oN:aI r bu):iE Z 35 [cb x.c,.bool x.ok,X x.e,.agg #[X x.l,X x.k]] t aI:=by
  obtain⟨c,ok,e,l,k⟩:=x;simp only at h⊢;cases aq:t.U c with
  |none=>rw[aq]at h;cases h
  | some b=>
    rw[aq]at h;unfold K0 at h;split at h
    · rename_i fm bh bt c1 e0 hK h3 jk lf lz n4 pE pF pG pH pI pJ iF et eK a2;have CX:=Ch a2;subst CX;have ad3:=aO aq;have apM: ¬t.next=c:=by omega
      split at h
      · next aK=>
        obtain⟨B,H⟩:=aK;simp only[nA,ui]at h;obtain⟨rfl,rfl⟩:=h;refine iE.drop (aI:= λr bu=>r= .bool (decide (e=0))/\bu=((t.bx 2).an t.next (some ⟨[X l,X k],true⟩)).an c (some ⟨[fm,bh,bt,c1,e0,hK,h3,jk,lf,lz,n4,pE,pF,pG,pH,pI,pJ,X e,X l,X k],true⟩)) (ga (a0:=⟨[],[]⟩) anJ (by kernel_rfl) (by simp[IX]) ?_) λr bu a6=> ?_
        · subst B;subst H;simp(disch:=first|omega|simp only[b3];omega) [IX,Tm,Tn,To,aq,apM]
        · obtain⟨rfl,rfl⟩:=a6;exact⟨_,oN,rfl,rfl,Xh ahL (by omega)⟩
      · next aK=>
        simp only[nA,ui]at h;obtain⟨rfl,rfl⟩:=h;refine iE.drop (aI:= λr bu=>r= .bool (decide (iF=0))/\bu=(t.bx 2).an t.next (some ⟨[X l,X k],true⟩)) (ga (a0:=⟨[],[]⟩) anJ (by kernel_rfl) (by simp[IX]) ?_) λr bu a6=> ?_
        · by_cases B:iF=0
          · cases ok
            · exact absurd ⟨B,rfl⟩ aK
            · subst B;simp(disch:=omega) [IX,Tm,Tn,To,aq]
          · simp(disch:=omega) [IX,Tm,Tn,To,aq,B]
        · obtain⟨rfl,rfl⟩:=a6;exact⟨_,oN,rfl,rfl,ais ahL⟩
    · cases h
def xy.enc(x:xy):List Value:=[cb x.c,.bool x.ok,X x.e,.agg #[X x.l,X x.k]]
def xy.run(x:xy)(t:E):Option (Value×E):=K0 x.c x.ok x.e x.l x.k t (t.U x.c)
noncomputable def FM:ly Z:= .ek 35 xy xy.enc xy.run λ_ _ _ _ h=>awa h
@[simp] theorem aSa:FM.f=35:=rfl
@[simp] theorem aSb{c:Nat}{ok:Bool}{e l k:Int}{t:E}:FM.fn [cb c,.bool ok,X e,.agg #[X l,X k]] t=K0 c ok e l k t (t.U c):=ly.eP (enc:=xy.enc) (z:=xy.run) (x:=⟨c,ok,e,l,k⟩) λy ab=>by obtain⟨eH,aey,eD,eZ,gI⟩:=y;simp[xy.enc]at ab;obtain⟨B,H,af,aL⟩:=ab;simp[B,H,af,aL]
noncomputable def OZ:cf Z:= .ek 112 (ByteArray) (λT=>True) (λT=>[.string T]) (λT=> .bool (pl T)) (λT h=>aHF)
@[simp] theorem aXi:OZ.f=112:=rfl
@[simp] theorem aXj{T:ByteArray}:OZ.fn ([.string T])=some (.bool (pl T)):=cf.eP (x:=T) trivial λy ab=>by simpa using ab
noncomputable def Hz(c hF:Nat)(de:ByteArray)(n l k:Int)(t:E):Option fV->Option (List (Value×Value))->Option (Value×E)
  | some ⟨[fm,bh,bt,c1,e0,hK,h3,jk,lf,lz,n4,pE,pF,pG,pH,pI,pJ,.int .i64 iF,et,eK],true⟩,some bJ=>
    if mD .str (ei de) bJ=true then
      if iF=0 then
        (if pl de=true then
          (if(jY (ei de) bJ).isSome=true then some (.bool false,(t.bx 6).an c (some ⟨[fm,bh,bt,c1,e0,hK,h3,jk,lf,lz,n4,pE,pF,pG,pH,pI,pJ,X 8,X l,X k],true⟩))
           else some (.bool true,(t.bx 6).hx hF (m2 (ei de) (X n) bJ)))
         else some (.bool false,(t.bx 4).an c (some ⟨[fm,bh,bt,c1,e0,hK,h3,jk,lf,lz,n4,pE,pF,pG,pH,pI,pJ,X 1,X l,X k],true⟩)))
      else some (.bool false,t.bx 4)
    else none
  |_,_=>none
@[simp] theorem aQB{c hF:Nat}{de:ByteArray}{n l k iF:Int}{t:E}{bJ:List (Value×Value)}{fm bh bt c1 e0 hK h3 jk lf lz n4 pE pF pG pH pI pJ et eK:Value}(aa:mD .str (ei de) bJ=true):Hz c hF de n l k t (some ⟨[fm,bh,bt,c1,e0,hK,h3,jk,lf,lz,n4,pE,pF,pG,pH,pI,pJ,.int .i64 iF,et,eK],true⟩) (some bJ)=
    if iF=0 then
      (if pl de=true then
        (if(jY (ei de) bJ).isSome=true then some (.bool false,(t.bx 6).an c (some ⟨[fm,bh,bt,c1,e0,hK,h3,jk,lf,lz,n4,pE,pF,pG,pH,pI,pJ,X 8,X l,X k],true⟩))
         else some (.bool true,(t.bx 6).hx hF (m2 (ei de) (X n) bJ)))
       else some (.bool false,(t.bx 4).an c (some ⟨[fm,bh,bt,c1,e0,hK,h3,jk,lf,lz,n4,pE,pF,pG,pH,pI,pJ,X 1,X l,X k],true⟩)))
    else some (.bool false,t.bx 4):=by
  show(if mD .str (ei de) bJ=true then _ else _)=_;rw[if_pos aa]
structure xz where
  c:Nat
  hF:Nat
  de:ByteArray
  n:Int
  l:Int
  k:Int
theorem awv{x:xz}{t bu:E}{r:Value}(h:Hz x.c x.hF x.de x.n x.l x.k t (t.U x.c) (t.fg x.hF)=some (r,bu))(aI:Value->E->Prop)(oN:aI r bu):iE Z 101 [cb x.c,.map (some x.hF),ei x.de,X x.n,.agg #[X x.l,X x.k]] t aI:=by
  obtain⟨c,hF,de,n,l,k⟩:=x;simp only at h⊢;cases aq:t.U c with
  |none=>rw[aq]at h;cases h
  | some b=>
    cases aN:t.fg hF with
    |none=>rw[aq,aN]at h;unfold Hz at h;simp at h
    | some bJ=>
      rw[aq,aN]at h;unfold Hz at h;split at h
      · rename_i fm bh bt c1 e0 hK h3 jk lf lz n4 pE pF pG pH pI pJ iF et eK eE a2 ayJ;have CX:=Ch a2;subst CX;have ayK:=Ch ayJ;subst ayK;have ad3:=aO aq;have apV:hF<t.next:=aO (j6 aN).1
        have aUr:hF≠c:= λe=>by subst e;rw[(j6 aN).1]at aq;simp at aq
        split at h
        · next aa=>
          have apM: ¬t.next=c:=by omega
          have aTM:c≠t.next:=by omega
          have aT0:hF≠t.next:=by omega
          have key: ∀{jR:Value->E->Prop},lb ⟨[OZ],[FM]⟩ Iw (eX [cb c,.map (some hF),ei de,X n,.agg #[X l,X k]]) t (Vo [.bq 10] jR)->iE Z 101 [cb c,.map (some hF),ei de,X n,.agg #[X l,X k]] t jR:= λh=>ga (a0:=⟨[OZ],[FM]⟩) aAx (by kernel_rfl) (by simp[akK]) h;obtain⟨cV,mg⟩: ∃cV:fV,cV=⟨[X l,X k],true⟩:=⟨_,rfl⟩;split at h
          · next Xk=>
            subst Xk;split at h
            · next nJ=>
              cases bs:jY (ei de) bJ with
              | some w=>
                rw[bs]at h;simp only[Option.isSome_some,if_true,nA,ui]at h;obtain⟨rfl,rfl⟩:=h;refine iE.drop (key (jR:= λr bu=>r= .bool false/\bu=((t.bx 6).an t.next (some cV)).an c (some ⟨[fm,bh,bt,c1,e0,hK,h3,jk,lf,lz,n4,pE,pF,pG,pH,pI,pJ,X 8,X l,X k],true⟩)) ?_) λr bu a6=> ?_
                · simp(disch:=first|omega|simp only[b3];omega) [Iw,Mw,Mx,My,Mz,aq,aN,mg,aa,bs,nJ,OK,KQ,-jY,-mD,-ao,-aB,-ai,-au,-List.map_map]
                · obtain⟨rfl,rfl⟩:=a6;exact⟨_,oN,rfl,rfl,Xh (by rw[E.gm];exact n6 (eB _)) (by omega)⟩
              | none=>
                rw[bs]at h;simp only[Option.isSome_none,lv,if_false,nA,ui]at h;obtain⟨rfl,rfl⟩:=h;refine iE.drop (key (jR:= λr bu=>r= .bool true/\bu=((t.bx 6).an t.next (some cV)).hx hF (m2 (ei de) (X n) bJ)) ?_) λr bu a6=> ?_
                · simp(disch:=first|omega|simp only[b3];omega) [Iw,Mw,Mx,My,Mz,aq,aN,mg,aa,bs,nJ,OK,KQ,-jY,-m2,-mD,-ao,-aB,-ai,-au,-List.map_map]
                · obtain⟨rfl,rfl⟩:=a6;exact⟨_,oN,rfl,rfl,awG (by rw[E.gm];exact n6 (eB _)) (by omega)⟩
            · next nJ=>
              simp only[nA,ui]at h;obtain⟨rfl,rfl⟩:=h;refine iE.drop (key (jR:= λr bu=>r= .bool false/\bu=((t.bx 4).an t.next (some cV)).an c (some ⟨[fm,bh,bt,c1,e0,hK,h3,jk,lf,lz,n4,pE,pF,pG,pH,pI,pJ,X 1,X l,X k],true⟩)) ?_) λr bu a6=> ?_
              · simp(disch:=first|omega|simp only[b3];omega) [Iw,Mw,Mx,My,Mz,aq,aN,mg,aa,nJ,OK,KQ,-jY,-mD,-ao,-aB,-ai,-au,-List.map_map]
              · obtain⟨rfl,rfl⟩:=a6;exact⟨_,oN,rfl,rfl,Xh (by rw[E.gm];exact n6 (eB _)) (by omega)⟩
          · next Xk=>
            simp only[nA,ui]at h;obtain⟨rfl,rfl⟩:=h;refine iE.drop (key (jR:= λr bu=>r= .bool false/\bu=(t.bx 4).an t.next (some cV)) ?_) λr bu a6=> ?_
            · simp(disch:=first|omega|simp only[b3];omega) [Iw,Mw,Mx,My,Mz,aq,aN,mg,aa,Xk,OK,KQ,-jY,-mD,-ao,-aB,-ai,-au,-List.map_map]
            · obtain⟨rfl,rfl⟩:=a6;exact⟨_,oN,rfl,rfl,ais (by rw[E.gm];exact n6 (eB _))⟩
        · cases h
      · cases h
def xz.enc(x:xz):List Value:=[cb x.c,.map (some x.hF),ei x.de,X x.n,.agg #[X x.l,X x.k]]
noncomputable def xz.run(x:xz)(t:E):Option (Value×E):=Hz x.c x.hF x.de x.n x.l x.k t (t.U x.c) (t.fg x.hF)
noncomputable def Zg:ly Z:= .ek 101 xz xz.enc xz.run λ_ _ _ _ h=>awv h
@[simp] theorem aSc:Zg.f=101:=rfl
@[simp] theorem aSd{c hF:Nat}{de:ByteArray}{n l k:Int}{t:E}:Zg.fn [cb c,.map (some hF),ei de,X n,.agg #[X l,X k]] t=Hz c hF de n l k t (t.U c) (t.fg hF):=ly.eP (enc:=xz.enc) (z:=xz.run) (x:=⟨c,hF,de,n,l,k⟩) λy ab=>by obtain⟨eH,aUf,aUu,cz,eZ,gI⟩:=y;simp[xz.enc]at ab;obtain⟨B,H,af,aL,cm,dK⟩:=ab;simp[B,H,af,aL,cm,dK]
structure PD(t bu:E)(l:List Nat):Prop where
  next:t.next<=bu.next
  U: ∀b,b<t.next->b∉l->bu.U b=t.U b
  map: ∀b,b<t.next->b∉l->bu.fg b=t.fg b
def Kv(c:Nat)(e l k:Int)(t:E):Prop:= ∃fm bh bt c1 e0 hK h3 jk lf lz n4 pE pF pG pH pI pJ,t.U c=some ⟨[fm,bh,bt,c1,e0,hK,h3,jk,lf,lz,n4,pE,pF,pG,pH,pI,pJ,X e,X l,X k],true⟩
theorem Kv.mk{c:Nat}{e l k:Int}{t:E}{fm bh bt c1 e0 hK h3 jk lf lz n4 pE pF pG pH pI pJ:Value}(h:t.U c=some ⟨[fm,bh,bt,c1,e0,hK,h3,jk,lf,lz,n4,pE,pF,pG,pH,pI,pJ,X e,X l,X k],true⟩):Kv c e l k t:=⟨_,_,_,_,_,_,_,_,_,_,_,_,_,_,_,_,_,h⟩
noncomputable def agw:cf Z:= .ek 9 dY dY.bD (λx=>[nZ x]) (λx=> .bool x.oj) λ_ h=>aMt h
@[simp] theorem aYO:agw.f=9:=rfl
theorem ag3{x:dY}{n:ByteArray}{s e:List aV}{bf:List (List aV)}(h:[nZ x]=[.agg #[ei n,dQ s,oF bf,dQ e]]):x=⟨n,s,bf,e⟩:=by obtain⟨cz,cI,b7,eH⟩:=x;simpa[fH]using h
@[simp] theorem aYP{n:ByteArray}{s e:List aV}{bf:List (List aV)}(h:(dY.mk n s bf e).bD):agw.fn [.agg #[ei n,aQ (s.map ec) 3,aQ (bf.map λr=>[dQ r]) 1,aQ (e.map ec) 3]]=some (.bool (dY.mk n s bf e).oj):=cf.eP (x:=dY.mk n s bf e) h λy ab=>ag3 ab
noncomputable def afT:cf Z:= .ek 67 dY (λx=>x.bD/\ ∀l∈x.bf,l.length<1000000) (λx=>[nZ x]) (λx=>nZ (tN x)) λ_ h=>aHc h.1 h.2
@[simp] theorem aWX:afT.f=67:=rfl
@[simp] theorem aWY{n:ByteArray}{s e:List aV}{bf:List (List aV)}(h:(dY.mk n s bf e).bD/\ ∀l∈bf,l.length<1000000):afT.fn [.agg #[ei n,aQ (s.map ec) 3,aQ (bf.map λr=>[dQ r]) 1,aQ (e.map ec) 3]]=some (nZ (tN ⟨n,s,bf,e⟩)):=cf.eP (x:=dY.mk n s bf e) h λy ab=>ag3 ab
end Go.Proofs.YtkpifdkccdndcaaGreat
namespace Go.Big
def j2.at(s:j2)(i:Int):Int:=if i=0 then s.a else if i=1 then s.b else if i=2 then s.c else if i=3 then s.d else s.e
def j2.an(s:j2)(i v:Int):j2:=if i=1 then⟨s.a,v,-1,-1,-1⟩else if i=2 then⟨s.a,s.b,v,-1,-1⟩else if i=3 then⟨s.a,s.b,s.c,v,-1⟩else⟨s.a,s.b,s.c,s.d,v⟩
end Go.Big
namespace Go.Proofs.YtkpifdkccdndcaaGreat
open Go Go.DI Go.Big
noncomputable def afI:cf Z:= .ek 91 aV aV.bD (λx=>[eV x]) (λx=> .bool x.bG.ok) λ_ aa=>aMq aa
@[simp] theorem aWw:afI.f=91:=rfl
@[simp] theorem aWx{n:Bool}{a b:List Int}(h:(aV.mk n a b).bD):afI.fn [.agg #[.bool n,dy a,dy b]]=some (.bool (aV.mk n a b).bG.ok):=cf.eP (x:=aV.mk n a b) h λy ab=>Ek ab
@[simp] theorem aW0{n:Bool}{a b:List Int}(h:(aV.mk n a b).bD):D9.fn [aQ [[.bool n,dy a,dy b]] 3]=some (aQ [ec (hE ⟨n,a,b⟩)] 3):=
  arL (l:=[⟨n,a,b⟩]) ⟨λx F=>by simp at F;rw[F];exact h,by simp⟩
end Go.Proofs.YtkpifdkccdndcaaGreat
namespace Go.DI
open Go Go.RowKit
section
variable {P:Program} {t:E}
open Classical in
theorem aiO{W:gZ}{z:iS}{t m:E}(M:gx W z t m){o p j O:Nat}{bW:List (List Value)}{cells:List Value}(ah:t.U o=some ⟨bW.flatten,true⟩)(aH: ∀r∈bW,r.length=O/\ ∀v∈r,il v=true)
    (Y:t.U p=some ⟨cells,true⟩) (c6:cells[j]?=some (.slice (some ⟨o,0,none⟩) bW.length O)) (dE:o≠p):
    ∃dH,j0 z dH/\(∀b cs,dH b=some cs->z b=some cs\/W o=some b)/\gx W dH ((t.an o none).an p (some ⟨cells.set j (aQ bW O),true⟩)) m:=by
  have eQ:=aO ah;have Yz:=aO Y;have cl: ∀r∈bW,r.length=O:= λr h=>(aH r h).1;refine⟨λb=>match z b with
    |some cs=>some cs
    |none=>if W o=some b then(m.U b).map (·.cells)else none,λb cs K=>by simp only[K],λb cs K=> ?_,?_⟩
  · simp only at K;cases dD:z b with
    |some ds=>rw[dD]at K;exact .inl K
    | none=>
      rw[dD]at K;simp only at K;split at K
      · next h=>exact .inr h
      · cases K
  · obtain⟨dH,nF⟩: ∃dH:iS,dH= λb=>match z b with
      |some cs=>some cs
      |none=>if W o=some b then(m.U b).map (·.cells)else none:=⟨_,rfl⟩
    rw[<-nF];have fM:j0 z dH:= λb cs K=>by rw[nF];simp only[K]
    have iO: ∀b cs w,W o=some b->m.U b=some ⟨cs,w⟩->dH b=some cs:= λb cs w b8 aq=>by
      rw[nF];simp only;cases wC:z b with
      |some ds=>obtain⟨⟨ee,vA⟩,_⟩:=M.bG b ds wC;rw[aq]at vA;cases vA;rfl
      |none=>simp only;rw[if_pos b8,aq];rfl
    have hP:((t.an o none).an p (some ⟨cells.set j (aQ bW O),true⟩)).U p=some ⟨cells.set j (aQ bW O),true⟩:=cW (by simpa using Yz);have bj:((t.an o none).an p (some ⟨cells.set j (aQ bW O),true⟩)).U o=none:=(by rw[dC dE,cW eQ]);have me: ∀q,q≠p->q≠o->((t.an o none).an p (some ⟨cells.set j (aQ bW O),true⟩)).U q=t.U q:= λq B H=>by rw[dC B,dC H]
    refine⟨λq x F=> ?_,λq bJ a2=> ?_,M.lI,M.inj,M.fa,λb ds K=> ?_⟩
    · by_cases B:q=p
      · subst B;rw[hP]at F;cases F;rcases M.lu q _ Y with⟨b,ds,w,aj,ba,cD,fs⟩|⟨aj,ba⟩
        · refine .inl ⟨b,ds,w,aj,ba,cD,?_⟩;obtain⟨y,ab,S⟩:=fs.U c6;have qn:cQ dH W (aQ bW O) y:=by
            rcases S.rU with⟨c,aX,_,rfl⟩|⟨_,_,dU,rfl⟩
            · obtain⟨cs,ee,bM,_,fp⟩:=M.qb aX ah;have lU:(bW.flatten).length=bW.length*O:=CH cl;refine .jX (off:=0) rfl (iO c cs ee aX bM) (by rw[<-fp.1];simp only;omega) (λi r ag=>cl r (fT ag)) λi apq r aG y ag ar ab=> ?_;have sA:=Xx cl ag;have ajK:=(dg.1 ar).1;rw[cl r (fT ag)]at ajK;have cm:(bW.flatten)[i*O+apq]?=some aG:=by
                rw[<-sA,se,if_pos ajK,rv]at ar;exact ar
              have dK:=fp.2 (i*O+apq) aG y cm (by rw[<-ab];congr 1;omega);exact W5 fM dK ((aH r (fT ag)).2 aG (fT ar))
            · have:bW=[]:=Hj dU;subst this;exact .jK rfl
          have hh:=(fs.aD fM (h7.refl _)).set j qn;rw[show ds.set j y=ds from by
            apply List.ext_getElem?;intro i;rw[EA];split
            · next e=>subst e;rw[ab];simp;exact(dg.1 ab).1
            · rfl]at hh
          exact hh
        · simp only at ba;subst ba;simp at c6
      · by_cases H:q=o
        · subst H;rw[bj]at F;cases F
        · rw[me q B H]at F;rcases M.lu q x F with⟨b,ds,w,aj,ba,cD,fs⟩|aj
          · exact .inl ⟨b,ds,w,aj,ba,cD,fs.aD fM (h7.refl _)⟩
          · exact .inr aj
    · obtain⟨aX,bg⟩:=j6 a2;by_cases B:q=p
      · subst B;rw[hP]at aX;have:cells=[]:=(by simpa using aX);subst this;simp at c6
      · by_cases H:q=o
        · subst H;rw[bj]at aX;cases aX
        · rw[me q B H]at aX;obtain⟨b,eE,bM,dL,fp⟩:=M.jB q bJ (o7 aX bg);exact⟨b,eE,bM,dL,fp.aD fM (h7.refl _)⟩
    · have HZ:z b=some ds\/(W o=some b/\ ∃w,m.U b=some ⟨ds,w⟩):=by
        rw[nF]at K;simp only at K;cases wC:z b with
        |some x=>rw[wC]at K;simp only at K;exact .inl K
        | none=>
          rw[wC]at K;simp only at K;split at K
          · next h=>
            cases aq:m.U b with
            |none=>rw[aq]at K;cases K
            |some x=>rw[aq]at K;cases K;exact .inr ⟨h,x.own,rfl⟩
          · cases K
      rcases HZ with h|⟨h,w,b6⟩
      · obtain⟨B,H⟩:=M.bG b ds h;refine⟨B,λq x b8 F=> ?_⟩;by_cases aX:q=p
        · subst aX;have:=H q _ b8 Y;cases this
        · by_cases bg:q=o
          · subst bg;rw[bj]at F;cases F
          · rw[me q aX bg]at F;exact H q x b8 F
      · refine⟨⟨w,b6⟩,λq x b8 F=> ?_⟩;have:q=o:=M.inj q o b b8 h;subst this;rw[bj]at F;cases F
theorem iE.freeze{f:Nat}{args:List Value}{aI jR:Value->E->Prop}(h:iE P f args t aI)(ay: ∀r bu,aI r bu->jR r bu\/ ∃o p j O bW cells,bu.U o=some ⟨bW.flatten,true⟩/\(∀r∈bW,r.length=O/\ ∀v∈r,il v=true)/\bu.U p=some ⟨cells,true⟩/\
    cells[j]?=some (.slice (some ⟨o,0,none⟩) bW.length O)/\o≠p/\jR r ((bu.an o none).an p (some ⟨cells.set j (aQ bW O),true⟩))):iE P f args t jR:= λW z a1i m M aC=>(h W z a1i m M aC).aD λhy bo a6=>by
  obtain⟨e5,gS,r,eu,B,H,af,aL⟩:=a6;rcases ay r eu B with eh|⟨o,p,j,O,bW,cells,aj,ba,cD,fs,iU,mc⟩
  · exact⟨e5,gS,r,eu,eh,H,af,aL⟩
  obtain⟨lx,bM,dL,fp⟩:=aiO H aj ba cD fs iU;refine⟨e5,lx,r,_,mc,fp,af.aD bM (h7.refl _),aL.e,aL.f.trans bM,aL.mR,λb cs K=> ?_,aL.ov,aL.oS,aL.rW,λb K ⟨q,x,bC,cq,cZ⟩=>aL.ud b K ?_,λb K ⟨q,x,bC,cq⟩=>aL.rC b K ?_⟩
  · rcases dL b cs K with cm|cm
    · exact aL.fn b cs cm
    · by_cases dK:b<m.next
      · exact .inr (.inr (aL.rC b dK ⟨o,_,cm,aj⟩))
      · exact .inr (.inl (by omega))
  · by_cases aX:q=p
    · subst aX;exact⟨q,_,bC,cD,rfl⟩
    · by_cases bg:q=o
      · subst bg;exact⟨q,_,bC,aj,rfl⟩
      · rw[dC aX,dC bg]at cq;exact⟨q,x,bC,cq,cZ⟩
  · by_cases aX:q=p
    · subst aX;exact⟨q,_,bC,cD⟩
    · by_cases bg:q=o
      · subst bg;exact⟨q,_,bC,aj⟩
      · rw[dC aX,dC bg]at cq;exact⟨q,x,bC,cq⟩
end
end Go.DI
namespace Go.Proofs.YtkpifdkccdndcaaGreat
open Go Go.DI Go.Big
def aGv(xH:List (Value×Value))(s:ByteArray):Bool:=(jY (ei s) xH).isSome
noncomputable def af2:cf Z:= .ek 102 (Int×Int×Int×j2) (λ_=>True) (λp=>[X p.1,X p.2.1,X p.2.2.1,.agg #[X p.2.2.2.a,X p.2.2.2.b,X p.2.2.2.c,X p.2.2.2.d,X p.2.2.2.e]]) (λp=> .bool (pn p.1 p.2.1 p.2.2.1 p.2.2.2)) λ_ _=>aH1
@[simp] theorem aXm:af2.f=102:=rfl
@[simp] theorem aXn{k m q a b c d e:Int}:af2.fn [X k,X m,X q,.agg #[X a,X b,X c,X d,X e]]=some (.bool (pn k m q ⟨a,b,c,d,e⟩)):=cf.eP (x:=(k,m,q,(⟨a,b,c,d,e⟩:j2))) trivial λy ab=>by obtain⟨gk,h6,px,s4,xn,He,Wh,Wi⟩:=y;simp at ab;obtain⟨B,H,af,aL,cm,dK,hh,iV⟩:=ab;simp[B,H,af,aL,cm,dK,hh,iV]
noncomputable def age:cf Z:= .ek 103 (Int×List aV×aV×aV) (λp=>((∀x∈p.2.1,x.bD)/\p.2.1.length<1000000)/\p.2.2.1.bD/\p.2.2.2.bD) (λp=>[X p.1,dQ p.2.1,eV p.2.2.1,eV p.2.2.2]) (λp=> .bool (rk p.1 p.2.1 p.2.2.1 p.2.2.2)) λ_ h=>aJe h.1 h.2.1 h.2.2
@[simp] theorem aX7:age.f=103:=rfl
@[simp] theorem aX8{m:Int}{r:List aV}{n cz:Bool}{a b cI b7:List Int}(h:((∀x∈r,x.bD)/\r.length<1000000)/\(aV.mk n a b).bD/\(aV.mk cz cI b7).bD):age.fn [X m,aQ (r.map ec) 3,.agg #[.bool n,dy a,dy b],.agg #[.bool cz,dy cI,dy b7]]=some (.bool (rk m r ⟨n,a,b⟩ ⟨cz,cI,b7⟩)):=cf.eP (x:=(m,r,(⟨n,a,b⟩:aV),(⟨cz,cI,b7⟩:aV))) h λy ab=>by obtain⟨gk,h6,⟨px,s4,xn⟩,⟨He,Wh,Wi⟩⟩:=y;simp[ec]at ab;obtain⟨B,H,⟨af,aL,cm⟩,dK,hh,iV⟩:=ab;simp[B,H,af,aL,cm,dK,hh,iV]
@[simp] theorem aW1{n cz:Bool}{a b cI b7:List Int}(h:(aV.mk n a b).bD/\(aV.mk cz cI b7).bD):D9.fn [aQ [[.bool n,dy a,dy b],[.bool cz,dy cI,dy b7]] 3]=some (aQ [ec (hE ⟨n,a,b⟩),ec (hE ⟨cz,cI,b7⟩)] 3):=
  arL (l:=[⟨n,a,b⟩,⟨cz,cI,b7⟩]) ⟨λx F=>by simp at F;rcases F with rfl|rfl;exact h.1;exact h.2,by simp⟩
theorem PD.refl{t:E}{l:List Nat}:PD t t l:=⟨eB _,λ_ _ _=>rfl,λ_ _ _=>rfl⟩
def EK.bD(x:EK):Prop:=((∀r∈x.hz,r.bD)/\x.hz.length<1000000)/\x.kU.bD/\x.eS.bD
def og(s:ByteArray):List ByteArray->Option Nat
  |[]=>none
  |x::l=>if s=x then some 0 else(og s l).map (· +1)
def Lb(k:Nat):List ByteArray->List (Value×Value)
  |[]=>[]
  |x::l=>(ei x,X k)::Lb (k+1) l
def aw7(l:List ByteArray):List (Value×Value):=l.map λx=>(ei x,X 0)
structure n3 where
  bO:List dY
  aR:List o1
  br:List gp
  c5:List pB
  bT:List hr
  cP:List uj
  qA:List ByteArray
  jd:j2
abbrev PI:=n3⊕(Int×Hq)
def n3.nM(ax:n3):List ByteArray:=ax.bO.map (·.name)
def n3.nP(ax:n3):List ByteArray:=ax.aR.map (·.name)
def n3.oT(ax:n3):List ByteArray:=ax.bT.map (·.name)
def n3.m8(ax:n3):List ByteArray:=ax.cP.map (·.name)
structure Aw where
  c:Nat
  zM:Nat
  zN:Nat
  zO:Nat
  zP:Nat
  zQ:Nat
structure As(d:Aw)(ext:Int)(ax:n3)(t:E)(rf kp re rh rg ri:Nat)(et eK:Value):Prop where
  c :t.U d.c=some ⟨[X ext,.slice (some ⟨rf,0,none⟩) ax.bO.length 4,.slice (some ⟨kp,0,none⟩) ax.aR.length 4,.slice (some ⟨re,0,none⟩) ax.br.length 7,.slice (some ⟨rh,0,none⟩) ax.c5.length 3,.slice (some ⟨rg,0,none⟩) ax.bT.length 17,.slice (some ⟨ri,0,none⟩) ax.cP.length 2,
    .map (some d.zM),.map (some d.zN),.map (some d.zO),.map (some d.zP),.map (some d.zQ),X ax.jd.a,X ax.jd.b,X ax.jd.c,X ax.jd.d,X ax.jd.e,X 0,et,eK],true⟩
  Lu:t.U rf=some ⟨(ax.bO.map fH).flatten,true⟩
  xO:t.U kp=some ⟨(ax.aR.map hD).flatten,true⟩
  Lt:t.U re=some ⟨(ax.br.map eL).flatten,true⟩
  Lx:t.U rh=some ⟨(ax.c5.map hO).flatten,true⟩
  Lw:t.U rg=some ⟨(ax.bT.map eR).flatten,true⟩
  AW:t.U ri=some ⟨(ax.cP.map iy).flatten,true⟩
  zM:t.fg d.zM=some (Lb 0 ax.nM)
  zN:t.fg d.zN=some (Lb 0 ax.nP)
  zO:t.fg d.zO=some (aw7 ax.qA)
  zP:t.fg d.zP=some (Lb 0 ax.oT)
  zQ:t.fg d.zQ=some (Lb 0 ax.m8)
  lk:[d.c,d.zM,d.zN,d.zO,d.zP,d.zQ,rf,kp,re,rh,rg,ri].Nodup
def atr(d:Aw)(ext:Int)(ax:n3)(t:E):Prop:= ∃rf kp re rh rg ri et eK,As d ext ax t rf kp re rh rg ri et eK
def Ay(d:Aw)(ext:Int)(s:PI)(t:E):Prop:=match s with
  | .inl ax=>atr d ext ax t
  | .inr (e,p)=>e≠0/\Kv d.c e p.l p.c t
theorem As.Xz{d:Aw}{ext:Int}{ax:n3}{t bu:E}{rf kp re rh rg ri:Nat}{et eK:Value}(h:As d ext ax t rf kp re rh rg ri et eK)(bs:PD t bu []):As d ext ax bu rf kp re rh rg ri et eK where
  c:=by rw[bs.U _ (aO h.c) (by simp)];exact h.c
  Lu:=by rw[bs.U _ (aO h.Lu) (by simp)];exact h.Lu
  xO:=by rw[bs.U _ (aO h.xO) (by simp)];exact h.xO
  Lt:=by rw[bs.U _ (aO h.Lt) (by simp)];exact h.Lt
  Lx:=by rw[bs.U _ (aO h.Lx) (by simp)];exact h.Lx
  Lw:=by rw[bs.U _ (aO h.Lw) (by simp)];exact h.Lw
  AW:=by rw[bs.U _ (aO h.AW) (by simp)];exact h.AW
  zM:=by rw[bs.map _ (aO (j6 h.zM).1) (by simp)];exact h.zM
  zN:=by rw[bs.map _ (aO (j6 h.zN).1) (by simp)];exact h.zN
  zO:=by rw[bs.map _ (aO (j6 h.zO).1) (by simp)];exact h.zO
  zP:=by rw[bs.map _ (aO (j6 h.zP).1) (by simp)];exact h.zP
  zQ:=by rw[bs.map _ (aO (j6 h.zQ).1) (by simp)];exact h.zQ
  lk:=h.lk
def n3.small(ax:n3)(n:Nat):Prop:=ax.bO.length<=n/\ax.aR.length<=n/\ax.br.length<=n/\ax.c5.length<=n/\ax.bT.length<=n/\ax.cP.length<=n
theorem Ay.Xz{d:Aw}{ext:Int}{s:PI}{t bu:E}(h:Ay d ext s t)(bs:PD t bu []):Ay d ext s bu:=by
  cases s with
  |inl ax=>obtain⟨rf,kp,re,rh,rg,ri,et,eK,B⟩:=h;exact⟨rf,kp,re,rh,rg,ri,et,eK,B.Xz bs⟩
  | inr e=>obtain⟨bH,_,_,_,_,_,_,_,_,_,_,_,_,_,_,_,_,_,B⟩:=h;exact⟨bH,Kv.mk ((bs.U _ (aO B) (by simp)).trans B)⟩
def tp(l:List ByteArray):List (Value×Value):=l.map λx=>(ei x,.bool true)
theorem aei{s:ByteArray}: ∀{l:List ByteArray},jY (ei s) (tp l)=(og s l).map λ_=> .bool true
  |[]=>rfl
  | x::l=>by
    simp only[tp,n0,jY,kj,og];by_cases h:s=x
    · simp[h]
    · have:=aei (s:=s) (l:=l);simp only[tp]at this;simp only[h,decide_false,if_false,this,Option.map_map,lv];rfl
theorem aqh{s:ByteArray}: ∀{l:List ByteArray},og s l=none->m2 (ei s) (.bool true) (tp l)=tp (l++[s])
  |[],_=>by simp[tp,m2]
  | x::l,h=>by
    simp only[og]at h;split at h
    · cases h
    · next M=>have:=aqh (s:=s) (l:=l) (by cases bz:og s l with|none=>rfl|some v=>rw[bz]at h;cases h);simp only[tp]at this;simp only[tp,n0,m2,kj,M,decide_false,lv,if_false,Cg,this]
theorem aGs{s:ByteArray}{l:List ByteArray}:mD .str (ei s) (tp l)=true:=by simp only[mD,tp,q4,oY,List.all_map,hJ];intro x _;rfl
theorem akv{s:ByteArray}: ∀{l:List ByteArray},s∉l->og s l=none
  |[],_=>rfl
  | x::l,h=>by simp only[oz,not_or]at h;simp only[og,if_neg h.1,akv h.2];rfl
theorem aHW{l:List ByteArray}(h:l.Nodup){i:Nat}(ag:i<l.length):l[i]∉l.take i:= λaN=>by
  obtain⟨j,c6,a2⟩:=s7 aN;rw[List.getElem_take]at a2;have A3:j<i:=by rw[k9]at c6;omega
  exact(List.pairwise_iff_getElem.1 h j i (by omega) ag A3) a2
end Go.Proofs.YtkpifdkccdndcaaGreat
