/-
  A part of the proof of the statement, in texts that tools of ours (wip/shrink.py, irpack.py, relax.py, minify.py, join.py, lay.py) have shortened.
-/
import Derived.Test.YtkpifdkccdndcaaGreatZas
set_option linter.all false
set_option maxRecDepth 8000
set_option maxHeartbeats 16000000
namespace Go.Proofs.YtkpifdkccdndcaaGreat
open Go Go.DI Go.Big
noncomputable def m6(x:hr)(v:Value):List Value:=[ei x.name,X x.k,X x.m,X x.q,X x.a0.a,X x.a0.b,X x.a0.c,X x.a0.d,X x.a0.e,v,dQ (x.hz.map hE),.bool (hE x.kU).bQ,dy (hE x.kU).a,dy (hE x.kU).b,.bool (hE x.eS).bQ,dy (hE x.eS).a,dy (hE x.eS).b,X 0,X 0]
def VR:List Nat:=[1,2,5,11,13,73,74,75]
theorem arV{u ae:aM}(B:ae 1=u 1)(H:ae 2=u 2)(cm:ae 5=u 5)(ajd:ae 11=u 11)(aje:ae 13=u 13)(aRk:ae 73=u 73)(aRl:ae 74=u 74)(aRm:ae 75=u 75): ∀k∈VR,ae k=u k:= λk aa=>by simp only[VR,oz,wi,or_false]at aa;rcases aa with rfl|rfl|rfl|rfl|rfl|rfl|rfl|rfl<;>assumption
theorem aIK{z:a4}{w:Bool}{x:hr}(aN: ∀m∈x.aR,∃(k:Nat) (y:o1),m=(k:Int)/\z.aR[k]?=some y)(fN:x.aR.length<1000000){q cG ht:Nat}{bF:aM}{bS:E}(my:bS.U 0=some ⟨bl z,w⟩)(LI:bS.U q=some ⟨m6 x (.slice (some ⟨cG,0,none⟩) 0 1),true⟩)(jl:bS.U cG=some ⟨[],true⟩)(dm:0≠q)(ho:0≠cG)(aH0:q≠cG)
    (aw:bF 1=cb 0) (xh:bF 13=cb q) (jt:bF 106=lS x.aR) (iC:bF 107=X x.aR.length) (gg:bF 108=X 0) {Q:dp->aM->E->Prop}
    (a1: ∀u t o,(∀k∈VR,u k=bF k)->bS.next<=t.next->(∀b,b<bS.next->b≠q->b≠cG->t.U b=bS.U b)->t.U q=some ⟨m6 x (.slice (some ⟨o,0,none⟩) x.aR.length 1),true⟩->t.U o=some ⟨e3 (x.aR.map (pZ z.aR)),true⟩->(o=cG\/bS.next<=o)->Q (.bw 6) u t):gD Z (.loop SP) bF bS Q:=by
  have aHh:=aO LI;have Gw:=aO jl;have tM:=aO my;refine hC (a0:=⟨[],[]⟩) (λi u t=> ∃o,(∀k∈VR,u k=bF k)/\bS.next<=t.next/\(∀b,b<bS.next->b≠q->b≠cG->t.U b=bS.U b)/\t.U q=some ⟨m6 x (.slice (some ⟨o,0,none⟩) i 1),true⟩/\t.U o=some ⟨e3 ((x.aR.take i).map (pZ z.aR)),true⟩/\(o=cG\/bS.next<=o)/\u 106=lS x.aR/\u 107=X x.aR.length/\u 108=X i) x.aR.length ?_ ?_ 0 bF bS (hf _) ⟨cG,λ_ _=>rfl,eB _,λ_ _ _ _=>rfl,LI,by simpa[e3]using jl,.inl rfl,jt,iC,by simpa using gg⟩
  · rintro i u t ag ⟨o,M,hR,e2,me,bj,eS,jt,iC,gg⟩ cp aZ;obtain⟨m,F⟩:=kS ag;have eA:=(dg.1 F).2;obtain⟨k,y,rfl,ab⟩:=aN m (fT F);have uF:k<z.aR.length:=(dg.1 ab).1;have tx:(k:Int)<z.aR.length:=(by omega);have gX:=(dg.1 ab).2;have qZ:pZ z.aR (k:Int)=y.name:=(by unfold pZ;rw[u6,ab]);have bc:=e7 (n:=i) (by omega);have bn:(i:Int)<x.aR.length:=(by omega);have nv:u 1=cb 0:=(M 1 (by decide)).trans aw;have B7:u 13=cb q:=(M 13 (by decide)).trans xh;have aHZ:q≠o:=(by rcases eS with rfl|b6<;>omega);have qC:0≠o:=(by rcases eS with rfl|b6<;>omega);have aJ:t.U 0=some ⟨bl z,w⟩:=(by rw[e2 0 tM dm ho];exact my);have et:=aO aJ;have apY:=aO me;have cK:=aO bj;obtain⟨cs,fe⟩: ∃cs,cs=e3 ((x.aR.take i).map (pZ z.aR)):=⟨_,rfl⟩;rw[<-fe]at bj;have gr:cs.length=i:=(by rw[fe,w4,jZ,k9];omega);have hd:cs.take i=cs:=fw (by omega);have gv:(i+1)*16<=140737488355328/\i<=9223372036854775806:=(by omega);have ia:e3 ((x.aR.take (i+1)).map (pZ z.aR))=cs++[ei y.name]:=(by rw[l6 F,oy,n0,wj,BN,fe,qZ]);simp(disch:=first|omega|simp only[DI.aF];omega) [SP,abf,abg,bl,hD,m6,nv,B7,jt,iC,gg,aJ,me,bj,bn,bc,eA,tx,gX,gr,hd,gv,-ao,-aB,-ai,-au,-List.map_map];refine aZ _ _ ⟨t.next+9,λk aa=>kN (b:=u k) (arV (by simp) (by simp) (by simp) (by simp) (by simp) (by simp) (by simp) (by simp) k aa) (M k aa),by simp;omega,λb B H af=> ?_,?_,?_,.inr (by omega),by simp[jt],by simp[iC],by simp⟩
    · have aX:b≠o:=(by rcases eS with rfl|b6<;>omega);rw[<-e2 b B H af];have bg:b<t.next:=by omega
      simp(disch:=first|omega|simp only[DI.aF];omega) [-ao,-aB,-ai,-au,-List.map_map]
    · simp(disch:=first|omega|simp only[DI.aF];omega) [m6,-ao,-aB,-ai,-au,-List.map_map]
    · rw[ia];simp(disch:=first|omega|simp only[DI.aF];omega) [-ao,-aB,-ai,-au,-List.map_map]
  · rintro u t ⟨o,M,hR,e2,me,bj,eS,jt,iC,gg⟩;have cg: ¬(((x.aR.length:Nat):Int)<x.aR.length):=(by omega);rw[kM]at bj;simp(disch:=first|omega|simp only[DI.aF];omega) [SP,abf,abg,iC,gg,cg,-ao,-aB,-ai,-au,-List.map_map];exact a1 _ _ o (λk aa=>kN (b:=u k) (arV (by simp) (by simp) (by simp) (by simp) (by simp) (by simp) (by simp) (by simp) k aa) (M k aa)) hR e2 me bj eS
def VS:List Nat:=[1,2,4,8,9,10]
theorem arW{u ae:aM}(B:ae 1=u 1)(H:ae 2=u 2)(aL:ae 4=u 4)(iV:ae 8=u 8)(mf:ae 9=u 9)(QS:ae 10=u 10): ∀k∈VS,ae k=u k:= λk aa=>by simp only[VS,oz,wi,or_false]at aa;rcases aa with rfl|rfl|rfl|rfl|rfl|rfl<;>assumption
theorem aKb{z:a4}{w:Bool}{x:hr}(aN: ∀m∈x.aR,∃(k:Nat) (y:o1),m=(k:Int)/\z.aR[k]?=some y)(fN:x.aR.length<1000000){q cG ht:Nat}{bF:aM}{bS:E}(my:bS.U 0=some ⟨bl z,w⟩)(LI:bS.U q=some ⟨m6 x (.slice (some ⟨cG,0,none⟩) 0 1),true⟩)(jl:bS.U cG=some ⟨[],true⟩)(dm:0≠q)(ho:0≠cG)(aH0:q≠cG)
    (aw:bF 1=cb 0) (xh:bF 10=cb q) (ax6:bS.U ht=some ⟨eR x,true⟩) (CQ:ht≠q) (eO:ht≠cG) (e4:bF 9=cb ht) (gg:bF 11=X 0) {Q:dp->aM->E->Prop}
    (a1: ∀u t o,(∀k∈VS,u k=bF k)->bS.next<=t.next->(∀b,b<bS.next->b≠q->b≠cG->t.U b=bS.U b)->t.U q=some ⟨m6 x (.slice (some ⟨o,0,none⟩) x.aR.length 1),true⟩->t.U o=some ⟨e3 (x.aR.map (pZ z.aR)),true⟩->(o=cG\/bS.next<=o)->Q (.bw 6) u t):gD Z (.loop S2) bF bS Q:=by
  have aHh:=aO LI;have Gw:=aO jl;have tM:=aO my;refine hC (a0:=⟨[],[]⟩) (λi u t=> ∃o,(∀k∈VS,u k=bF k)/\bS.next<=t.next/\(∀b,b<bS.next->b≠q->b≠cG->t.U b=bS.U b)/\t.U q=some ⟨m6 x (.slice (some ⟨o,0,none⟩) i 1),true⟩/\t.U o=some ⟨e3 ((x.aR.take i).map (pZ z.aR)),true⟩/\(o=cG\/bS.next<=o)/\t.U ht=some ⟨eR x,true⟩/\ht≠o/\u 11=X i) x.aR.length ?_ ?_ 0 bF bS (hf _) ⟨cG,λ_ _=>rfl,eB _,λ_ _ _ _=>rfl,LI,by simpa[e3]using jl,.inl rfl,ax6,eO,by simpa using gg⟩
  · rintro i u t ag ⟨o,M,hR,e2,me,bj,eS,AY,eO,gg⟩ cp aZ;obtain⟨m,F⟩:=kS ag;have eA:=(dg.1 F).2;obtain⟨k,y,rfl,ab⟩:=aN m (fT F);have uF:k<z.aR.length:=(dg.1 ab).1;have tx:(k:Int)<z.aR.length:=(by omega);have gX:=(dg.1 ab).2;have qZ:pZ z.aR (k:Int)=y.name:=(by unfold pZ;rw[u6,ab]);have bc:=e7 (n:=i) (by omega);have bn:(i:Int)<x.aR.length:=(by omega);have nv:u 1=cb 0:=(M 1 (by decide)).trans aw;have B7:u 10=cb q:=(M 10 (by decide)).trans xh;have afy:u 9=cb ht:=(M 9 (by decide)).trans e4;have aHZ:q≠o:=(by rcases eS with rfl|b6<;>omega);have qC:0≠o:=(by rcases eS with rfl|b6<;>omega);have aJ:t.U 0=some ⟨bl z,w⟩:=(by rw[e2 0 tM dm ho];exact my);have et:=aO aJ;have apY:=aO me;have cK:=aO bj;have BG:=aO AY;obtain⟨cs,fe⟩: ∃cs,cs=e3 ((x.aR.take i).map (pZ z.aR)):=⟨_,rfl⟩;rw[<-fe]at bj;have gr:cs.length=i:=(by rw[fe,w4,jZ,k9];omega);have hd:cs.take i=cs:=fw (by omega);have gv:(i+1)*16<=140737488355328/\i<=9223372036854775806:=(by omega);have ia:e3 ((x.aR.take (i+1)).map (pZ z.aR))=cs++[ei y.name]:=(by rw[l6 F,oy,n0,wj,BN,fe,qZ]);simp(disch:=first|omega|simp only[DI.aF];omega) [S2,abS,bl,hD,m6,nv,B7,gg,aJ,me,bj,bn,bc,eA,tx,gX,gr,hd,gv,AY,afy,eR,-ao,-aB,-ai,-au,-List.map_map];refine aZ _ _ ⟨t.next+13,λk aa=>kN (b:=u k) (arW (by simp) (by simp) (by simp) (by simp) (by simp) (by simp) k aa) (M k aa),by simp;omega,λb B H af=> ?_,?_,?_,.inr (by omega),?_,by omega,by simp⟩
    · have aX:b≠o:=(by rcases eS with rfl|b6<;>omega);rw[<-e2 b B H af];have bg:b<t.next:=by omega
      simp(disch:=first|omega|simp only[DI.aF];omega) [-ao,-aB,-ai,-au,-List.map_map]
    · simp(disch:=first|omega|simp only[DI.aF];omega) [m6,-ao,-aB,-ai,-au,-List.map_map]
    · rw[ia];simp(disch:=first|omega|simp only[DI.aF];omega) [-ao,-aB,-ai,-au,-List.map_map]
    · simp(disch:=first|omega|simp only[DI.aF];omega) [AY,eR,-ao,-aB,-ai,-au,-List.map_map]
  · rintro u t ⟨o,M,hR,e2,me,bj,eS,AY,eO,gg⟩;have cg: ¬(((x.aR.length:Nat):Int)<x.aR.length):=(by omega);have afy:u 9=cb ht:=(M 9 (by decide)).trans e4;have BG:=aO AY;rw[kM]at bj;simp(disch:=first|omega|simp only[DI.aF];omega) [S2,abS,AY,gg,cg,afy,eR,-ao,-aB,-ai,-au,-List.map_map];exact a1 _ _ o (λk aa=>kN (b:=u k) (arW (by simp) (by simp) (by simp) (by simp) (by simp) (by simp) k aa) (M k aa)) hR e2 me bj eS
theorem agA{x:hr}{v aG:Value}: ∀{cs:List Value} {n:Nat},cs.length=n->(cs++m6 x v).set (n+9) aG=cs++m6 x aG
  |[],_,rfl=>rfl
  | y::l,_,rfl=>by show(y::(l++m6 x v)).set (l.length+1+9) aG=y::(l++m6 x aG);rw[show l.length+1+9=(l.length+9)+1 by omega,List.set_cons_succ,agA rfl]
theorem XK{x:hr}{v:Value}: ∀{cs:List Value} {n:Nat},cs.length=n->(cs++m6 x v)[n+9]?=some v
  |[],_,rfl=>rfl
  | y::l,_,rfl=>by show(y::(l++m6 x v))[l.length+1+9]?=some v;rw[show l.length+1+9=(l.length+9)+1 by omega,Ps,XK rfl]
theorem aIL{z:a4}(aH:a4.dP z)(S:a4.tI z){w:Bool}{p cG:Nat}{bY cN dI gE:Value}{bF:aM}{bS:E}(bH:kO z w 5 p [X z.ext,bY,cN,dI,.slice (some ⟨cG,0,none⟩) 0 19,gE] bF bS)(jl:bS.U cG=some ⟨[],true⟩)(ho:cG≠0)(j9:cG≠1)(ka:cG≠p)
    (jt:bF 73=aQ (z.bT.map eR) 17) (iC:bF 74=X z.bT.length) (gg:bF 75=X 0) {Q:dp->aM->E->Prop} (a1: ∀u t o,kO z w 5 p [X z.ext,bY,cN,dI,.slice (some ⟨o,0,none⟩) z.bT.length 19,gE] u t->t.U o=some ⟨(z.bT.map (λx=>nx (oT z.aR x))).flatten,true⟩->o≠0->o≠1->o≠p->Q (.bw 4) u t):gD Z (.loop SQ) bF bS Q:=by
  have C2:=aH.je;refine as9 (a0:=⟨[D9],[]⟩) (λi u t=> ∃o,kO z w 5 p [X z.ext,bY,cN,dI,.slice (some ⟨o,0,none⟩) i 19,gE] u t/\t.U o=some ⟨((z.bT.take i).map (λx=>nx (oT z.aR x))).flatten,true⟩/\o≠0/\o≠1/\o≠p/\u 73=aQ (z.bT.map eR) 17/\u 74=X z.bT.length/\u 75=X i) z.bT.length ?_ ?_ 0 bF bS (hf _) ⟨cG,bH,by simpa using jl,ho,j9,ka,jt,iC,by simpa using gg⟩
  · rintro i u t ag ⟨o,⟨aw,bR,cv,aJ,aj,hP,dm,du⟩,bj,ho,j9,ka,jt,iC,gg⟩ cp aZ;obtain⟨x,F⟩:=kS ag;have eA:=(dg.1 F).2;have bc:=e7 (n:=i) (by omega);have bn:(i:Int)<z.bT.length:=(by omega);have et:=aO aJ;have fP:=aO aj;have vP:=aO hP;have cK:=aO bj;obtain⟨cs,fe⟩: ∃cs,cs=((z.bT.take i).map (λx=>nx (oT z.aR x))).flatten:=⟨_,rfl⟩;rw[<-fe]at bj;have gr:cs.length=i*19:=(by rw[fe,CG (l:=z.bT) (f:=(λx=>nx (oT z.aR x))) (O:=19) (λ_=>rfl) (by omega)]);have hd:cs.take (i*19)=cs:=fw (by omega);have gv:(i+1)*256<=140737488355328/\i<=9223372036854775806:=(by omega);have ia:((z.bT.take (i+1)).map (λx=>nx (oT z.aR x))).flatten=cs++(λx=>nx (oT z.aR x)) x:=(by rw[CF (f:=(λx=>nx (oT z.aR x))) F,fe]);obtain⟨eT,fk,hB,js⟩:=aH.bT x (fT F);have aN:=S.bT x (fT F);obtain⟨de,k,m,q,⟨a,b,c,d,e⟩,hG,hz,⟨hl,nY,lM⟩,⟨av,aC,K⟩⟩:=x;simp only at eT fk hB js;have aI7:(aV.mk hl nY lM).bD/\(aV.mk av aC K).bD:=⟨fk,hB⟩;simp(disch:=first|omega|simp only[DI.aF];omega) [SQ,aba,abb,abc,abd,abe,eR,ec,jt,iC,gg,bn,eA,ss,sS,-ao,-aB,-ai,-au,-List.map_map];refine Wd (o:=t.next+4+7+20) (j:=9) 1 (cs:=m6 ⟨de,k,m,q,⟨a,b,c,d,e⟩,hG,hz,⟨hl,nY,lM⟩,⟨av,aC,K⟩⟩ (.slice none 0 0)) ?_ rfl λks Ow Fk Fj AS=> ?_
    · simp(disch:=first|omega|simp only[DI.aF];omega) [m6,-ao,-aB,-ai,-au,-List.map_map]
    simp only[BL,vQ]at Ow Fk Fj AS;have Ft: ∀b,b<t.next->ks.U b=t.U b:= λb K=>by rw[AS b (by omega) (by omega)];simp(disch:=first|omega|simp only[DI.aF];omega) [-ao,-aB,-ai,-au,-List.map_map]
    have QR:ks.U (t.next+2)=some ⟨eR ⟨de,k,m,q,⟨a,b,c,d,e⟩,hG,hz,⟨hl,nY,lM⟩,⟨av,aC,K⟩⟩,true⟩:=(by rw[AS _ (by omega) (by omega)];simp(disch:=first|omega|simp only[DI.aF];omega) [eR,-ao,-aB,-ai,-au,-List.map_map]);have dV:ks.next=t.next+33+1:=by omega
    refine aIK (x:=⟨de,k,m,q,⟨a,b,c,d,e⟩,hG,hz,⟨hl,nY,lM⟩,⟨av,aC,K⟩⟩) aN js (q:=t.next+4+7+20) (cG:=t.next+33) (ht:=0) (by rw[Ft 0 et];exact aJ) (by rw[Fk];rfl) Fj (by omega) (by omega) (by omega) (by simp(disch:=first|omega|simp only[DI.aF];omega) [aw,-ao,-aB,-ai,-au,-List.map_map]) (by simp(disch:=first|omega|simp only[DI.aF];omega) [-ao,-aB,-ai,-au,-List.map_map]) (by simp(disch:=first|omega|simp only[DI.aF];omega) [-ao,-aB,-ai,-au,-List.map_map]) (by simp(disch:=first|omega|simp only[DI.aF];omega) [-ao,-aB,-ai,-au,-List.map_map]) (by simp(disch:=first|omega|simp only[DI.aF];omega) [-ao,-aB,-ai,-au,-List.map_map]) λn2 ps e1 oe L9 LU Fl LF Md=> ?_;have xV: ∀b,b<t.next->ps.U b=t.U b:= λb K=>by rw[LU b (by omega) (by omega) (by omega)];exact Ft b K
    have nv:n2 1=cb 0:=(oe 1 (by decide)).trans (by simp[aw]);have afw:n2 2=cb 1:=(oe 2 (by decide)).trans (by simp[bR]);have OW:n2 5=cb p:=(oe 5 (by decide)).trans (by simp[cv]);have B7:n2 13=cb (t.next+4+7+20):=(oe 13 (by decide)).trans (by simp);have hW:n2 73=aQ (z.bT.map eR) 17:=(oe 73 (by decide)).trans (by simp[jt]);have hp:n2 74=X z.bT.length:=(oe 74 (by decide)).trans (by simp[iC]);have jP:n2 75=X i:=(oe 75 (by decide)).trans (by simp[gg]);have E7:ps.U 0=some ⟨bl z,w⟩:=(by rw[xV 0 et];exact aJ);have lD:ps.U 1=some ⟨zW,true⟩:=(by rw[xV 1 fP];exact aj);have LH:=(xV p vP).trans hP;have AX:=(xV o cK).trans bj;have aHf:=aO LH;have ad8:=aO AX;have aGw:=aO E7;have aGx:=aO lD;have aeb:=aO Fl;have aGX:=aO LF;obtain⟨EI,XX⟩: ∃EI,EI=t.next+4+7+20:=⟨_,rfl⟩
    have awN:t.next<=EI:=by omega
    have dU:t.next<=e1:=by rcases Md with rfl|b6<;>omega
    rw[<-XX]at B7 Fl aeb;clear oe L9 LU Md Fk Fj AS Ft QR dV Ow xV aJ aj hP bj aw bR cv;simp(disch:=first|omega|simp only[DI.aF];omega) [m6,OW,B7,jP,LH,Fl,AX,bc,gr,hd,gv,-ao,-aB,-ai,-au,-List.map_map];refine aZ _ _ ⟨e1,ps.next+4,i*19+9,1,(hG.map (pZ z.aR)).map (λs=>[ei s]),cs++m6 ⟨de,k,m,q,⟨a,b,c,d,e⟩,hG,hz,⟨hl,nY,lM⟩,⟨av,aC,K⟩⟩ (.slice (some ⟨e1,0,none⟩) hG.length 1),?_,Oo,?_,?_,by omega,ps.next+4,⟨by simp[nv],by simp[afw],by simp[OW],?_,?_,?_,dm,du⟩,?_,by omega,by omega,by omega,by simp[hW],by simp[hp],by simp⟩
    · have ha:e1≠p:=(by omega);simp(disch:=first|omega|simp only[DI.aF];omega) [LF,-ao,-aB,-ai,-au,-List.map_map];rfl
    · simp(disch:=first|omega|simp only[DI.aF];omega) [m6,-ao,-aB,-ai,-au,-List.map_map]
    · rw[XK gr,jZ,jZ]
    · have ha:0≠e1:=(by omega);have kF:0≠p:=(by omega);simp(disch:=first|omega|simp only[DI.aF];omega) [E7,-ao,-aB,-ai,-au,-List.map_map]
    · have ha:1≠e1:=(by omega);have kF:1≠p:=(by omega);simp(disch:=first|omega|simp only[DI.aF];omega) [lD,-ao,-aB,-ai,-au,-List.map_map]
    · have ha:p≠e1:=(by omega);simp(disch:=first|omega|simp only[DI.aF];omega) [-ao,-aB,-ai,-au,-List.map_map]
    · rw[agA gr,ia,cW (by first|(simp;done)|(simp;omega))];rfl
  · rintro u t ⟨o,⟨aw,bR,cv,aJ,aj,hP,dm,du⟩,bj,ho,j9,ka,jt,iC,gg⟩;have cg: ¬(((z.bT.length:Nat):Int)<z.bT.length):=(by omega);have et:=aO aJ;rw[kM]at bj;simp(disch:=first|omega|simp only[DI.aF];omega) [SQ,aba,abb,abc,abd,abe,iC,gg,cg,-ao,-aB,-ai,-au,-List.map_map];exact a1 _ _ o ⟨by simp[aw],by simp[bR],by simp[cv],aJ,aj,hP,dm,du⟩ bj ho j9 ka
theorem aKc{z:a4}(aH:a4.dP z)(S:a4.tI z){w:Bool}{p cG:Nat}{bY cN dI gE:Value}{bF:aM}{bS:E}(bH:kO z w 4 p [X z.ext,bY,cN,dI,.slice (some ⟨cG,0,none⟩) 0 19,gE] bF bS)(jl:bS.U cG=some ⟨[],true⟩)(ho:cG≠0)(j9:cG≠1)(ka:cG≠p)
    (gg:bF 8=X 0) {Q:dp->aM->E->Prop} (a1: ∀u t o,kO z w 4 p [X z.ext,bY,cN,dI,.slice (some ⟨o,0,none⟩) z.bT.length 19,gE] u t->t.U o=some ⟨(z.bT.map (λx=>nx (oT z.aR x))).flatten,true⟩->o≠0->o≠1->o≠p->Q (.bw 4) u t):gD Z (.loop S3) bF bS Q:=by
  have C2:=aH.je;refine as9 (a0:=⟨[O2,O3],[]⟩) (λi u t=> ∃o,kO z w 4 p [X z.ext,bY,cN,dI,.slice (some ⟨o,0,none⟩) i 19,gE] u t/\t.U o=some ⟨((z.bT.take i).map (λx=>nx (oT z.aR x))).flatten,true⟩/\o≠0/\o≠1/\o≠p/\u 8=X i) z.bT.length ?_ ?_ 0 bF bS (hf _) ⟨cG,bH,by simpa using jl,ho,j9,ka,by simpa using gg⟩
  · rintro i u t ag ⟨o,⟨aw,bR,cv,aJ,aj,hP,dm,du⟩,bj,ho,j9,ka,gg⟩ cp aZ;obtain⟨x,F⟩:=kS ag;have eA:=(dg.1 F).2;have bc:=e7 (n:=i) (by omega);have bn:(i:Int)<z.bT.length:=(by omega);have et:=aO aJ;have fP:=aO aj;have vP:=aO hP;have cK:=aO bj;obtain⟨cs,fe⟩: ∃cs,cs=((z.bT.take i).map (λx=>nx (oT z.aR x))).flatten:=⟨_,rfl⟩;rw[<-fe]at bj;have gr:cs.length=i*19:=(by rw[fe,CG (l:=z.bT) (f:=(λx=>nx (oT z.aR x))) (O:=19) (λ_=>rfl) (by omega)]);have hd:cs.take (i*19)=cs:=fw (by omega);have gv:(i+1)*256<=140737488355328/\i<=9223372036854775806:=(by omega);have ia:((z.bT.take (i+1)).map (λx=>nx (oT z.aR x))).flatten=cs++(λx=>nx (oT z.aR x)) x:=(by rw[CF (f:=(λx=>nx (oT z.aR x))) F,fe]);obtain⟨eT,fk,hB,js⟩:=aH.bT x (fT F);have aN:=S.bT x (fT F);obtain⟨de,k,m,q,⟨a,b,c,d,e⟩,hG,hz,⟨hl,nY,lM⟩,⟨av,aC,K⟩⟩:=x;simp only at eT fk hB js;have aI7:(aV.mk hl nY lM).bD/\(aV.mk av aC K).bD:=⟨fk,hB⟩;simp(disch:=first|omega|simp only[DI.aF];omega) [S3,abW,abX,abP,abQ,abR,bl,eR,ec,aw,gg,aJ,bn,eA,-ao,-aB,-ai,-au,-List.map_map];refine Wd (o:=t.next+7+14) (j:=9) 1 (cs:=m6 ⟨de,k,m,q,⟨a,b,c,d,e⟩,hG,hz,⟨hl,nY,lM⟩,⟨av,aC,K⟩⟩ (.slice none 0 0)) ?_ rfl λks Ow Fk Fj AS=> ?_
    · simp(disch:=first|omega|simp only[DI.aF];omega) [m6,-ao,-aB,-ai,-au,-List.map_map]
    simp only[BL,vQ]at Ow Fk Fj AS;have Ft: ∀b,b<t.next->ks.U b=t.U b:= λb K=>by rw[AS b (by omega) (by omega)];simp(disch:=first|omega|simp only[DI.aF];omega) [-ao,-aB,-ai,-au,-List.map_map]
    have QR:ks.U (t.next+5)=some ⟨eR ⟨de,k,m,q,⟨a,b,c,d,e⟩,hG,hz,⟨hl,nY,lM⟩,⟨av,aC,K⟩⟩,true⟩:=(by rw[AS _ (by omega) (by omega)];simp(disch:=first|omega|simp only[DI.aF];omega) [eR,-ao,-aB,-ai,-au,-List.map_map]);have dV:ks.next=t.next+23+1:=by omega
    refine aKb (x:=⟨de,k,m,q,⟨a,b,c,d,e⟩,hG,hz,⟨hl,nY,lM⟩,⟨av,aC,K⟩⟩) aN js (q:=t.next+7+14) (cG:=t.next+23) (ht:=t.next+5) (by rw[Ft 0 et];exact aJ) (by rw[Fk];rfl) Fj (by omega) (by omega) (by omega) (by simp(disch:=first|omega|simp only[DI.aF];omega) [aw,-ao,-aB,-ai,-au,-List.map_map]) (by simp(disch:=first|omega|simp only[DI.aF];omega) [-ao,-aB,-ai,-au,-List.map_map]) QR (by omega) (by omega) (by simp(disch:=first|omega|simp only[DI.aF];omega) [-ao,-aB,-ai,-au,-List.map_map]) (by simp(disch:=first|omega|simp only[DI.aF];omega) [-ao,-aB,-ai,-au,-List.map_map]) λn2 ps e1 oe L9 LU Fl LF Md=> ?_;have xV: ∀b,b<t.next->ps.U b=t.U b:= λb K=>by rw[LU b (by omega) (by omega) (by omega)];exact Ft b K
    have nv:n2 1=cb 0:=(oe 1 (by decide)).trans (by simp[aw]);have afw:n2 2=cb 1:=(oe 2 (by decide)).trans (by simp[bR]);have OW:n2 4=cb p:=(oe 4 (by decide)).trans (by simp[cv]);have B7:n2 10=cb (t.next+7+14):=(oe 10 (by decide)).trans (by simp);have jP:n2 8=X i:=(oe 8 (by decide)).trans (by simp[gg]);have E7:ps.U 0=some ⟨bl z,w⟩:=(by rw[xV 0 et];exact aJ);have lD:ps.U 1=some ⟨zW,true⟩:=(by rw[xV 1 fP];exact aj);have LH:=(xV p vP).trans hP;have AX:=(xV o cK).trans bj;have aHf:=aO LH;have ad8:=aO AX;have aGw:=aO E7;have aGx:=aO lD;have aeb:=aO Fl;have aGX:=aO LF;obtain⟨EI,XX⟩: ∃EI,EI=t.next+7+14:=⟨_,rfl⟩
    have awN:t.next<=EI:=by omega
    have dU:t.next<=e1:=by rcases Md with rfl|b6<;>omega
    rw[<-XX]at B7 Fl aeb;clear oe L9 LU Md Fk Fj AS Ft QR dV Ow xV aJ aj hP bj aw bR cv;simp(disch:=first|omega|simp only[DI.aF];omega) [m6,OW,B7,jP,LH,Fl,AX,bc,gr,hd,gv,-ao,-aB,-ai,-au,-List.map_map];refine aZ _ _ ⟨e1,ps.next+4,i*19+9,1,(hG.map (pZ z.aR)).map (λs=>[ei s]),cs++m6 ⟨de,k,m,q,⟨a,b,c,d,e⟩,hG,hz,⟨hl,nY,lM⟩,⟨av,aC,K⟩⟩ (.slice (some ⟨e1,0,none⟩) hG.length 1),?_,Oo,?_,?_,by omega,ps.next+4,⟨by simp[nv],by simp[afw],by simp[OW],?_,?_,?_,dm,du⟩,?_,by omega,by omega,by omega,by simp⟩
    · have ha:e1≠p:=(by omega);simp(disch:=first|omega|simp only[DI.aF];omega) [LF,-ao,-aB,-ai,-au,-List.map_map];rfl
    · simp(disch:=first|omega|simp only[DI.aF];omega) [m6,-ao,-aB,-ai,-au,-List.map_map]
    · rw[XK gr,jZ,jZ]
    · have ha:0≠e1:=(by omega);have kF:0≠p:=(by omega);simp(disch:=first|omega|simp only[DI.aF];omega) [E7,-ao,-aB,-ai,-au,-List.map_map]
    · have ha:1≠e1:=(by omega);have kF:1≠p:=(by omega);simp(disch:=first|omega|simp only[DI.aF];omega) [lD,-ao,-aB,-ai,-au,-List.map_map]
    · have ha:p≠e1:=(by omega);simp(disch:=first|omega|simp only[DI.aF];omega) [-ao,-aB,-ai,-au,-List.map_map]
    · rw[agA gr,ia,cW (by first|(simp;done)|(simp;omega))];rfl
  · rintro u t ⟨o,⟨aw,bR,cv,aJ,aj,hP,dm,du⟩,bj,ho,j9,ka,gg⟩;have cg: ¬(((z.bT.length:Nat):Int)<z.bT.length):=(by omega);have et:=aO aJ;rw[kM]at bj;simp(disch:=first|omega|simp only[DI.aF];omega) [S3,abW,abX,abP,abQ,abR,bl,aw,gg,aJ,cg,-ao,-aB,-ai,-au,-List.map_map];exact a1 _ _ o ⟨by simp[aw],by simp[bR],by simp[cv],aJ,aj,hP,dm,du⟩ bj ho j9 ka
noncomputable def VH(z:a4)(h:a4.dP z):cf Z:= .ek 14 Unit (λ_=>True) (λ_=>[.agg (bl z).toArray]) (λ_=>X (if g6 z then 0 else 1)) λ_ _=>V9 h
@[simp] theorem aYG{z:a4}{h:a4.dP z}:(VH z h).f=14:=rfl
@[simp] theorem aYH{z:a4}{h:a4.dP z}:(VH z h).fn [.agg #[X z.ext,aQ (z.bO.map fH) 4,aQ (z.aR.map hD) 4,aQ (z.br.map eL) 7,aQ (z.c5.map hO) 3,aQ (z.bT.map eR) 17,aQ (z.cP.map iy) 2]]=some (X (if g6 z then 0 else 1)):=cf.eP (x:=()) trivial λ_ _=>rfl
noncomputable def afB(z:a4)(h:a4.dP z)(bm:a4.rr z):cf Z:= .ek 70 Unit (λ_=>True) (λ_=>[.agg (bl z).toArray,X 0]) (λ_=>y1 (Cq z)) λ_ _=>aJb h bm
@[simp] theorem aV7{z:a4}{h:a4.dP z}{bm:a4.rr z}:(afB z h bm).f=70:=rfl
@[simp] theorem aV8{z:a4}{h:a4.dP z}{bm:a4.rr z}:(afB z h bm).fn [.agg #[X z.ext,aQ (z.bO.map fH) 4,aQ (z.aR.map hD) 4,aQ (z.br.map eL) 7,aQ (z.c5.map hO) 3,aQ (z.bT.map eR) 17,aQ (z.cP.map iy) 2],X 0]=some (y1 (Cq z)):=cf.eP (x:=()) trivial λ_ _=>rfl
def pD.nil:pD:=⟨0,[],[],[],[],[]⟩
noncomputable def kL(z:a4):pD:=if g6 z then VT z else pD.nil
noncomputable def yy(z:a4):Value:= .tuple #[.agg (jQ (kL z)).toArray,X (if g6 z then 0 else 1)]
theorem ar8{z:a4}(S:g6 z=false){f:Nat}{args:List Value}(h:c4 Z f args (.tuple #[.agg #[X 0,.slice none 0 0,.slice none 0 0,.slice none 0 0,.slice none 0 0,.slice none 0 0],X 1])):c4 Z f args (yy z):=by
  have e:yy z= .tuple #[.agg #[X 0,aQ [] 6,aQ [] 6,aQ [] 9,aQ [] 19,aQ [] 4],X 1]:=by unfold yy kL;rw[S];rfl
  rw[e];exact h.aMw (td.tuple (xs:=[_,_]) (ys:=[_,_]) ⟨td.agg (xs:=[_,_,_,_,_,_]) (ys:=[_,_,_,_,_,_]) ⟨.refl _,.nil,.nil,.nil,.nil,.nil,trivial⟩,.refl _,trivial⟩)
theorem arY(x:PJ):(mI x).length=6/\ ∀v∈mI x,il v=true:=⟨rfl,λv S=>by simp[mI]at S;rcases S with rfl|rfl|rfl|rfl|rfl|rfl<;>rfl⟩
theorem ar2(x:PK):(mJ x).length=6/\ ∀v∈mJ x,il v=true:=⟨rfl,λv S=>by simp[mJ]at S;rcases S with rfl|rfl|rfl|rfl|rfl|rfl<;>rfl⟩
theorem aLv(x:l8):(qJ x).length=9/\ ∀v∈qJ x,il v=true:=⟨rfl,λv S=>by simp[qJ]at S;rcases S with rfl|rfl|rfl|rfl|rfl|rfl|rfl|rfl|rfl<;>rfl⟩
theorem asg(x:PL):(l5 x).length=4/\ ∀v∈l5 x,il v=true:=⟨rfl,λv S=>by simp[l5]at S;rcases S with rfl|rfl|rfl|rfl<;>rfl⟩
theorem ar6(x:EK):(nx x).length=19/\ ∀v∈nx x,il v=true:=⟨rfl,λv S=>by simp[nx]at S;rcases S with rfl|rfl|rfl|rfl|rfl|rfl|rfl|rfl|rfl|rfl|rfl|rfl|rfl|rfl|rfl|rfl|rfl|rfl|rfl<;>rfl⟩
theorem kO.dM{z:a4}{w:Bool}{k p o:Nat}{cs ds:List Value}{v:Value}{j:Nat}{u:aM}{t:E}(h:kO z w k p cs u t)(bH:o≠0)(B:o≠1)(Y:o≠p)(ay:cs.set j v=ds):kO z w k p ds u ((t.an o none).an p (some ⟨cs.set j v,true⟩)):=by subst ay;have vP:=aO h.hP;exact⟨h.aw,h.bR,h.cv,by rw[dC (Ne.symm h.dm),dC (Ne.symm bH)];exact h.aJ,by rw[dC (Ne.symm h.du),dC (Ne.symm B)];exact h.aj,cW vP,h.dm,h.du⟩
theorem kO.kD{z:a4}{w:Bool}{k p:Nat}{cs:List Value}{u ae:aM}{t:E}(h:kO z w k p cs u t)(B:ae 1=u 1)(H:ae 2=u 2)(cm:ae k=u k):kO z w k p cs ae t:=⟨B.trans h.aw,H.trans h.bR,cm.trans h.cv,h.aJ,h.aj,h.hP,h.dm,h.du⟩
theorem G4{P:Program}{z:a4}{w:Bool}{k p o:Nat}{cs ds:List Value}{bW:List (List Value)}{j O vK iR:Nat}{c:J}{u:aM}{t:E}{Q:dp->aM->E->Prop}(h:kO z w k p cs u t)(bj:t.U o=some ⟨bW.flatten,true⟩)(aH: ∀r∈bW,r.length=O/\ ∀v∈r,il v=true)
    (c6:cs[j]?=some (.slice (some ⟨o,0,none⟩) bW.length O)) (bH:o≠0) (B:o≠1) (Y:o≠p) (ay:cs.set j (aQ bW O)=ds) (A3:ds[vK]?=some (.slice none 0 0))
    (aa: ∀bu o',kO z w k p (ds.set vK (.slice (some ⟨o',0,none⟩) 0 iR)) u bu->bu.U o'=some ⟨[],true⟩->o'≠0->o'≠1->o'≠p->gD P c u bu Q):gD P c u t Q:=by
  refine ata bj aH h.hP c6 Y ?_;have M:=h.dM bH B Y ay;obtain⟨T,e6⟩: ∃T,T=(t.an o none).an p (some ⟨cs.set j (aQ bW O),true⟩):=⟨_,rfl⟩;rw[<-e6]at M⊢;have vP:=aO M.hP;have et:=aO M.aJ;have fP:=aO M.aj;refine Wd iR M.hP A3 λbu du aj ba bG=>aa bu T.next ⟨M.aw,M.bR,M.cv,(bG 0 et (Ne.symm M.dm)).trans M.aJ,(bG 1 fP (Ne.symm M.du)).trans M.aj,aj,M.dm,M.du⟩ ba (by omega) (by omega) (by omega)
theorem aLA{P:Program}{z:a4}{w:Bool}{k p:Nat}{ds:List Value}{vK iR:Nat}{c:J}{u:aM}{t:E}{Q:dp->aM->E->Prop}(M:kO z w k p ds u t)(A3:ds[vK]?=some (.slice none 0 0))
    (aa: ∀bu o',kO z w k p (ds.set vK (.slice (some ⟨o',0,none⟩) 0 iR)) u bu->bu.U o'=some ⟨[],true⟩->o'≠0->o'≠1->o'≠p->gD P c u bu Q):gD P c u t Q:=by
  have vP:=aO M.hP;have et:=aO M.aJ;have fP:=aO M.aj;refine Wd iR M.hP A3 λbu du aj ba bG=>aa bu t.next ⟨M.aw,M.bR,M.cv,(bG 0 et (Ne.symm M.dm)).trans M.aJ,(bG 1 fP (Ne.symm M.du)).trans M.aj,aj,M.dm,M.du⟩ ba (by omega) (by omega) (by omega)
theorem aJ8{z:a4}(aH:a4.dP z):c4 Z 17 [.agg (bl z).toArray] (yy z):=by
  cases S:g6 z
  · refine ar8 S (gR (ga (a0:=⟨[O4 z aH],[]⟩) am3 (by kernel_rfl) (by simp[Na]) ?_));simp[Na,abN,abO,bl,S,-ao,-aB,-ai,-au,-List.map_map]
  have bm:=ass S;have F:=apo S;refine gR (ga (a0:=⟨[O4 z aH,afB z aH bm],[]⟩) am3 (by kernel_rfl) (by simp[Na]) ?_);simp[Na,abN,abO,am6,am7,bl,S,-ao,-aB,-ai,-au,-List.map_map];refine aLA (z:=z) (w:=true) (k:=4) (p:=8) (ds:=[X z.ext,.slice none 0 0,.slice none 0 0,y1 (Cq z),.slice none 0 0,.slice none 0 0]) (vK:=1) (iR:=6) ⟨by simp,by simp,by simp,by simp[bl,rY,-ao,-aB,-ai,-au,-List.map_map],by simp[zW,rY,-ao,-aB,-ai,-au,-List.map_map],by simp[rY,-ao,-aB,-ai,-au,-List.map_map],by decide,by decide⟩ rfl λt o M bj dm du je=> ?_;refine aJ9 aH F M bj dm du je (by simp) λu t o M bj dm du je=> ?_;simp(disch:=omega) [am8];refine G4 (j:=1) (vK:=2) (iR:=6) (M.kD (by simp) (by simp) (by simp)) bj (BX λx=>arY (nM x)) (by simp) dm du je rfl rfl λt o M bj dm du je=> ?_;refine aKa aH F M bj dm du je (by simp) λu t o M bj dm du je=> ?_;simp(disch:=omega) [am9];refine G4 (j:=2) (vK:=4) (iR:=19) (M.kD (by simp) (by simp) (by simp)) bj (BX λx=>ar2 (nP z.bO x)) (by simp) dm du je rfl rfl λt o M bj dm du je=> ?_;refine aKc aH F M bj dm du je (by simp) λu t o M bj dm du je=> ?_;simp(disch:=omega) [am4];refine G4 (j:=4) (vK:=5) (iR:=4) (M.kD (by simp) (by simp) (by simp)) bj (BX λx=>ar6 (oT z.aR x)) (by simp) dm du je rfl rfl λt o M bj dm du je=> ?_;refine aKd aH F M bj dm du je (by simp) λu t o M bj dm du je=> ?_;have zf: ∀di,DI.eg 7 (t.an 1 di) (.slice (some ⟨o,0,none⟩) z.cP.length 4)=some (aQ (z.cP.map λx=>l5 (m8 z.bT x)) 4):= λdi=>E3 (n:=6) (by rw[dC du];exact bj) (by simp) (BX λx=>asg (m8 z.bT x));have jT:yy z= .tuple #[.agg #[X z.ext,aQ (z.bO.map λx=>mI (nM x)) 6,aQ (z.aR.map λx=>mJ (nP z.bO x)) 6,y1 (Cq z),aQ (z.bT.map λx=>nx (oT z.aR x)) 19,aQ (z.cP.map λx=>l5 (m8 z.bT x)) 4],X 0]:=by unfold yy kL;simp only[S,if_true,VT,jQ,Ap,Function.comp_def]
  have nn:=M.aw;have mV:=M.bR;have vz:=M.cv;have oI:=M.aj;have H6:=M.hP;have kl:=aO oI;have Yz:=aO H6;simp(disch:=omega) [am5,zW,mV,vz,oI,H6,zf,jT]
theorem aIH{z:a4}(aH:a4.dP z):c4 Z 16 [.agg (bl z).toArray] (yy z):=by
  cases S:g6 z
  · refine ar8 S (gR (ga (a0:=⟨[VH z aH],[]⟩) amI (by kernel_rfl) (by simp[M7]) ?_));simp(disch:=first|omega|simp only[DI.aF];omega) [M7,aa8,aa9,SM,bl,S,-ao,-aB,-ai,-au,-List.map_map]
  have bm:=ass S;have F:=apo S;refine gR (ga (a0:=⟨[],[]⟩) amI (by kernel_rfl) (by simp[M7]) ?_);simp(disch:=first|omega|simp only[DI.aF];omega) [M7,aa8,aa9,amM,bl,-ao,-aB,-ai,-au,-List.map_map];refine iE.aLn (aI:= λr bu=>r=X 0/\bu.U 0=some ⟨bl z,true⟩/\bu.U 1=some ⟨zW,true⟩/\bu.next=3) (atc (a0:=[VH z aH]) (by simp(disch:=first|omega|simp only[DI.aF];omega) [S,bl,zW,rY,-ao,-aB,-ai,-au,-List.map_map])) ?_;rintro r bu ⟨rfl,aJ,aj,mE⟩;refine⟨0,bl z,aJ,?_⟩;have et:=aO aJ;have fP:=aO aj;simp(disch:=first|omega|simp only[DI.aF];omega) [SM,SM,bl,mE,-ao,-aB,-ai,-au,-List.map_map];obtain⟨R,ajk,ayu,_⟩:=bm.Vq;refine aMC (O:=9) ?_;refine ahF aH bm 5 0 R ajk (by rw[ayu];rfl) _ _ [] (by rw[cW (by simp)];rfl) (by decide) _ λo' ks bj ah av bs=> ?_;simp only[BL,vQ,mE]at ah av bs;have Xu:ks.U 0=some ⟨bl z,false⟩:=by rw[bs 0 (by omega) (by omega)];simp(disch:=first|omega|simp only[DI.aF];omega) [bl,-ao,-aB,-ai,-au,-List.map_map]
  have ck:ks.U 1=some ⟨zW,true⟩:=by rw[bs 1 (by omega) (by omega)];simp(disch:=first|omega|simp only[DI.aF];omega) [aj,-ao,-aB,-ai,-au,-List.map_map]
  have dv:=aO Xu;have bo:=aO ck;have Oj:8<ks.next:=by omega
  have Qq:o'≠8:=by omega
  simp(disch:=first|omega|simp only[DI.aF];omega) [amN,bl,Xu,-ao,-aB,-ai,-au,-List.map_map];refine G4 (z:=z) (w:=false) (k:=5) (p:=8) (o:=o') (cs:=[X z.ext,.slice none 0 0,.slice none 0 0,.slice (some ⟨o',0,none⟩) (nu z 5 0).length 9,.slice none 0 0,.slice none 0 0]) (j:=3) (vK:=1) (iR:=6) (bW:=(Cq z).map qJ) ⟨by simp,by simp,by simp,by simp(disch:=first|omega|simp only[DI.aF];omega) [Xu,bl,-ao,-aB,-ai,-au,-List.map_map],by simp(disch:=first|omega|simp only[DI.aF];omega) [ck,zW,-ao,-aB,-ai,-au,-List.map_map],by simp(disch:=first|omega|simp only[DI.aF];omega) [-ao,-aB,-ai,-au,-List.map_map],by decide,by decide⟩ (by first|(simp(disch:=first|omega|simp only[DI.aF];omega) [bj,-ao,-aB,-ai,-au,-List.map_map];done)|(simp(disch:=first|omega|simp only[DI.aF];omega) [bj,-ao,-aB,-ai,-au,-List.map_map];rfl)) (BX aLv) (by first|(simp;done)|(simp;rfl)) (by omega) (by omega) (by omega) rfl rfl λt o M bj dm du je=> ?_;refine aII aH F M bj dm du je (by simp) (by simp) (by simp) λu t o M bj dm du je=> ?_;simp(disch:=first|omega|simp only[DI.aF];omega) [amO,bl,M.aw,M.aJ,-ao,-aB,-ai,-au,-List.map_map];refine G4 (j:=1) (vK:=2) (iR:=6) (M.kD (by simp) (by simp) (by simp)) bj (BX λx=>arY (nM x)) (by simp) dm du je rfl rfl λt o M bj dm du je=> ?_;refine aIJ aH F M bj dm du je (by simp) (by simp) (by simp) λu t o M bj dm du je=> ?_;simp(disch:=first|omega|simp only[DI.aF];omega) [amJ,bl,M.aw,M.aJ,-ao,-aB,-ai,-au,-List.map_map];refine G4 (j:=2) (vK:=4) (iR:=19) (M.kD (by simp) (by simp) (by simp)) bj (BX λx=>ar2 (nP z.bO x)) (by simp) dm du je rfl rfl λt o M bj dm du je=> ?_;refine aIL aH F M bj dm du je (by simp) (by simp) (by simp) λu t o M bj dm du je=> ?_;simp(disch:=first|omega|simp only[DI.aF];omega) [amK,bl,M.aw,M.aJ,-ao,-aB,-ai,-au,-List.map_map];refine G4 (j:=4) (vK:=5) (iR:=4) (M.kD (by simp) (by simp) (by simp)) bj (BX λx=>ar6 (oT z.aR x)) (by simp) dm du je rfl rfl λt o M bj dm du je=> ?_;refine aIM aH F M bj dm du je (by simp) (by simp) (by simp) λu t o M bj dm du je=> ?_;have zf: ∀di,DI.eg 7 (t.an 1 di) (.slice (some ⟨o,0,none⟩) z.cP.length 4)=some (aQ (z.cP.map λx=>l5 (m8 z.bT x)) 4):= λdi=>E3 (n:=6) (by rw[dC du];exact bj) (by simp) (BX λx=>asg (m8 z.bT x));have jT:yy z= .tuple #[.agg #[X z.ext,aQ (z.bO.map λx=>mI (nM x)) 6,aQ (z.aR.map λx=>mJ (nP z.bO x)) 6,y1 (Cq z),aQ (z.bT.map λx=>nx (oT z.aR x)) 19,aQ (z.cP.map λx=>l5 (m8 z.bT x)) 4],X 0]:=by unfold yy kL;simp only[S,if_true,VT,jQ,Ap,Function.comp_def]
  have nn:=M.aw;have mV:=M.bR;have vz:=M.cv;have oI:=M.aj;have H6:=M.hP;have kl:=aO oI;have Yz:=aO H6;simp(disch:=first|omega|simp only[DI.aF];omega) [amL,zW,mV,vz,oI,H6,zf,jT,-ao,-aB,-ai,-au,-List.map_map]
end Go.Proofs.YtkpifdkccdndcaaGreat
namespace Go.DI
open Go
section
variable {P:Program} {t:E} {f:Nat} {args:List Value} {r:Value} {aI:Value->E->Prop}
open Classical in
noncomputable def cf.hS(h:c4 P f args r):cf P:=⟨f,λa=>if a=args then some r else none,λa hy e=>by
  split at e
  · next aC=>cases e;rw[aC];exact h
  · cases e⟩
theorem atd(h:c4 P f args r)(aK: ∀v∈args,eg 9 t v=some v/\gd 9 t v=[])(bs:o6 r=true)(oN:aI r t):iE P f args t aI:=by
  refine atc (a0:=[cf.hS h]) ?_;have B:Lj 9 t args=some args:=GM λv S=>(aK v S).1;have H:args.flatMap (gd 9 t)=[]:=by rw[List.flatMap_eq_nil_iff];exact λv S=>(aK v S).2
  unfold D2;rw[B,H];simp only[yx,cf.hS,if_true,bs,awf];exact oN
end
end Go.DI
namespace Go.Proofs.YtkpifdkccdndcaaGreat
open Go Go.DI Go.Big
def dJ{α:Type}(p:α->α->Bool):List α->List α->Bool
  |[],[]=>true
  |x::l,y::eZ=>p x y&&dJ p l eZ
  |_,_=>false
theorem vo{α:Type}{p:α->α->Bool}: ∀{a b:List α},a.length≠b.length->dJ p a b=false
  |[],[],h=>absurd rfl h
  |[],_::_,_=>rfl
  |_::_,[],_=>rfl
  | x::a,y::b,h=>by simp only[dJ];rw[vo (a:=a) (b:=b) (by simpa using h),Et]
theorem uy{α:Type}{p:α->α->Bool}: ∀{a b:List α} {i:Nat} {x y:α},a[i]?=some x->b[i]?=some y->p x y=false->dJ p a b=false
  |[],_,i,x,y,h,_,_=>by simp at h
  |_::_,[],i,x,y,_,h,_=>by simp at h
  |aG::a,v::b,0,x,y,B,H,af=>by simp at B H;subst B;subst H;simp[dJ,af]
  | aG::a,v::b,i+1,x,y,B,H,af=>by simp only[dJ];rw[uy (a:=a) (b:=b) (i:=i) (by simpa using B) (by simpa using H) af,Et]
theorem CB{α:Type}{p:α->α->Bool}: ∀{a b:List α},a.length=b.length->(∀(i:Nat) x y,a[i]?=some x->b[i]?=some y->p x y=true)->dJ p a b=true
  |[],[],_,_=>rfl
  |[],_::_,h,_=>by simp at h
  |_::_,[],h,_=>by simp at h
  | aG::a,v::b,h,Y=>by simp only[dJ];rw[Y 0 aG v rfl rfl,CB (by simpa using h) λi x y B H=>Y (i+1) x y (by simpa using B) (by simpa using H)];rfl
theorem AQ{α:Type}{p:α->α->Bool}{a:List α}(h: ∀x∈a,p x x=true):dJ p a a=true:=CB rfl λi x y B H=>by rw[B]at H;cases H;exact h x (fT B)
def O6(df:Bool)(O:Nat):J:= .D (.G [eJ 0 16 .lss (I 15) (I 14)]) (.D (.a8 (I 16) .skip (.bw 0)) (.D (.block 1 (.D (.G [A 0 17 15,A 1 7 17]) (.D (.G [A 0 18 2,A 1 19 0,A 2 20 7,b9 3 21 O 19 20,
  ⟨4,some 22,none,.fu df O (I 21),[]⟩,A 5 23 1,A 6 24 7,b9 7 25 O 23 24,⟨8,some 26,none,.fu df O (I 25),[]⟩,bV 9 27 (.ln (I 18) [I 22,I 26]),bV 10 28 (.oU .not (I 27))]) (.a8 (I 28) (.D (.G [ca 0 6 false]) .aT) .skip)))) (.G [eJ 0 29 .add (I 15) (.const (.int .i64 1)),A 1 15 29])))
def VK(df:Bool)(O:Nat):J:= .D (.G [ca 0 6 false]) (.D (.D (.G [A 0 8 0,bZ 1 9 8,A 2 10 1,bZ 3 11 10,eJ 4 12 .neq (I 9) (I 11)]) (.a8 (I 12) (.D (.G [ca 0 6 false]) .aT) .skip)) (.D (.D (.G [A 0 13 0,bZ 1 14 13,b0 2 15 0]) (.block 0 (.loop (O6 df O)))) (.D (.G [ca 0 6 true]) .aT)))
def K9(df:Bool)(c:List Value):Value:=if df then .agg c.toArray else c.headD undef
theorem xe{df:Bool}{O f g:Nat}(dD:cO Z f=some ⟨30,[.bq 6],VK df O⟩)(cl:0<O)(B:df=false->O=1){α:Type}{enc:α->List Value}(ajy: ∀x,(enc x).length=O/\ ∀v∈enc x,il v=true){p:α->α->Bool}{cj:α->Prop}
    (aq: ∀x y,cj x->cj y->c4 Z g [K9 df (enc x),K9 df (enc y)] (.bool (p x y))) {a b:List α} (aC: ∀x∈a,cj x) (K: ∀x∈b,cj x) (av:a.length<1000000000000000) (rO:b.length<1000000000000000):
    c4 Z f [aQ (a.map enc) O,aQ (b.map enc) O,.func (.func g) #[] #[]] (.bool (dJ p a b)):=by
  refine gR (ga (a0:=⟨[],[]⟩) dD rfl (by simp) ?_);by_cases aE:a.length=b.length
  case neg=>have ar:=vo (p:=p) aE;have kl: ¬(a.length:Int)=b.length:=(by omega);simp[VK,O6,kl,ar]
  simp[VK,aE];refine hC (a0:=⟨[],[]⟩) (λi u t=>(∀(j:Nat) x y,j<i->a[j]?=some x->b[j]?=some y->p x y=true)/\u 0=aQ (a.map enc) O/\u 1=aQ (b.map enc) O/\u 2= .func (.func g) #[] #[]/\u 14=X b.length/\u 15=X i) b.length ?_ ?_ 0 _ _ (hf _) ⟨λj x y h=>by omega,by simp,by simp,by simp,by simp,by simp⟩
  · rintro i u t ag ⟨gf,b1,aw,bR,ie,hH⟩ cp aZ;obtain⟨x,F⟩: ∃x,a[i]?=some x:=⟨_,c0 (by omega)⟩;obtain⟨y,ab⟩:=kS ag;have eA:=(dg.1 F).2;have gX:=(dg.1 ab).2;have bc:=e7 (n:=i) (by omega);have bn:(i:Int)<b.length:=(by omega);have bC:(i:Int)<a.length:=(by omega);obtain⟨cx,c8⟩:=ajy x;obtain⟨gk,h6⟩:=ajy y;have aLY:(enc x).take O=enc x:=fw (by omega);have s0:(enc y).take O=enc y:=fw (by omega);have e2: ∀(c:List Value),(∀v∈c,il v=true)->DI.eg 9 t (.agg c.toArray)=some (.agg c.toArray)/\gd 9 t (.agg c.toArray)=[]:= λc aK=>by
      rw[axG,aJk];simp only;rw[GM λv S=>y4 (aK v S)];exact⟨rfl,aq9 aK⟩
    have key:c4 Z g [K9 df (enc x),K9 df (enc y)] (.bool (p x y)):=aq x y (aC x (fT F)) (K y (fT ab));have next:p x y=true-> ∀(j:Nat) x y,j<i+1->a[j]?=some x->b[j]?=some y->p x y=true:= λY j hY oX c6 aX bg=>by
      by_cases e:j=i
      · subst e;rw[F]at aX;rw[ab]at bg;cases aX;cases bg;exact Y
      · exact gf j hY oX (by omega) aX bg
    cases df
    case true=>
      simp(disch:=omega) [O6,b1,aw,bR,ie,hH,bn,bC,eA,gX,cx,gk,aLY,s0];refine atd (r:= .bool (p x y)) key ?_ rfl ?_
      · intro v S;simp only[oz,wi,or_false]at S;rcases S with rfl|rfl
        · exact e2 _ c8
        · exact e2 _ h6
      · cases Y:p x y
        · have ar:=uy F ab Y;simp[ar]
        · simp[hH,bc];exact aZ _ _ ⟨next Y,by simp[b1],by simp[aw],by simp[bR],by simp[ie],by simp⟩
    case false=>
      have:=B rfl;subst this;obtain⟨EW,X9⟩: ∃c,enc x=[c]:=Pt.1 cx;obtain⟨Hy,Ya⟩: ∃c,enc y=[c]:=Pt.1 gk;have aGr:c4 Z g [EW,Hy] (.bool (p x y)):=(by have:=key;unfold K9 at this;rw[X9,Ya]at this;exact this);rw[X9]at c8;rw[Ya]at h6;simp(disch:=omega) [O6,b1,aw,bR,ie,hH,bn,bC,eA,gX,X9,Ya];refine atd (r:= .bool (p x y)) aGr ?_ rfl ?_
      · intro v S;simp only[oz,wi,or_false]at S;rcases S with rfl|rfl
        · exact⟨y4 (c8 _ (by simp)),D4 (c8 _ (by simp))⟩
        · exact⟨y4 (h6 _ (by simp)),D4 (h6 _ (by simp))⟩
      · cases Y:p x y
        · have ar:=uy F ab Y;simp[ar]
        · simp[hH,bc];exact aZ _ _ ⟨next Y,by simp[b1],by simp[aw],by simp[bR],by simp[ie],by simp⟩
  · rintro u t ⟨gf,b1,aw,bR,ie,hH⟩;have cg: ¬(((b.length:Nat):Int)<b.length):=(by omega);have ar:dJ p a b=true:=CB aE λi x y B H=>gf i x y (dg.1 H).1 B H;simp[O6,ie,hH,cg,ar]
abbrev cY{α:Type}[DecidableEq α](a b:α):Bool:=decide (a=b)
def fL(x y:aV):Bool:=if x.bG.ok&&y.bG.ok then decide (iI x.bG y.bG=0)else decide (x.bG.ok=y.bG.ok)&&(decide (x.bQ=y.bQ)&&(dJ cY x.a y.a&&dJ cY x.b y.b))
def hj(x y:dY):Bool:=cY x.name y.name&&(dJ fL x.s y.s&&(dJ (dJ fL) x.bf y.bf&&dJ fL x.e y.e))
theorem HE{α:Type}[DecidableEq α](a:α):cY a a=true:=by simp
theorem QB(x:aV):fL x x=true:=by
  unfold fL;split
  · simp[aIi]
  · simp[AQ λa _=>HE a]
theorem Lh(l:List aV):dJ fL l l=true:=AQ λx _=>QB x
theorem apL(x:dY):hj x x=true:=by unfold hj;rw[HE,Lh,Lh,AQ λl _=>Lh l];rfl
theorem Wc{x:aV}(h:x.bD):x.a.length<1000000000000000/\x.b.length<1000000000000000:=⟨by have:=h.2.2.1;omega,by have:=h.2.2.2;omega⟩
theorem c4.aHN{f O iR:Nat}{c r:Value}(h:c4 Z f [aQ [] O,aQ [] iR,c] r):c4 Z f [.slice none 0 0,.slice none 0 0,c] r:= λz m fl M aC=>by obtain⟨a,b,d,rfl,bC,cq,cZ⟩:=aC.VY;rw[bC.kx rfl,cq.kx rfl];exact h z m _ M (b5.cons (.jK rfl) (b5.cons (.jK rfl) (b5.cons cZ b5.nil)))
theorem atE(d:Int):[c3 d].length=1/\ ∀v∈[c3 d],il v=true:=⟨rfl,λv S=>by simp at S;subst S;rfl⟩
theorem aJf(x:aV):(ec x).length=3/\ ∀v∈ec x,il v=true:=⟨rfl,λv S=>by simp[ec]at S;rcases S with rfl|rfl|rfl<;>rfl⟩
theorem aJ0(r:List aV):[dQ r].length=1/\ ∀v∈[dQ r],il v=true:=⟨rfl,λv S=>by simp at S;subst S;rfl⟩
theorem atx(d:Int):[X d].length=1/\ ∀v∈[X d],il v=true:=⟨rfl,λv S=>by simp at S;subst S;rfl⟩
theorem aGR{a b:Int}:c4 Z 151 [c3 a,c3 b] (.bool (cY a b)):=by refine gR (ga (a0:=⟨[],[]⟩) aCy (by kernel_rfl) (by simp[aaB]) ?_);simp[aaB,alZ,al0]
theorem aLh{a b:List Int}(h:a.length<1000000000000000/\b.length<1000000000000000):c4 Z 152 [dy a,dy b,.func (.func 151) #[] #[]] (.bool (dJ cY a b)):=
  xe (df:=false) (O:=1) (enc:= λd=>[c3 d]) (cj:= λ_=>True) aCB (by decide) (λ_=>rfl) atE (λx y _ _=>aGR) (λ_ _=>trivial) (λ_ _=>trivial) h.1 h.2
noncomputable def ago:cf Z:= .ek 152 (List Int×List Int) (λp=>p.1.length<1000000000000000/\p.2.length<1000000000000000) (λp=>[dy p.1,dy p.2,.func (.func 151) #[] #[]]) (λp=> .bool (dJ cY p.1 p.2)) λ_ h=>aLh h
@[simp] theorem aYt:ago.f=152:=rfl
@[simp] theorem aYu{a b:List Int}(h:a.length<1000000000000000/\b.length<1000000000000000):ago.fn [aQ (a.map λd=>[c3 d]) 1,aQ (b.map λd=>[c3 d]) 1,.func (.func 151) #[] #[]]=some (.bool (dJ cY a b)):=cf.eP (x:=(a,b)) h λ⟨gk,h6⟩ ab=>by simp at ab;obtain⟨rfl,rfl⟩:=ab;rfl
noncomputable def afE:cf Z:= .ek 27 (aV×aV) (λp=>(p.1.bD/\p.2.bD)/\p.1.bG.ok=true/\p.2.bG.ok=true) (λp=>[eV p.1,eV p.2]) (λp=> .tuple #[X (iI p.1.bG p.2.bG),X 0]) λ⟨x,y⟩ ⟨⟨B,H⟩,af,aL⟩=>by have:=aiG B H;rw[show(x.bG.ok&&y.bG.ok)=true by simp only at af aL;rw[af,aL];rfl]at this;exact this
@[simp] theorem aWh:afE.f=27:=rfl
theorem ag4{n cz m N:Bool}{a b cI b7 c d eH o4:List Int}(h:[Value.agg #[.bool m,dy c,dy d],.agg #[.bool N,dy eH,dy o4]]=[.agg #[.bool n,dy a,dy b],.agg #[.bool cz,dy cI,dy b7]]):((⟨m,c,d⟩:aV),(⟨N,eH,o4⟩:aV))=(⟨n,a,b⟩,⟨cz,cI,b7⟩):=by simp at h;obtain⟨⟨rfl,rfl,rfl⟩,rfl,rfl,rfl⟩:=h;rfl
@[simp] theorem aWi{n cz:Bool}{a b cI b7:List Int}(h:((aV.mk n a b).bD/\(aV.mk cz cI b7).bD)/\(aV.mk n a b).bG.ok=true/\(aV.mk cz cI b7).bG.ok=true):afE.fn [.agg #[.bool n,dy a,dy b],.agg #[.bool cz,dy cI,dy b7]]=some (.tuple #[X (iI (aV.mk n a b).bG (aV.mk cz cI b7).bG),X 0]):=cf.eP (x:=((⟨n,a,b⟩:aV),(⟨cz,cI,b7⟩:aV))) h λ⟨⟨gk,h6,px⟩,⟨s4,xn,He⟩⟩ ab=>ag4 ab
theorem aIt{x y:aV}(h:x.bD/\y.bD):c4 Z 121 [eV x,eV y] (.bool (fL x y)):=by
  refine gR (ga (a0:=⟨[afI,afE,ago],[]⟩) aBn (by kernel_rfl) (by simp[Dd]) ?_);obtain⟨UO,aec⟩:=Wc h.1;obtain⟨UP,aed⟩:=Wc h.2;obtain⟨n,a,b⟩:=x;obtain⟨cz,cI,b7⟩:=y;obtain⟨F,ab⟩:=h;simp only at UO aec UP aed;cases hn:(aV.mk n a b).bG.ok
  · cases h5:(aV.mk cz cI b7).bG.ok
    · have ar:fL ⟨n,a,b⟩ ⟨cz,cI,b7⟩=(cY n cz&&(dJ cY a cI&&dJ cY b b7)):=(by simp[fL,hn,h5]);by_cases bY:n=cz
      · subst bY;cases cN:dJ cY a cI
        · simp(disch:=first|omega|simp only[DI.aF];omega) [Dd,FT,FU,FV,FW,FX,ec,hn,h5,ar,cN]
        · simp(disch:=first|omega|simp only[DI.aF];omega) [Dd,FT,FU,FV,FW,FX,ec,hn,h5,ar,cN]
      · simp(disch:=first|omega|simp only[DI.aF];omega) [Dd,FT,FU,FV,FW,FX,ec,hn,h5,ar,bY]
    · have ar:fL ⟨n,a,b⟩ ⟨cz,cI,b7⟩=false:=(by simp[fL,hn,h5]);simp(disch:=first|omega|simp only[DI.aF];omega) [Dd,FT,FU,FV,FW,FX,ec,hn,h5,ar]
  · cases h5:(aV.mk cz cI b7).bG.ok
    · have ar:fL ⟨n,a,b⟩ ⟨cz,cI,b7⟩=false:=(by simp[fL,hn,h5]);simp(disch:=first|omega|simp only[DI.aF];omega) [Dd,FT,FU,FV,FW,FX,ec,hn,h5,ar]
    · have Y:((aV.mk n a b).bD/\(aV.mk cz cI b7).bD)/\(aV.mk n a b).bG.ok=true/\(aV.mk cz cI b7).bG.ok=true:=⟨⟨F,ab⟩,hn,h5⟩;have ar:fL ⟨n,a,b⟩ ⟨cz,cI,b7⟩=decide (iI (aV.mk n a b).bG (aV.mk cz cI b7).bG=0):=(by simp[fL,hn,h5]);simp(disch:=first|omega|simp only[DI.aF];omega) [Dd,FT,FU,FV,FW,FX,ec,hn,h5,ar]
theorem aJP{a b:List Int}(av:a.length<1000000000000000/\b.length<1000000000000000):c4 Z 111 [dy a,dy b] (.bool (dJ cY a b)):=by
  refine gR (ga (a0:=⟨[],[]⟩) aAN (by kernel_rfl) (by simp[RL]) ?_);by_cases aE:a.length=b.length
  case neg=>have ar:=vo (p:=cY) aE;have kl: ¬(a.length:Int)=b.length:=(by omega);simp[RL,ZB,ZC,ZD,ID,kl,ar]
  simp[RL,ZB,ZC,ZD,aE];refine hC (a0:=⟨[],[]⟩) (λi u t=>(∀(j:Nat) x y,j<i->a[j]?=some x->b[j]?=some y->cY x y=true)/\u 0=dy a/\u 1=dy b/\u 5=X i) b.length ?_ ?_ 0 _ _ (hf _) ⟨λj x y h=>by omega,by simp,by simp,by simp⟩
  · rintro i u t ag ⟨gf,b1,aw,cv⟩ cp aZ;obtain⟨x,F⟩: ∃x,a[i]?=some x:=⟨_,c0 (by omega)⟩;obtain⟨y,ab⟩:=kS ag;have eA:=(dg.1 F).2;have gX:=(dg.1 ab).2;have bc:=e7 (n:=i) (by omega);have bn:(i:Int)<b.length:=(by omega);have next:cY x y=true-> ∀(j:Nat) x y,j<i+1->a[j]?=some x->b[j]?=some y->cY x y=true:= λY j hY oX c6 aX bg=>by
      by_cases e:j=i
      · subst e;rw[F]at aX;rw[ab]at bg;cases aX;cases bg;exact Y
      · exact gf j hY oX (by omega) aX bg
    cases Y:cY x y
    · have ar:=uy F ab Y;have ay:=Y;simp only[cY,Ew]at ay;simp(disch:=omega) [RM,ML,ID,b1,aw,cv,bn,eA,gX,ar,aE,ay]
    · have mE:=next Y
      have ay:=Y;simp only[cY,fU]at ay;simp(disch:=first|omega|simp only[DI.aF];omega) [RM,ML,ID,b1,aw,cv,bn,bc,eA,gX,aE,ay,-ao,-aB,-ai,-au,-List.map_map];exact aZ _ _ ⟨mE,by simp[b1],by simp[aw],by simp⟩
  · rintro u t ⟨gf,b1,aw,cv⟩;have cg: ¬(((b.length:Nat):Int)<b.length):=(by omega);have ar:dJ cY a b=true:=CB aE λi x y B H=>gf i x y (dg.1 H).1 B H;simp[RM,ML,ID,ID,ML,b1,cv,aE,cg,ar]
noncomputable def af6:cf Z:= .ek 111 (List Int×List Int) (λp=>p.1.length<1000000000000000/\p.2.length<1000000000000000) (λp=>[dy p.1,dy p.2]) (λp=> .bool (dJ cY p.1 p.2)) λ_ h=>aJP h
@[simp] theorem aXD:af6.f=111:=rfl
@[simp] theorem aXE{a b:List Int}(h:a.length<1000000000000000/\b.length<1000000000000000):af6.fn [aQ (a.map λd=>[c3 d]) 1,aQ (b.map λd=>[c3 d]) 1]=some (.bool (dJ cY a b)):=cf.eP (x:=(a,b)) h λ⟨gk,h6⟩ ab=>by simp at ab;obtain⟨rfl,rfl⟩:=ab;rfl
noncomputable def agi:cf Z:= .ek 32 (aV×aV) (λp=>(p.1.bD/\p.2.bD)/\p.1.bG.ok=true/\p.2.bG.ok=true) (λp=>[eV p.1,eV p.2]) (λp=> .bool (decide (iI p.1.bG p.2.bG=0))) λ⟨x,y⟩ ⟨⟨B,H⟩,af,aL⟩=>aJ2 B H af aL
@[simp] theorem aYh:agi.f=32:=rfl
@[simp] theorem aYi{n cz:Bool}{a b cI b7:List Int}(h:((aV.mk n a b).bD/\(aV.mk cz cI b7).bD)/\(aV.mk n a b).bG.ok=true/\(aV.mk cz cI b7).bG.ok=true):agi.fn [.agg #[.bool n,dy a,dy b],.agg #[.bool cz,dy cI,dy b7]]=some (.bool (decide (iI (aV.mk n a b).bG (aV.mk cz cI b7).bG=0))):=cf.eP (x:=((⟨n,a,b⟩:aV),(⟨cz,cI,b7⟩:aV))) h λ⟨⟨gk,h6,px⟩,⟨s4,xn,He⟩⟩ ab=>ag4 ab
theorem aJA{x y:aV}(h:x.bD/\y.bD):c4 Z 60 [eV x,eV y] (.bool (fL x y)):=by
  refine gR (ga (a0:=⟨[G1,agi,af6],[]⟩) aEs (by kernel_rfl) (by simp[Dt]) ?_);obtain⟨UO,aec⟩:=Wc h.1;obtain⟨UP,aed⟩:=Wc h.2;obtain⟨n,a,b⟩:=x;obtain⟨cz,cI,b7⟩:=y;obtain⟨F,ab⟩:=h;simp only at UO aec UP aed;cases hn:(aV.mk n a b).bG.ok
  · cases h5:(aV.mk cz cI b7).bG.ok
    · have ar:fL ⟨n,a,b⟩ ⟨cz,cI,b7⟩=(cY n cz&&(dJ cY a cI&&dJ cY b b7)):=(by simp[fL,hn,h5]);by_cases bY:n=cz
      · subst bY;cases cN:dJ cY a cI
        · simp(disch:=first|omega|simp only[DI.aF];omega) [Dt,Gb,Gc,Gd,ec,hn,h5,ar,cN]
        · simp(disch:=first|omega|simp only[DI.aF];omega) [Dt,Gb,Gc,Gd,ec,hn,h5,ar,cN]
      · simp(disch:=first|omega|simp only[DI.aF];omega) [Dt,Gb,Gc,Gd,ec,hn,h5,ar,bY]
    · have ar:fL ⟨n,a,b⟩ ⟨cz,cI,b7⟩=false:=(by simp[fL,hn,h5]);simp(disch:=first|omega|simp only[DI.aF];omega) [Dt,Gb,Gc,Gd,ec,hn,h5,ar]
  · cases h5:(aV.mk cz cI b7).bG.ok
    · have ar:fL ⟨n,a,b⟩ ⟨cz,cI,b7⟩=false:=(by simp[fL,hn,h5]);simp(disch:=first|omega|simp only[DI.aF];omega) [Dt,Gb,Gc,Gd,ec,hn,h5,ar]
    · have Y:((aV.mk n a b).bD/\(aV.mk cz cI b7).bD)/\(aV.mk n a b).bG.ok=true/\(aV.mk cz cI b7).bG.ok=true:=⟨⟨F,ab⟩,hn,h5⟩;have ar:fL ⟨n,a,b⟩ ⟨cz,cI,b7⟩=decide (iI (aV.mk n a b).bG (aV.mk cz cI b7).bG=0):=(by simp[fL,hn,h5]);simp(disch:=first|omega|simp only[DI.aF];omega) [Dt,Gb,Gc,Gd,ec,hn,h5,ar]
noncomputable def B4:cf Z:= .ek 60 (aV×aV) (λp=>p.1.bD/\p.2.bD) (λp=>[eV p.1,eV p.2]) (λp=> .bool (fL p.1 p.2)) λ_ h=>aJA h
@[simp] theorem aXH:B4.f=60:=rfl
@[simp] theorem aKT{n cz:Bool}{a b cI b7:List Int}(h:(aV.mk n a b).bD/\(aV.mk cz cI b7).bD):B4.fn [.agg #[.bool n,dy a,dy b],.agg #[.bool cz,dy cI,dy b7]]=some (.bool (fL ⟨n,a,b⟩ ⟨cz,cI,b7⟩)):=cf.eP (x:=((⟨n,a,b⟩:aV),(⟨cz,cI,b7⟩:aV))) h λ⟨⟨gk,h6,px⟩,⟨s4,xn,He⟩⟩ ab=>ag4 ab
theorem aJB{a b:List aV}(av:a.length<1000000000000000/\b.length<1000000000000000)(h:(∀x∈a,x.bD)/\ ∀x∈b,x.bD):c4 Z 62 [dQ a,dQ b] (.bool (dJ fL a b)):=by
  refine gR (ga (a0:=⟨[B4],[]⟩) aEu (by kernel_rfl) (by simp[TG]) ?_);by_cases aE:a.length=b.length
  case neg=>have ar:=vo (p:=fL) aE;have kl: ¬(a.length:Int)=b.length:=(by omega);simp[TG,acX,acY,acZ,I5,kl,ar]
  simp[TG,acX,acY,acZ,aE];refine hC (a0:=⟨[B4],[]⟩) (λi u t=>(∀(j:Nat) x y,j<i->a[j]?=some x->b[j]?=some y->fL x y=true)/\u 0=dQ a/\u 1=dQ b/\u 5=X i) b.length ?_ ?_ 0 _ _ (hf _) ⟨λj x y h=>by omega,by simp,by simp,by simp⟩
  · rintro i u t ag ⟨gf,b1,aw,cv⟩ cp aZ;obtain⟨x,F⟩: ∃x,a[i]?=some x:=⟨_,c0 (by omega)⟩;obtain⟨y,ab⟩:=kS ag;have eA:=(dg.1 F).2;have gX:=(dg.1 ab).2;have bc:=e7 (n:=i) (by omega);have bn:(i:Int)<b.length:=(by omega);have bC:(i:Int)<a.length:=(by omega);have aMD:=h.1 x (fT F);have aME:=h.2 y (fT ab);obtain⟨n,ahh,g7⟩:=x;obtain⟨cz,Eo,xo⟩:=y;have a3:(aV.mk n ahh g7).bD/\(aV.mk cz Eo xo).bD:=⟨aMD,aME⟩;have next:fL ⟨n,ahh,g7⟩ ⟨cz,Eo,xo⟩=true-> ∀(j:Nat) x y,j<i+1->a[j]?=some x->b[j]?=some y->fL x y=true:= λY j hY oX c6 aX bg=>by
      by_cases e:j=i
      · subst e;rw[F]at aX;rw[ab]at bg;cases aX;cases bg;exact Y
      · exact gf j hY oX (by omega) aX bg
    cases Y:fL ⟨n,ahh,g7⟩ ⟨cz,Eo,xo⟩
    · have ar:=uy F ab Y;simp(disch:=omega) [TH,ND,I5,b1,aw,cv,bn,eA,gX,Y,ar,aE,ec]
    · have mE:=next Y
      simp(disch:=first|omega|simp only[DI.aF];omega) [TH,ND,I5,b1,aw,cv,bn,bc,eA,gX,Y,aE,ec,-ao,-aB,-ai,-au,-List.map_map];exact aZ _ _ ⟨mE,by simp[b1],by simp[aw],by simp⟩
  · rintro u t ⟨gf,b1,aw,cv⟩;have cg: ¬(((b.length:Nat):Int)<b.length):=(by omega);have ar:dJ fL a b=true:=CB aE λi x y B H=>gf i x y (dg.1 H).1 B H;simp[TH,ND,I5,I5,ND,b1,cv,aE,cg,ar]
noncomputable def Ea:cf Z:= .ek 62 (List aV×List aV) (λp=>(p.1.length<1000000000000000/\p.2.length<1000000000000000)/\(∀x∈p.1,x.bD)/\ ∀x∈p.2,x.bD) (λp=>[dQ p.1,dQ p.2]) (λp=> .bool (dJ fL p.1 p.2)) λ_ h=>aJB h.1 h.2
@[simp] theorem aXI:Ea.f=62:=rfl
@[simp] theorem aKU{a b:List aV}(h:(a.length<1000000000000000/\b.length<1000000000000000)/\(∀x∈a,x.bD)/\ ∀x∈b,x.bD):Ea.fn [aQ (a.map ec) 3,aQ (b.map ec) 3]=some (.bool (dJ fL a b)):=cf.eP (x:=(a,b)) h λ⟨gk,h6⟩ ab=>by simp at ab;obtain⟨rfl,rfl⟩:=ab;rfl
theorem aJI{a b:List Int}(av:a.length<1000000000000000/\b.length<1000000000000000):c4 Z 61 [lS a,lS b] (.bool (dJ cY a b)):=by
  refine gR (ga (a0:=⟨[],[]⟩) aEt (by kernel_rfl) (by simp[TE]) ?_);by_cases aE:a.length=b.length
  case neg=>have ar:=vo (p:=cY) aE;have kl: ¬(a.length:Int)=b.length:=(by omega);simp[TE,acU,acV,acW,I4,kl,ar]
  simp[TE,acU,acV,acW,aE];refine hC (a0:=⟨[],[]⟩) (λi u t=>(∀(j:Nat) x y,j<i->a[j]?=some x->b[j]?=some y->cY x y=true)/\u 0=lS a/\u 1=lS b/\u 5=X i) b.length ?_ ?_ 0 _ _ (hf _) ⟨λj x y h=>by omega,by simp,by simp,by simp⟩
  · rintro i u t ag ⟨gf,b1,aw,cv⟩ cp aZ;obtain⟨x,F⟩: ∃x,a[i]?=some x:=⟨_,c0 (by omega)⟩;obtain⟨y,ab⟩:=kS ag;have eA:=(dg.1 F).2;have gX:=(dg.1 ab).2;have bc:=e7 (n:=i) (by omega);have bn:(i:Int)<b.length:=(by omega);have next:cY x y=true-> ∀(j:Nat) x y,j<i+1->a[j]?=some x->b[j]?=some y->cY x y=true:= λY j hY oX c6 aX bg=>by
      by_cases e:j=i
      · subst e;rw[F]at aX;rw[ab]at bg;cases aX;cases bg;exact Y
      · exact gf j hY oX (by omega) aX bg
    cases Y:cY x y
    · have ar:=uy F ab Y;have ay:=Y;simp only[cY,Ew]at ay;simp(disch:=omega) [TF,NC,I4,b1,aw,cv,bn,eA,gX,ar,aE,ay]
    · have mE:=next Y
      have ay:=Y;simp only[cY,fU]at ay;simp(disch:=first|omega|simp only[DI.aF];omega) [TF,NC,I4,b1,aw,cv,bn,bc,eA,gX,aE,ay,-ao,-aB,-ai,-au,-List.map_map];exact aZ _ _ ⟨mE,by simp[b1],by simp[aw],by simp⟩
  · rintro u t ⟨gf,b1,aw,cv⟩;have cg: ¬(((b.length:Nat):Int)<b.length):=(by omega);have ar:dJ cY a b=true:=CB aE λi x y B H=>gf i x y (dg.1 H).1 B H;simp[TF,NC,I4,I4,NC,b1,cv,aE,cg,ar]
noncomputable def af9:cf Z:= .ek 61 (List Int×List Int) (λp=>p.1.length<1000000000000000/\p.2.length<1000000000000000) (λp=>[lS p.1,lS p.2]) (λp=> .bool (dJ cY p.1 p.2)) λ_ h=>aJI h
@[simp] theorem aXJ:af9.f=61:=rfl
@[simp] theorem aXK{a b:List Int}(h:a.length<1000000000000000/\b.length<1000000000000000):af9.fn [aQ (a.map λd=>[X d]) 1,aQ (b.map λd=>[X d]) 1]=some (.bool (dJ cY a b)):=cf.eP (x:=(a,b)) h λ⟨gk,h6⟩ ab=>by simp at ab;obtain⟨rfl,rfl⟩:=ab;rfl
theorem aKM{a b:List ByteArray}(av:a.length<1000000000000000/\b.length<1000000000000000):c4 Z 71 [ux a,ux b] (.bool (dJ cY a b)):=by
  refine gR (ga (a0:=⟨[],[]⟩) aEE (by kernel_rfl) (by simp[T5]) ?_);by_cases aE:a.length=b.length
  case neg=>have ar:=vo (p:=cY) aE;have kl: ¬(a.length:Int)=b.length:=(by omega);simp[T5,ado,adp,adq,Jl,kl,ar]
  simp[T5,ado,adp,adq,aE];refine hC (a0:=⟨[],[]⟩) (λi u t=>(∀(j:Nat) x y,j<i->a[j]?=some x->b[j]?=some y->cY x y=true)/\u 0=ux a/\u 1=ux b/\u 5=X i) b.length ?_ ?_ 0 _ _ (hf _) ⟨λj x y h=>by omega,by simp,by simp,by simp⟩
  · rintro i u t ag ⟨gf,b1,aw,cv⟩ cp aZ;obtain⟨x,F⟩: ∃x,a[i]?=some x:=⟨_,c0 (by omega)⟩;obtain⟨y,ab⟩:=kS ag;have eA:=(dg.1 F).2;have gX:=(dg.1 ab).2;have bc:=e7 (n:=i) (by omega);have bn:(i:Int)<b.length:=(by omega);have next:cY x y=true-> ∀(j:Nat) x y,j<i+1->a[j]?=some x->b[j]?=some y->cY x y=true:= λY j hY oX c6 aX bg=>by
      by_cases e:j=i
      · subst e;rw[F]at aX;rw[ab]at bg;cases aX;cases bg;exact Y
      · exact gf j hY oX (by omega) aX bg
    cases Y:cY x y
    · have ar:=uy F ab Y;have ay:=Y;simp only[cY,Ew]at ay;simp(disch:=omega) [T6,NS,Jl,b1,aw,cv,bn,eA,gX,ar,aE,ay]
    · have mE:=next Y
      have ay:=Y;simp only[cY,fU]at ay;simp(disch:=first|omega|simp only[DI.aF];omega) [T6,NS,Jl,b1,aw,cv,bn,bc,eA,gX,aE,ay,-ao,-aB,-ai,-au,-List.map_map];exact aZ _ _ ⟨mE,by simp[b1],by simp[aw],by simp⟩
  · rintro u t ⟨gf,b1,aw,cv⟩;have cg: ¬(((b.length:Nat):Int)<b.length):=(by omega);have ar:dJ cY a b=true:=CB aE λi x y B H=>gf i x y (dg.1 H).1 B H;simp[T6,NS,Jl,Jl,NS,b1,cv,aE,cg,ar]
noncomputable def VI:cf Z:= .ek 71 (List ByteArray×List ByteArray) (λp=>p.1.length<1000000000000000/\p.2.length<1000000000000000) (λp=>[ux p.1,ux p.2]) (λp=> .bool (dJ cY p.1 p.2)) λ_ h=>aKM h
@[simp] theorem aYU:VI.f=71:=rfl
@[simp] theorem aKW{a b:List ByteArray}(h:a.length<1000000000000000/\b.length<1000000000000000):VI.fn [aQ (a.map λd=>[ei d]) 1,aQ (b.map λd=>[ei d]) 1]=some (.bool (dJ cY a b)):=cf.eP (x:=(a,b)) h λ⟨gk,h6⟩ ab=>by simp at ab;obtain⟨rfl,rfl⟩:=ab;rfl
def lo(x y:gp):Bool:=cY x.name y.name&&(cY x.g3 y.g3&&(cY x.parent y.parent&&(cY x.xj y.xj&&fL x.ju y.ju)))
def jq(x y:hr):Bool:=cY x.name y.name&&(cY x.k y.k&&(cY x.m y.m&&(cY x.q y.q&&(cY x.a0 y.a0&&(dJ cY x.aR y.aR&&(dJ fL x.hz y.hz&&(fL x.kU y.kU&&fL x.eS y.eS)))))))
def hZ(z a5:a4):Bool:=cY z.ext a5.ext&&(dJ hj z.bO a5.bO&&(dJ cY z.aR a5.aR&&(dJ lo z.br a5.br&&(dJ cY z.c5 a5.c5&&(dJ jq z.bT a5.bT&&dJ cY z.cP a5.cP)))))
theorem awB(x:gp):lo x x=true:=by simp[lo,QB]
theorem aIB(x:hr):jq x x=true:=by simp[jq,QB,Lh,AQ λa _=>HE a]
theorem axu(z:a4):hZ z z=true:=by simp[hZ,AQ λa _=>HE a,AQ λa _=>apL a,AQ λa _=>awB a,AQ λa _=>aIB a]
abbrev ap0(x:dY):Prop:=x.bD
abbrev jG(l:List aV):Prop:=(∀x∈l,x.bD)/\l.length<1000000000000000
theorem aIu{a b:List aV}(h:jG a/\jG b):c4 Z 167 [dQ a,dQ b,.func (.func 121) #[] #[]] (.bool (dJ fL a b)):=
  xe (df:=true) (O:=3) (enc:=ec) (cj:=aV.bD) amy (by decide) (λh=>by cases h) aJf (λx y F ab=>aIt ⟨F,ab⟩) h.1.1 h.2.1 (by have:=h.1.2;omega) (by have:=h.2.2;omega)
noncomputable def afK:cf Z:= .ek 167 (List aV×List aV) (λp=>jG p.1/\jG p.2) (λp=>[dQ p.1,dQ p.2,.func (.func 121) #[] #[]]) (λp=> .bool (dJ fL p.1 p.2)) λ_ h=>aIu h
@[simp] theorem aWA:afK.f=167:=rfl
@[simp] theorem aWB{a b:List aV}(h:jG a/\jG b):afK.fn [dQ a,dQ b,.func (.func 121) #[] #[]]=some (.bool (dJ fL a b)):=cf.eP (x:=(a,b)) h λ⟨gk,h6⟩ ab=>by simp at ab;obtain⟨rfl,rfl⟩:=ab;rfl
theorem aeP{a b:List aV}(h:jG a/\jG b):c4 Z 149 [dQ a,dQ b] (.bool (dJ fL a b)):=by refine gR (ga (a0:=⟨[afK],[]⟩) alO (by kernel_rfl) (by simp[MZ]) ?_);simp(disch:=omega) [MZ,aay,aaz]
noncomputable def af4:cf Z:= .ek 149 (List aV×List aV) (λp=>jG p.1/\jG p.2) (λp=>[dQ p.1,dQ p.2]) (λp=> .bool (dJ fL p.1 p.2)) λ_ h=>aeP h
@[simp] theorem aXt:af4.f=149:=rfl
@[simp] theorem aXu{a b:List aV}(h:jG a/\jG b):af4.fn [dQ a,dQ b]=some (.bool (dJ fL a b)):=cf.eP (x:=(a,b)) h λ⟨gk,h6⟩ ab=>by simp at ab;obtain⟨rfl,rfl⟩:=ab;rfl
theorem aIE{a b:List (List aV)}(h:((∀l∈a,jG l)/\a.length<1000000)/\((∀l∈b,jG l)/\b.length<1000000)):c4 Z 150 [oF a,oF b,.func (.func 149) #[] #[]] (.bool (dJ (dJ fL) a b)):=
  xe (df:=false) (O:=1) (enc:= λr=>[dQ r]) (cj:= λl=>jG l) alY (by decide) (λ_=>rfl) aJ0 (λx y F ab=>aeP ⟨F,ab⟩) h.1.1 h.2.1 (by have:=h.1.2;omega) (by have:=h.2.2;omega)
noncomputable def af5:cf Z:= .ek 150 (List (List aV)×List (List aV)) (λp=>((∀l∈p.1,jG l)/\p.1.length<1000000)/\((∀l∈p.2,jG l)/\p.2.length<1000000)) (λp=>[oF p.1,oF p.2,.func (.func 149) #[] #[]]) (λp=> .bool (dJ (dJ fL) p.1 p.2)) λ_ h=>aIE h
@[simp] theorem aXy:af5.f=150:=rfl
@[simp] theorem aXz{a b:List (List aV)}(h:((∀l∈a,jG l)/\a.length<1000000)/\((∀l∈b,jG l)/\b.length<1000000)):af5.fn [oF a,oF b,.func (.func 149) #[] #[]]=some (.bool (dJ (dJ fL) a b)):=cf.eP (x:=(a,b)) h λ⟨gk,h6⟩ ab=>by simp at ab;obtain⟨rfl,rfl⟩:=ab;rfl
theorem aIv{x y:dY}(h:ap0 x/\ap0 y):c4 Z 116 [nZ x,nZ y] (.bool (hj x y)):=by
  refine gR (ga (a0:=⟨[af4,af5],[]⟩) akO (by kernel_rfl) (by simp[x8]) ?_);obtain⟨⟨bh,bt,c1,e0,hK,h3,jk⟩,⟨cM,dq,jw,kQ,ti,rD,vf⟩⟩:=h;obtain⟨n,s,bf,e⟩:=x;obtain⟨cz,iu,ot,eD⟩:=y;simp only at bh bt c1 e0 hK h3 jk cM dq jw kQ ti rD vf;have B:jG s/\jG iu:=⟨⟨bh,by omega⟩,cM,by omega⟩;have H:((∀l∈bf,jG l)/\bf.length<1000000)/\((∀l∈ot,jG l)/\ot.length<1000000):=⟨⟨λl aE=>⟨bt l aE,by have:=jk l aE;omega⟩,by omega⟩,λl aE=>⟨dq l aE,by have:=vf l aE;omega⟩,by omega⟩;have af:jG e/\jG eD:=⟨⟨c1,by omega⟩,jw,by omega⟩;by_cases ew:n=cz
  case neg=>have ar:hj (dY.mk n s bf e) (dY.mk cz iu ot eD)=false:=(by simp[hj,ew]);simp(disch:=first|omega|simp only[DI.aF];omega) [x8,A9,Ba,fH,ar,ew]
  subst ew;cases dI:dJ fL s iu
  · skip
    have ar:hj (dY.mk n s bf e) (dY.mk n iu ot eD)=false:=(by simp[hj,dI]);simp(disch:=first|omega|simp only[DI.aF];omega) [x8,A9,Ba,fH,ar,dI]
  cases cN:dJ (dJ fL) bf ot
  · skip
    have ar:hj (dY.mk n s bf e) (dY.mk n iu ot eD)=false:=(by simp[hj,dI,cN]);simp(disch:=first|omega|simp only[DI.aF];omega) [x8,A9,Ba,fH,ar,dI,cN]
  cases bY:dJ fL e eD
  · skip
    have ar:hj (dY.mk n s bf e) (dY.mk n iu ot eD)=false:=(by simp[hj,dI,cN,bY]);simp(disch:=first|omega|simp only[DI.aF];omega) [x8,A9,Ba,fH,ar,dI,cN,bY]
  have ar:hj (dY.mk n s bf e) (dY.mk n iu ot eD)=true:=by simp[hj,dI,cN,bY]
  simp(disch:=first|omega|simp only[DI.aF];omega) [x8,A9,Ba,fH,ar,dI,cN,bY]
abbrev fI:Value:= .slice none 0 0
theorem J0{df:Bool}{O f g:Nat}(dD:cO Z f=some ⟨30,[.bq 6],VK df O⟩)(cl:0<O)(B:df=false->O=1):c4 Z f [fI,fI,.func (.func g) #[] #[]] (.bool true):=
  c4.aHN (xe (α:=Unit) (df:=df) (O:=O) (f:=f) (g:=g) (enc:= λ_=>List.replicate O (X 0)) (p:= λ_ _=>true) (cj:= λ_=>False) (a:=[]) (b:=[]) dD cl B (λ_=>⟨by simp,λv S=>by rw[(List.mem_replicate.1 S).2];rfl⟩) (λ_ _ h=>h.elim) (λ_ h=>by cases h) (λ_ h=>by cases h) (by simp) (by simp))
noncomputable def afV:cf Z:= .ek 167 Unit (λ_=>True) (λ_=>[fI,fI,.func (.func 121) #[] #[]]) (λ_=> .bool true) λ_ _=>J0 (df:=true) (O:=3) amy (by decide) (by decide)
@[simp] theorem aW6:afV.f=167:=rfl
@[simp] theorem aW7:afV.fn [fI,fI,.func (.func 121) #[] #[]]=some (.bool true):=cf.eP (x:=()) trivial λ_ _=>rfl
theorem aKP:c4 Z 149 [fI,fI] (.bool true):=by refine gR (ga (a0:=⟨[afV],[]⟩) alO (by kernel_rfl) (by simp[MZ]) ?_);simp[MZ,aay,aaz]
noncomputable def VC:cf Z:= .ek 149 (Option (List aV×List aV)) (fun|none=>True|some p=>jG p.1/\jG p.2) (fun|none=>[fI,fI]|some p=>[dQ p.1,dQ p.2]) (fun|none=> .bool true|some p=> .bool (dJ fL p.1 p.2)) fun|none,_=>aKP|some p,h=>aeP h
@[simp] theorem aXq:VC.f=149:=rfl
@[simp] theorem aXr{a b:List aV}(h:jG a/\jG b):VC.fn [dQ a,dQ b]=some (.bool (dJ fL a b)):=cf.eP (x:=some (a,b)) h λy ab=>by
  cases y with
  |none=>cases ab
  |some y=>obtain⟨gk,h6⟩:=y;simp at ab;obtain⟨rfl,rfl⟩:=ab;rfl
@[simp] theorem aXs:VC.fn [fI,fI]=some (.bool true):=cf.eP (x:=none) trivial λy ab=>by
  cases y with
  |none=>rfl
  |some y=>cases ab
noncomputable def afZ:cf Z:= .ek 150 Unit (λ_=>True) (λ_=>[fI,fI,.func (.func 149) #[] #[]]) (λ_=> .bool true) λ_ _=>J0 (df:=false) (O:=1) alY (by decide) (by decide)
@[simp] theorem aXe:afZ.f=150:=rfl
@[simp] theorem aXf:afZ.fn [fI,fI,.func (.func 149) #[] #[]]=some (.bool true):=cf.eP (x:=()) trivial λ_ _=>rfl
noncomputable def afW:cf Z:= .ek 117 Unit (λ_=>True) (λ_=>[fI,fI,.func (.func 118) #[] #[]]) (λ_=> .bool true) λ_ _=>J0 (df:=true) (O:=6) aA5 (by decide) (by decide)
@[simp] theorem aW8:afW.f=117:=rfl
@[simp] theorem aW9:afW.fn [fI,fI,.func (.func 118) #[] #[]]=some (.bool true):=cf.eP (x:=()) trivial λ_ _=>rfl
noncomputable def afX:cf Z:= .ek 119 Unit (λ_=>True) (λ_=>[fI,fI,.func (.func 120) #[] #[]]) (λ_=> .bool true) λ_ _=>J0 (df:=true) (O:=9) aBf (by decide) (by decide)
@[simp] theorem aXa:afX.f=119:=rfl
@[simp] theorem aXb:afX.fn [fI,fI,.func (.func 120) #[] #[]]=some (.bool true):=cf.eP (x:=()) trivial λ_ _=>rfl
noncomputable def afY:cf Z:= .ek 122 Unit (λ_=>True) (λ_=>[fI,fI,.func (.func 123) #[] #[]]) (λ_=> .bool true) λ_ _=>J0 (df:=true) (O:=19) aBq (by decide) (by decide)
@[simp] theorem aXc:afY.f=122:=rfl
@[simp] theorem aXd:afY.fn [fI,fI,.func (.func 123) #[] #[]]=some (.bool true):=cf.eP (x:=()) trivial λ_ _=>rfl
noncomputable def af0:cf Z:= .ek 124 Unit (λ_=>True) (λ_=>[fI,fI,.func (.func 125) #[] #[]]) (λ_=> .bool true) λ_ _=>J0 (df:=true) (O:=4) aBA (by decide) (by decide)
@[simp] theorem aXg:af0.f=124:=rfl
@[simp] theorem aXh:af0.fn [fI,fI,.func (.func 125) #[] #[]]=some (.bool true):=cf.eP (x:=()) trivial λ_ _=>rfl
def PV(b:Bool)(x:dY):List Value:=bif b then[ei x.name,dQ x.s,fI,fI]else fH x
def ki(b:Bool)(x:dY):Prop:=x.bD/\(b=true->x.bf=[]/\x.e=[])
theorem aIx{x y:dY}(h:ki true x/\ki true y):c4 Z 116 [.agg #[ei x.name,dQ x.s,fI,fI],.agg #[ei y.name,dQ y.s,fI,fI]] (.bool (hj x y)):=by
  refine gR (ga (a0:=⟨[VC,afZ],[]⟩) akO (by kernel_rfl) (by simp[x8]) ?_);obtain⟨⟨⟨bh,bt,c1,e0,hK,h3,jk⟩,lf⟩,⟨⟨cM,dq,jw,kQ,ti,rD,vf⟩,ER⟩⟩:=h;obtain⟨n,s,bf,e⟩:=x;obtain⟨cz,iu,ot,eD⟩:=y;obtain⟨lf,lz⟩:=lf rfl;obtain⟨ER,KM⟩:=ER rfl;simp only at bh bt c1 e0 hK h3 jk lf lz cM dq jw kQ ti rD vf ER KM;subst lf lz ER KM;have B:jG s/\jG iu:=⟨⟨bh,by omega⟩,cM,by omega⟩;by_cases cN:n=cz
  case neg=>have ar:hj (dY.mk n s [] []) (dY.mk cz iu [] [])=false:=(by simp[hj,dJ,cN]);simp(disch:=first|omega|simp only[DI.aF];omega) [x8,A9,Ba,ar,cN]
  subst cN;cases bY:dJ fL s iu
  · skip
    have ar:hj (dY.mk n s [] []) (dY.mk n iu [] [])=false:=(by simp[hj,dJ,bY]);simp(disch:=first|omega|simp only[DI.aF];omega) [x8,A9,Ba,ar,bY]
  have ar:hj (dY.mk n s [] []) (dY.mk n iu [] [])=true:=by simp[hj,dJ,bY]
  simp(disch:=first|omega|simp only[DI.aF];omega) [x8,A9,Ba,ar,bY]
theorem aIw{b:Bool}{x y:dY}(h:ki b x/\ki b y):c4 Z 116 [.agg (PV b x).toArray,.agg (PV b y).toArray] (.bool (hj x y)):=by
  cases b
  · exact aIv ⟨h.1.1,h.2.1⟩
  · exact aIx h
noncomputable def VD(b:Bool)(x y:dY)(h:ki b x/\ki b y):cf Z:= .ek 116 Unit (λ_=>True) (λ_=>[.agg (PV b x).toArray,.agg (PV b y).toArray]) (λ_=> .bool (hj x y)) λ_ _=>aIw h
@[simp] theorem aXv{b:Bool}{x y:dY}{h:ki b x/\ki b y}:(VD b x y h).f=116:=rfl
@[simp] theorem aXw{x y:dY}{h:ki false x/\ki false y}:(VD false x y h).fn [.agg #[ei x.name,dQ x.s,oF x.bf,dQ x.e],.agg #[ei y.name,dQ y.s,oF y.bf,dQ y.e]]=some (.bool (hj x y)):=cf.eP (x:=()) trivial λ_ _=>rfl
@[simp] theorem aXx{x y:dY}{h:ki true x/\ki true y}:(VD true x y h).fn [.agg #[ei x.name,dQ x.s,fI,fI],.agg #[ei y.name,dQ y.s,fI,fI]]=some (.bool (hj x y)):=cf.eP (x:=()) trivial λ_ _=>rfl
def th(b:Bool)(x:dY):List Value:=bif b then[ei x.name,dQ x.s,fI,fI,X 0,X 0]else[ei x.name,dQ x.s,oF x.bf,dQ x.e,X 0,X 0]
theorem auq(b:Bool)(x:dY):(th b x).length=6/\ ∀v∈th b x,il v=true:=by cases b<;>exact⟨rfl,λv S=>by simp[th]at S;rcases S with rfl|rfl|rfl|rfl|rfl<;>rfl⟩
theorem aIF{b:Bool}{x y:dY}(h:ki b x/\ki b y):c4 Z 115 [.agg (th b x).toArray,.agg (th b y).toArray] (.bool (hj x y)):=by
  refine gR (ga (a0:=⟨[VD b x y h],[]⟩) aA2 (by kernel_rfl) (by simp[RP]) ?_);cases b
  · simp[RP,ZF,ZG,th]
  · simp[RP,ZF,ZG,th]
theorem aIG{b:Bool}{x y:dY}(h:ki b x/\ki b y):c4 Z 114 [aQ [th b x] 6,aQ [th b y] 6,.func (.func 115) #[] #[]] (.bool (hj x y)):=by have:=xe (df:=true) (O:=6) (enc:=th b) (cj:=ki b) (a:=[x]) (b:=[y]) aAU (by decide) (λh=>by cases h) (auq b) (λx y F ab=>aIF ⟨F,ab⟩) (λaG ar=>by simp at ar;subst ar;exact h.1) (λaG ar=>by simp at ar;subst ar;exact h.2) (by simp) (by simp);simpa[dJ]using this
noncomputable def agh(b:Bool)(x y:dY)(h:ki b x/\ki b y):cf Z:= .ek 114 Unit (λ_=>True) (λ_=>[aQ [th b x] 6,aQ [th b y] 6,.func (.func 115) #[] #[]]) (λ_=> .bool (hj x y)) λ_ _=>aIG h
@[simp] theorem aYf{b:Bool}{x y:dY}{h:ki b x/\ki b y}:(agh b x y h).f=114:=rfl
@[simp] theorem aYg{b:Bool}{x y:dY}{h:ki b x/\ki b y}:(agh b x y h).fn [aQ [th b x] 6,aQ [th b y] 6,.func (.func 115) #[] #[]]=some (.bool (hj x y)):=cf.eP (x:=()) trivial λ_ _=>rfl
abbrev PW(b:Bool)(x:dY):Value:= .agg #[X 0,aQ [th b x] 6,fI,fI,fI,fI]
theorem aIN{b:Bool}{x y:dY}(h:ki b x/\ki b y):c4 Z 74 [PW b x,PW b y] (.bool (hj x y)):=by
  refine gR (ga (a0:=⟨[agh b x y h,afW,afX,afY,af0],[]⟩) aEQ (by kernel_rfl) (by simp[T7]) ?_);cases aK:hj x y
  · simp[T7,ads,adt,aK]
  · simp[T7,ads,adt,aK]
noncomputable def JY(b:Bool)(x y:dY)(h:ki b x/\ki b y):cf Z:= .ek 74 Unit (λ_=>True) (λ_=>[PW b x,PW b y]) (λ_=> .bool (hj x y)) λ_ _=>aIN h
@[simp] theorem aXA{b:Bool}{x y:dY}{h:ki b x/\ki b y}:(JY b x y h).f=74:=rfl
@[simp] theorem aXB{x y:dY}{h:ki false x/\ki false y}:(JY false x y h).fn [.agg #[X 0,aQ [[ei x.name,dQ x.s,oF x.bf,dQ x.e,X 0,X 0]] 6,fI,fI,fI,fI],.agg #[X 0,aQ [[ei y.name,dQ y.s,oF y.bf,dQ y.e,X 0,X 0]] 6,fI,fI,fI,fI]]=some (.bool (hj x y)):=cf.eP (x:=()) trivial λ_ _=>rfl
@[simp] theorem aKQ{x y:dY}{h:ki true x/\ki true y}:(JY true x y h).fn [.agg #[X 0,aQ [[ei x.name,dQ x.s,fI,fI,X 0,X 0]] 6,fI,fI,fI,fI],.agg #[X 0,aQ [[ei y.name,dQ y.s,fI,fI,X 0,X 0]] 6,fI,fI,fI,fI]]=some (.bool (hj x y)):=cf.eP (x:=()) trivial λ_ _=>rfl
theorem axo{x y:dY}(h:x.bD/\y.bD):c4 Z 73 [nZ x,nZ y] (.bool (hj x y)):=by have Y:ki false x/\ki false y:=⟨⟨h.1,λh=>by cases h⟩,h.2,λh=>by cases h⟩;refine gR (ga (a0:=⟨[JY false x y Y],[]⟩) aEP (by kernel_rfl) (by simp[adr]) ?_);simp[adr,aoI,aoJ,fH,XA,ae8]
theorem axk{a b:List aV}(h:((∀x∈a,x.bD)/\a.length<1000000)/\(∀x∈b,x.bD)/\b.length<1000000):c4 Z 79 [dQ a,dQ b] (.bool (dJ fL a b)):=by
  have F: ∀{l:List aV},(∀x∈l,x.bD)/\l.length<1000000->ki true ⟨⟨#[]⟩,l,[],[]⟩:= λh=>⟨⟨h.1,by simp,by simp,h.2,by simp,by simp,by simp⟩,λ_=>⟨rfl,rfl⟩⟩;have Y:ki true ⟨⟨#[]⟩,a,[],[]⟩/\ki true ⟨⟨#[]⟩,b,[],[]⟩:=⟨F h.1,F h.2⟩;have ar:hj ⟨⟨#[]⟩,a,[],[]⟩ ⟨⟨#[]⟩,b,[],[]⟩=dJ fL a b:=by simp[hj,dJ]
  have bs:(JY true ⟨⟨#[]⟩,a,[],[]⟩ ⟨⟨#[]⟩,b,[],[]⟩ Y).fn [.agg #[X 0,aQ [[.string ⟨#[]⟩,dQ a,fI,fI,X 0,X 0]] 6,fI,fI,fI,fI],.agg #[X 0,aQ [[.string ⟨#[]⟩,dQ b,fI,fI,X 0,X 0]] 6,fI,fI,fI,fI]]=some (.bool (dJ fL a b)):=by rw[<-ar];exact aKQ
  refine gR (ga (a0:=⟨[JY true ⟨⟨#[]⟩,a,[],[]⟩ ⟨⟨#[]⟩,b,[],[]⟩ Y],[]⟩) aFd (by kernel_rfl) (by simp[adv]) ?_);simp[adv,aoM,aoN,XA,ae8,bs,-ao,-aB,-ai,-au,-List.map_map]
theorem aw8{a b:Int}:c4 Z 156 [X a,X b] (.bool (cY a b)):=by refine gR (ga (a0:=⟨[],[]⟩) aCT (by kernel_rfl) (by simp[aaC]) ?_);simp[aaC,al1,al2]
theorem aAs{a b:List Int}(h:a.length<1000000000000000/\b.length<1000000000000000):c4 Z 155 [lS a,lS b,.func (.func 156) #[] #[]] (.bool (dJ cY a b)):=
  xe (df:=false) (O:=1) (enc:= λd=>[X d]) (cj:= λ_=>True) aCL (by decide) (λ_=>rfl) atx (λx y _ _=>aw8) (λ_ _=>trivial) (λ_ _=>trivial) h.1 h.2
noncomputable def afP:cf Z:= .ek 155 (List Int×List Int) (λp=>p.1.length<1000000000000000/\p.2.length<1000000000000000) (λp=>[lS p.1,lS p.2,.func (.func 156) #[] #[]]) (λp=> .bool (dJ cY p.1 p.2)) λ_ h=>aAs h
@[simp] theorem aWO:afP.f=155:=rfl
@[simp] theorem aWP{a b:List Int}(h:a.length<1000000000000000/\b.length<1000000000000000):afP.fn [lS a,lS b,.func (.func 156) #[] #[]]=some (.bool (dJ cY a b)):=cf.eP (x:=(a,b)) h λ⟨gk,h6⟩ ab=>by simp at ab;obtain⟨rfl,rfl⟩:=ab;rfl
theorem aAt{a b:List Int}(h:a.length<1000000000000000/\b.length<1000000000000000):c4 Z 126 [lS a,lS b] (.bool (dJ cY a b)):=by refine gR (ga (a0:=⟨[afP],[]⟩) aBI (by kernel_rfl) (by simp[ZS]) ?_);simp(disch:=omega) [ZS,akQ,akR]
noncomputable def afQ:cf Z:= .ek 126 (List Int×List Int) (λp=>p.1.length<1000000000000000/\p.2.length<1000000000000000) (λp=>[lS p.1,lS p.2]) (λp=> .bool (dJ cY p.1 p.2)) λ_ h=>aAt h
@[simp] theorem aWQ:afQ.f=126:=rfl
@[simp] theorem aWR{a b:List Int}(h:a.length<1000000000000000/\b.length<1000000000000000):afQ.fn [lS a,lS b]=some (.bool (dJ cY a b)):=cf.eP (x:=(a,b)) h λ⟨gk,h6⟩ ab=>by simp at ab;obtain⟨rfl,rfl⟩:=ab;rfl
abbrev yM(l:List aV):Prop:=(∀x∈l,x.bD)/\l.length<1000000
noncomputable def G0:cf Z:= .ek 79 (List aV×List aV) (λp=>yM p.1/\yM p.2) (λp=>[dQ p.1,dQ p.2]) (λp=> .bool (dJ fL p.1 p.2)) λ_ h=>axk h
@[simp] theorem aWt:G0.f=79:=rfl
theorem aKO{a b:List aV}(h:yM a/\yM b):G0.fn [dQ a,dQ b]=some (.bool (dJ fL a b)):=cf.eP (x:=(a,b)) h λ⟨gk,h6⟩ ab=>by simp at ab;obtain⟨rfl,rfl⟩:=ab;rfl
@[simp] theorem arJ{a b:List aV}(h:yM a/\yM b):G0.fn [aQ (a.map ec) 3,aQ (b.map ec) 3]=some (.bool (dJ fL a b)):=aKO h
theorem asR{x:aV}(h:x.bD):yM [x]:=⟨λy ab=>by simp at ab;subst ab;exact h,by simp⟩
theorem asS{x y:aV}(h:x.bD)(b6:y.bD):yM [x,y]:=⟨λO cl=>by simp at cl;rcases cl with rfl|rfl<;>assumption,by simp⟩
@[simp] theorem aWu{n cz:Bool}{a b cI b7:List Int}(h:(aV.mk n a b).bD/\(aV.mk cz cI b7).bD):G0.fn [aQ [[.bool n,dy a,dy b]] 3,aQ [[.bool cz,dy cI,dy b7]] 3]=some (.bool (fL ⟨n,a,b⟩ ⟨cz,cI,b7⟩)):=by have:=arJ (a:=[⟨n,a,b⟩]) (b:=[⟨cz,cI,b7⟩]) ⟨asR h.1,asR h.2⟩;simpa[dJ,ec]using this
@[simp] theorem aWv{n cz m N:Bool}{a b cI b7 c d eH o4:List Int}(h:((aV.mk n a b).bD/\(aV.mk m c d).bD)/\(aV.mk cz cI b7).bD/\(aV.mk N eH o4).bD):G0.fn [aQ [[.bool n,dy a,dy b],[.bool m,dy c,dy d]] 3,aQ [[.bool cz,dy cI,dy b7],[.bool N,dy eH,dy o4]] 3]=some (.bool (fL ⟨n,a,b⟩ ⟨cz,cI,b7⟩&&fL ⟨m,c,d⟩ ⟨N,eH,o4⟩)):=by have:=arJ (a:=[⟨n,a,b⟩,⟨m,c,d⟩]) (b:=[⟨cz,cI,b7⟩,⟨N,eH,o4⟩]) ⟨asS h.1.1 h.1.2,asS h.2.1 h.2.2⟩;simpa[dJ,ec]using this
theorem axx{x y:o1}:c4 Z 76 [.agg (hD x).toArray,.agg (hD y).toArray] (.bool (cY x y)):=by
  refine gR (ga (a0:=⟨[],[]⟩) aE1 (by kernel_rfl) (by simp[adu]) ?_);obtain⟨fm,bh,bt,c1⟩:=x;obtain⟨dB,cM,dq,jw⟩:=y;have ar:cY (o1.mk fm bh bt c1) (o1.mk dB cM dq jw)=(cY fm dB&&(cY bh cM&&(cY bt dq&&(cY c1 jw)))):=by simp only[cY,o1.mk.injEq,Hg]
  simp[adu,aoK,aoL,hD,ar,iM,kj,g9]
theorem axj{x y:pB}:c4 Z 81 [.agg (hO x).toArray,.agg (hO y).toArray] (.bool (cY x y)):=by
  refine gR (ga (a0:=⟨[],[]⟩) aFp (by kernel_rfl) (by simp[adx]) ?_);obtain⟨fm,bh,bt⟩:=x;obtain⟨dB,cM,dq⟩:=y;have ar:cY (pB.mk fm bh bt) (pB.mk dB cM dq)=(cY fm dB&&(cY bh cM&&(cY bt dq))):=by simp only[cY,pB.mk.injEq,Hg]
  simp[adx,aoS,aoT,hO,ar,iM,kj,g9]
theorem axM{x y:uj}:c4 Z 85 [.agg (iy x).toArray,.agg (iy y).toArray] (.bool (cY x y)):=by
  refine gR (ga (a0:=⟨[],[]⟩) aFL (by kernel_rfl) (by simp[ady]) ?_);obtain⟨fm,bh⟩:=x;obtain⟨dB,cM⟩:=y;have ar:cY (uj.mk fm bh) (uj.mk dB cM)=(cY fm dB&&(cY bh cM)):=by simp only[cY,uj.mk.injEq,Hg]
  simp[ady,aoU,aoV,iy,ar,iM,kj,g9]
theorem axf{x y:gp}(h:x.ju.bD/\y.ju.bD):c4 Z 78 [.agg (eL x).toArray,.agg (eL y).toArray] (.bool (lo x y)):=by
  refine gR (ga (a0:=⟨[G0],[]⟩) aFc (by kernel_rfl) (by simp[DD]) ?_);obtain⟨bh,bt,c1,e0,⟨l9,nc,lP⟩⟩:=x;obtain⟨cM,dq,jw,kQ,⟨nh,nd,nf⟩⟩:=y;simp only at h;by_cases gE:bh=cM
  case neg=>have ar:lo (gp.mk bh bt c1 e0 ⟨l9,nc,lP⟩) (gp.mk cM dq jw kQ ⟨nh,nd,nf⟩)=false:=(by simp[lo,gE]);simp(disch:=first|omega|simp only[DI.aF];omega) [DD,Gg,Gh,eL,ar,gE]
  subst gE;by_cases ew:bt=dq
  case neg=>have ar:lo (gp.mk bh bt c1 e0 ⟨l9,nc,lP⟩) (gp.mk bh dq jw kQ ⟨nh,nd,nf⟩)=false:=(by simp[lo,ew]);simp(disch:=first|omega|simp only[DI.aF];omega) [DD,Gg,Gh,eL,ar,ew]
  subst ew;by_cases dI:c1=jw
  case neg=>have ar:lo (gp.mk bh bt c1 e0 ⟨l9,nc,lP⟩) (gp.mk bh bt jw kQ ⟨nh,nd,nf⟩)=false:=(by simp[lo,dI]);simp(disch:=first|omega|simp only[DI.aF];omega) [DD,Gg,Gh,eL,ar,dI]
  subst dI;by_cases cN:e0=kQ
  case neg=>have ar:lo (gp.mk bh bt c1 e0 ⟨l9,nc,lP⟩) (gp.mk bh bt c1 kQ ⟨nh,nd,nf⟩)=false:=(by simp[lo,cN]);simp(disch:=first|omega|simp only[DI.aF];omega) [DD,Gg,Gh,eL,ar,cN]
  subst cN;cases bY:fL ⟨l9,nc,lP⟩ ⟨nh,nd,nf⟩
  · skip
    have ar:lo (gp.mk bh bt c1 e0 ⟨l9,nc,lP⟩) (gp.mk bh bt c1 e0 ⟨nh,nd,nf⟩)=false:=(by simp[lo,bY]);simp(disch:=first|omega|simp only[DI.aF];omega) [DD,Gg,Gh,eL,ss,sS,ar,bY]
  have ar:lo (gp.mk bh bt c1 e0 ⟨l9,nc,lP⟩) (gp.mk bh bt c1 e0 ⟨nh,nd,nf⟩)=true:=by simp[lo,bY]
  simp(disch:=first|omega|simp only[DI.aF];omega) [DD,Gg,Gh,eL,ss,sS,ar,bY]
theorem ar4{x y:j2}:cY x y=(cY x.a y.a&&(cY x.b y.b&&(cY x.c y.c&&(cY x.d y.d&&cY x.e y.e)))):=by obtain⟨cx,c8,eM,gY,qL⟩:=x;obtain⟨gk,h6,px,s4,xn⟩:=y;simp only[cY,j2.mk.injEq,Hg]
theorem axD{x y:hr}(h:hr.dP x/\hr.dP y):c4 Z 83 [.agg (eR x).toArray,.agg (eR y).toArray] (.bool (jq x y)):=by
  refine gR (ga (a0:=⟨[G0,afQ],[]⟩) aFA (by kernel_rfl) (by simp[wT]) ?_);obtain⟨⟨cx,c8,eM,gY⟩,⟨gk,h6,px,s4⟩⟩:=h;obtain⟨bh,bt,c1,e0,kP,tf,tg,⟨l9,nc,lP⟩,⟨iT,rE,cJ⟩⟩:=x;obtain⟨cM,dq,jw,kQ,qP,tk,tl,⟨nh,nd,nf⟩,⟨kR,qS,qT⟩⟩:=y;simp only at cx c8 eM gY gk h6 px s4;have B:yM tg/\yM tl:=⟨cx,gk⟩;have H:tf.length<1000000000000000/\tk.length<1000000000000000:=⟨by omega,by omega⟩;have af:((aV.mk l9 nc lP).bD/\(aV.mk iT rE cJ).bD)/\(aV.mk nh nd nf).bD/\(aV.mk kR qS qT).bD:=⟨⟨c8,eM⟩,h6,px⟩;by_cases WX:bh=cM
  case neg=>have ar:jq (hr.mk bh bt c1 e0 kP tf tg ⟨l9,nc,lP⟩ ⟨iT,rE,cJ⟩) (hr.mk cM dq jw kQ qP tk tl ⟨nh,nd,nf⟩ ⟨kR,qS,qT⟩)=false:=(by simp[jq,WX]);simp(disch:=first|omega|simp only[DI.aF];omega) [wT,yh,yi,eR,ar,WX]
  subst WX;by_cases WW:bt=dq
  case neg=>have ar:jq (hr.mk bh bt c1 e0 kP tf tg ⟨l9,nc,lP⟩ ⟨iT,rE,cJ⟩) (hr.mk bh dq jw kQ qP tk tl ⟨nh,nd,nf⟩ ⟨kR,qS,qT⟩)=false:=(by simp[jq,WW]);simp(disch:=first|omega|simp only[DI.aF];omega) [wT,yh,yi,eR,ar,WW]
  subst WW;by_cases uu:c1=jw
  case neg=>have ar:jq (hr.mk bh bt c1 e0 kP tf tg ⟨l9,nc,lP⟩ ⟨iT,rE,cJ⟩) (hr.mk bh bt jw kQ qP tk tl ⟨nh,nd,nf⟩ ⟨kR,qS,qT⟩)=false:=(by simp[jq,uu]);simp(disch:=first|omega|simp only[DI.aF];omega) [wT,yh,yi,eR,ar,uu]
  subst uu;by_cases ma:e0=kQ
  case neg=>have ar:jq (hr.mk bh bt c1 e0 kP tf tg ⟨l9,nc,lP⟩ ⟨iT,rE,cJ⟩) (hr.mk bh bt c1 kQ qP tk tl ⟨nh,nd,nf⟩ ⟨kR,qS,qT⟩)=false:=(by simp[jq,ma]);simp(disch:=first|omega|simp only[DI.aF];omega) [wT,yh,yi,eR,ar,ma]
  subst ma;by_cases gE:kP=qP
  case neg=>have M:(cY kP.a qP.a&&(cY kP.b qP.b&&(cY kP.c qP.c&&(cY kP.d qP.d&&cY kP.e qP.e))))=false:=(by rw[<-ar4];simpa using gE);have ar:jq (hr.mk bh bt c1 e0 kP tf tg ⟨l9,nc,lP⟩ ⟨iT,rE,cJ⟩) (hr.mk bh bt c1 e0 qP tk tl ⟨nh,nd,nf⟩ ⟨kR,qS,qT⟩)=false:=(by simp[jq,gE]);simp(disch:=first|omega|simp only[DI.aF];omega) [wT,yh,yi,eR,iM,kj,g9,ar,M]
  subst gE;cases ew:dJ cY tf tk
  · skip
    have ar:jq (hr.mk bh bt c1 e0 kP tf tg ⟨l9,nc,lP⟩ ⟨iT,rE,cJ⟩) (hr.mk bh bt c1 e0 kP tk tl ⟨nh,nd,nf⟩ ⟨kR,qS,qT⟩)=false:=(by simp[jq,ew]);simp(disch:=first|omega|simp only[DI.aF];omega) [wT,yh,yi,eR,iM,kj,g9,ar,ew]
  cases dI:dJ fL tg tl
  · skip
    have ar:jq (hr.mk bh bt c1 e0 kP tf tg ⟨l9,nc,lP⟩ ⟨iT,rE,cJ⟩) (hr.mk bh bt c1 e0 kP tk tl ⟨nh,nd,nf⟩ ⟨kR,qS,qT⟩)=false:=(by simp[jq,ew,dI]);simp(disch:=first|omega|simp only[DI.aF];omega) [wT,yh,yi,eR,iM,kj,g9,ar,ew,dI]
  cases cN:fL ⟨l9,nc,lP⟩ ⟨nh,nd,nf⟩
  · skip
    have ar:jq (hr.mk bh bt c1 e0 kP tf tg ⟨l9,nc,lP⟩ ⟨iT,rE,cJ⟩) (hr.mk bh bt c1 e0 kP tk tl ⟨nh,nd,nf⟩ ⟨kR,qS,qT⟩)=false:=(by simp[jq,ew,dI,cN]);simp(disch:=first|omega|simp only[DI.aF];omega) [wT,yh,yi,eR,ss,sS,iM,kj,g9,ar,ew,dI,cN]
  cases bY:fL ⟨iT,rE,cJ⟩ ⟨kR,qS,qT⟩
  · skip
    have ar:jq (hr.mk bh bt c1 e0 kP tf tg ⟨l9,nc,lP⟩ ⟨iT,rE,cJ⟩) (hr.mk bh bt c1 e0 kP tk tl ⟨nh,nd,nf⟩ ⟨kR,qS,qT⟩)=false:=(by simp[jq,ew,dI,cN,bY]);simp(disch:=first|omega|simp only[DI.aF];omega) [wT,yh,yi,eR,ss,sS,iM,kj,g9,ar,ew,dI,cN,bY]
  have ar:jq (hr.mk bh bt c1 e0 kP tf tg ⟨l9,nc,lP⟩ ⟨iT,rE,cJ⟩) (hr.mk bh bt c1 e0 kP tk tl ⟨nh,nd,nf⟩ ⟨kR,qS,qT⟩)=true:=by simp[jq,ew,dI,cN,bY]
  simp(disch:=first|omega|simp only[DI.aF];omega) [wT,yh,yi,eR,ss,sS,iM,kj,g9,ar,ew,dI,cN,bY]
end Go.Proofs.YtkpifdkccdndcaaGreat
