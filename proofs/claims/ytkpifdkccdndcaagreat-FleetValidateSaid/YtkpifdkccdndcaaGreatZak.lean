/-
  A part of the proof of the statement, in texts that tools of ours (wip/shrink.py, irpack.py, relax.py, minify.py, join.py, lay.py) have shortened.
-/
import Derived.Test.YtkpifdkccdndcaaGreatZaj
set_option linter.all false
set_option maxRecDepth 8000
set_option maxHeartbeats 16000000
namespace Go.Proofs.YtkpifdkccdndcaaGreat
open Go Go.DI Go.Big
def E.dM(m:E)(l:List Nat):E:=⟨m.next,λb=>if b∈l then none else m.mw b,m.mp⟩
section
variable {m N:E} {l:List Nat} {b:Nat} {x:Option fV}
theorem Hx(h:b∈l):(E.dM m l).U b=none:=by simp[E.dM,E.U,h]
theorem AH(h:b∉l):(E.dM m l).U b=m.U b:=by simp[E.dM,E.U,h]
theorem qO.dM(m:E)(l:List Nat):qO (E.dM m l) m:=⟨rfl,rfl,λc y h=>by
  by_cases aK:c∈l
  · rw[Hx aK]at h;cases h
  · rwa [AH aK]at h⟩
theorem AI(h:b∈l):E.dM (m.an b x) l=E.dM m l:=by
  simp only[E.dM,E.an,E.mk.injEq,true_and,and_true];funext i;by_cases ag:i∈l
  · simp[ag]
  · simp[ag,show i≠b from λe=>ag (e▸h)]
theorem cU.yZ(ah:a7 m N)(aE: ∀c∈l,m.next<=c):cU m (E.dM N l):=⟨ah.next,λc y h=>by rw[AH (λaK=>by have:=aE c aK;have:=aO h;omega)];exact ah.some h⟩
theorem cU.kE(ah:a7 m N):cU (E.dM m l) (E.dM N l):=⟨ah.next,λc y h=>by
  by_cases aK:c∈l
  · rw[Hx aK]at h;cases h
  · rw[AH aK]at h⊢;exact ah.some h⟩
theorem cU.dM(m:E)(l:List Nat):cU (E.dM m l) m:=(qO.dM m l).sub
theorem cU.l1(ah:a7 m N):cU m N:=⟨ah.next,λ_ _ h=>ah.some h⟩
theorem oE{P:Program}{f:Nat}{args:List Value}{jR:Value->E->Prop}(Ze: ∀r a c,cU a c->jR r a->jR r c)(aE: ∀c∈l,c<m.next)(h:bU P f args (E.dM m l) λr fb=>a7 (E.dM m l) fb/\jR r fb):
    bU P f args m λr N=>a7 m N/\jR r (E.dM N l):=by
  refine(CK (qO.dM m l) h).aD λr N Y=> ?_;obtain⟨ah,fb,aqV,op,aH,av⟩:=Y;refine⟨ah,Ze r fb _ ⟨Nat.le_of_eq aqV.next,λc y aK=> ?_⟩ aH⟩;rw[AH (λdz=>by rw[av c (aE c dz) (Hx dz)]at aK;cases aK)];exact aqV.U c y aK
end
theorem dS.sub{m N:E}{v:Value}{n:Int}(h:dS m v n)(M:cU m N):dS N v n:=by obtain⟨l,B,H,af⟩:=h;exact⟨l,B.jh M,H,af⟩
theorem iL.sub{m N:E}{v:Value}{x:bp}(h:iL m v x)(M:cU m N):iL N v x:=by obtain⟨a,b,B,H,af⟩:=h;exact⟨a,b,B,H.sub M,af.sub M⟩
theorem jj.sub{m N:E}{v:Value}{x:bp}(h:jj m v x)(M:cU m N):jj N v x:=by obtain⟨a,b,B,H,af⟩:=h;exact⟨a,b,B,H.jh M,af.jh M⟩
section
variable {m:E} {l:List Nat} {v w:Value} {a b:Int}
theorem bP.gz{m:E}{v:Value}{l:List Int}(h:bP m v l): ∃p n c,v= .slice p n c:=by obtain⟨_,⟨rfl,_⟩|⟨b,o,cs,w,rfl,_⟩⟩:=h<;>exact⟨_,_,_,rfl⟩
theorem dS.gz{m:E}{v:Value}{n:Int}(h:dS m v n): ∃p n c,v= .slice p n c:=by obtain⟨l,B,_⟩:=h;exact B.gz
def tc(n:Int)(r:Value)(m:E):Prop:= ∃v,r= .tuple #[v,X 0]/\bP m v (bL n)
theorem tc.sub{n:Int}: ∀r a c,cU a c->tc n r a->tc n r c:= λ_ _ _ M ⟨v,B,H⟩=>⟨v,B,H.jh M⟩
theorem VZ(aE: ∀c∈l,c<m.next)(S:dS (E.dM m l) v a):bU Z 131 [v] m λr N=>a7 m N/\bP (E.dM N l) r (bL a):=
  oE (λ_ _ _ M h=>h.jh M) aE (aLX S)
theorem aue(aE: ∀c∈l,c<m.next)(S:dS (E.dM m l) v a)(aS:dS (E.dM m l) w b)(h:a+b<a3 512):bU Z 127 [v,w] m λr N=>a7 m N/\tc (a+b) r (E.dM N l):=
  oE tc.sub aE (auf S aS h)
theorem asc(aE: ∀c∈l,c<m.next)(S:dS (E.dM m l) v a)(aS:dS (E.dM m l) w b)(h:a<a3 512)(fM:b<=a):bU Z 128 [v,w] m λr N=>a7 m N/\tc (a-b) r (E.dM N l):=
  oE tc.sub aE (aLF S aS h fM)
def Ck(x y:Int)(r:Value)(m:E):Prop:= ∃q s,r= .tuple #[q,s,X 0]/\bP m q (bL (x/y))/\bP m s (bL (x%y))
theorem Ck.sub{x y:Int}: ∀r a c,cU a c->Ck x y r a->Ck x y r c:= λ_ _ _ M ⟨q,s,B,H,af⟩=>⟨q,s,B,H.jh M,af.jh M⟩
theorem aim(aE: ∀c∈l,c<m.next)(S:dS (E.dM m l) v a)(aS:dS (E.dM m l) w b)(B:a<a3 512)(H:b<a3 512)(h:b≠0):bU Z 130 [v,w] m λr N=>a7 m N/\Ck a b r (E.dM N l):=
  oE Ck.sub aE (awy S aS B H h)
theorem axS(aE: ∀c∈l,c<m.next)(S:dS (E.dM m l) v a)(aS:dS (E.dM m l) w b)(B:a<a3 512)(H:b<a3 512):bU Z 129 [v,w] m λr N=>a7 m N/\tc (md a b) r (E.dM N l):=
  oE tc.sub aE (axU S aS B H)
theorem AB(S:dS (E.dM m l) v a)(aI:Value->E->Prop):bU Z 87 [v] m aI=aI (X (jn a)) m:=Ct (S.sub (cU.dM m l)) aI
theorem awj(S:dS (E.dM m l) v a)(aS:dS (E.dM m l) w b)(aI:Value->E->Prop):bU Z 92 [v,w] m aI=aI (X (ix a b)) m:=aia (S.sub (cU.dM m l)) (aS.sub (cU.dM m l)) aI
end
def va(p:Int×bp)(r:Value)(m:E):Prop:= ∃c,r= .tuple #[c,X p.1]/\jj m c p.2
theorem va.sub{p:Int×bp}: ∀r a c,cU a c->va p r a->va p r c:= λ_ _ _ M ⟨q,B,H⟩=>⟨q,B,H.sub M⟩
theorem kc{m:E}{b:Nat}(h:b<m.next): ∀c∈[b],c<m.next:= λc aK=>by simp at aK;omega
theorem DZ{m:E}{b:Nat}(h:m.next<=b): ∀c∈[b],m.next<=c:= λc aK=>by simp at aK;omega
theorem yW{P:Program}{base:Nat}{d:Option Nat}{bI:List (Operand×Operand)}{b4:List cd}{u:aM}{m N:E}{aU:aM->E->Prop}{r:Value}
    (ah:a7 m N) (K: ∀p∈bI,∀b,ai (ad u p.1)=some b->b<m.next) (h:gW P base b4 (dO u d r) N aU):AE P base d bI b4 u m aU r N:=
  ⟨λp Y b F=>ah.U b (K p Y b F),h⟩
abbrev eg:List Value:=[.bool false,.slice none 0 0,.slice none 0 0]
theorem aHa{m:E}{bQ:Bool}{v w:Value}{n d:Int}(S:dS m v n)(aS:dS m w d)(av:n<a3 512)(ay:0<d)(uE:d<a3 512):
    bU Z 89 [.bool bQ,v,w] m (p8 m (mG (g4 ⟨bQ,n,d⟩))):=by
  rw[avV (by simp)];have dm:=S.qB;obtain⟨a5,o9⟩: ∃a5,a5=md n d:=⟨_,rfl⟩;have atu:0<a5:=by rw[o9];exact Ff ay
  have atv:a5<=d:=by rw[o9];exact ai2 ay
  obtain⟨q,bz⟩: ∃q,q=n/a5:=⟨_,rfl⟩;obtain⟨e,a2⟩: ∃e,e=d/a5:=⟨_,rfl⟩;have bn:0<=q:=by rw[bz];exact Am dm (by omega)
  have bC:q<=n:=by rw[bz];exact EC _ dm
  have iF:0<e:=by rw[a2,o9];exact Qo (Ff ay) ay (XI (by omega))
  have aX:e<=d:=by rw[a2];exact EC _ (by omega)
  have aIY:0<q↔0<n:=by refine⟨λh=>by omega,λh=> ?_⟩;rw[bz,o9];exact Qo (Ff ay) h (axQ dm)
  have L7:g4 ⟨bQ,n,d⟩=⟨bQ&&decide (0<q),q,e⟩:=by simp only[g4,<-o9,<-bz,<-a2];rw[decide_eq_decide.2 aIY]
  rw[L7];have uc:jn q<=4096↔q<a3 128:=U0;have wa:jn e<=4096↔e<a3 128:=U0;obtain⟨cJ,mi⟩: ∃cJ,cJ=m.next:=⟨_,rfl⟩
  -- P0 lN aQC
  have tail: ∀(bk:E) (x y:Value) (u:aM),a7 m bk->cJ<bk.next->bk.U cJ=some ⟨eg,true⟩->dS (E.dM bk [cJ]) x q->dS (E.dM bk [cJ]) y e->u 0= .bool bQ->u 1=x->u 2=y->u 6=cb cJ->
      cH Z Jm u bk (eU [.h8 6 true 3,.bq 7] (p8 m (mG ⟨bQ&&decide (0<q),q,e⟩))):=by
    intro bk x y u ah cg aq F ab b1 aw bR dn;by_cases bM:4096<jn q
    · have bs: ¬bp.wy ⟨bQ&&decide (0<q),q,e⟩=true:= λh=>by have:q<a3 128:=(bp.HH.1 h).1;omega
      simp(disch:=first|omega|simp only[b3];omega) [Jm,NU,aw,dn,AB F,bM,aq];simp only[mG,bs];exact⟨ah.an (by omega),_,rfl,jj.zero⟩
    by_cases dL:4096<jn e
    · have bs: ¬bp.wy ⟨bQ&&decide (0<q),q,e⟩=true:= λh=>by have:e<a3 128:=(bp.HH.1 h).2;omega
      simp(disch:=first|omega|simp only[b3];omega) [Jm,NU,aw,bR,dn,AB F,AB ab,bM,dL,aq];simp only[mG,bs];exact⟨ah.an (by omega),_,rfl,jj.zero⟩
    have bs:bp.wy ⟨bQ&&decide (0<q),q,e⟩=true:=bp.HH.2 ⟨uc.1 (by omega),wa.1 (by omega)⟩;simp only[mG,bs,if_true];have aE:=kc cg;have fp:decide (0<jn q)=decide (0<q):=(by rw[decide_eq_decide];have:=Oq (n:=q);omega);have lg: ∀(c:Bool) (cC:aM) (bo cc:E) (eT fk:Value),c=(bQ&&decide (0<q))->a7 bk bo->bP (E.dM bo [cJ]) eT (bL q)->a7 bo cc->bP (E.dM cc [cJ]) fk (bL e)->p8 m (0,⟨bQ&&decide (0<q),q,e⟩) (.tuple #[.agg #[.bool c,eT,fk],X 0]) (cc.an cJ (some ⟨[.bool c,eT,fk],true⟩)):=by
      intro c cC bo cc eT fk aK cA B dG H;subst aK;have M:cU (E.dM cc [cJ]) (cc.an cJ (some ⟨[.bool (bQ&&decide (0<q)),eT,fk],true⟩)):=by rw[<-AI (m:=cc) (b:=cJ) (x:=some ⟨[.bool (bQ&&decide (0<q)),eT,fk],true⟩) (by simp)];exact cU.dM _ _
      exact⟨((ah.trans cA).trans dG).an (by omega),_,rfl,_,_,rfl,(B.jh (cU.kE dG)).jh M,H.jh M⟩
    cases ajT:bQ with
    | false=>rw[ajT]at b1 lg;simp[Jm,NU,b1,aw,bR,AB F,AB ab,bM,dL];refine(VZ aE F).aD λeT bo fG=> ?_;simp[bR];refine(VZ (kc (nz cg fG.1.next)) (ab.sub (cU.kE fG.1))).aD λfk cc e9=> ?_;have qY:=e9.1.some (fG.1.some aq);obtain⟨aIn,na,rE,rfl⟩:=fG.2.gz;obtain⟨aIq,DS,av8,rfl⟩:=e9.2.gz;have:=aO qY;simp(disch:=omega) [dn,qY];exact lg false u bo cc _ _ (by simp) fG.1 fG.2 e9.1 e9.2
    | true=>rw[ajT]at b1 lg;simp[Jm,NU,b1,aw,bR,AB F,AB ab,bM,dL];refine(VZ aE F).aD λeT bo fG=> ?_;simp[bR];refine(VZ (kc (nz cg fG.1.next)) (ab.sub (cU.kE fG.1))).aD λfk cc e9=> ?_;have qY:=e9.1.some (fG.1.some aq);obtain⟨aIn,na,rE,rfl⟩:=fG.2.gz;obtain⟨aIq,DS,av8,rfl⟩:=e9.2.gz;have:=aO qY;simp(disch:=omega) [dn,qY];exact lg (decide (0<jn q)) u bo cc _ _ (by simp[fp]) fG.1 fG.2 e9.1 e9.2
  simp[adI,aoZ,ao0];obtain⟨bk,ey⟩: ∃bk,bk=(m.bx 2).an m.next (some ⟨eg,true⟩):=⟨_,rfl⟩
  rw[<-ey,<-mi];have fD:a7 m bk:=by rw[ey];exact((a7.refl m).bx 2).an (by omega)
  have cg:cJ<bk.next:=by rw[ey,mi];simp
  have aq:bk.U cJ=some ⟨eg,true⟩:=by rw[ey,mi];exact cW (by simp)
  have sZ:= λ{N:E} (o:a7 m N)=>cU.yZ (l:=[cJ]) o (DZ (by omega));refine(axS (kc cg) (S.sub (sZ fD)) (aS.sub (sZ fD)) av uE).aD λeT bo fG=> ?_;obtain⟨cA,g,rfl,oI⟩:=fG;rw[<-o9]at oI;have jo:=fD.trans cA;have QK:=dS.bL oI (by omega) (by omega);by_cases UG:1<jn a5
  · simp[AB QK,UG];refine(aim (kc (nz cg cA.next)) (S.sub (sZ jo)) QK av (by omega) (by omega)).aD λfk cc e9=> ?_;obtain⟨dG,lK,iu,rfl,Ig,_⟩:=e9;rw[<-bz]at Ig;simp;have kb:=jo.trans dG;have aqv:=cA.trans dG;refine(aim (kc (nz cg aqv.next)) (aS.sub (sZ kb)) (QK.sub (cU.kE dG)) uE (by omega) (by omega)).aD λhB gC jz=> ?_;obtain⟨e1,eD,aV2,rfl,CX,_⟩:=jz;rw[<-a2]at CX;simp;have aqw:=aqv.trans e1;exact tail gC lK eD _ (kb.trans e1) (nz cg aqw.next) (aqw.some aq) ((dS.bL Ig bn (by omega)).sub (cU.kE e1)) (dS.bL CX (by omega) (by omega)) (by simp) (by simp) (by simp) (by simp[mi])
  · have atw:a5=1:=(by have:=aHH (n:=a5);omega);rw[atw,Int.ediv_one]at bz a2;simp[AB QK,UG];exact tail bo v w _ jo (nz cg cA.next) (cA.some aq) (by rw[bz];exact S.sub (sZ jo)) (by rw[a2];exact aS.sub (sZ jo)) (by simp) (by simp) (by simp) (by simp[mi])
theorem aea{m:E}{l:List Nat}{bQ:Bool}{v w:Value}{n d:Int}(aE: ∀c∈l,c<m.next)(S:dS (E.dM m l) v n)(aS:dS (E.dM m l) w d)(av:n<a3 512)(ay:0<d)(uE:d<a3 512):
    bU Z 89 [.bool bQ,v,w] m λr N=>a7 m N/\va (mG (g4 ⟨bQ,n,d⟩)) r (E.dM N l):=
  oE va.sub aE (aHa S aS av ay uE)
theorem sr{m cc:E}{cJ:Nat}{p:Int×bp}{cr cx c8:Value}(ah:a7 m cc)(mi:m.next<=cJ)(aK:jj (E.dM cc [cJ]) (.agg #[cr,cx,c8]) p.2):p8 m p (.tuple #[.agg #[cr,cx,c8],X p.1]) (cc.an cJ (some ⟨[cr,cx,c8],true⟩)):=by refine⟨ah.an mi,_,rfl,aK.sub ?_⟩;rw[<-AI (m:=cc) (b:=cJ) (l:=[cJ]) (x:=some ⟨[cr,cx,c8],true⟩) (by simp)];exact cU.dM _ _
theorem jj.gz{m:E}{v:Value}{x:bp}(h:jj m v x): ∃p n c fb cz eH,v= .agg #[.bool x.bQ,.slice p n c,.slice fb cz eH]:=by obtain⟨a,b,rfl,B,H⟩:=h;obtain⟨p,n,c,rfl⟩:=B.gz;obtain⟨fb,cz,eH,rfl⟩:=H.gz;exact⟨_,_,_,_,_,_,rfl⟩
theorem iL.gz{m:E}{v:Value}{x:bp}(h:iL m v x): ∃p n c fb cz eH,v= .agg #[.bool x.bQ,.slice p n c,.slice fb cz eH]/\dS m (.slice p n c) x.n/\dS m (.slice fb cz eH) x.d:=by obtain⟨a,b,rfl,B,H⟩:=h;obtain⟨p,n,c,rfl⟩:=B.gz;obtain⟨fb,cz,eH,rfl⟩:=H.gz;exact⟨_,_,_,_,_,_,rfl,B,H⟩
section
variable {m:E} {l:List Nat} {v w:Value} {a b:Int} {x y:bp}
theorem agV(S:dS m v a)(aS:dS m w b)(B:a<a3 512)(H:b<a3 512)(h:a*b<a3 512):bU Z 93 [v,w] m λr N=>a7 m N/\bP N r (bL (a*b)):=by rw[av0 (by simp)];simp[adK,ao7,ao8];refine(aHC S aS B H h).aD λr N Y=> ?_;obtain⟨ah,v,rfl,M⟩:=Y;simp;exact⟨ah,M⟩
theorem agU(aE: ∀c∈l,c<m.next)(S:dS (E.dM m l) v a)(aS:dS (E.dM m l) w b)(B:a<a3 512)(H:b<a3 512)(h:a*b<a3 512):bU Z 93 [v,w] m λr N=>a7 m N/\bP (E.dM N l) r (bL (a*b)):=
  oE (λ_ _ _ M h=>h.jh M) aE (agV S aS B H h)
theorem Wo(h:iL m v x):bU Z 94 [v] m λr N=>a7 m N/\r= .bool (decide (x.n=0)):=by rw[av1 (by simp)];obtain⟨p,n,c,fb,cz,eH,rfl,aC,K⟩:=h.gz;have lT:= λk j x=>Ct (aC.aD (((a7.refl m).bx k).an (i:=m.next+j) (x:=x) (by omega)));have LR:= λk x=>Ct (aC.aD (((a7.refl m).bx k).an (i:=m.next) (x:=x) (by omega)));simp(disch:=first|omega|simp only[b3];omega) [adL,ao9,LR];refine⟨((a7.refl m).bx _).an (by omega),?_⟩;have B:=Oq (n:=x.n);have H:=aer x.n;have af:=h.dm;omega
theorem Kh(h:iL m v x):bU Z 91 [v] m λr N=>a7 m N/\r= .bool x.ok:=by
  rw[avY (by simp)];obtain⟨p,n,c,fb,cz,eH,rfl,aC,K⟩:=h.gz;have LR:= λk x=>Ct (aC.aD (((a7.refl m).bx k).an (i:=m.next) (x:=x) (by omega)));have X5:= λk x=>Ct (K.aD (((a7.refl m).bx k).an (i:=m.next) (x:=x) (by omega)));have aX:=U0 (n:=x.d);have bg:=U0 (n:=x.n);have dU:=Oq (n:=x.d);have ah:= λk x=>(((a7.refl m).bx k).an (i:=m.next) (x:=x) (by omega));by_cases bM:0<jn x.d
  · by_cases dL:jn x.d<=4096
    · simp(disch:=first|omega|simp only[b3];omega) [NV,Uh,Ui,LR,X5,bM,dL];refine⟨ah _ _,?_⟩;simp only[bp.ok];have:decide (jn x.n<=4096)=decide (x.n<a3 128):=decide_eq_decide.2 bg;rw[this];have B:decide (0<x.d)=true:=(by simp;omega);have H:decide (x.d<a3 128)=true:=(by simp;omega);rw[B,H,oY,oY]
    · simp(disch:=first|omega|simp only[b3];omega) [NV,Uh,Ui,X5,bM,dL];refine⟨ah _ _,?_⟩;simp[bp.ok];omega
  · simp(disch:=first|omega|simp only[b3];omega) [NV,Uh,Ui,X5,bM];refine⟨ah _ _,?_⟩;simp[bp.ok];omega
theorem CJ(F:x.ok=true):0<x.d/\x.d<a3 512/\x.n<a3 512:=by obtain⟨B,H,af⟩:=bp.rj.1 F;have:=z4;omega
theorem arb(h:iL m v x):bU Z 86 [v] m (p8 m (rl x)):=by
  rw[avS (by simp)];obtain⟨p,n,c,fb,cz,eH,rfl,aC,K⟩:=h.gz;have bH:=h.dm;simp(disch:=first|omega|simp only[b3];omega) [adz,aoW,aoX];obtain⟨bk,ey⟩: ∃bk,bk=((m.bx 3).an m.next (some ⟨[.bool x.bQ,.slice p n c,.slice fb cz eH],true⟩)).an (m.next+1) (some ⟨eg,true⟩):=⟨_,rfl⟩;rw[<-ey];have fD:a7 m bk:=by rw[ey];exact(((a7.refl m).bx 3).an (by omega)).an (by omega)
  have cg:m.next+1<bk.next:=by rw[ey];simp
  have sx:bk.U m.next=some ⟨[.bool x.bQ,.slice p n c,.slice fb cz eH],true⟩:=by rw[ey,dC (by omega),cW (by simp)]
  have oI:bk.U (m.next+1)=some ⟨eg,true⟩:=by rw[ey,cW (by simp)]
  refine(Kh (h.aD fD)).aD λr bo Y=> ?_;obtain⟨cA,rfl⟩:=Y;have aJ:=cA.some sx;have aj:=cA.some oI;have ql:=aO aj;by_cases k:x.ok=true
  · simp[k,aJ];have sZ:=cU.yZ (l:=[m.next+1]) (fD.trans cA) (DZ (by omega));obtain⟨hN,j5,lC⟩:=CJ k;refine(aea (kc ql) (aC.sub sZ) (K.sub sZ) lC hN j5).aD λfk cc e9=> ?_;obtain⟨dG,q,rfl,bz⟩:=e9;have Lo:=dG.some aj;have xX:=aO Lo;obtain⟨ez,du,bY,fj,dV,cN,rfl⟩:=bz.gz;simp(disch:=omega) [Lo];rw[JS k bH];have e:mG (g4 ⟨x.bQ,x.n,x.d⟩)=(0,g4 x):=(by have:=JS k bH;rw[rl,if_pos k]at this;exact this);rw[e]at bz⊢;exact sr ((fD.trans cA).trans dG) (by omega) bz
  · simp(disch:=omega) [k,aj];rw[Vn k];exact sr (fD.trans cA) (by omega) jj.zero
theorem aiH(F:iL m v x)(ab:iL m w y):bU Z 27 [v,w] m λr N=>a7 m N/\r=if x.ok&&y.ok then .tuple #[X (iI x y),X 0]else .tuple #[X 0,X 1]:=by
  rw[avG (by simp)];obtain⟨p,n,c,fb,cz,eH,rfl,aC,K⟩:=F.gz;obtain⟨aG,k,e,kB,gI,eD,rfl,n8,hi⟩:=ab.gz;have cr:=F.dm;have pw:=ab.dm;simp(disch:=first|omega|simp only[b3];omega) [ack,anu,anv];obtain⟨bk,ey⟩: ∃bk,bk=((m.bx 4).an m.next (some ⟨[.bool x.bQ,.slice p n c,.slice fb cz eH],true⟩)).an (m.next+1) (some ⟨[.bool y.bQ,.slice aG k e,.slice kB gI eD],true⟩):=⟨_,rfl⟩;rw[<-ey];have fD:a7 m bk:=by rw[ey];exact(((a7.refl m).bx 4).an (by omega)).an (by omega)
  have sx:bk.U m.next=some ⟨[.bool x.bQ,.slice p n c,.slice fb cz eH],true⟩:=by rw[ey,dC (by omega),cW (by simp)]
  have oI:bk.U (m.next+1)=some ⟨[.bool y.bQ,.slice aG k e,.slice kB gI eD],true⟩:=by rw[ey,cW (by simp)]
  refine(Kh (F.aD fD)).aD λr bo Y=> ?_;obtain⟨cA,rfl⟩:=Y;have aJ:=cA.some sx;have aj:=cA.some oI;by_cases hn:x.ok=true
  · simp[hn,aj];refine(Kh ((ab.aD fD).aD cA)).aD λr cc Y=> ?_;obtain⟨dG,rfl⟩:=Y;have aJ:=dG.some aJ;have aj:=dG.some aj;have kb:=(fD.trans cA).trans dG;by_cases h5:y.ok=true
    · simp[h5,aJ,aj];obtain⟨HC,AL,GH⟩:=bp.rj.1 hn;obtain⟨HD,AM,GI⟩:=bp.rj.1 h5;have KD:=z4;have WA:=Vh;have WB:=k6 256;have BH:=tP cr (by omega) GH AM;have BI:=tP pw (by omega) GI AL;simp only[Nat.reduceAdd]at BH BI;refine(agV (aC.aD kb) (hi.aD kb) (by omega) (by omega) (by omega)).aD λhB gC jz=> ?_;obtain⟨e1,af⟩:=jz;have E7:=e1.some aJ;have lD:=e1.some aj;have mz:=aO aJ;have kl:=aO aj;refine yW e1 (λp Y b K=>by simp at Y;rcases Y with rfl|rfl<;>simp[ai]at K<;>omega) ?_;simp[];have r6:=kb.trans e1;refine(agV (n8.aD r6) (K.aD r6) (by omega) (by omega) (by omega)).aD λjs iA km=> ?_;obtain⟨hb,aL⟩:=km;have E8:=hb.some E7;have y5:=hb.some lD;have nS:=r6.trans hb;have aRO:=aO E8;have aRP:=aO y5;have yR:0<=x.n*y.d:=mq cr (by omega);have yS:0<=y.n*x.d:=mq pw (by omega);have KZ:= λaI=>aia (dS.bL (af.aD hb) yR (by omega)) (dS.bL aL yS (by omega)) aI;obtain⟨C,y9⟩: ∃C,C=ix (x.n*y.d) (y.n*x.d):=⟨_,rfl⟩;rw[<-y9]at KZ;have atq:IntKind.i64.wrap (-C)= -C:=by
        have: -1<=C/\C<=1:=(by rw[y9];unfold ix;split<;>(try split)<;>omega);exact fo (by omega) (by omega)
      have lg: ∀(cy a9:Bool) (u:aM) (N:E),a7 m N->u 6=X C->u 7= .bool cy->u 8= .bool a9->cH Z acm u N (eU [.bq 4,.bq 5] λr N=>a7 m N/\r= .tuple #[X (if cy then(if a9 then-C else-1)else if a9 then 1 else C),X 0]):=(by intro cy a9 u N o dn c7 ch;cases cy<;>cases a9<;>simp[acm,anw,dn,c7,ch,atq]<;>exact o);have aH4:iI x y=if(x.bQ&&decide (x.n≠0))then(if(y.bQ&&decide (y.n≠0))then-C else-1)else if(y.bQ&&decide (y.n≠0))then 1 else C:=by unfold iI;rw[y9,awi (x.n*y.d)]
      rw[aH4];simp[KZ];have tO: ∀u:aM,u 6=X C->u 2=cb m.next->u 3=cb (m.next+1)->cH Z IV u iA (eU [.bq 4,.bq 5] λr N=>a7 m N/\r= .tuple #[X (if(x.bQ&&decide (x.n≠0))then(if(y.bQ&&decide (y.n≠0))then-C else-1)else if(y.bQ&&decide (y.n≠0))then 1 else C),X 0]):=by
        intro u r7 fj gK;cases hR:x.bQ with
        | false=>
          rw[hR]at E8;cases vy:y.bQ with
          | false=>rw[vy]at y5;simp[IV,fj,gK,E8,y5];simpa using lg false false _ iA nS (by simp[r7]) (by simp) (by simp)
          | true=>rw[vy]at y5;simp[IV,fj,gK,E8,y5];have FJ:=ab.aD nS;rw[vy]at FJ;refine(Wo FJ).aD λmm hA h9=> ?_;obtain⟨gU,rfl⟩:=h9;simp;simpa using lg false (!decide (y.n=0)) _ hA (nS.trans gU) (by simp[r7]) (by simp) (by simp)
        | true=>
          rw[hR]at E8;have Y6:=F.aD nS;rw[hR]at Y6;cases vy:y.bQ with
          | false=>rw[vy]at y5;simp[IV,fj,gK,E8,y5];refine(Wo Y6).aD λmm hA h9=> ?_;obtain⟨gU,rfl⟩:=h9;refine yW gU (λp Y b K=>by simp at Y;rcases Y with rfl;simp[ai]at K;omega) ?_;simp;simpa using lg (!decide (x.n=0)) false _ hA (nS.trans gU) (by simp[r7]) (by simp) (by simp)
          | true=>rw[vy]at y5;simp[IV,fj,gK,E8,y5];refine(Wo Y6).aD λmm hA h9=> ?_;obtain⟨gU,rfl⟩:=h9;refine yW gU (λp Y b K=>by simp at Y;rcases Y with rfl;simp[ai]at K;omega) ?_;have iU:=gU.some y5;simp[gK,iU];have FJ:=(ab.aD nS).aD gU;rw[vy]at FJ;refine(Wo FJ).aD λxa iW od=> ?_;obtain⟨ic,rfl⟩:=od;simp;simpa using lg (!decide (x.n=0)) (!decide (y.n=0)) _ iW ((nS.trans gU).trans ic) (by simp[r7]) (by simp) (by simp)
      simp only[bK,fU,ne_eq]at tO;exact tO _ (by simp) (by simp) (by simp)
    · simp[h5];exact kb
  · simp[hn];exact fD.trans cA
end
section
variable {m:E} {l:List Nat} {v w:Value} {a b:Int} {x y:bp}
theorem axc(F:iL m v x)(ab:iL m w y):bU Z 88 [v,w] m (p8 m (kh x y)):=by
  rw[avU (by simp)];obtain⟨p,n,c,fb,cz,eH,rfl,aC,K⟩:=F.gz;obtain⟨aG,k,e,kB,gI,eD,rfl,n8,hi⟩:=ab.gz;have cr:=F.dm;have pw:=ab.dm;simp(disch:=first|omega|simp only[b3];omega) [adG,aoY];obtain⟨cJ,mi⟩: ∃cJ,cJ=m.next+2:=⟨_,rfl⟩
  obtain⟨bk,ey⟩: ∃bk,bk=(((m.bx 4).an m.next (some ⟨[.bool x.bQ,.slice p n c,.slice fb cz eH],true⟩)).an (m.next+1) (some ⟨[.bool y.bQ,.slice aG k e,.slice kB gI eD],true⟩)).an (m.next+2) (some ⟨eg,true⟩):=⟨_,rfl⟩;rw[<-ey,<-mi];have fD:a7 m bk:=by rw[ey];exact((((a7.refl m).bx 4).an (by omega)).an (by omega)).an (by omega)
  have sx:bk.U m.next=some ⟨[.bool x.bQ,.slice p n c,.slice fb cz eH],true⟩:=by rw[ey,dC (by omega),dC (by omega),cW (by simp)]
  have oI:bk.U (m.next+1)=some ⟨[.bool y.bQ,.slice aG k e,.slice kB gI eD],true⟩:=by rw[ey,dC (by omega),cW (by simp)]
  have qY:bk.U cJ=some ⟨eg,true⟩:=by rw[ey,mi,cW (by simp)]
  refine(Kh (F.aD fD)).aD λr bo Y=> ?_;obtain⟨cA,rfl⟩:=Y;have aJ:=cA.some sx;have aj:=cA.some oI;have ba:=cA.some qY;have ql:=aO ba;have jo:=fD.trans cA;by_cases hn:x.ok=true
  · simp[hn,aj];refine(Kh (ab.aD jo)).aD λr cc Y=> ?_;obtain⟨dG,rfl⟩:=Y
    replace aJ:=dG.some aJ
    replace aj:=dG.some aj
    replace ba:=dG.some ba
    have xX:=aO ba;have kb:=jo.trans dG;by_cases h5:y.ok=true
    · simp[h5];obtain⟨HC,AL,GH⟩:=bp.rj.1 hn;obtain⟨HD,AM,GI⟩:=bp.rj.1 h5;have KD:=z4;have WA:=Vh;have WB:=k6 256;have BH:=tP cr (by omega) GH AM;have BI:=tP pw (by omega) GI AL;have Oi:=tP (by omega) (by omega) AL AM;simp only[Nat.reduceAdd]at BH BI Oi;have yR:0<=x.n*y.d:=mq cr (by omega);have yS:0<=y.n*x.d:=mq pw (by omega);have EE:0<x.d*y.d:=Int.mul_pos HC HD;obtain⟨cy,lF⟩: ∃cy,cy=x.n*y.d:=⟨_,rfl⟩;obtain⟨a9,dt⟩: ∃a9,a9=y.n*x.d:=⟨_,rfl⟩;obtain⟨cn,g2⟩: ∃cn,cn=x.d*y.d:=⟨_,rfl⟩;have tO: ∀(u:aM),u 2=cb m.next->u 3=cb (m.next+1)->u 4=cb cJ->cH Z adH u cc (eU [.h8 4 true 3,.bq 5] (p8 m (mG (g4 (oC x y))))):=by
        intro u bR bA fv;simp[adH,bR,bA,aJ,aj];have vj:= λ{N:E} (o:a7 m N)=>cU.yZ (l:=[cJ]) o (DZ (by omega));refine(agU (kc xX) (aC.sub (vj kb)) (hi.sub (vj kb)) (by omega) (by omega) (by omega)).aD λhB gC jz=> ?_;obtain⟨e1,af⟩:=jz;have mz:=aO aJ;have kl:=aO aj;refine yW e1 (λp Y b K=>by simp at Y;rcases Y with rfl|rfl|rfl|rfl<;>simp[ai]at K<;>omega) ?_;have r6:=kb.trans e1;have E9:=e1.some aJ;have Fb:=e1.some aj;have Lp:=e1.some ba;simp[];refine(agU (kc (aO Lp)) (n8.sub (vj r6)) (K.sub (vj r6)) (by omega) (by omega) (by omega)).aD λjs iA km=> ?_;obtain⟨hb,aL⟩:=km;have ay5:=aO E9;have ay6:=aO Fb;refine yW hb (λp Y b K=>by simp at Y;rcases Y with rfl|rfl<;>simp[ai]at K<;>omega) ?_;have nS:=r6.trans hb;have AT:=hb.some E9;have AU:=hb.some Fb;have Lq:=hb.some Lp;simp[];refine(agU (kc (aO Lq)) (K.sub (vj nS)) (hi.sub (vj nS)) (by omega) (by omega) (by omega)).aD λmm hA h9=> ?_;obtain⟨gU,cm⟩:=h9;have Oz:=nS.trans gU;have wA:=gU.some AT;have y6:=gU.some AU;have AV:=gU.some Lq;have xY:=aO AV;rw[<-lF]at af BH yR;rw[<-dt]at aL BI yS;rw[<-g2]at cm Oi EE;have rz:dS (E.dM hA [cJ]) hB cy:=dS.bL ((af.jh (cU.kE hb)).jh (cU.kE gU)) yR (by omega);have rA:dS (E.dM hA [cJ]) js a9:=dS.bL (aL.jh (cU.kE gU)) yS (by omega);have Wx:dS (E.dM hA [cJ]) mm cn:=dS.bL cm (by omega) (by omega);simp[]
        -- lN result
        have lg: ∀(r0:Bool) (ax:Int) (bf:Value) (iW:E) {Q:Value->E->Prop},a7 hA iW->bP (E.dM iW [cJ]) bf (bL ax)->0<=ax->ax<a3 512->
            (∀q8 cM ez du bY fj dV cN,a7 iW q8->p8 m (mG (g4 ⟨r0,ax,cn⟩)) (.tuple #[.agg #[.bool cM,.slice ez du bY,.slice fj dV cN],X (mG (g4 ⟨r0,ax,cn⟩)).1]) (q8.an cJ (some ⟨[.bool cM,.slice ez du bY,.slice fj dV cN],true⟩))->Q (.tuple #[.agg #[.bool cM,.slice ez du bY,.slice fj dV cN],X (mG (g4 ⟨r0,ax,cn⟩)).1]) q8)->bU Z 89 [.bool r0,bf,mm] iW Q:=by
          intro r0 ax bf iW Q ic M KE KF a1;refine(aea (kc (nz xY ic.next)) (dS.bL M KE KF) (Wx.sub (cU.kE ic)) KF EE (by omega)).aD λVl q8 A5=> ?_;obtain⟨qD,q,rfl,bz⟩:=A5;obtain⟨ez,du,bY,fj,dV,cN,rfl⟩:=bz.gz;exact a1 q8 _ ez du bY fj dV cN qD (sr ((Oz.trans ic).trans qD) (by omega) bz)
        by_cases vM:x.bQ=y.bQ
        · have b8:oC x y=⟨x.bQ,cy+a9,cn⟩:=(by simp[oC,vM,lF,dt,g2]);rw[b8];simp[Ub,Uc,Ud,Ue,Uf,Ug,bR,bA,wA,y6,vM];refine(aue (kc xY) rz rA (by omega)).aD λxa iW od=> ?_;obtain⟨ic,bf,rfl,M⟩:=od;have Fa:=ic.some wA;have xN:=ic.some AV;simp[bR,Fa,vM];refine lg y.bQ (cy+a9) bf iW ic M (by omega) (by omega) λq8 cM ez du bY fj dV cN qD aH=> ?_;have rJ:=qD.some xN;have ajO:=aO rJ;simp(disch:=omega) [fv,rJ];exact aH
        · have Ob:(x.bQ==y.bQ)=false:=(by simpa using vM);have KZ:= λaI=>awj rz rA aI;by_cases vL:a9<=cy
          · have bM:0<=ix cy a9:=(by unfold ix;rw[if_neg (by omega)];split<;>omega);have b8:oC x y=⟨x.bQ,cy-a9,cn⟩:=(by simp only[oC,vM,if_false,<-lF,<-dt,<-g2,vL,if_true]);rw[b8];simp[Ub,Uc,Ud,Ue,Uf,Ug,bR,bA,wA,y6,Ob,KZ,bM];refine(asc (kc xY) rz rA (by omega) vL).aD λxa iW od=> ?_;obtain⟨ic,bf,rfl,M⟩:=od;have Fa:=ic.some wA;have xN:=ic.some AV;simp[bR,Fa];refine lg x.bQ (cy-a9) bf iW ic M (by omega) (by omega) λq8 cM ez du bY fj dV cN qD aH=> ?_;have rJ:=qD.some xN;have ajO:=aO rJ;simp(disch:=omega) [fv,rJ];exact aH
          · have bM: ¬0<=ix cy a9:=(by rw[AF (by omega)];omega);have b8:oC x y=⟨y.bQ,a9-cy,cn⟩:=(by simp only[oC,vM,if_false,<-lF,<-dt,<-g2,vL]);rw[b8];simp[Ub,Uc,Ud,Ue,Uf,Ug,bR,bA,wA,y6,Ob,KZ,bM];refine(asc (kc xY) rA rz (by omega) (by omega)).aD λxa iW od=> ?_;obtain⟨ic,bf,rfl,M⟩:=od;have XE:=ic.some y6;have xN:=ic.some AV;simp[bA,XE];refine lg y.bQ (a9-cy) bf iW ic M (by omega) (by omega) λq8 cM ez du bY fj dV cN qD aH=> ?_;have rJ:=qD.some xN;have ajO:=aO rJ;simp(disch:=omega) [fv,rJ];exact aH
      have e:kh x y=mG (g4 (oC x y)):=(by simp[kh,hn,h5]);rw[e];exact tO _ (by simp) (by simp) (by simp)
    · have e:kh x y=(1,.zero):=(by simp[kh,h5]);rw[e];simp(disch:=omega) [h5,ba];exact sr kb (by omega) jj.zero
  · have e:kh x y=(1,.zero):=(by simp[kh,hn]);rw[e];simp(disch:=omega) [hn,ba];exact sr jo (by omega) jj.zero
end
end Go.Proofs.YtkpifdkccdndcaaGreat
namespace Go.Big
theorem ahu{x y:bp}(F:0<=x.n)(ab:0<=y.n)(K7:0<x.d)(K8:0<y.d):0<=(oC x y).n/\0<(oC x y).d:=by
  have a:=mq F (show 0<=y.d by omega);have b:=mq ab (show 0<=x.d by omega);have c:=Int.mul_pos K7 K8;unfold oC;split
  · exact⟨by show 0<=x.n*y.d+y.n*x.d;omega,c⟩
  · split
    · exact⟨by show 0<=x.n*y.d-y.n*x.d;omega,c⟩
    · exact⟨by show 0<=y.n*x.d-x.n*y.d;omega,c⟩
theorem PR{x y:bp}(F:0<=x.n)(ab:0<=y.n)(h:(kh x y).1=0):0<=(kh x y).2.n/\(kh x y).2.n<a3 128/\0<=(kh x y).2.d/\(kh x y).2.d<a3 128:=by
  unfold kh at h⊢;split at h
  · rename_i aa;rw[if_pos aa];simp only[bK]at aa;obtain⟨K7,_,_⟩:=bp.rj.1 aa.1;obtain⟨K8,_,_⟩:=bp.rj.1 aa.2;obtain⟨dm,hN⟩:=ahu F ab K7 K8;unfold mG at h⊢;split at h
    · rename_i bs;rw[if_pos bs];have:=bp.HH.1 bs;have a:=JB dm hN;have b:=Gx (x:=oC x y) hN;exact⟨a.1,this.1,Int.le_of_lt b.1,this.2⟩
    · cases h
  · cases h
end Go.Big
namespace Go.Proofs.YtkpifdkccdndcaaGreat
open Go Go.DI Go.Big
theorem cU.Xc{m:E}{l:List Nat}{b:Nat}{x:Option fV}(h:m.U b=none):cU (E.dM m l) (E.dM (m.an b x) l):=⟨eB _,λc y aK=>by
  by_cases dz:c∈l
  · rw[Hx dz]at aK;cases aK
  · rw[AH dz]at aK⊢;rw[dC (λe=>by subst e;rw[h]at aK;cases aK),aK]⟩
def iG:g0 bp:=⟨3,λm cs x=> ∃a b,cs=[.bool x.bQ,a,b]/\dS m a x.n/\dS m b x.d,λ_ _ _ ⟨_,_,h,_⟩=>by rw[h];rfl,λ_ _ _ _ M ⟨a,b,h,B,H⟩=>⟨a,b,h,B.sub M,H.sub M⟩⟩
theorem g0.ax.fu{α:Type}{r:g0 α}{p m:E}{v:Value}{l:List α}(h:r.ax p v l)(M:cU p m){i:Nat}{x:α}(F:l[i]?=some x):
    ∃cS,g8 m (mH v r.O (i:Int)) r.O=true/\k4 m true r.O (mH v r.O (i:Int))= .agg cS.toArray/\r.R p cS x:=by
  obtain⟨b,o,cs,w,B,H,af,aL⟩:=h.qb F;have cm:=M.U _ _ H;refine⟨_,?_,?_,aL⟩
  · rw[B];simp[cm];omega
  · rw[B];simp[cm]
theorem iG.fu{p m:E}{v:Value}{l:List bp}(h:iG.ax p v l)(M:cU p m){i:Nat}{x:bp}(F:l[i]?=some x):
    ∃q n c lK cz eH,g8 m (mH v 3 (i:Int)) 3=true/\k4 m true 3 (mH v 3 (i:Int))= .agg #[.bool x.bQ,.slice q n c,.slice lK cz eH]/\iL p (.agg #[.bool x.bQ,.slice q n c,.slice lK cz eH]) x:=by
  obtain⟨cS,B,H,a,b,rfl,af,aL⟩:=g0.ax.fu h M F;obtain⟨q,n,c,rfl⟩:=af.gz;obtain⟨lK,cz,eH,rfl⟩:=aL.gz;exact⟨q,n,c,lK,cz,eH,B,H,_,_,rfl,af,aL⟩
theorem axb{m:E}{l:List Nat}{v w:Value}{x y:bp}(aE: ∀c∈l,c<m.next)(F:iL (E.dM m l) v x)(ab:iL (E.dM m l) w y):bU Z 88 [v,w] m λr N=>a7 m N/\va (kh x y) r (E.dM N l):=
  oE va.sub aE (axc F ab)
theorem asu{m:E}{b c:Nat}(h:b<m.next)(b6:c<m.next): ∀d∈[b,c],d<m.next:= λd ay=>by simp at ay;omega
theorem ast{m:E}{b c:Nat}(h:m.next<=b)(b6:m.next<=c): ∀d∈[b,c],m.next<=d:= λd ay=>by simp at ay;omega
theorem axH{m:E}{v:Value}{l:List bp}(S:iG.ax m v l)(fN:l.length<1000000){cJ ew:Nat}(aK:m.next<=cJ)(qj:m.next<=ew)(dE:cJ≠ew): ∀(dX:List bp) (i:Nat) (s:bp) (bk:E) (u:aM) (a b:Value),l.drop i=dX->i+dX.length=l.length->a7 m bk->
    bk.U cJ=some ⟨eg,true⟩->bk.U ew=some ⟨[.bool s.bQ,a,b],true⟩->jj (E.dM bk [cJ,ew]) (.agg #[.bool s.bQ,a,b]) s->0<=s.n->s.n<a3 128->0<=s.d->s.d<a3 128->
    u 2=cb cJ->u 4=cb ew->u 11=v->u 12=X l.length->u 13=X i->
    cH Z (.loop Ta) u bk (tj 0 (tY Z S9 (eU [.h8 2 true 3,.bq 3] (p8 m (k7 s dX))))):=by
  intro dX;induction dX with
  | nil=>intro i s bk u a b ay ag ah aq vt M dm du hN j5 bR fv hc kA iJ;refine fc λcp aZ=> ?_;have e:i=l.length:=(by simpa using ag);subst e;obtain⟨ez,bM,bY,fj,dL,cN,bs⟩:=M.gz;simp only[Value.agg.injEq,Hi,ox,and_true]at bs;obtain⟨_,rfl,rfl⟩:=bs;have kl:=aO aq;have pa:=aO vt;simp(disch:=first|omega|simp only[b3];omega) [Ta,acf,acg,ach,aci,S9,bR,fv,kA,iJ,aq,vt];refine⟨ah.an aK,_,rfl,M.sub ?_⟩;rw[<-AI (m:=bk) (b:=cJ) (l:=[cJ,ew]) (x:=some ⟨[.bool s.bQ,.slice ez bM bY,.slice fj dL cN],true⟩) (by simp)];exact cU.dM _ _
  | cons x dX cB=>
    intro i s bk u a b ay ag ah aq vt M dm du hN j5 bR fv hc kA iJ;refine fc λcp aZ=> ?_;have F:l[i]?=some x:=(by rw[<-xu,ay];rfl);have nm:l.drop (i+1)=dX:=(by rw[<-yK,ay];rfl);simp only[nB]at ag;have KD:=z4;obtain⟨ez,bM,bY,fj,dL,cN,bs⟩:=M.gz;simp only[Value.agg.injEq,Hi,ox,and_true]at bs;obtain⟨_,rfl,rfl⟩:=bs;have kl:=aO aq;have pa:=aO vt;have hR:=ah.next
    have qn:=S.aD (cU.yZ (l:=[cJ,ew]) ah (ast aK qj));obtain⟨B,H,af,aL⟩:=S.len
    replace af:kr 3 v=true:=af
    have bn:(i:Int)<l.length:=(by omega);obtain⟨q,n,c,lK,cz,eH,bh,bt,k1⟩:=iG.fu qn (cU.dM bk [cJ,ew]) F;have WG:= λk=>show g8 (bk.bx k) (mH v 3 (i:Int)) 3=true by obtain⟨_,_,_,_,_,_,a,_⟩:=iG.fu qn ((cU.dM bk [cJ,ew]).trans (cU.bx bk k)) F;exact a
    have WH:= λk=>show k4 (bk.bx k) true 3 (mH v 3 (i:Int))= .agg #[.bool x.bQ,.slice q n c,.slice lK cz eH] by obtain⟨b,o,cs,w,aX,bg,dU,ha⟩:=(S.aD (cU.l1 ah)).qb F;have kF:=(cU.bx bk k).U _ _ bg;rw[<-bt,show iG.O=3 from rfl]at*;rw[aX];simp[bg,kF]
    have bc:=e7 (n:=i) (by omega);simp(disch:=first|omega|simp only[b3];omega) [Ta,acf,acg,ach,aci,S9,fv,hc,kA,iJ,bn,B,af,WG,WH,vt];obtain⟨bB,iz⟩: ∃bB,bB=((bk.bx 4).an (bk.next+2) (some ⟨[.bool x.bQ,.slice q n c,.slice lK cz eH],true⟩)).bx 9:=⟨_,rfl⟩;rw[<-iz];have kp:a7 bk bB:=(by rw[iz];exact(((a7.refl bk).bx 4).an (by omega)).bx 9);have ayp:bB.next=bk.next+13:=by rw[iz];simp
    have xO:=kp.some aq;have Lv:=kp.some vt;refine(axb (asu (aO xO) (aO Lv)) ((M.Pn dm (by omega) hN (by omega)).sub (cU.kE kp)) (k1.sub (cU.kE kp))).aD λr hA h9=> ?_;obtain⟨gU,hy,rfl,aH⟩:=h9;obtain⟨gK,fp,dI,l2,mX,gE,rfl⟩:=aH.gz;have iU:=gU.some xO;have Ls:=gU.some Lv;have xY:=aO iU;have YA:=aO Ls;have e2:hA.U (bk.next+4+6)=none:=gU.none (by omega) (by rw[iz,E.gm,n6 (by simp)]);have YG:=gU.next
    have ayP:bk.next+4+6<hA.next:=by omega
    have cr:=k1.dm;by_cases k:(kh s x).1=0
    · obtain⟨iF,aX,bg,dU⟩:=PR dm cr k;have b8:k7 s (x::dX)=k7 (kh s x).2 dX:=(by rw[k7,if_pos k]);rw[b8]at aZ⊢;have aHJ:ew≠bk.next+4+6:=by omega
      have Ot:cJ≠bk.next+4+6:=by omega
      simp(disch:=first|omega|simp only[b3];omega) [fv,iJ,k,Ls,bc];obtain⟨mw,A0⟩: ∃mw:Option fV,mw=some ⟨[.bool (kh s x).2.bQ,.slice gK fp dI,.slice l2 mX gE],true⟩:=⟨_,rfl⟩;rw[<-A0];refine aZ _ _ (cB (i+1) (kh s x).2 ((hA.an (bk.next+4+6) mw).an ew mw) _ (.slice gK fp dI) (.slice l2 mX gE) nm (by omega) ((((ah.trans kp).trans gU).an (i:=bk.next+4+6) (by omega)).an qj) (by rw[dC dE,dC Ot,iU]) (by rw[cW (by simpa using YA),A0]) ?_ iF aX bg dU (by simp[bR]) (by simp[fv]) (by simp[hc]) (by simp[kA]) (by simp));rw[AI (by simp)];exact aH.sub (cU.Xc e2)
    · have b8:k7 s (x::dX)=((kh s x).1,.zero):=(by rw[k7,if_neg k]);rw[b8];have Ot:cJ≠bk.next+4+6:=by omega
      simp(disch:=first|omega|simp only[b3];omega) [bR,k,iU];exact⟨((((ah.trans kp).trans gU).an (i:=bk.next+4+6) (by omega)).an aK),_,rfl,jj.zero⟩
theorem axI{m:E}{v:Value}{l:List bp}(S:iG.ax m v l)(fN:l.length<1000000):bU Z 25 [v] m (p8 m (k7 .nil l)):=by
  rw[avE (by simp)];simp(disch:=first|omega|simp only[b3];omega) [ace,anq,anr];obtain⟨bk,ey⟩: ∃bk,bk=((m.bx 2).an m.next (some ⟨eg,true⟩)).bx 4:=⟨_,rfl⟩;rw[<-ey];have fD:a7 m bk:=by rw[ey];exact(((a7.refl m).bx 2).an (by omega)).bx 4
  have aq:bk.U m.next=some ⟨eg,true⟩:=by rw[ey,E.gm,cW (by simp)]
  have av:bk.next=m.next+6:=by rw[ey];simp
  have Yh:bk.U (m.next+2+2)=none:=by rw[ey,E.gm,n6 (by simp)]
  have zj:bU Z 34 [L 1] bk λr N=>a7 bk N/\bP (E.dM N [m.next]) r (bL 1):=oE (λ_ _ _ M h=>h.jh M) (kc (aO aq)) (UQ (by omega) (by omega));refine zj.aD λr bo Y=> ?_;obtain⟨cA,B⟩:=Y;have aj:=cA.some aq;have ql:=aO aj;have A4:=cA.next
  have e2:bo.U (m.next+2+2)=none:=cA.none (by omega) Yh;have Yg:m.next+2+2<bo.next:=by omega
  obtain⟨fP,dX,DJ,adZ⟩:=S.len;obtain⟨p,n,c,rfl⟩:=B.gz;simp(disch:=first|omega|simp only[b3];omega) [fP,dX];refine axH S fN (cJ:=m.next) (ew:=m.next+2+2) (by omega) (by omega) (by omega) l 0 bp.nil (bo.an (m.next+2+2) (some ⟨[.bool false,.slice none 0 0,.slice p n c],true⟩)) _ (.slice none 0 0) (.slice p n c) rfl (by simp) ((fD.trans cA).an (i:=m.next+2+2) (by omega)) (by rw[dC (by omega),aj]) (by rw[cW Yg];rfl) ?_ (by decide) (k6 _) (by decide) ?_ (by simp) (by simp) (by simp) (by simp[]) (by simp)
  · refine⟨_,_,rfl,?_,?_⟩
    · rw[show bp.nil.n=0 from rfl,so (by omega)];exact bP.nil
    · have:bP (E.dM bo [m.next,m.next+2+2]) (.slice p n c) (bL 1):=by
        refine B.jh ⟨eB _,λb y K=> ?_⟩;have uD:b∉[m.next]:= λoa=>by rw[Hx oa]at K;cases K
        rw[AH uD]at K;rw[AH,K];intro oa;simp at oa uD;rcases oa with h|h
        · exact uD h
        · rw[h,e2]at K;cases K
      rw[AI (by simp)];exact this
  · show(1:Int)<a3 128;have:=k6 127;show 1<4294967296*a3 127;omega
theorem bP.aIQ{m:E}{v:Value}{l:List Int}(h:bP m v l){b:Nat}{x:Option fV}(K:m.U b=none):bP (m.an b x) v l:=h.jh (cU.an K)
theorem awh{a b:Int}(h: ¬b<a): ¬0<ix a b:=by
  by_cases b6:a<b
  · rw[AF b6];omega
  · rw[Xa (by omega)];omega
theorem aJH{dv:E}{x y:Value}{z fq:List Int}{cT db:Int}{n bX j:Nat}(F:bP dv x z)(ab:bP dv y fq)(jT:val fq=cT)(av:fq.length=n)(hv:z.length=bX)(c6:j+n+1<=bX)(aRx:bX<300000)(LQ:0<cT)(kT:db=val ((z.drop j).take (n+1))){p5 xl xm:Value}{Q:dp->aM->E->Prop}:
    ∀(r:Nat) (g:Int) (m:E) (u:aM),g<=r->0<=g->g<4294967296->db<(g+1)*cT->a7 dv m->u 10=p5->u 11=x->u 12=y->u 13=xl->u 14=xm->u 15=X j->u 17=L g->
    (∀ae N g,0<=g->g<4294967296->db<(g+1)*cT->g*cT<=db->a7 dv N->ae 10=p5->ae 11=x->ae 12=y->ae 13=xl->ae 14=xm->ae 15=X j->ae 17=L g->Q (.bw 4) ae N)->
    cH Z (.loop IP) u m Q:=by
  intro r;induction r with
  | zero=>intro g m u aH aJ aj aq ah jE hc kA iJ ie hH l4 a1;exact bj g m u aJ aj aq ah jE hc kA iJ ie hH l4 a1 λh=>by have:g=0:=(by omega);subst this;have aS:=(ih ((F.1.drop j).take (n+1))).1;omega
  | succ r cB=>
    intro g m u aH aJ aj aq ah jE hc kA iJ ie hH l4 a1;exact bj g m u aJ aj aq ah jE hc kA iJ ie hH l4 a1 λh ae N B H af aL cm dK hh iV mf=>by
      have oI:1<=g:=by
        by_cases cl:1<=g
        · exact cl
        · have cl:g=0:=(by omega);subst cl;have aS:=(ih ((F.1.drop j).take (n+1))).1;omega
      exact cB (g-1) N ae (by omega) (by omega) (by omega) (by rw[show g-1+1=g by omega];exact h) H af aL cm dK hh iV mf a1
where
  bj (g:Int) (m:E) (u:aM) (aJ:0<=g) (aj:g<4294967296) (aq:db<(g+1)*cT) (ah:a7 dv m) (jE:u 10=p5) (hc:u 11=x) (kA:u 12=y) (iJ:u 13=xl) (ie:u 14=xm) (hH:u 15=X j) (l4:u 17=L g)
    (a1: ∀ae N g,0<=g->g<4294967296->db<(g+1)*cT->g*cT<=db->a7 dv N->ae 10=p5->ae 11=x->ae 12=y->ae 13=xl->ae 14=xm->ae 15=X j->ae 17=L g->Q (.bw 4) ae N)
    (y9:db<g*cT-> ∀ae N,True->a7 dv N->ae 10=p5->ae 11=x->ae 12=y->ae 13=xl->ae 14=xm->ae 15=X j->ae 17=L (g-1)->cH Z (.loop IP) ae N Q):
    cH Z (.loop IP) u m Q:=by
    refine fc λcp aZ=> ?_;obtain⟨B,H,af,aL⟩:=(F.aD ah).len;obtain⟨eh,gB,g1,lh⟩:=(ab.aD ah).len;rw[av]at eh lh;rw[hv]at B aL;obtain⟨e,a2⟩: ∃e,e=j+n+1:=⟨_,rfl⟩;have bc:IntKind.i64.wrap ((j:Int)+(n:Int))=(j:Int)+n:=fo (by omega) (by omega);have da:IntKind.i64.wrap ((j:Int)+(n:Int)+1)=(e:Int):=(by rw[fo (by omega) (by omega)];omega);have bC:(j:Int)<=e:=(by omega);have cq:(e:Int)<=bX:=(by omega);simp[IP,hc,kA,hH,l4,B,af,eh,gB,bc,da,bC,cq];have iO:=ah.bx 15;have hR:=ah.next
    refine(OQ aJ (by omega)).aD λeT bo fG=> ?_;simp;have cA:=iO.trans fG.1;have apQ:(bL g).length<=1:=rG aJ (by simp only[a3];omega);refine(Vv (ab.aD cA) fG.2 (by omega) (by omega)).aD λfk cc e9=> ?_;rw[jT,iD aJ]at e9;have dG:=cA.trans e9.1;have M:=(F.aD dG).sub (k:=j) (n:=e) (by omega) (by omega);obtain⟨bY,cN⟩:=M.cells;have dI:=M.len.2.2.2;have aE:((z.take e).drop j).length=n+1:=(by simp;omega);rw[aE]at dI;have gv:((n:Int)+1)*4<=140737488355328:=(by omega);have m0:(n+1)*4<=140737488355328:=(by omega);have m1:n+1<=9223372036854775807:=(by omega);simp[bY,cN,dI,m0,m1];have e2:cc.U (m.next+12)=none:=by
      refine e9.1.none ?_ (fG.1.none ?_ ?_)
      · have:=fG.1.next;simp at this;omega
      · simp
      · rw[E.gm,n6 (by omega)]
    have fA:m.next+12<cc.next:=by have:=fG.1.next;have:=e9.1.next;simp at*;omega
    have aiv:(z.take e).drop j=(z.drop j).take (n+1):=(by rw[List.drop_take];congr 1;omega);have awO:List.drop j (List.take e (List.map c3 z))=((z.drop j).take (n+1)).map c3:=(by rw[<-aiv,List.map_drop,List.map_take]);rw[awO];have ajL:dT ((z.drop j).take (n+1)):=(F.1.drop j).take _;have azy:bP (cc.an (m.next+12) (some ⟨((z.drop j).take (n+1)).map c3,true⟩)) (.slice (some ⟨m.next+12,0,none⟩) (n+1) 1) ((z.drop j).take (n+1)):=bP.sK ajL (cW fA) (by rw[<-aiv,aE]);have apZ:(bL (cT*g)).length<=n+1:=(by refine rG (mq (by omega) aJ) ?_;have b:=ih ab.1;rw[jT,av]at b;have:=tP (a:=cT) (b:=g) (i:=n) (j:=1) (by omega) aJ b.2 (by simp only[a3];omega);exact this);refine(ae1 (e9.2.aIQ e2) azy (by omega) (by simp;omega)).aD λhB gC jz=> ?_;obtain⟨e1,rfl⟩:=jz;rw[iD (mq (by omega) aJ),<-kT];have kd:a7 dv gC:=(dG.an (by omega)).trans e1;by_cases k:db<g*cT
    · have c:0<ix (cT*g) db:=(by rw[K2 (by rw[m9];exact k)];omega);have fB:IntKind.u64.wrap (g-1)=g-1:=by
        refine fi ?_ (by omega);by_cases cl:1<=g
        · omega
        · have cl:g=0:=(by omega);subst cl;have aS:=(ih ajL).1;omega
      simp[c,l4,fB];exact aZ _ _ (y9 k _ _ trivial kd (by simp[jE]) (by simp[hc]) (by simp[kA]) (by simp[iJ]) (by simp[ie]) (by simp[hH]) (by simp))
    · have c: ¬0<ix (cT*g) db:=awh (by rw[m9];exact k);simp[c];exact a1 _ _ g aJ aj aq (by omega) kd (by simp[jE]) (by simp[hc]) (by simp[kA]) (by simp[iJ]) (by simp[ie]) (by simp[hH]) (by simp[l4])
theorem jS.Cz{dv m:E}{v:Value}{l:List Int}{id:Nat}(eQ:dv.next<=id)(fA:id<m.next){Po:Value}{bk:E}
    (S:Po=if l.length=0 then .slice none 0 0 else .slice (some ⟨id,0,none⟩) l.length 1) (aN:bk=if l.length=0 then m else m.an id (some ⟨l.map c3,true⟩)):jS dv bk Po l:=by
  subst S aN;by_cases bH:l.length=0
  · rw[if_pos bH,if_pos bH];exact .inl ⟨rfl,pz.1 bH⟩
  · rw[if_neg bH,if_neg bH];exact .inr ⟨id,eQ,rfl,cW fA⟩
theorem jS.base{dv bo m:E}{v:Value}{l:List Int}(h:jS bo m v l)(av:dv.next<=bo.next):jS dv m v l:=by
  rcases h with h|⟨b,K,B,H⟩
  · exact .inl h
  · exact .inr ⟨b,by omega,B,H⟩
theorem aKh{m:E}{v:Value}{l:List Int}(S:bP m v l)(aE:Big l):bU Z 106 [v] m λr N=>a7 m N/\jS m N r (bL (val l)):=by rw[ahR (by simp)];have K:= λk=>S.aD ((a7.refl m).bx k);obtain⟨B,H,af,aL⟩:=S.len;have av:=ky l;have M:= λk=>(K k).bL;have aK:= λk=>(M k).cells;have h0:= λk=>(M k).len;have e:=uS S.1;simp[Rv,Zp,Zq,Zr,B,H];refine afm S aE l.length _ (eB _) (ky l) (by simp) (by simp[]) λae bn cZ=> ?_;simp[bn,cZ,B,af,av,(h0 5).2.2.2,(aK 5).1,(aK 5).2,e];exact⟨by omega,a7.Cz,jS.Cz (m:=m.bx 5) (v:=v) (id:=m.next+3) (by omega) (by simp) (by rw[e]) (by rw[e])⟩
theorem aKw{m:E}{v:Value}{a:List Int}{s:Nat}{ax:Int}(gh:ax=(2:Int)^s)(M:s<32)(nG:1<=ax/\ax<=2147483648)(S:bP m v a)(aC:a.length<900000):
    bU Z 174 [v,X s] m λr N=>a7 m N/\jS m N r (bL (val a*ax)):=by
  rw[ahS (by simp)];obtain⟨B,H,af,aL⟩:=S.len;by_cases eK:a.length=0
  · obtain rfl:a=[]:=pz.1 eK;simp[IQ,Nb,Nc,Nd,Nf,Ng,B,H];refine⟨a7.refl m,?_⟩;rw[show val []*ax=0 by simp[val],so (by omega)];exact .inl ⟨rfl,rfl⟩
  · have h1:(s:Int).tdiv 32=0:=(by rw[Eu (by omega)];omega);have bM: ¬(a.length:Int)=0:=(by omega);have dL: ¬a=[]:= λh=>eK (by simp[h]);have iZ:IntKind.i64.wrap 0=0:=(by decide);simp[IQ,Nb,Nc,Nd,Nf,Ng,B,H,h1,iZ,eK];refine afs gh M nG S (by omega) a.length 0 (m.next+2) 0 [] _ _ (by omega) (((a7.refl m).bx _).an (by omega)) (by omega) (by rw[cW (by simp)];rfl) (by simp[dT]) rfl (by omega) (by omega) (by simp[val]) (by simp) (by simp) (by simp) (by simp) (by simp) λae N o c bE ck cE eo e8 f5 nk o5 xL gA jC=> ?_;have cg:=aO eo;have hR:=ck.next
    have gv:((o.length:Int)+1)*4<=140737488355328:=(by omega);have m0:(o.length+1)*4<=140737488355328:=(by omega);have m1:o.length+1<=9223372036854775807:=(by omega);have aze:o.length=(o.map c3).length:=(by simp);simp(disch:=first|omega|simp only[b3];omega) [gA,jC,eo,iv,m0,m1];have qm: ∀{bk:E} {b:Nat},bk.U b=some ⟨List.take o.length (o.map c3)++[c3 (c%4294967296)],true⟩->bP bk (.slice (some ⟨b,0,none⟩) (o.length+1) 1) (o++[c%4294967296]):= λ{bk b} h=>bP.sK (BP e8 (by omega)) (by rw[h,fw (by simp),UR]) (by simp);refine(aKh (qm (cW (by simp))) (by simp;omega)).aD λr cc Y=> ?_;simp;have e:val (o++[c%4294967296])=val a*ax:=(by rw[u2,show c%4294967296=c by omega,f5];simp only[val];rw[<-xL];grind);rw[e]at Y;exact⟨((((ck.bx _).an (by omega)).an (by omega)).an (by omega)).trans Y.1,Y.2.base (by simp;omega)⟩
theorem aIS{cy db C:List Int}{i:Nat}{O y:Int}{T:List Int}(h:cy.length+db.length=i):((cy++db++O::C)++T).set i y=(cy++(db++[y])++C)++T:=by
  have e:cy++db++O::C++T=(cy++db)++O::(C++T):=by simp
  rw[e,List.set_append_right _ _ (by simp;omega)];simp[show i-(cy.length+db.length)=0 by omega]
theorem ae2{bo:E}{y aft:Value}{R fq z T:List Int}{g7 n bX j:Nat}(ab:bP bo y fq)(CR:ai y≠some g7)(aH:bP bo aft R)(QY:ai aft≠some g7)(av:fq.length=n)(dD:z.length=bX)(c6:j+n+1<=bX)(hv:bX<300000){db:List Int}(kT:db=R++List.replicate (n+1-R.length) 0)(gN:R.length<=n+1)
    {p5 xl xm Kf:Value} {Q:dp->aM->E->Prop}: ∀(r k:Nat) (m:E) (u:aM),k+r=n+1->kX g7 bo m->m.U g7=some ⟨((z.take j++db.take k++z.drop (j+k))++T).map c3,true⟩->
    u 10=p5->u 11= .slice (some ⟨g7,0,none⟩) bX 1->u 12=y->u 13=xl->u 14=xm->u 15=X j->u 17=Kf->u 18=aft->u 19=X k->
    (∀ae N,kX g7 bo N->N.U g7=some ⟨((z.take j++db++z.drop (j+n+1))++T).map c3,true⟩->ae 10=p5->ae 11= .slice (some ⟨g7,0,none⟩) bX 1->ae 12=y->ae 13=xl->ae 14=xm->ae 15=X j->ae 17=Kf->Q (.bw 6) ae N)->
    cH Z (.loop M8) u m Q
  | 0,k,m,u,aa,ah,aq,jE,hc,kA,iJ,ie,hH,l4,mF,m3,a1=>by refine fc λcp aZ=> ?_;have e:k=n+1:=(by omega);subst e;obtain⟨B,H,af,aL⟩:=(ab.qz CR ah).len;rw[av]at B;have c: ¬((n:Int)+1<=n):=(by omega);have aGB:db.length=n+1:=(by rw[kT];simp;omega);simp(disch:=first|omega|simp only[b3];omega) [M8,SH,SI,kA,m3,B,H,c];rw[fw (l:=db) (by omega)]at aq;exact a1 _ _ ah aq (by simp[jE]) (by simp[hc]) (by simp[kA]) (by simp[iJ]) (by simp[ie]) (by simp[hH]) (by simp[l4])
  | r+1,k,m,u,aa,ah,aq,jE,hc,kA,iJ,ie,hH,l4,mF,m3,a1=>by
    refine fc λcp aZ=> ?_;obtain⟨B,H,af,aL⟩:=(ab.qz CR ah).len;obtain⟨aj,ba,cD,fs⟩:=(aH.qz QY ah).len;rw[av]at B;have aGB:db.length=n+1:=(by rw[kT];simp;omega);have cg:=aO aq;obtain⟨e,a2⟩: ∃e,e=j+k:=⟨_,rfl⟩;obtain⟨a5,o9⟩: ∃a5,a5=(z.take j++db.take k++z.drop (j+k))++T:=⟨_,rfl⟩;rw[<-o9]at aq;have XU:bX<=a5.length:=(by rw[o9];simp;omega);have c:(k:Int)<=n:=(by omega);have bc:IntKind.i64.wrap ((j:Int)+(k:Int))=(e:Int):=(by rw[fo (by omega) (by omega)];omega);have da:=e7 (n:=k) (by omega);have bC:(e:Int)<bX:=(by omega);have cq:e+1<=a5.length:=(by omega);have cZ:e<a5.length:=(by omega);have akf: ∀v,a5.set e v=(z.take j++(db.take k++[v])++z.drop (j+(k+1)))++T:= λv=>by
      rw[o9,show z.drop (j+k)=az z (j+k)::z.drop (j+(k+1))from ?_]
      · exact aIS (by simp;omega)
      · rw[Wr (by omega),lE (c0 (by omega))];rfl
    have Ml:db.take (k+1)=db.take k++[az db k]:=(by rw[List.take_add_one,c0 (by omega),lE (c0 (by omega))];rfl);have cB:= λcc ev=>ae2 ab CR aH QY av dD c6 hv kT gN (p5:=p5) (xl:=xl) (xm:=xm) (Kf:=Kf) (Q:=Q) (T:=T) r (k+1) cc ev (by omega);have aN: ∀v,(a5.map c3).set e (c3 v)=(a5.set e v).map c3:= λv=>m4;by_cases Gs:(k:Int)<R.length
    · have Ih:= λx=>(aH.qz QY (ah.an (x:=x))).j3 (i:=k) (by omega);have azO:= λx=>(aH.qz QY (ah.an (x:=x))).fu (i:=k) (by omega);have Yo:az db k=az R k:=by
        rw[kT];unfold az;simp only[mr];rw[yE (by omega)]
      simp(disch:=first|omega|simp only[b3];omega) [M8,SH,SI,hc,kA,hH,mF,m3,B,H,c,bc,da,bC,cq,aq,aj,ba,cD,Gs,Ih,azO];exact aZ _ _ (cB _ _ (ah.an) (by rw[cW (by simpa using cg),aN,akf,Ml,Yo]) (by simp[jE]) (by simp[hc]) (by simp[kA]) (by simp[iJ]) (by simp[ie]) (by simp[hH]) (by simp[l4]) (by simp[mF]) (by simp) a1)
    · have Yo:az db k=0:=by
        rw[kT];unfold az;simp only[mr];rw[Cf (by omega),List.getElem?_replicate];split<;>rfl
      simp(disch:=first|omega|simp only[b3];omega) [M8,SH,SI,hc,kA,hH,mF,m3,B,H,c,bc,da,bC,cq,aq,aj,ba,Gs];exact aZ _ _ (cB _ _ (ah.an) (by rw[cW (by simpa using cg),aN,akf,Ml,Yo]) (by simp[jE]) (by simp[hc]) (by simp[kA]) (by simp[iJ]) (by simp[ie]) (by simp[hH]) (by simp[l4]) (by simp[mF]) (by simp) a1)
theorem ae5{oR:E}{y:Value}{fq T:List Int}{g7 jO n bX aU:Nat}{cy cT ep:Int}(av:fq.length=n)(rO:2<=n)(jT:val fq=cT)(Fs:Go.Big.kC fq)(hv:bX<200000)(tD:ep=az fq (n-1))(Rk:g7≠jO)(gP:oR.next<=g7)(FE:oR.next<=jO)(lT:ai y≠some g7)(CQ:ai y≠some jO)
    {p5:Value} {Q:dp->aM->E->Prop}: ∀(j:Nat) (aG jr:List Int) (m:E) (u:aM),j<=aU->a7 oR m->m.U g7=some ⟨(aG++T).map c3,true⟩->m.U jO=some ⟨jr.map c3,true⟩->bP m y fq->qa cy cT n aG jr j->jr.length=aU->aG.length=bX->
    u 10=p5->u 11= .slice (some ⟨g7,0,none⟩) bX 1->u 12=y->u 13=L ep->u 14= .slice (some ⟨jO,0,none⟩) aU 1->u 15=X ((j:Int)-1)->
    (∀ae N aG jr,a7 oR N->N.U g7=some ⟨(aG++T).map c3,true⟩->N.U jO=some ⟨jr.map c3,true⟩->qa cy cT n aG jr 0->jr.length=aU->aG.length=bX->ae 10=p5->ae 11= .slice (some ⟨g7,0,none⟩) bX 1->ae 14= .slice (some ⟨jO,0,none⟩) aU 1->Q (.bw 2) ae N)->
    cH Z (.loop M9) u m Q
  | 0,aG,jr,m,u,ay3,ah,wF,zg,ab,fh,Rf,zn,jE,hc,kA,iJ,ie,hH,a1=>by refine fc λcp aZ=> ?_;simp(disch:=first|omega|simp only[b3];omega) [M9,SB,SC,SD,SE,SF,SG,hH];exact a1 _ _ aG jr ah wF zg fh Rf zn (by simp[jE]) (by simp[hc]) (by simp[ie])
  | j+1,aG,jr,m,u,ay3,ah,wF,zg,ab,fh,Rf,zn,jE,hc,kA,iJ,ie,hH,a1=>by
    refine fc λcp aZ=> ?_;have fN:=fh.len;obtain⟨eh,gB,g1,lh⟩:=ab.len;rw[av]at eh lh;have aRX:=aO wF;have ajQ:=aO zg;have hR:=ah.next
    -- lN aH2
    have X0:=ih Fs.1;rw[jT,av]at X0;have HU:0<cT:=(by have:=Fs.aqS (λh=>by rw[h]at av;simp at av;omega);omega);have aRN:=h4 Fs.1 (n-1);have aR3:1<=ep:=(by have:=Fs.ep (n:=n-1) (x:=az fq (n-1)) (by omega) (by rw[lE (c0 (by omega)),c0 (by omega)]);omega);have YX:=fh.agZ;obtain⟨db,kT⟩: ∃db,db=val ((aG.drop j).take (n+1)):=⟨_,rfl⟩;rw[<-kT]at YX;obtain⟨eu,Mk⟩: ∃eu,eu=az aG (j+n):=⟨_,rfl⟩;obtain⟨bS,YS⟩: ∃bS,bS=az aG (j+n-1):=⟨_,rfl⟩;have cM:=h4 fh.qE (j+n);have dB:=h4 fh.qE (j+n-1);rw[<-Mk]at cM;rw[<-YS]at dB;obtain⟨t,bm⟩: ∃t,t=eu*4294967296+bS:=⟨_,rfl⟩;have Yx:((aG.drop j).take (n+1)).length=(n-1)+2:=(by simp;omega);have ayz:db=t*a3 (n-1)+val (((aG.drop j).take (n+1)).take (n-1)):=(by rw[kT,asp Yx,Fg (by omega),Fg (by omega),HQ,HQ,show j+(n-1+1)=j+n by omega,show j+(n-1)=j+n-1 by omega,<-Mk,<-YS,bm]);have Ra:dT ((aG.drop j).take (n+1)):=(fh.qE.drop j).take _;have eQ:=ih (Ra.take (n-1));rw[k9,Yx,s8 (by omega)]at eQ;have ajm:=Pk (l:=fq) (n:=n-1) (by omega);rw[jT,<-tD]at ajm;have sB:=ih (Fs.1.take (n-1));have aj4:=k6 (n-1);have aIZ:0<=db/cT:=Am YX.1 (by omega);have aI0:db/cT*cT<=db:=(by have:=Int.ediv_mul_le db (show cT≠0 by omega);omega);have aVi:db<(db/cT+1)*cT:=(by have:=Int.lt_ediv_add_one_mul_self db HU;exact this);have aVj:db/cT<=t/ep:=ax5 aj4 ayz eQ.2 ajm sB.1 (by omega) aIZ aI0;have aVk:db/cT<4294967296:=Int.ediv_lt_of_lt_mul HU (by rw[m9];exact YX.2);have tt:0<=t:=(by omega);have aZx:t<18446744073709551616:=(by omega);have aLP:0<=t/ep:=Am tt (by omega);have aZp:t/ep<=t:=EC _ tt
    -- lN aha
    obtain⟨e,a2⟩: ∃e,e=j+n+1:=⟨_,rfl⟩;obtain⟨mR,wE⟩: ∃mR,mR=j+n:=⟨_,rfl⟩;obtain⟨AP,Ye⟩: ∃AP,AP=j+n-1:=⟨_,rfl⟩;have cr:IntKind.i64.wrap ((j:Int)+(n:Int))=(mR:Int):=(by rw[fo (by omega) (by omega)];omega);have cx:IntKind.i64.wrap ((mR:Int)+1)=(e:Int):=(by rw[fo (by omega) (by omega)];omega);have c8:IntKind.i64.wrap ((mR:Int)-1)=(AP:Int):=(by rw[fo (by omega) (by omega)];omega);have eM:IntKind.i64.wrap ((j:Int)-1)=(j:Int)-1:=fo (by omega) (by omega);have aL4:(aG++T).length=aG.length+T.length:=(by simp);have pw:(mR:Int)<bX:=(by omega);have gk:(AP:Int)<bX:=(by omega);have h6:mR+1<=(aG++T).length:=(by omega);have px:AP+1<=(aG++T).length:=(by omega);have py:(aG++T)[mR]?=some eu:=(by rw[yE (by omega),c0 (by omega),Mk,<-wE,lE (c0 (by omega))]);have yD:(aG++T)[AP]?=some bS:=(by rw[yE (by omega),c0 (by omega),YS,<-Ye,lE (c0 (by omega))]);obtain⟨kl,A7⟩:=dg.1 py;obtain⟨mz,zo⟩:=dg.1 yD;have da:IntKind.u64.wrap eu=eu:=fi (by omega) (by omega);have bc:IntKind.u64.wrap bS=bS:=fi (by omega) (by omega);have fB:IntKind.u64.wrap (eu*4294967296)=eu*4294967296:=fi (by omega) (by omega);have ij:IntKind.u64.wrap ↑((eu*4294967296%2^IntKind.u64.bits).toNat|||(bS%2^IntKind.u64.bits).toNat)=t:=(by rw[BR (s:=32) (by decide) cM.1 dB.1 dB.2 (by omega),bm]);have h1:IntKind.u64.wrap (t.tdiv ep)=t/ep:=(by rw[Eu tt];exact fi aLP (by omega));have iZ: ¬ep=0:=(by omega);obtain⟨dH,nF⟩: ∃dH,dH=aG++T:=⟨_,rfl⟩;rw[<-nF]at py yD h6 px wF;have vw:dH.length=aG.length+T.length:=(by rw[nF];exact aL4);obtain⟨kl,A7⟩:=dg.1 py;obtain⟨mz,zo⟩:=dg.1 yD;have s4:mR+1<=aG.length+T.length:=(by omega);have xn:AP+1<=aG.length+T.length:=by omega
    -- lN b4 ek lN ars,for a first ajb
    have b4: ∀(g:Int) (cC:aM) {WD:dp->aM->E->Prop},0<=g->g<4294967296->db/cT<=g->cC 10=p5->cC 11= .slice (some ⟨g7,0,none⟩) bX 1->cC 12=y->cC 13=L ep->cC 14= .slice (some ⟨jO,0,none⟩) aU 1->cC 15=X j->cC 17=L g->
        (∀ae N g,0<=g->g<4294967296->db<(g+1)*cT->g*cT<=db->a7 m N->ae 10=p5->ae 11= .slice (some ⟨g7,0,none⟩) bX 1->ae 12=y->ae 13=L ep->ae 14= .slice (some ⟨jO,0,none⟩) aU 1->ae 15=X j->ae 17=L g->WD (.bw 4) ae N)->cH Z (.loop IP) cC m WD:=by
      intro g cC WD aJ aj aq aq4 aeY aeZ aI3 aI4 aI5 aI6 ayt;have x3:bP m (.slice (some ⟨g7,0,none⟩) bX 1) aG:=by refine⟨fh.qE,.inr ⟨g7,0,_,true,by rw[zn],wF,?_,by simp;omega⟩⟩;rw[nF,yI,oy,List.take_left' (by simp)]
      have ayS:db<(g+1)*cT:=(by have:(db/cT+1)*cT<=(g+1)*cT:=n1 (by omega) (by omega);omega);exact aJH (n:=n) (bX:=bX) (j:=j) x3 ab jT av zn (by omega) (by omega) HU kT g.toNat g m cC (by omega) aJ aj ayS (a7.refl m) aq4 aeY aeZ aI3 aI4 aI5 aI6 ayt
    obtain⟨x,F⟩: ∃x,x=Value.slice (some ⟨g7,0,none⟩) bX 1:=⟨_,rfl⟩;have HT: ∀g:Int,0<=g->0<=cT*g:= λg h=>mq (by omega) h;obtain⟨cn,g2⟩: ∃cn,cn=(aG.drop j).take (n+1):=⟨_,rfl⟩;rw[<-g2]at kT Ra;have ajf:cn.length=n+1:=(by rw[g2,Yx];omega);have Xo:((aG.take e).drop j).map c3=cn.map c3:=(by rw[g2,List.drop_take];congr 2;omega);have aQF:List.drop j (List.take e (List.map c3 aG))=cn.map c3:=(by rw[<-Xo,List.map_drop,List.map_take]);have bC:(j:Int)<=e:=(by omega);have cq:(e:Int)<=bX:=(by omega);have vL:t/ep>4294967295\/ ¬t/ep>4294967295:=(by omega);rcases vL with k|k
    · simp(disch:=first|omega|simp only[b3];omega) [M9,SB,SC,SD,SE,SF,SG,hc,kA,iJ,hH,eh,gB,cr,c8,pw,gk,A7,zo,vw,s4,xn,bc,da,fB,ij,h1,iZ,k,wF,lj];refine b4 4294967295 _ (by omega) (by omega) (by omega) (by simp[jE]) (by simp[hc]) (by simp[kA]) (by simp[iJ]) (by simp[ie]) (by simp[hH]) (by simp) λae bo g aJ aj Lz AW pQ D0 uU D1 OE GO w7 w8=> ?_;rw[<-F]at uU;have Yp:=pQ.some wF;have Mp:bP bo x aG:=by
        rw[F];refine⟨fh.qE,.inr ⟨g7,0,_,true,by rw[zn],Yp,?_,by simp;omega⟩⟩;rw[nF,yI,oy,List.take_left' (by simp)]
      have ajY:=pQ.next
      have Za:= λk=>Mp.aD ((a7.refl bo).bx k);obtain⟨ck,cE,eo,e8⟩:=Mp.len;rw[zn]at ck e8;have FF:=(Za 15).sub (k:=j) (n:=e) (by omega) (by omega);obtain⟨bY,cN⟩:=FF.cells;have dI:=FF.len.2.2.2;rw[Xo]at cN;have aE:((aG.take e).drop j).length=n+1:=(by simp;omega);rw[aE]at dI;have gv:((n:Int)+1)*4<=140737488355328:=(by omega);have m0:(n+1)*4<=140737488355328:=(by omega);have m1:n+1<=9223372036854775807:=(by omega);obtain⟨rS,tF,Zf,Rm⟩:=(ab.aD pQ).len;rw[av]at rS Rm;simp(disch:=omega) [uU,D1,w7,w8,ck,eo,rS,tF,cr,cx,bC,cq,bY,cN,dI,m0,m1];obtain⟨cc,FA⟩: ∃cc,cc=(bo.bx 15).an (bo.next+8) (some ⟨cn.map c3,true⟩):=⟨_,rfl⟩;rw[<-FA];have dG:a7 bo cc:=(by rw[FA];exact((a7.refl bo).bx 15).an (by omega));have H0:bP cc (.slice (some ⟨bo.next+8,0,none⟩) (n+1) 1) cn:=(by rw[FA];exact bP.sK Ra (cW (by simp)) ajf.symm);have X3:ai (.slice (some ⟨bo.next+8,0,none⟩) (n+1) 1)≠some g7:=(by simp[ai];omega);have Y9:g7<cc.next:=by have:=dG.next;omega
      refine(CK (jR:= λr fb=>bP fb r (bL g)) (qO.q5 cc g7) (OQ aJ (by omega))).aD λeT gC jz=> ?_;obtain⟨e1,gK,aeR,OA,oe,aeu⟩:=jz;have p1:=aeu g7 Y9 ad6;simp(disch:=omega);have apQ:(bL g).length<=1:=rG aJ (by simp only[a3];omega);have Zb:bP gK y fq:=(((ab.aD pQ).aD dG).q5 lT).aD OA;refine(CK (jR:= λr fb=>bP fb r (bL (cT*g))) aeR (by have:=Vv Zb oe (by omega) (by omega);rw[jT,iD aJ]at this;exact this)).aD λfk iA km=> ?_;obtain⟨hb,iB,OI,Vb,zm,Ov⟩:=km;have DQ:=Ov g7 (by have:=e1.next;omega) p1;simp(disch:=first|omega|simp only[b3];omega);have apZ:(bL (cT*g)).length<=n+1:=rG (HT g aJ) (tP (i:=n) (j:=1) (by omega) aJ X0.2 (by simp only[a3];omega));refine(CK (jR:= λr fb=>bP fb r (bL (db-cT*g))) OI (by have:=ael (((H0.q5 X3).aD OA).aD Vb) zm (by omega) (by omega) (by rw[iD (HT g aJ),<-kT,m9];exact AW);rw[iD (HT g aJ),<-kT]at this;exact this)).aD λhB hA h9=> ?_;obtain⟨gU,l2,aeS,aIb,vz,aev⟩:=h9;have UX:=aev g7 (by have:=e1.next;have:=hb.next;omega) DQ;have kd:a7 m hA:=(((pQ.trans dG).trans e1).trans hb).trans gU;have H7:=kd.some wF;have Ly:g*cT=cT*g:=m9 _ _;have EJ:0<=db-cT*g:=(by omega);have ayT:(g+1)*cT=cT*g+cT:=(by rw[Int.add_mul,Int.one_mul,Ly]);have WE:db-cT*g<cT:=(by omega);have ad0:(bL (db-cT*g)).length<=n+1:=(by have:=rG (k:=n) EJ (by omega);omega);obtain⟨te,uA⟩: ∃te,te=bL (db-cT*g)++List.replicate (n+1-(bL (db-cT*g)).length) 0:=⟨_,rfl⟩;have ad1:te.length=n+1:=(by rw[uA];simp;omega);simp(disch:=first|omega|simp only[b3];omega) [];have Yq:hA.U g7=some ⟨((aG.take j++te.take 0++aG.drop (j+0))++T).map c3,true⟩:=(by rw[H7,nF];simp[Ex]);refine ae2 (bo:=hA) (p5:=p5) (xl:=L ep) (xm:= .slice (some ⟨jO,0,none⟩) aU 1) (Kf:=L g) (z:=aG) (T:=T) (g7:=g7) (n:=n) (bX:=bX) (j:=j) (fq:=fq) (ab.aD kd) lT (vz.jh aeS.sub) (vz.mw UX) av zn (by omega) (by omega) uA ad0 (n+1) 0 hA _ (by omega) (kX.refl _ _) Yq (by simp[D0]) (by simp[uU,F]) (by simp[D1]) (by simp[OE]) (by simp[GO]) (by simp[w7]) (by simp[w8]) (by simp) (by simp) λED iW GN Yk Ei agM Pe agN Pf agO agP=> ?_;have LZ:=kd.some zg;have Fu:iW.U jO=some ⟨jr.map c3,true⟩:=(by rw[GN.U jO (aO LZ) (by omega),LZ]);have YC:=aO Fu;have uc:IntKind.u32.wrap g=g:=(by rw[iv];omega);have wa:(j:Int)<aU:=(by omega);have s3:j+1<=jr.length:=(by omega);have wb:j<jr.length:=(by omega);simp(disch:=first|omega|simp only[b3];omega) [Pf,agO,agP,eM,uc,wa,s3,Fu];have rR:=fh.step (w:=te) (g:=g) (by omega) ad1 (by rw[uA];exact(o2 _).1.app (dT.wg _)) ⟨aJ,aj⟩ (by rw[uA,V6,iD EJ,<-g2,<-kT,Ly]) (by rw[uA,V6,iD EJ];exact WE) (by omega);have mA:(aG.take j++te++aG.drop (j+n+1)).length=bX:=(by simp;omega);refine aZ _ _ (ae5 av rO jT Fs hv tD Rk gP FE lT CQ j (aG.take j++te++aG.drop (j+n+1)) (jr.set j g) _ _ (by omega) ((a7.Ox (ah.trans kd) GN gP).an FE) (by rw[dC Rk,Yk]) (by rw[cW YC,m4]) ((((ab.aD kd).qz lT GN)).qz CQ (kX.an (kX.refl jO iW))) rR (by simp[Rf]) mA (by simp[Ei]) (by simp[agM]) (by simp[Pe]) (by simp[agN]) (by simp[Pf]) (by simp) a1)
    · simp(disch:=first|omega|simp only[b3];omega) [M9,SB,SC,SD,SE,SF,SG,hc,kA,iJ,hH,eh,gB,cr,c8,pw,gk,A7,zo,vw,s4,xn,bc,da,fB,ij,h1,iZ,k,wF,lj];refine b4 (t/ep) _ (by omega) (by omega) (by omega) (by simp[jE]) (by simp[hc]) (by simp[kA]) (by simp[iJ]) (by simp[ie]) (by simp[hH]) (by simp) λae bo g aJ aj Lz AW pQ D0 uU D1 OE GO w7 w8=> ?_;rw[<-F]at uU;have Yp:=pQ.some wF;have Mp:bP bo x aG:=by
        rw[F];refine⟨fh.qE,.inr ⟨g7,0,_,true,by rw[zn],Yp,?_,by simp;omega⟩⟩;rw[nF,yI,oy,List.take_left' (by simp)]
      have ajY:=pQ.next
      have Za:= λk=>Mp.aD ((a7.refl bo).bx k);obtain⟨ck,cE,eo,e8⟩:=Mp.len;rw[zn]at ck e8;have FF:=(Za 15).sub (k:=j) (n:=e) (by omega) (by omega);obtain⟨bY,cN⟩:=FF.cells;have dI:=FF.len.2.2.2;rw[Xo]at cN;have aE:((aG.take e).drop j).length=n+1:=(by simp;omega);rw[aE]at dI;have gv:((n:Int)+1)*4<=140737488355328:=(by omega);have m0:(n+1)*4<=140737488355328:=(by omega);have m1:n+1<=9223372036854775807:=(by omega);obtain⟨rS,tF,Zf,Rm⟩:=(ab.aD pQ).len;rw[av]at rS Rm;simp(disch:=omega) [uU,D1,w7,w8,ck,eo,rS,tF,cr,cx,bC,cq,bY,cN,dI,m0,m1];obtain⟨cc,FA⟩: ∃cc,cc=(bo.bx 15).an (bo.next+8) (some ⟨cn.map c3,true⟩):=⟨_,rfl⟩;rw[<-FA];have dG:a7 bo cc:=(by rw[FA];exact((a7.refl bo).bx 15).an (by omega));have H0:bP cc (.slice (some ⟨bo.next+8,0,none⟩) (n+1) 1) cn:=(by rw[FA];exact bP.sK Ra (cW (by simp)) ajf.symm);have X3:ai (.slice (some ⟨bo.next+8,0,none⟩) (n+1) 1)≠some g7:=(by simp[ai];omega);have Y9:g7<cc.next:=by have:=dG.next;omega
      refine(CK (jR:= λr fb=>bP fb r (bL g)) (qO.q5 cc g7) (OQ aJ (by omega))).aD λeT gC jz=> ?_;obtain⟨e1,gK,aeR,OA,oe,aeu⟩:=jz;have p1:=aeu g7 Y9 ad6;simp(disch:=omega);have apQ:(bL g).length<=1:=rG aJ (by simp only[a3];omega);have Zb:bP gK y fq:=(((ab.aD pQ).aD dG).q5 lT).aD OA;refine(CK (jR:= λr fb=>bP fb r (bL (cT*g))) aeR (by have:=Vv Zb oe (by omega) (by omega);rw[jT,iD aJ]at this;exact this)).aD λfk iA km=> ?_;obtain⟨hb,iB,OI,Vb,zm,Ov⟩:=km;have DQ:=Ov g7 (by have:=e1.next;omega) p1;simp(disch:=omega);have apZ:(bL (cT*g)).length<=n+1:=rG (HT g aJ) (tP (i:=n) (j:=1) (by omega) aJ X0.2 (by simp only[a3];omega));refine(CK (jR:= λr fb=>bP fb r (bL (db-cT*g))) OI (by have:=ael (((H0.q5 X3).aD OA).aD Vb) zm (by omega) (by omega) (by rw[iD (HT g aJ),<-kT,m9];exact AW);rw[iD (HT g aJ),<-kT]at this;exact this)).aD λhB hA h9=> ?_;obtain⟨gU,l2,aeS,aIb,vz,aev⟩:=h9;have UX:=aev g7 (by have:=e1.next;have:=hb.next;omega) DQ;have kd:a7 m hA:=(((pQ.trans dG).trans e1).trans hb).trans gU;have H7:=kd.some wF;have Ly:g*cT=cT*g:=m9 _ _;have EJ:0<=db-cT*g:=(by omega);have ayT:(g+1)*cT=cT*g+cT:=(by rw[Int.add_mul,Int.one_mul,Ly]);have WE:db-cT*g<cT:=(by omega);have ad0:(bL (db-cT*g)).length<=n+1:=(by have:=rG (k:=n) EJ (by omega);omega);obtain⟨te,uA⟩: ∃te,te=bL (db-cT*g)++List.replicate (n+1-(bL (db-cT*g)).length) 0:=⟨_,rfl⟩;have ad1:te.length=n+1:=(by rw[uA];simp;omega);simp(disch:=omega) [];have Yq:hA.U g7=some ⟨((aG.take j++te.take 0++aG.drop (j+0))++T).map c3,true⟩:=(by rw[H7,nF];simp[Ex]);refine ae2 (bo:=hA) (p5:=p5) (xl:=L ep) (xm:= .slice (some ⟨jO,0,none⟩) aU 1) (Kf:=L g) (z:=aG) (T:=T) (g7:=g7) (n:=n) (bX:=bX) (j:=j) (fq:=fq) (ab.aD kd) lT (vz.jh aeS.sub) (vz.mw UX) av zn (by omega) (by omega) uA ad0 (n+1) 0 hA _ (by omega) (kX.refl _ _) Yq (by simp[D0]) (by simp[uU,F]) (by simp[D1]) (by simp[OE]) (by simp[GO]) (by simp[w7]) (by simp[w8]) (by simp) (by simp) λED iW GN Yk Ei agM Pe agN Pf agO agP=> ?_;have LZ:=kd.some zg;have Fu:iW.U jO=some ⟨jr.map c3,true⟩:=(by rw[GN.U jO (aO LZ) (by omega),LZ]);have YC:=aO Fu;have uc:IntKind.u32.wrap g=g:=(by rw[iv];omega);have wa:(j:Int)<aU:=(by omega);have s3:j+1<=jr.length:=(by omega);have wb:j<jr.length:=(by omega);simp(disch:=omega) [Pf,agO,agP,eM,uc,wa,s3,Fu];have rR:=fh.step (w:=te) (g:=g) (by omega) ad1 (by rw[uA];exact(o2 _).1.app (dT.wg _)) ⟨aJ,aj⟩ (by rw[uA,V6,iD EJ,<-g2,<-kT,Ly]) (by rw[uA,V6,iD EJ];exact WE) (by omega);have mA:(aG.take j++te++aG.drop (j+n+1)).length=bX:=(by simp;omega);refine aZ _ _ (ae5 av rO jT Fs hv tD Rk gP FE lT CQ j (aG.take j++te++aG.drop (j+n+1)) (jr.set j g) _ _ (by omega) ((a7.Ox (ah.trans kd) GN gP).an FE) (by rw[dC Rk,Yk]) (by rw[cW YC,m4]) ((((ab.aD kd).qz lT GN)).qz CQ (kX.an (kX.refl jO iW))) rR (by simp[Rf]) mA (by simp[Ei]) (by simp[agM]) (by simp[Pe]) (by simp[agN]) (by simp[Pf]) (by simp) a1)
theorem aHm{l:List Int}:l.map c3++[c3 0,c3 0]=((l++[0])++[0]).map c3:=by simp
theorem aq8{m:E}{v w:Value}{cV di:Int}(S:bP m v (bL cV))(aS:bP m w (bL di))(mg:0<=cV)(n7:0<di)(CO:cV<a3 512)(zc:di<a3 512):
    bU Z 165 [v,w] m (ahl m cV di):=by
  rw[avr (by simp)];have BG:=AJ mg CO;have q7:=AJ (by omega) zc;have Hb:=iD mg;have Af:=iD (show 0<=di by omega);have azs:bL di≠[]:= λh=>by rw[h]at Af;simp[val]at Af;omega
  have UP:1<=(bL di).length:=by have:=Kn.2 azs;omega
  obtain⟨B,H,af,aL⟩:=S.len;obtain⟨eh,gB,g1,lh⟩:=aS.len;simp[aaW,aml,amq,ams,amt,amu,amv,amw,amm,amn,amo,amp,amr];refine(ae1 S aS (by omega) (by omega)).aD λp2 dv tA=> ?_;obtain⟨cG,rfl⟩:=tA;rw[Hb,Af];by_cases bM:cV<di
  · have bY:ix cV di<0:=(by rw[AF bM];omega);simp[bY];refine(uX (S.aD cG) (by omega)).aD λr N Y=> ?_;rw[Hb]at Y;simp;refine⟨cG.trans Y.1,_,_,rfl,?_,?_⟩
    · rw[Int.ediv_eq_zero_of_lt mg bM,so (by omega)];exact bP.nil
    · rw[Int.emod_eq_of_lt mg bM];exact Y.2
  have bY: ¬ix cV di<0:=by unfold ix;rw[if_neg bM];split<;>omega
  have azr:bL cV≠[]:= λh=>by rw[h]at Hb;simp[val]at Hb;omega
  have UO:1<=(bL cV).length:=by have:=Kn.2 azr;omega
  by_cases dL:(bL di).length=1
  · obtain⟨d,ay⟩: ∃d,bL di=[d]:=Pt.1 dL;have uE:=(o2 di).1 d (by simp[ay]);have Ce:d=di:=(by rw[ay]at Af;simpa[val]using Af);have BC:((bL di).length:Int)=1:=(by omega);have bc:IntKind.i64.wrap (((bL cV).length:Int)-1)=((bL cV).length:Int)-1:=fo (by omega) (by omega);simp[bY,B,H,eh,gB,BC,bc];obtain⟨bX,hv⟩: ∃bX,bX=(bL cV).length:=⟨_,rfl⟩;rw[<-hv];have iz:a7 dv ((dv.bx 4).an (dv.next+2) (some ⟨List.replicate bX (.int .u32 0),true⟩)):=((a7.refl dv).bx 4).an (by omega);have hR:=cG.next
    refine⟨by omega,arv (S.aD cG) (by rw[<-ay];exact aS.aD cG) ⟨by omega,uE.2⟩ (by omega) (bE:=dv.next+2) (by omega) bX 0 (List.replicate bX 0) _ _ (by omega) iz (by rw[cW (by simp)];simp) (dT.wg _) (by simp[hv]) (by omega) (by omega) (by rw[u5 (by omega),u5 (by simp)];simp[val]) (by simp) (by simp) (by simp[hv]) (by simp) (by simp) λae N o c ck cE eo e8 f5 nk o5 jC uW=> ?_⟩;rw[Hb,Ce]at o5;obtain⟨aX,bg⟩:=EY o5 f5 (by omega);have M:bP N (.slice (some ⟨dv.next+2,0,none⟩) (bL cV).length 1) o:=bP.sK eo cE e8.symm;simp[jC];refine(uX M (by omega)).aD λeT bo fG=> ?_;rw[<-aX]at fG;simp[uW];refine(OQ f5 (by omega)).aD λfk cc e9=> ?_;rw[<-bg]at e9;simp;exact⟨((cG.trans ck).trans fG.1).trans e9.1,_,_,rfl,fG.2.aD e9.1,e9.2⟩
  · obtain⟨dm,x0⟩: ∃dm,(bL di).length=dm+2:=⟨(bL di).length-2,by omega⟩;have BC: ¬((bL di).length:Int)=1:=(by omega);have Q0:=o2 di
    -- lN shift
    have ax0:=h4 Q0.1 (dm+1);have ax1:1<=az (bL di) (dm+1):=(by have:=Q0.ep (n:=dm+1) (x:=az (bL di) (dm+1)) (by omega) (by rw[lE (c0 (by omega)),c0 (by omega)]);omega);have oK:=aes Q0.1 (n:=dm+1) (by rw[Q0.2,x0]);rw[Af]at oK;have C2:=aHI ax1 ax0.2;obtain⟨s,M⟩: ∃s:Nat,(s:Int)=32*((bL di).length:Int)-jn di:=⟨(32*((bL di).length:Int)-jn di).toNat,by rw[oK,x0];omega⟩;have Rh:s<32:=(by rw[oK,x0]at M;omega);obtain⟨ax,gh⟩: ∃ax:Int,ax=2^s:=⟨_,rfl⟩;obtain⟨Wu,ayn⟩: ∃Wu:Int,Wu=2^(32-s):=⟨_,rfl⟩;have qh:ax*Wu=4294967296:=(by rw[gh,ayn,<-Int.pow_add,show s+(32-s)=32 by omega];decide);have aeT: ∀k:Nat,(1:Int)<=2^k:= λk=>by have iV:=Nat.two_pow_pos k;have mf:((2^k:Nat):Int)=(2:Int)^k:=(by simp);omega
    have nG:1<=ax/\ax<=2147483648:=(by refine⟨by rw[gh];exact aeT s,?_⟩;have hh:(2:Int)^(32-s)=2*2^(31-s):=(by rw[show 32-s=(31-s)+1 by omega,Int.pow_succ,m9]);have dK:ax*(2:Int)^(31-s)=2147483648:=(by rw[gh,<-Int.pow_add,show s+(31-s)=31 by omega];decide);have cm:=aeT (31-s);have aL:ax*1<=ax*2^(31-s):=s5 cm (by rw[gh];have:=aeT s;omega);omega);have bc:IntKind.i64.wrap (32*((bL di).length:Int))=32*((bL di).length:Int):=fo (by omega) (by omega);have da:IntKind.i64.wrap (32*((bL di).length:Int)-jn di)=(s:Int):=(by rw[<-M];exact fo (by omega) (by omega));simp[bY,eh,gB,BC,bc];refine(aJh (dS.bL (aS.aD cG) (by omega) zc) zc).aD λeT bo fG=> ?_;obtain⟨cA,rfl⟩:=fG;have JN:=cG.trans cA;have ajY:=JN.next
    simp[da]
    -- x
    have LK:0<=cV*ax:=mq mg (by omega);have LQ:0<di*ax:=Int.mul_pos n7 (by omega);have ayf:cV*ax<a3 513:=tP (i:=512) (j:=1) mg (by omega) CO (by simp only[a3];omega);have ayw:di*ax<a3 513:=tP (i:=512) (j:=1) (by omega) (by omega) zc (by simp only[a3];omega);have apC:=rG LK ayf;have aGz:=rG (by omega) ayw;have ag2:=iD LK;have asI:=iD (show 0<=di*ax by omega);have aRD:di*ax<=cV*ax:=n1 (by omega) (by omega);have apD:(bL (di*ax)).length<=(bL (cV*ax)).length:=by
      by_cases h:(bL (di*ax)).length<=(bL (cV*ax)).length
      · exact h
      · have:=kC.Jz (o2 (cV*ax)).1 (o2 (di*ax)) (by omega);omega
    have aGA:(bL di).length<=(bL (di*ax)).length:=by
      by_cases h:(bL di).length<=(bL (di*ax)).length
      · exact h
      · have:=kC.Jz (o2 (di*ax)).1 (o2 di) (by omega);have mf:di*1<=di*ax:=s5 nG.1 (by omega);omega
    obtain⟨ry,HS⟩: ∃ry,(bL (cV*ax)).length=ry:=⟨_,rfl⟩;obtain⟨n,av⟩: ∃n,(bL (di*ax)).length=n:=⟨_,rfl⟩;rw[HS]at apC apD;rw[av]at aGz apD aGA;have uD:= λk=>(a7.refl bo).bx k;have asD:=aKw (a:=bL cV) gh Rh nG ((S.aD JN).aD (uD 10)) (by omega);rw[Hb]at asD;refine asD.aD λOR cc e9=> ?_;obtain⟨dG,azQ⟩:=e9;have azR: ∃b,(bo.bx 10).next<=b/\OR= .slice (some ⟨b,0,none⟩) ry 1/\cc.U b=some ⟨(bL (cV*ax)).map c3,true⟩:=by
      rw[<-HS];rcases azQ with⟨_,h⟩|h
      · exfalso;rw[h]at ag2;simp[val]at ag2;omega
      · exact h
    obtain⟨fJ,Ri,rfl,pN⟩:=azR;have azf:=aO pN;have rO:=dG.next
    simp only[vQ]at Ri rO;have aRu:((bL (cV*ax)).map c3).length=ry:=(by simp[HS]);have gv:((ry:Int)+2)*4<=140737488355328:=(by omega);have m0:(ry+2)*4<=140737488355328:=(by omega);have m1:ry+2<=9223372036854775807:=(by omega);have hd:List.take ry ((bL (cV*ax)).map c3)=(bL (cV*ax)).map c3:=fw (by omega);simp(disch:=omega) [pN,HS,m0,m1,hd];obtain⟨g7,vB⟩: ∃g7,g7=bo.next+4:=⟨_,rfl⟩
    obtain⟨KC,Fp⟩: ∃KC,KC=((cc.an (bo.next+3) (some ⟨[.int .u32 0,.int .u32 0],true⟩)).an fJ none).an (bo.next+4) (some ⟨(bL (cV*ax)).map c3++[.int .u32 0,.int .u32 0],true⟩):=⟨_,rfl⟩;rw[<-Fp,<-vB];have aqx:a7 bo KC:=(by rw[Fp];exact((((uD 10).trans dG).an (by omega)).an (by omega)).an (by omega));have ajG:KC.U g7=some ⟨((bL (cV*ax)++[0])++[0]).map c3,true⟩:=(by rw[<-aHm,Fp,vB];exact cW (by simp;omega));have azg:=aO ajG;have az6:ai w≠some g7:=(aS.aD JN).mw (n6 (by omega));refine(CK (jR:= λr fb=>bP fb r (bL (di*ax))) (qO.q5 KC g7) (by have:=arG (a:=bL di) gh Rh nG (((aS.aD JN).aD aqx).q5 az6) (by omega);rw[Af]at this;exact this)).aD λvW iA km=> ?_;obtain⟨hb,iB,OI,Vb,zm,Ov⟩:=km;have DQ:=Ov g7 azg ad6;have FK:ai vW≠some g7:=zm.mw DQ;have FJ:bP iA vW (bL (di*ax)):=zm.jh OI.sub;have ay1:=hb.some ajG;simp;have aqD:a7 m iA:=(JN.trans aqx).trans hb
    -- apn length
    refine(arG (a:=bL cV) gh Rh nG (S.aD aqD) (by omega)).aD λmm hA h9=> ?_;rw[Hb]at h9;obtain⟨gU,vz⟩:=h9;obtain⟨aj,ba,cD,fs⟩:=vz.len;rw[HS]at aj;have Ij:=FJ.aD gU;have H7:=gU.some ay1;have aRY:=aO H7;obtain⟨rS,tF,Zf,Rm⟩:=Ij.len;rw[av]at rS;obtain⟨du,A4⟩: ∃du,n=du+1:=⟨n-1,by omega⟩;obtain⟨aU,jb⟩: ∃aU,aU=ry+1-n:=⟨_,rfl⟩;have kg:=e7 (n:=ry) (by omega);have hU:IntKind.i64.wrap ((n:Int)-1)=(du:Int):=(by rw[fo (by omega) (by omega)];omega);have iQ:IntKind.i64.wrap ((ry:Int)+1-(n:Int))=(aU:Int):=(by rw[fo (by omega) (by omega)];omega);have qK:IntKind.i64.wrap ((aU:Int)-1)=(aU:Int)-1:=fo (by omega) (by omega);have aGn:(du:Int)<n:=(by omega);have Bz:(ry:Int)+1<=(ry:Int)+2:=(by omega);have bh:=Ij.j3 (i:=du) (by omega);have bt:=Ij.fu (i:=du) (by omega);have aPY:=h4 Ij.1 du;have sc:IntKind.u64.wrap (az (bL (di*ax)) du)=az (bL (di*ax)) du:=fi (by omega) (by omega);have BA:((ry:Int)+1).toNat=ry+1:=(by omega);simp[aj,ba,rS,tF,Zf,kg,hU,iQ,qK,sc,aGn,Bz,BA,bh,bt];obtain⟨jO,azL⟩: ∃jO,jO=hA.next+5:=⟨_,rfl⟩
    have aqE:=aqD.trans gU;have aR0:=aqE.next
    have iz:a7 hA ((hA.bx 7).an jO (some ⟨List.replicate aU (.int .u32 0),true⟩)):=((a7.refl hA).bx 7).an (by omega);rw[<-azL];have azM:ai vW≠some jO:=Ij.mw (n6 (by omega));have gP:=JN.next
    refine⟨by omega,⟨by omega,by omega⟩,ae5 (oR:=m) (fq:=bL (di*ax)) (T:=[0]) (g7:=g7) (jO:=jO) (n:=n) (bX:=ry+1) (aU:=aU) (cy:=cV*ax) (cT:=di*ax) (p5:=X s) av (by omega) asI (o2 _) (by omega) (by rw[show n-1=du by omega]) (by omega) (by omega) (by omega) FK azM aU (bL (cV*ax)++[0]) (List.replicate aU 0) _ _ (eB _) (aqE.trans iz) (by rw[dC (by omega),gm (by omega)];exact H7) (by rw[cW (by simp;omega)];simp) (Ij.aD iz)
      (qa.first ag2 (o2 _).1 (by omega) (by omega) (by have:=(o2 (di*ax)).cK (n:=du) (by omega);rw[asI]at this;rw[show n-1=du by omega];exact this)) (by simp) (by simp[HS]) (by simp) (by simp) (by simp) (by simp) (by simp) (by simp) λae q8 aG jr ck cE eo e8 f5 nk D0 uU GO=> ?_⟩
    obtain⟨j5,lC,qc⟩:=e8.done LQ;obtain⟨aX,bg⟩:=aHB (cV:=cV) (di:=di) (ax:=ax) (by omega);have azK:bP q8 (.slice (some ⟨jO,0,none⟩) aU 1) jr:=bP.sK e8.aeA eo f5.symm;have aAb:bP q8 (.slice (some ⟨g7,0,none⟩) (ry+1) 1) aG:=(by refine⟨e8.qE,.inr ⟨g7,0,_,true,by rw[nk],cE,?_,by simp⟩⟩;rw[yI,oy,List.take_left' (by simp)]);simp[GO];refine(uX azK (by omega)).aD λOM Oj zl=> ?_;rw[<-j5,aX]at zl;simp[uU];refine(uX (aAb.aD zl.1) (by omega)).aD λaq5 aT8 Rd=> ?_;rw[qc,<-lC]at Rd;have ajj:0<=cV*ax%(di*ax):=yH _ (by omega);have ajk:cV*ax%(di*ax)<di*ax:=xr _ LQ;simp[D0];refine(aJj gh Rh nG qh Rd.2 (by have:=rG ajj (show cV*ax%(di*ax)<a3 513 by omega);omega)).aD λaq4 aT7 Rc=> ?_;rw[iD ajj,bg]at Rc;simp;exact⟨((ck.trans zl.1).trans Rd.1).trans Rc.1,_,_,rfl,(zl.2.aD Rd.1).aD Rc.1,Rc.2⟩
theorem aJi{m:E}{v w:Value}{cV di:Int}(S:dS m v cV)(aS:dS m w di)(CO:cV<a3 512)(zc:di<a3 512)(n7:0<di):bU Z 146 [v,w] m (Wt m cV di):=by
  rw[avg (by simp)];have mg:=S.qB;simp[aaw,alJ,alK,alL,alM];refine(xb S CO).aD λeT bo fG=> ?_;obtain⟨cA,rfl⟩:=fG;simp;refine(xb (aS.aD cA) zc).aD λfk cc e9=> ?_;obtain⟨dG,rfl⟩:=e9;have kd:=cA.trans dG;simp;refine(sW (aS.aD kd)).aD λhB gC jz=> ?_;obtain⟨e1,oe⟩:=jz;obtain⟨B,H,af,aL⟩:=oe.len;have Af:=iD (show 0<=di by omega);have dE:bL di≠[]:= λh=>by rw[h]at Af;simp[val]at Af;omega
  have bM: ¬((bL di).length:Int)=0:=by have:=Kn.2 dE;omega
  simp[B,H,dE];refine(sW (S.aD (kd.trans e1))).aD λjs iA km=> ?_;obtain⟨hb,zm⟩:=km;simp;refine(sW (aS.aD ((kd.trans e1).trans hb))).aD λmm hA h9=> ?_;obtain⟨gU,vz⟩:=h9;simp;refine(aq8 (zm.aD gU) vz mg n7 CO zc).aD λxa iW od=> ?_;obtain⟨ic,q,s,rfl,bz,M⟩:=od;simp;exact⟨((((kd.trans e1).trans hb).trans gU).trans ic),q,s,rfl,bz,M⟩
theorem aJF{dv:E}{Q:dp->aM->E->Prop}: ∀(r:Nat) (cV di:Int) (v w:Value) (m:E) (u:aM),di<=r->0<=cV->0<=di->cV<a3 512->di<a3 512->a7 dv m->bP m v (bL cV)->bP m w (bL di)->u 6=v->u 7=w->
    (∀ae N b2,a7 dv N->bP N b2 (bL (md cV di))->ae 6=b2->Q (.bw 0) ae N)->cH Z (.loop Sa) u m Q:=by
  intro r;induction r with
  | zero=>intro cV di v w m u aH mg n7 Gt BD ah S aS b1 aw a1;refine fc λcp aZ=> ?_;obtain rfl:di=0:=(by omega);obtain⟨B,H,af,aL⟩:=aS.len;rw[so (by omega)]at B;simp only[Hh]at B;simp[Sa,aw,B,H];exact a1 _ _ v ah (by rw[ai4 mg];exact S) (by simp[b1])
  | succ r cB=>
    intro cV di v w m u aH mg n7 Gt BD ah S aS b1 aw a1;by_cases bH:di=0
    · exact cB cV di v w m u (by omega) mg n7 Gt BD ah S aS b1 aw a1
    · refine fc λcp aZ=> ?_;obtain⟨B,H,af,aL⟩:=aS.len;have dE:bL di≠[]:= λh=>by have:=iD n7;rw[h]at this;simp[val]at this;omega
      have Y:=Kn.2 dE;have wK:(0:Int)<((bL di).length:Int):=(by omega);simp[Sa,b1,aw,B,H,Y];refine(aq8 S aS mg (by omega) Gt BD).aD λfk cc e9=> ?_;obtain⟨tz,q,s,rfl,bz,M⟩:=e9;simp[aw];have iF:=yH cV (show di≠0 by omega);have aX:=xr cV (show 0<di by omega);refine aZ _ _ (cB di (cV%di) w s cc _ (by omega) n7 iF BD (by omega) (ah.trans tz) (aS.aD tz) M (by simp) (by simp) λae N b2 ck cE eo=> ?_);exact a1 ae N b2 ck (by rw[ai3 mg (by omega)];exact cE) eo
theorem aJG{m:E}{v w:Value}{cV di:Int}(S:dS m v cV)(aS:dS m w di)(CO:cV<a3 512)(zc:di<a3 512):
    bU Z 145 [v,w] m (wm m (md cV di)):=by
  rw[avf (by simp)];have mg:=S.qB;have n7:=aS.qB;simp[aav,alF,alG,alH,alI];refine(xb S CO).aD λeT bo fG=> ?_;obtain⟨cA,rfl⟩:=fG;simp;refine(xb (aS.aD cA) zc).aD λfk cc e9=> ?_;obtain⟨dG,rfl⟩:=e9;have kd:=cA.trans dG;simp;refine(sW (S.aD kd)).aD λhB gC jz=> ?_;obtain⟨e1,oe⟩:=jz;simp;refine(sW (aS.aD (kd.trans e1))).aD λjs iA km=> ?_;obtain⟨hb,zm⟩:=km;simp;refine aJF (dv:=m) di.toNat cV di hB js iA _ (by omega) mg n7 CO zc ((kd.trans e1).trans hb) (oe.aD hb) zm (by simp) (by simp) λae N b2 ck cE eo=> ?_;simp[eo];exact⟨ck,b2,rfl,cE⟩
end Go.Proofs.YtkpifdkccdndcaaGreat
