/-
  A part of the proof of the statement, in texts that tools of ours (wip/shrink.py, irpack.py, relax.py, minify.py, join.py, lay.py) have shortened.
-/
import Derived.Test.YtkpifdkccdndcaaGreatZak
set_option linter.all false
set_option maxRecDepth 8000
set_option maxHeartbeats 16000000
namespace Go.Big
theorem ai5{d:Int}(h:0<=d):md 0 d=d:=by simp[md];omega
theorem aG6{bQ:Bool}{d:Int}(h:0<d):g4 ⟨bQ,0,d⟩= .nil:=by simp only[g4,ai5 (Int.le_of_lt h),bp.nil];rw[Int.ediv_self (by omega)];simp
theorem BV:(1:Int)<a3 128:=by have:=k6 127;show 1<4294967296*a3 127;omega
theorem aG5:mG (g4 ⟨false,1,1⟩)=(0,.hS):=by
  have e:g4 ⟨false,1,1⟩= .hS:=by decide
  have bs:bp.hS.wy=true:=bp.HH.2 ⟨BV,BV⟩;rw[e,mG,if_pos bs]
theorem ail:bL 1=[1]:=by rw[Xe (by omega),so (by omega)];rfl
theorem wu{n:Int}{k:Nat}(bH:0<=n):(bL n).length<=k↔n<a3 k:=by have:=BM (o2 n).1 k;rw[(o2 n).2,iD bH]at this;exact this
end Go.Big
namespace Go.Proofs.YtkpifdkccdndcaaGreat
open Go Go.DI Go.Big
theorem auc{m:E}{n:Int}(bH:0<=n)(B:n<=9223372036854775807):bU Z 90 [X n] m λr N=>a7 m N/\bP N r (bL n):=by
  rw[avX (by simp)];have k: ¬n<0:=by omega
  have w:IntKind.u64.wrap n=n:=fi (by omega) (by omega);simp[adJ,ao5,ao6,k,w];refine(UQ bH (by omega)).aD λr N Y=> ?_;simp;exact Y
theorem JL:(1:Int)<a3 512:=by have:=BV;have:=z4;omega
theorem aqC{m:E}:bU Z 26 [X 1,X 1] m (p8 m (0,.hS)):=by
  rw[avF (by simp)];simp[acj,ans,ant];obtain⟨bk,ey⟩: ∃bk,bk=(m.bx 2).an m.next (some ⟨eg,true⟩):=⟨_,rfl⟩
  rw[<-ey];have fD:a7 m bk:=by rw[ey];exact((a7.refl m).bx 2).an (by omega)
  have aq:bk.U m.next=some ⟨eg,true⟩:=by rw[ey,cW (by simp)]
  have ac:= λ{N:E} (cg:m.next<N.next)=>oE (l:=[m.next]) (jR:= λr p=>bP p r (bL 1)) (λ_ _ _ M h=>h.jh M) (kc cg) (auc (m:=E.dM N [m.next]) (n:=1) (by omega) (by omega));refine(ac (aO aq)).aD λeT bo fG=> ?_;obtain⟨cA,B⟩:=fG;have aj:=cA.some aq;simp;refine(ac (aO aj)).aD λfk cc e9=> ?_;obtain⟨dG,H⟩:=e9;have ba:=dG.some aj;simp;refine(aea (bQ:=false) (kc (aO ba)) (dS.bL (B.jh (cU.kE dG)) (by omega) JL) (dS.bL H (by omega) JL) JL (by omega) JL).aD λhB gC jz=> ?_;rw[aG5]at jz;obtain⟨e1,q,rfl,bz⟩:=jz;have cD:=e1.some ba;have L8:=aO cD;obtain⟨ez,du,bY,fj,dV,cN,rfl⟩:=bz.gz;simp(disch:=omega) [cD];exact sr (((fD.trans cA).trans dG).trans e1) (by omega) bz
section
variable {m:E} {l:List Nat} {v w:Value} {a b:Int} {x y:bp}
theorem arA(aE: ∀c∈l,c<m.next)(S:dS (E.dM m l) v a):bU Z 106 [v] m λr N=>a7 m N/\bP (E.dM N l) r (bL a):=
  oE (λ_ _ _ M h=>h.jh M) aE (sW S)
theorem aJE(aE: ∀c∈l,c<m.next)(S:dS (E.dM m l) v a)(aS:dS (E.dM m l) w b)(B:a<a3 512)(H:b<a3 512):bU Z 145 [v,w] m λr N=>a7 m N/\tc (md a b) r (E.dM N l):=
  oE tc.sub aE (aJG S aS B H)
theorem ae4(aE: ∀c∈l,c<m.next)(S:dS (E.dM m l) v a)(aS:dS (E.dM m l) w b)(B:a<a3 512)(H:b<a3 512)(h:0<b):bU Z 146 [v,w] m λr N=>a7 m N/\Ck a b r (E.dM N l):=
  oE Ck.sub aE (aJi S aS B H h)
theorem aI8(aE: ∀c∈l,c<m.next)(S:dS (E.dM m l) v a)(aS:dS (E.dM m l) w b)(h:a+b<a3 512):bU Z 135 [v,w] m λr N=>a7 m N/\tc (a+b) r (E.dM N l):=
  oE tc.sub aE (aI9 S aS h)
theorem arx(aE: ∀c∈l,c<m.next)(S:dS (E.dM m l) v a)(aS:dS (E.dM m l) w b)(h:a<a3 512)(fM:b<=a):bU Z 137 [v,w] m λr N=>a7 m N/\tc (a-b) r (E.dM N l):=
  oE tc.sub aE (aKf S aS h fM)
def Cj(m:E)(x:bp)(r:Value)(N:E):Prop:=a7 m N/\jj N r x
theorem aid{m cc:E}{cJ:Nat}{x:bp}{cr cx c8:Value}(ah:a7 m cc)(mi:m.next<=cJ)(aK:jj (E.dM cc [cJ]) (.agg #[cr,cx,c8]) x):Cj m x (.agg #[cr,cx,c8]) (cc.an cJ (some ⟨[cr,cx,c8],true⟩)):=by refine⟨ah.an mi,aK.sub ?_⟩;rw[<-AI (m:=cc) (b:=cJ) (l:=[cJ]) (x:=some ⟨[cr,cx,c8],true⟩) (by simp)];exact cU.dM _ _
theorem aJQ{bQ:Bool}{n d:Int}(S:dS m v n)(aS:dS m w d)(av:n<a3 512)(ay:0<d)(uE:d<a3 512):
    bU Z 107 [.bool bQ,v,w] m (Cj m (g4 ⟨bQ,n,d⟩)):=by
  rw[auX (by simp)];have dm:=S.qB;obtain⟨cJ,mi⟩: ∃cJ,cJ=m.next:=⟨_,rfl⟩
  simp[Zs,akM];obtain⟨bk,ey⟩: ∃bk,bk=(m.bx 1).an m.next (some ⟨eg,true⟩):=⟨_,rfl⟩
  rw[<-ey,<-mi];have fD:a7 m bk:=by rw[ey];exact((a7.refl m).bx 1).an (by omega)
  have aq:bk.U cJ=some ⟨eg,true⟩:=by rw[ey,mi,cW (by simp)]
  have sZ:= λ{N:E} (o:a7 m N)=>cU.yZ (l:=[cJ]) o (DZ (by omega));refine(arA (kc (aO aq)) (S.sub (sZ fD))).aD λeT bo fG=> ?_;obtain⟨cA,B⟩:=fG;have aj:=cA.some aq;simp;refine(arA (kc (aO aj)) (aS.sub (sZ (fD.trans cA)))).aD λfk cc e9=> ?_;obtain⟨dG,H⟩:=e9;have ba:=dG.some aj;have xX:=aO ba;have kb:=(fD.trans cA).trans dG;have eh:=B.jh (cU.kE (l:=[cJ]) dG);obtain⟨aX,bg,dU,ha⟩:=(eh.jh (cU.dM _ _)).len;have kl:=wu (n:=n) (k:=0) dm;by_cases eK:n=0
  · have O:(bL n).length=0:=(by subst eK;rw[so (by omega)];rfl);rw[O]at aX;have F:g4 ⟨bQ,n,d⟩= .nil:=(by subst eK;exact aG6 ay);rw[F];have rZ:cJ≠cc.next:=by omega
    simp(disch:=first|omega|simp only[b3];omega) [Zt,Zu,Iz,MD,aX,bg,ba];have M:bP ((((cc.bx 3).an cc.next (some ⟨[c3 1],true⟩))).an cJ (some ⟨[.bool false,.slice none 0 0,.slice (some ⟨cc.next,0,none⟩) 1 1],true⟩)) (.slice (some ⟨cc.next,0,none⟩) 1 1) [1]:=by refine bP.sK (λx F=>by simp at F;omega) (w:=true) ?_ rfl;rw[dC (by omega),cW (by simp)];rfl
    refine⟨(((kb.bx 3).an (by have:=kb.next;omega)).an (by omega)),_,_,rfl,?_,?_⟩
    · rw[show bp.nil.n=0 from rfl,so (by omega)];exact bP.nil
    · rw[show bp.nil.d=1 from rfl,ail];exact M
  · have O:1<=(bL n).length:=by
      have: ¬n<a3 0:=(by simp[a3];omega);omega
    have py: ¬((bL n).length:Int)=0:=(by omega);have u3: ¬bL n=[]:= λh=>by rw[h]at O;simp at O
    obtain⟨a5,o9⟩: ∃a5,a5=md n d:=⟨_,rfl⟩;have atu:0<a5:=(by rw[o9];exact Ff ay);have atv:a5<=d:=(by rw[o9];exact ai2 ay);have bn:0<=n/a5:=Am dm (by omega);have bC:n/a5<=n:=EC _ dm;have iF:0<d/a5:=(by rw[o9];exact Qo (Ff ay) ay (XI (by omega)));have Xl:d/a5<=d:=EC _ (by omega);have L7:g4 ⟨bQ,n,d⟩=⟨bQ,n/a5,d/a5⟩:=(by simp only[g4,<-o9];have:decide (0<n)=true:=(by simp;omega);rw[this,Bool.and_true]);rw[L7];have ahm:=dS.bL eh dm av;have Ww:=dS.bL H (by omega) uE;simp[Zt,Zu,aX,bg,u3];refine(aJE (kc xX) ahm Ww av uE).aD λhB gC jz=> ?_;obtain⟨e1,g,rfl,CY⟩:=jz;rw[<-o9]at CY;have cD:=e1.some ba;have L8:=aO cD;have r6:=kb.trans e1;obtain⟨ck,cE,eo,e8⟩:=(CY.jh (cU.dM _ _)).len;have Wy:=dS.bL CY (by omega) (by omega);have aTL:=wu (n:=a5) (k:=1) (by omega);have aTK:=wu (n:=a5) (k:=0) (by omega);have ez:a3 1=4294967296:=(by simp[a3]);have po:a3 0=1:=by simp[a3]
    -- lN end
    have tail: ∀(DP:E) (x y:Value) (u:aM),a7 gC DP->bP (E.dM DP [cJ]) x (bL (n/a5))->bP (E.dM DP [cJ]) y (bL (d/a5))->u 0= .bool bQ->u 1=x->u 2=y->u 6=cb cJ->
        cH Z MD u DP (eU [.h8 6 true 3] (Cj m ⟨bQ,n/a5,d/a5⟩)):=by
      intro DP x y u o F ab b1 aw bR dn;have ai8:=o.some cD;have aRT:=aO ai8;obtain⟨p,a,c,rfl⟩:=F.gz;obtain⟨fb,cI,eH,rfl⟩:=ab.gz;simp(disch:=omega) [MD,b1,aw,bR,dn,ai8];exact aid (r6.trans o) (by omega) ⟨_,_,rfl,F,ab⟩
    by_cases UG:1<a5
    · have aww: ∀(u:aM),u 0= .bool bQ->u 1=eT->u 2=fk->u 6=cb cJ->u 7=g->cH Z Iz u gC (tY Z MD (eU [.h8 6 true 3] (Cj m ⟨bQ,n/a5,d/a5⟩))):=by
        intro u b1 aw bR dn c7;have aha:bU Z 146 [eT,g] gC λr N=>a7 gC N/\Ck n a5 r (E.dM N [cJ]):=ae4 (kc L8) (ahm.sub (cU.kE e1)) Wy av (by omega) (by omega);by_cases apA:1<(bL a5).length
        · have apB:(1:Int)<(bL a5).length:=(by omega);simp[Iz,aw,c7,ck,cE,apB];refine aha.aD λjs iA km=> ?_;obtain⟨hb,q,t,rfl,bz,_⟩:=km;simp[bR,c7];refine(ae4 (kc (nz L8 hb.next)) ((Ww.sub (cU.kE e1)).sub (cU.kE hb)) (Wy.sub (cU.kE hb)) uE (by omega) (by omega)).aD λmm hA h9=> ?_;obtain⟨gU,lK,bu,rfl,Ig,_⟩:=h9;simp[];exact tail hA q lK _ (hb.trans gU) (bz.jh (cU.kE gU)) Ig (by simp[b1]) (by simp) (by simp) (by simp[dn])
        · have apB: ¬(1:Int)<(bL a5).length:=(by omega);have fP:(bL a5).length=1:=(by omega);have bh:=(CY.jh (cU.dM gC [cJ])).j3 (i:=0) (by omega);have bt:=(CY.jh (cU.dM gC [cJ])).fu (i:=0) (by omega);have YY:az (bL a5) 0=a5:=by
            obtain⟨O,cl⟩:=Pt.1 fP;have:=iD (show 0<=a5 by omega);rw[cl]at this⊢;have mf:O=a5:=(by simpa[val]using this);exact mf
          rw[YY]at bt;rw[fP]at ck;simp only[Hn]at bh bt ck;simp[Iz,aw,c7,ck,cE,eo,bh,bt,UG];refine aha.aD λjs iA km=> ?_;obtain⟨hb,q,t,rfl,bz,_⟩:=km;simp[bR,c7];refine(ae4 (kc (nz L8 hb.next)) ((Ww.sub (cU.kE e1)).sub (cU.kE hb)) (Wy.sub (cU.kE hb)) uE (by omega) (by omega)).aD λmm hA h9=> ?_;obtain⟨gU,lK,bu,rfl,Ig,_⟩:=h9;simp[];exact tail hA q lK _ (hb.trans gU) (bz.jh (cU.kE gU)) Ig (by simp[b1]) (by simp) (by simp) (by simp[dn])
      simp;exact aww _ (by simp) (by simp) (by simp) (by simp[mi]) (by simp)
    · obtain rfl:a5=1:=(by omega);rw[ail]at CY ck;have bh:=(CY.jh (cU.dM gC [cJ])).j3 (i:=0) (by simp);have bt:=(CY.jh (cU.dM gC [cJ])).fu (i:=0) (by simp);rw[show az [1] 0=1 from rfl]at bt
      replace ck:ib g=1:=ck
      simp only[Hn]at bh bt;rw[Int.ediv_one,Int.ediv_one]at*;simp[Iz,ck,cE,eo,bh,bt];exact tail gC eT fk _ (a7.refl gC) (eh.jh (cU.kE e1)) (H.jh (cU.kE e1)) (by simp) (by simp) (by simp) (by simp[mi])
end
theorem Cj.sub{x:bp}: ∀(r:Value) (a c:E),cU a c->jj a r x->jj c r x:= λ_ _ _ M h=>h.sub M
theorem afg{m:E}{l:List Nat}{bQ:Bool}{v w:Value}{n d:Int}(aE: ∀c∈l,c<m.next)(S:dS (E.dM m l) v n)(aS:dS (E.dM m l) w d)(av:n<a3 512)(ay:0<d)(uE:d<a3 512):
    bU Z 107 [.bool bQ,v,w] m λr N=>a7 m N/\jj (E.dM N l) r (g4 ⟨bQ,n,d⟩):=
  oE Cj.sub aE (aJQ S aS av ay uE)
section
variable {m:E} {l:List Nat} {v w:Value} {a b:Int} {x y:bp}
theorem afe(S:dS m v a)(aS:dS m w b)(B:a<a3 512)(H:b<a3 512)(h:a*b<a3 512):bU Z 133 [v,w] m λr N=>a7 m N/\bP N r (bL (a*b)):=by rw[au7 (by simp)];simp[aae,alb,alc];refine(aJV S aS B H h).aD λr N Y=> ?_;obtain⟨ah,v,rfl,M⟩:=Y;simp;exact⟨ah,M⟩
theorem afd(aE: ∀c∈l,c<m.next)(S:dS (E.dM m l) v a)(aS:dS (E.dM m l) w b)(B:a<a3 512)(H:b<a3 512)(h:a*b<a3 512):bU Z 133 [v,w] m λr N=>a7 m N/\bP (E.dM N l) r (bL (a*b)):=
  oE (λ_ _ _ M h=>h.jh M) aE (afe S aS B H h)
theorem Vx(h:iL m v x):bU Z 54 [v] m λr N=>a7 m N/\r= .bool x.ok:=by
  rw[avQ (by simp)];obtain⟨p,n,c,fb,cz,eH,rfl,aC,K⟩:=h.gz;have dm:=h.dm;have hN:=h.hN;simp(disch:=first|omega|simp only[b3];omega) [acP,aok];obtain⟨bk,ey⟩: ∃bk,bk=(m.bx 2).an m.next (some ⟨[.bool x.bQ,.slice p n c,.slice fb cz eH],true⟩):=⟨_,rfl⟩
  rw[<-ey];have fD:a7 m bk:=by rw[ey];exact((a7.refl m).bx 2).an (by omega)
  have aq:bk.U m.next=some ⟨[.bool x.bQ,.slice p n c,.slice fb cz eH],true⟩:=by rw[ey,cW (by simp)]
  have fP:=wu (n:=x.d) (k:=128) hN;have dX:=wu (n:=x.n) (k:=128) dm;have et:=wu (n:=x.d) (k:=0) hN;have po:a3 0=1:=by simp[a3]
  refine(sW (K.aD fD)).aD λeT bo fG=> ?_;obtain⟨cA,B⟩:=fG;obtain⟨aX,bg,_,_⟩:=B.len;have aj:=cA.some aq;by_cases bM:0<(bL x.d).length
  · have N9:(0:Int)<(bL x.d).length:=(by omega);have aTB:0<(bL x.d).length/\True:=⟨bM,trivial⟩;simp[aX,bg,bM,aj];refine(sW (K.aD (fD.trans cA))).aD λfk cc e9=> ?_;obtain⟨dG,H⟩:=e9;obtain⟨ck,cE,_,_⟩:=H.len;have ba:=dG.some aj;have kb:=(fD.trans cA).trans dG;by_cases dL:(bL x.d).length<=128
    · have BC:((bL x.d).length:Int)<=128:=(by omega);simp[ck,cE,BC,ba];refine(sW (aC.aD kb)).aD λhB gC jz=> ?_;obtain⟨e1,af⟩:=jz;obtain⟨bC,cq,_,_⟩:=af.len;simp[bC,cq];refine⟨kb.trans e1,?_⟩;have bh:decide (0<x.d)=true:=(by simp;omega);have bt:decide (x.d<a3 128)=true:=(by simp;omega);simp only[bp.ok,bh,bt,oY];by_cases fp:x.n<a3 128
      · have:((bL x.n).length:Int)<=128:=(by omega);simp[fp];omega
      · have: ¬((bL x.n).length:Int)<=128:=(by omega);simp[fp];omega
    · have BC: ¬((bL x.d).length:Int)<=128:=(by omega);simp[ck,cE,BC];refine⟨kb,?_⟩;simp[bp.ok];omega
  · have N9: ¬(0:Int)<(bL x.d).length:=(by omega);have O:(bL x.d).length=0:=(by omega);rw[O]at aX;simp[aX,bg];refine⟨fD.trans cA,?_⟩;simp[bp.ok];omega
theorem art(h:iL m v x):bU Z 55 [v] m (p8 m (rl x)):=by
  rw[avR (by simp)];obtain⟨p,n,c,fb,cz,eH,rfl,aC,K⟩:=h.gz;have bH:=h.dm;simp(disch:=first|omega|simp only[b3];omega) [acQ,aol,aom];obtain⟨bk,ey⟩: ∃bk,bk=((m.bx 3).an m.next (some ⟨[.bool x.bQ,.slice p n c,.slice fb cz eH],true⟩)).an (m.next+1) (some ⟨eg,true⟩):=⟨_,rfl⟩;rw[<-ey];have fD:a7 m bk:=by rw[ey];exact(((a7.refl m).bx 3).an (by omega)).an (by omega)
  have cg:m.next+1<bk.next:=by rw[ey];simp
  have sx:bk.U m.next=some ⟨[.bool x.bQ,.slice p n c,.slice fb cz eH],true⟩:=by rw[ey,dC (by omega),cW (by simp)]
  have oI:bk.U (m.next+1)=some ⟨eg,true⟩:=by rw[ey,cW (by simp)]
  refine(Vx (h.aD fD)).aD λr bo Y=> ?_;obtain⟨cA,rfl⟩:=Y;have aJ:=cA.some sx;have aj:=cA.some oI;have ql:=aO aj;by_cases k:x.ok=true
  · simp[k,aJ];have sZ:=cU.yZ (l:=[m.next+1]) (fD.trans cA) (DZ (by omega));obtain⟨hN,j5,lC⟩:=CJ k;refine(afg (kc ql) (aC.sub sZ) (K.sub sZ) lC hN j5).aD λfk cc e9=> ?_;obtain⟨dG,bz⟩:=e9;have Lo:=dG.some aj;have xX:=aO Lo;obtain⟨ez,du,bY,fj,dV,cN,rfl⟩:=bz.gz;simp(disch:=omega) [Lo];rw[JS k bH];exact sr (p:=(0,g4 x)) ((fD.trans cA).trans dG) (by omega) bz
  · simp(disch:=omega) [k,aj];rw[Vn k];exact sr (fD.trans cA) (by omega) jj.zero
end
section
variable {m:E} {l:List Nat} {v w:Value} {a b:Int} {x y:bp}
theorem afi(F:iL m v x)(ab:iL m w y)(hn:x.ok=true)(h5:y.ok=true):bU Z 97 [v,w] m λr N=>a7 m N/\r=X (iI x y):=by
  rw[av4 (by simp)];obtain⟨p,n,c,fb,cz,eH,rfl,aC,K⟩:=F.gz;obtain⟨aG,k,e,kB,gI,eD,rfl,n8,hi⟩:=ab.gz;have cr:=F.dm;have pw:=ab.dm;obtain⟨HC,AL,GH⟩:=bp.rj.1 hn;obtain⟨HD,AM,GI⟩:=bp.rj.1 h5;have KD:=z4;have WA:=Vh;have WB:=k6 256;have BH:=tP cr (by omega) GH AM;have BI:=tP pw (by omega) GI AL;simp only[Nat.reduceAdd]at BH BI;have yR:0<=x.n*y.d:=mq cr (by omega);have yS:0<=y.n*x.d:=mq pw (by omega);simp(disch:=first|omega|simp only[b3];omega) [adO,apc];obtain⟨bk,ey⟩: ∃bk,bk=((m.bx 3).an m.next (some ⟨[.bool x.bQ,.slice p n c,.slice fb cz eH],true⟩)).an (m.next+1) (some ⟨[.bool y.bQ,.slice aG k e,.slice kB gI eD],true⟩):=⟨_,rfl⟩;rw[<-ey];have fD:a7 m bk:=by rw[ey];exact(((a7.refl m).bx 3).an (by omega)).an (by omega)
  have aJ:bk.U m.next=some ⟨[.bool x.bQ,.slice p n c,.slice fb cz eH],true⟩:=by rw[ey,dC (by omega),cW (by simp)]
  have aj:bk.U (m.next+1)=some ⟨[.bool y.bQ,.slice aG k e,.slice kB gI eD],true⟩:=by rw[ey,cW (by simp)]
  refine(afe (aC.aD fD) (hi.aD fD) (by omega) (by omega) (by omega)).aD λhB gC jz=> ?_;obtain⟨e1,af⟩:=jz;have E9:=e1.some aJ;have Fb:=e1.some aj;have mz:=aO aJ;have kl:=aO aj;refine yW e1 (λp Y b K=>by simp at Y;rcases Y with rfl|rfl<;>simp[ai]at K<;>omega) ?_;simp[];have r6:=fD.trans e1;refine(afe (n8.aD r6) (K.aD r6) (by omega) (by omega) (by omega)).aD λjs iA km=> ?_;obtain⟨hb,aL⟩:=km;have AT:=hb.some E9;have AU:=hb.some Fb;have nS:=r6.trans hb;have g1:=af.aD hb;obtain⟨ck,cE,_,_⟩:=g1.len;obtain⟨HG,xK,_,_⟩:=aL.len;simp;have rz:=dS.bL g1 yR (by omega);have rA:=dS.bL aL yS (by omega);have apC:=wu (n:=x.n*y.d) (k:=0) yR;have aTJ:=wu (n:=y.n*x.d) (k:=0) yS;have po:a3 0=1:=by simp[a3]
  have atl:0<x.n*y.d↔x.n≠0:=by refine⟨λh bH=>by rw[bH]at h;simp at h,λh=>Int.mul_pos (by omega) HD⟩
  have atm:0<y.n*x.d↔y.n≠0:=by refine⟨λh bH=>by rw[bH]at h;simp at h,λh=>Int.mul_pos (by omega) HC⟩
  have aQz:decide ((0:Int)<(bL (x.n*y.d)).length)=decide (x.n≠0):=by rw[decide_eq_decide,<-atl];omega
  have aQA:decide ((0:Int)<(bL (y.n*x.d)).length)=decide (y.n≠0):=by rw[decide_eq_decide,<-atm];omega
  have aqO:(0<(bL (x.n*y.d)).length)= ¬x.n=0:=by apply propext;rw[<-ne_eq,<-atl];omega
  have aqP:(0<(bL (y.n*x.d)).length)= ¬y.n=0:=by apply propext;rw[<-ne_eq,<-atm];omega
  have lg: ∀(cy a9:Bool) (u:aM),u 5=hB->u 6=js->u 7= .bool cy->u 8= .bool a9->cH Z Jp u iA (eU [.bq 4] λr N=>a7 m N/\r=X (if cy then(if a9 then ix (y.n*x.d) (x.n*y.d)else-1)else if a9 then 1 else ix (x.n*y.d) (y.n*x.d))):=by
    intro cy a9 u cv dn c7 ch;cases cy<;>cases a9
    · simp[Jp,N0,cv,dn,c7,ch];refine(ON rz rA).aD λmm hA h9=> ?_;simp;exact⟨nS.trans h9.1,h9.2⟩
    · simp[Jp,N0,c7,ch];exact nS
    · simp[Jp,N0,c7,ch];exact nS
    · simp[Jp,N0,cv,dn,c7,ch];refine(ON rA rz).aD λmm hA h9=> ?_;simp;exact⟨nS.trans h9.1,h9.2⟩
  have tO: ∀u:aM,u 5=hB->u 6=js->u 2=cb m.next->u 3=cb (m.next+1)->cH Z Jo u iA (eU [.bq 4] λr N=>a7 m N/\r=X (iI x y)):=by
    intro u cv dn bR bA;unfold iI;cases hR:x.bQ<;>cases vy:y.bQ<;>rw[hR]at AT<;>rw[vy]at AU
    · simp[Jo,bR,bA,AT,AU];simpa using lg false false _ (by simp[cv]) (by simp[dn]) (by simp) (by simp)
    · simp[Jo,bR,bA,dn,AT,AU,HG,xK,aqP];simpa using lg false (!decide (y.n=0)) _ (by simp[cv]) (by simp[dn]) (by simp) (by simp)
    · simp[Jo,bR,bA,cv,AT,AU,ck,cE,aqO];simpa using lg (!decide (x.n=0)) false _ (by simp[cv]) (by simp[dn]) (by simp) (by simp)
    · simp[Jo,bR,bA,cv,dn,AT,AU,ck,cE,HG,xK,aqO,aqP];simpa using lg (!decide (x.n=0)) (!decide (y.n=0)) _ (by simp[cv]) (by simp[dn]) (by simp) (by simp)
  exact tO _ (by simp) (by simp) (by simp) (by simp)
theorem aJy(h:jj m v x)(dm:0<=x.n)(hN:0<=x.d):bU Z 136 [v] m (p8 m (mG x)):=by
  rw[ava (by simp)];obtain⟨p,n,c,fb,cz,eH,rfl⟩:=h.gz;obtain⟨cI,b7,S,aC,K⟩:=h;simp only[Value.agg.injEq,Hi,ox,and_true,true_and]at S;obtain⟨rfl,rfl⟩:=S;obtain⟨ck,cE,_,_⟩:=aC.len;obtain⟨aj,ba,_,_⟩:=K.len;have fP:=wu (n:=x.n) (k:=128) dm;have dX:=wu (n:=x.d) (k:=128) hN;simp(disch:=first|omega|simp only[b3];omega) [aah,aln,alo];obtain⟨bk,ey⟩: ∃bk,bk=((m.bx 3).an m.next (some ⟨[.bool x.bQ,.slice p n c,.slice fb cz eH],true⟩)).an (m.next+1) (some ⟨eg,true⟩):=⟨_,rfl⟩;rw[<-ey];have fD:a7 m bk:=by rw[ey];exact(((a7.refl m).bx 3).an (by omega)).an (by omega)
  have sx:bk.U m.next=some ⟨[.bool x.bQ,.slice p n c,.slice fb cz eH],true⟩:=by rw[ey,dC (by omega),cW (by simp)]
  have oI:bk.U (m.next+1)=some ⟨eg,true⟩:=by rw[ey,cW (by simp)]
  have cg:=aO oI;have ay7:bU Z 163 [.agg #[.bool x.bQ,.slice p n c,.slice fb cz eH]] bk λr N=>a7 bk N/\r= .bool (!x.wy):=by
    rw[avp (by simp)];have ah:= λk O=>(((a7.refl bk).bx k).an (i:=bk.next) (x:=O) (by omega));simp only[ib]at ck aj;by_cases bM:(128:Int)<(n:Int)
    · simp(disch:=first|omega|simp only[b3];omega) [SA,aaU,bM];refine⟨ah _ _,?_⟩;simp[bp.wy];omega
    · simp(disch:=first|omega|simp only[b3];omega) [SA,aaU,bM];refine⟨ah _ _,?_⟩;have:decide (x.n<a3 128)=true:=(by simp;omega);simp only[bp.wy,this,oY];by_cases dL:x.d<a3 128
      · simp[dL];omega
      · simp[dL];omega
  refine ay7.aD λr bo Y=> ?_;obtain⟨cA,rfl⟩:=Y;have aJ:=cA.some sx;have lD:=cA.some oI;have ql:=aO lD;by_cases k:x.wy=true
  · have e:mG x=(0,x):=(by simp[mG,k]);rw[e];simp(disch:=omega) [k,aJ,lD];exact sr (p:=(0,x)) (fD.trans cA) (by omega) ⟨_,_,rfl,aC.jh (cU.yZ (fD.trans cA) (DZ (by omega))),K.jh (cU.yZ (fD.trans cA) (DZ (by omega)))⟩
  · have e:mG x=(2,.zero):=(by simp[mG,k]);rw[e];simp(disch:=omega) [k,lD];exact sr (p:=(2,.zero)) (fD.trans cA) (by omega) jj.zero
theorem afc(aE: ∀c∈l,c<m.next)(h:jj (E.dM m l) v x)(dm:0<=x.n)(hN:0<=x.d):bU Z 136 [v] m λr N=>a7 m N/\va (mG x) r (E.dM N l):=
  oE va.sub aE (aJy h dm hN)
theorem aJa(F:iL m v x)(ab:iL m w y):bU Z 98 [v,w] m (p8 m (kh x y)):=by
  rw[av5 (by simp)];obtain⟨p,n,c,fb,cz,eH,rfl,aC,K⟩:=F.gz;obtain⟨aG,k,e,kB,gI,eD,rfl,n8,hi⟩:=ab.gz;have cr:=F.dm;have pw:=ab.dm;simp(disch:=first|omega|simp only[b3];omega) [adP,apd];obtain⟨cJ,mi⟩: ∃cJ,cJ=m.next+2:=⟨_,rfl⟩
  obtain⟨bk,ey⟩: ∃bk,bk=(((m.bx 4).an m.next (some ⟨[.bool x.bQ,.slice p n c,.slice fb cz eH],true⟩)).an (m.next+1) (some ⟨[.bool y.bQ,.slice aG k e,.slice kB gI eD],true⟩)).an (m.next+2) (some ⟨eg,true⟩):=⟨_,rfl⟩;rw[<-ey,<-mi];have fD:a7 m bk:=by rw[ey];exact((((a7.refl m).bx 4).an (by omega)).an (by omega)).an (by omega)
  have sx:bk.U m.next=some ⟨[.bool x.bQ,.slice p n c,.slice fb cz eH],true⟩:=by rw[ey,dC (by omega),dC (by omega),cW (by simp)]
  have oI:bk.U (m.next+1)=some ⟨[.bool y.bQ,.slice aG k e,.slice kB gI eD],true⟩:=by rw[ey,dC (by omega),cW (by simp)]
  have qY:bk.U cJ=some ⟨eg,true⟩:=by rw[ey,mi,cW (by simp)]
  refine(Vx (F.aD fD)).aD λr bo Y=> ?_;obtain⟨cA,rfl⟩:=Y;have aJ:=cA.some sx;have aj:=cA.some oI;have ba:=cA.some qY;have ql:=aO ba;have jo:=fD.trans cA;by_cases hn:x.ok=true
  · simp[hn,aj];refine(Vx (ab.aD jo)).aD λr cc Y=> ?_;obtain⟨dG,rfl⟩:=Y
    replace aJ:=dG.some aJ
    replace aj:=dG.some aj
    replace ba:=dG.some ba
    have xX:=aO ba;have kb:=jo.trans dG;by_cases h5:y.ok=true
    · simp[h5];obtain⟨HC,AL,GH⟩:=bp.rj.1 hn;obtain⟨HD,AM,GI⟩:=bp.rj.1 h5;have KD:=z4;have WA:=Vh;have WB:=k6 256;have BH:=tP cr (by omega) GH AM;have BI:=tP pw (by omega) GI AL;have Oi:=tP (by omega) (by omega) AL AM;simp only[Nat.reduceAdd]at BH BI Oi;have yR:0<=x.n*y.d:=mq cr (by omega);have yS:0<=y.n*x.d:=mq pw (by omega);have EE:0<x.d*y.d:=Int.mul_pos HC HD;obtain⟨cy,lF⟩: ∃cy,cy=x.n*y.d:=⟨_,rfl⟩;obtain⟨a9,dt⟩: ∃a9,a9=y.n*x.d:=⟨_,rfl⟩;obtain⟨cn,g2⟩: ∃cn,cn=x.d*y.d:=⟨_,rfl⟩;have tO: ∀(u:aM),u 2=cb m.next->u 3=cb (m.next+1)->u 4=cb cJ->cH Z adQ u cc (eU [.h8 4 true 3,.bq 5] (p8 m (mG (g4 (oC x y))))):=by
        intro u bR bA fv;simp[adQ,bR,bA,aJ,aj];have vj:= λ{N:E} (o:a7 m N)=>cU.yZ (l:=[cJ]) o (DZ (by omega));refine(afd (kc xX) (aC.sub (vj kb)) (hi.sub (vj kb)) (by omega) (by omega) (by omega)).aD λhB gC jz=> ?_;obtain⟨e1,af⟩:=jz;have mz:=aO aJ;have kl:=aO aj;refine yW e1 (λp Y b K=>by simp at Y;rcases Y with rfl|rfl|rfl|rfl<;>simp[ai]at K<;>omega) ?_;have r6:=kb.trans e1;have E9:=e1.some aJ;have Fb:=e1.some aj;have Lp:=e1.some ba;simp[];refine(afd (kc (aO Lp)) (n8.sub (vj r6)) (K.sub (vj r6)) (by omega) (by omega) (by omega)).aD λjs iA km=> ?_;obtain⟨hb,aL⟩:=km;have ay5:=aO E9;have ay6:=aO Fb;refine yW hb (λp Y b K=>by simp at Y;rcases Y with rfl|rfl<;>simp[ai]at K<;>omega) ?_;have nS:=r6.trans hb;have AT:=hb.some E9;have AU:=hb.some Fb;have Lq:=hb.some Lp;simp[];refine(afd (kc (aO Lq)) (K.sub (vj nS)) (hi.sub (vj nS)) (by omega) (by omega) (by omega)).aD λmm hA h9=> ?_;obtain⟨gU,cm⟩:=h9;have Oz:=nS.trans gU;have wA:=gU.some AT;have y6:=gU.some AU;have AV:=gU.some Lq;have xY:=aO AV;rw[<-lF]at af BH yR;rw[<-dt]at aL BI yS;rw[<-g2]at cm Oi EE;have rz:dS (E.dM hA [cJ]) hB cy:=dS.bL ((af.jh (cU.kE hb)).jh (cU.kE gU)) yR (by omega);have rA:dS (E.dM hA [cJ]) js a9:=dS.bL (aL.jh (cU.kE gU)) yS (by omega);have Wx:dS (E.dM hA [cJ]) mm cn:=dS.bL cm (by omega) (by omega);simp[]
        -- lN result
        have low: ∀(r0:Bool) (ax:Int) (bf:Value) (iW:E),a7 hA iW->bP (E.dM iW [cJ]) bf (bL ax)->0<=ax->ax<a3 512->
            (bU Z 107 [.bool r0,bf,mm] iW λr N=>a7 iW N/\jj (E.dM N [cJ]) r (g4 ⟨r0,ax,cn⟩))/\0<=(g4 ⟨r0,ax,cn⟩).n/\0<=(g4 ⟨r0,ax,cn⟩).d:=by
          intro r0 ax bf iW ic M KE KF;exact⟨afg (kc (nz xY ic.next)) (dS.bL M KE KF) (Wx.sub (cU.kE ic)) KF EE (by omega),(JB (x:=⟨r0,ax,cn⟩) KE EE).1,Int.le_of_lt (Gx (x:=⟨r0,ax,cn⟩) EE).1⟩
        by_cases vM:x.bQ=y.bQ
        · have b8:oC x y=⟨x.bQ,cy+a9,cn⟩:=(by simp[oC,vM,lF,dt,g2]);rw[b8];simp[Uq,Ur,Us,Ut,Uu,Uv,bR,bA,wA,y6,vM];refine(aI8 (kc xY) rz rA (by omega)).aD λxa iW od=> ?_;obtain⟨ic,bf,rfl,M⟩:=od;have Fa:=ic.some wA;have xN:=ic.some AV;simp[bR,Fa,vM];obtain⟨Oh,dm,hN⟩:=low y.bQ (cy+a9) bf iW ic M (by omega) (by omega);refine Oh.aD λVl q8 A5=> ?_;obtain⟨qD,bz⟩:=A5;have rJ:=qD.some xN;simp[];refine(afc (kc (aO rJ)) bz dm hN).aD λOM Oj zl=> ?_;obtain⟨zY,qG,rfl,C3⟩:=zl;obtain⟨ez,du,bY,fj,dV,cN,rfl⟩:=C3.gz;have CM:=zY.some rJ;have ajP:=aO CM;simp(disch:=omega) [fv,CM];exact sr (((Oz.trans ic).trans qD).trans zY) (by omega) C3
        · have Ob:(x.bQ==y.bQ)=false:=(by simpa using vM);by_cases vL:a9<=cy
          · have bM:0<=ix cy a9:=(by unfold ix;rw[if_neg (by omega)];split<;>omega);have b8:oC x y=⟨x.bQ,cy-a9,cn⟩:=(by simp only[oC,vM,if_false,<-lF,<-dt,<-g2,vL,if_true]);rw[b8];simp[Uq,Ur,Us,Ut,Uu,Uv,bR,bA,wA,y6,Ob];refine(ON (rz.sub (cU.dM _ _)) (rA.sub (cU.dM _ _))).aD λGQ aHu YM=> ?_;obtain⟨tQ,rfl⟩:=YM;have Lr:=tQ.some AV;have aiW:=tQ.some wA;have aiX:=tQ.some y6;have rz:=rz.sub (cU.kE (l:=[cJ]) tQ);have rA:=rA.sub (cU.kE (l:=[cJ]) tQ);have H9:=aO Lr;simp[bM];refine(arx (kc H9) rz rA (by omega) vL).aD λxa iW od=> ?_;obtain⟨ic,bf,rfl,M⟩:=od;have Fa:=ic.some aiW;have xN:=ic.some Lr;simp[bR,Fa];obtain⟨Oh,dm,hN⟩:=low x.bQ (cy-a9) bf iW (tQ.trans ic) M (by omega) (by omega);refine Oh.aD λVl q8 A5=> ?_;obtain⟨qD,bz⟩:=A5;have rJ:=qD.some xN;simp[];refine(afc (kc (aO rJ)) bz dm hN).aD λOM Oj zl=> ?_;obtain⟨zY,qG,rfl,C3⟩:=zl;obtain⟨ez,du,bY,fj,dV,cN,rfl⟩:=C3.gz;have CM:=zY.some rJ;have ajP:=aO CM;simp(disch:=omega) [fv,CM];exact sr ((((Oz.trans tQ).trans ic).trans qD).trans zY) (by omega) C3
          · have bM: ¬0<=ix cy a9:=(by rw[AF (by omega)];omega);have b8:oC x y=⟨y.bQ,a9-cy,cn⟩:=(by simp only[oC,vM,if_false,<-lF,<-dt,<-g2,vL]);rw[b8];simp[Uq,Ur,Us,Ut,Uu,Uv,bR,bA,wA,y6,Ob];refine(ON (rz.sub (cU.dM _ _)) (rA.sub (cU.dM _ _))).aD λGQ aHu YM=> ?_;obtain⟨tQ,rfl⟩:=YM;have Lr:=tQ.some AV;have aiW:=tQ.some wA;have aiX:=tQ.some y6;have rz:=rz.sub (cU.kE (l:=[cJ]) tQ);have rA:=rA.sub (cU.kE (l:=[cJ]) tQ);have H9:=aO Lr;simp[bM];refine(arx (kc H9) rA rz (by omega) (by omega)).aD λxa iW od=> ?_;obtain⟨ic,bf,rfl,M⟩:=od;have XE:=ic.some aiX;have xN:=ic.some Lr;simp[bA,XE];obtain⟨Oh,dm,hN⟩:=low y.bQ (a9-cy) bf iW (tQ.trans ic) M (by omega) (by omega);refine Oh.aD λVl q8 A5=> ?_;obtain⟨qD,bz⟩:=A5;have rJ:=qD.some xN;simp[];refine(afc (kc (aO rJ)) bz dm hN).aD λOM Oj zl=> ?_;obtain⟨zY,qG,rfl,C3⟩:=zl;obtain⟨ez,du,bY,fj,dV,cN,rfl⟩:=C3.gz;have CM:=zY.some rJ;have ajP:=aO CM;simp(disch:=omega) [fv,CM];exact sr ((((Oz.trans tQ).trans ic).trans qD).trans zY) (by omega) C3
      have e:kh x y=mG (g4 (oC x y)):=(by simp[kh,hn,h5]);rw[e];exact tO _ (by simp) (by simp) (by simp)
    · have e:kh x y=(1,.zero):=(by simp[kh,h5]);rw[e];simp(disch:=omega) [h5,ba];exact sr kb (by omega) jj.zero
  · have e:kh x y=(1,.zero):=(by simp[kh,hn]);rw[e];simp(disch:=omega) [hn,ba];exact sr jo (by omega) jj.zero
end
end Go.Proofs.YtkpifdkccdndcaaGreat
namespace Go.Big
def x7(n:Int):bp:=⟨decide (n<0),n.natAbs,1⟩
theorem axR(n:Int):md n 1=1:=by simp[md]
theorem aG4(n:Int):g4 ⟨decide (n<0),n.natAbs,1⟩=x7 n:=by
  simp only[g4,axR,Int.ediv_one,x7];congr 1;by_cases h:n<0
  · simp[h];omega
  · simp[h]
theorem DU:bp.nil.ok=true:=by have:=BV;have:=k6 128;exact bp.rj.2 ⟨by decide,BV,by show(0:Int)<a3 128;omega⟩
theorem GL:bp.hS.ok=true:=bp.rj.2 ⟨by decide,BV,BV⟩
end Go.Big
namespace Go.Proofs.YtkpifdkccdndcaaGreat
open Go Go.DI Go.Big
section
variable {m:E} {l:List Nat} {v w:Value} {a b:Int} {x y:bp}
theorem arw{n:Int}(bH: -9223372036854775808<=n)(B:n<=9223372036854775807)(aI:Value->E->Prop):bU Z 139 [X n] m aI=aI (L n.natAbs) m:=by
  refine(oB.r5 ?_).wp;rw[avd (by simp)];by_cases k:n<0
  · have bc:IntKind.i64.wrap (n+1)=n+1:=fo (by omega) (by omega);have da:IntKind.i64.wrap (-(n+1))= -(n+1):=fo (by omega) (by omega);have a0u:IntKind.i64.wrap (0-(n+1))= -(n+1):=(by rw[fo (by omega) (by omega)];omega);have fB:IntKind.u64.wrap (-(n+1))= -(n+1):=fi (by omega) (by omega);have ij:IntKind.u64.wrap (-(n+1)+1)=n.natAbs:=(by rw[fi (by omega) (by omega)];omega);simp[R4,aak,aal,k,bc,da,fB,ij]
  · have w:IntKind.u64.wrap n=n.natAbs:=(by rw[fi (by omega) (by omega)];omega);simp[R4,aak,aal,k,w]
theorem ark{n:Int}(aE: ∀c∈l,c<m.next)(bH:0<=n)(B:n<18446744073709551616):bU Z 138 [L n] m λr N=>a7 m N/\bP (E.dM N l) r (bL n):=
  oE (λ_ _ _ M h=>h.jh M) aE (OQ bH B)
theorem asx{n:Int}(h:n<18446744073709551616):n<a3 512:=by
  have B:a3 2=18446744073709551616:=by simp[a3]
  have H:=aq2 (show 2<=512 by omega);omega
theorem aJz{n:Int}(bH: -9223372036854775808<=n)(B:n<=9223372036854775807):bU Z 99 [X n,X 1] m (p8 m (0,x7 n)):=by
  rw[av6 (by simp)];have M:= λN aI=>arw (m:=N) (n:=n) bH B aI;have nn:= λN aI=>arw (m:=N) (n:=1) (by omega) (by omega) aI;simp only[Int.natAbs_one,Hn]at nn;simp[adR,ape,apf,M];obtain⟨bk,ey⟩: ∃bk,bk=(m.bx 2).an m.next (some ⟨eg,true⟩):=⟨_,rfl⟩
  rw[<-ey];have fD:a7 m bk:=by rw[ey];exact((a7.refl m).bx 2).an (by omega)
  have aq:bk.U m.next=some ⟨eg,true⟩:=by rw[ey,cW (by simp)]
  refine(ark (l:=[m.next]) (kc (aO aq)) (by omega) (by omega)).aD λeT bo fG=> ?_;obtain⟨cA,B⟩:=fG;have aj:=cA.some aq;simp[nn];refine(ark (l:=[m.next]) (n:=1) (kc (aO aj)) (by omega) (by omega)).aD λfk cc e9=> ?_;obtain⟨dG,H⟩:=e9;have ba:=dG.some aj;simp;have lg: ∀r0:Bool,r0=decide (n<0)->bU Z 107 [.bool r0,eT,fk] cc λr N=>a7 cc N/\jj (E.dM N [m.next]) r (x7 n):=by intro r0 x1;subst x1;have:=afg (bQ:=decide (n<0)) (kc (aO ba)) (dS.bL (B.jh (cU.kE dG)) (by omega) (asx (by omega))) (dS.bL H (by omega) JL) (asx (by omega)) (by omega) JL;rw[aG4]at this;exact this
  refine(lg _ (by by_cases k:n<0<;>simp[k])).aD λhB gC jz=> ?_;obtain⟨e1,bz⟩:=jz;have cD:=e1.some ba;have L8:=aO cD;obtain⟨ez,du,bY,fj,dV,cN,rfl⟩:=bz.gz;simp(disch:=omega) [cD];exact sr (p:=(0,x7 n)) (((fD.trans cA).trans dG).trans e1) (by omega) bz
theorem Vp{n:Int}(bH: -9223372036854775808<=n)(B:n<=9223372036854775807):bU Z 33 [X n] m (Cj m (x7 n)):=by
  rw[avM (by simp)];simp[acx,anF,anG];obtain⟨bk,ey⟩: ∃bk,bk=((m.bx 1).an m.next (some ⟨eg,true⟩)).bx 8:=⟨_,rfl⟩;rw[<-ey];have fD:a7 m bk:=by rw[ey];exact(((a7.refl m).bx 1).an (by omega)).bx 8
  have aq:bk.U m.next=some ⟨eg,true⟩:=by rw[ey,E.gm,cW (by simp)]
  have A1:bU Z 99 [X n,X 1] bk λr N=>a7 bk N/\va (0,x7 n) r (E.dM N [m.next]):=oE va.sub (kc (aO aq)) (aJz bH B);refine A1.aD λeT bo fG=> ?_;obtain⟨cA,q,rfl,bz⟩:=fG;have aj:=cA.some aq;have ql:=aO aj;obtain⟨ez,du,bY,fj,dV,cN,rfl⟩:=bz.gz;have A4:=cA.next
  have nJ:bk.next=m.next+9:=by rw[ey];simp
  have mX:m.next+1+5<bo.next:=by omega
  have rZ:m.next≠m.next+1+5:=by omega
  simp(disch:=first|omega|simp only[b3];omega) [aj];have e2:bo.U (m.next+1+5)=none:=cA.none (by omega) (by rw[ey,E.gm,n6 (by simp)]);exact aid ((fD.trans cA).an (by omega)) (eB _) (bz.sub (cU.Xc e2))
theorem akE:x7 0= .nil:=rfl
theorem aAq:x7 1= .hS:=rfl
theorem jj.Wa{m:E}{v:Value}{x:bp}(h:jj m v x)(aa:x.ok=true)(bH:0<=x.n):iL m v x:=by obtain⟨B,H,af⟩:=CJ aa;exact h.Pn bH af (by omega) H
theorem Vt(F:iL m v x)(hn:x.ok=true):bU Z 30 [v] m λr N=>a7 m N/\r=X (iI x .nil):=by
  rw[avJ (by simp)];obtain⟨p,n,c,fb,cz,eH,rfl,_,_⟩:=F.gz;simp(disch:=first|omega|simp only[b3];omega) [acr,anB];obtain⟨bk,ey⟩: ∃bk,bk=(m.bx 2).an m.next (some ⟨[.bool x.bQ,.slice p n c,.slice fb cz eH],true⟩):=⟨_,rfl⟩
  rw[<-ey];have fD:a7 m bk:=by rw[ey];exact((a7.refl m).bx 2).an (by omega)
  have aq:bk.U m.next=some ⟨[.bool x.bQ,.slice p n c,.slice fb cz eH],true⟩:=by rw[ey,cW (by simp)]
  have cg:=aO aq;refine(Vp (n:=0) (by omega) (by omega)).aD λeT bo fG=> ?_;obtain⟨cA,bz⟩:=fG;rw[akE]at bz;refine yW cA (λp Y b K=>by simp at Y;rcases Y with rfl;simp[ai]at K;omega) ?_;simp;refine(afi ((F.aD fD).aD cA) (bz.Wa DU (by decide)) hn DU).aD λfk cc e9=> ?_;obtain⟨dG,rfl⟩:=e9;simp;exact(fD.trans cA).trans dG
theorem aru(F:iL m v x)(ab:iL m w y)(hn:x.ok=true)(h5:y.ok=true):bU Z 32 [v,w] m λr N=>a7 m N/\r= .bool (decide (iI x y=0)):=by
  rw[avL (by simp)];obtain⟨p,n,c,fb,cz,eH,rfl,_,_⟩:=F.gz;obtain⟨q,k,d,lK,gI,o4,rfl,_,_⟩:=ab.gz;simp(disch:=first|omega|simp only[b3];omega) [acw,anE];obtain⟨bk,ey⟩: ∃bk,bk=((m.bx 3).an m.next (some ⟨[.bool x.bQ,.slice p n c,.slice fb cz eH],true⟩)).an (m.next+1) (some ⟨[.bool y.bQ,.slice q k d,.slice lK gI o4],true⟩):=⟨_,rfl⟩;rw[<-ey];have fD:a7 m bk:=by rw[ey];exact(((a7.refl m).bx 3).an (by omega)).an (by omega)
  refine(afi (F.aD fD) (ab.aD fD) hn h5).aD λfk cc e9=> ?_;obtain⟨dG,rfl⟩:=e9;simp;exact fD.trans dG
theorem aJO(F:iL m v x)(ab:iL m w y)(hn:x.ok=true)(h5:y.ok=true):bU Z 110 [v,w] m λr N=>a7 m N/\r= .bool (decide (iI x y<0)):=by
  rw[auY (by simp)];obtain⟨p,n,c,fb,cz,eH,rfl,_,_⟩:=F.gz;obtain⟨q,k,d,lK,gI,o4,rfl,_,_⟩:=ab.gz;simp(disch:=first|omega|simp only[b3];omega) [ZA,akN];obtain⟨bk,ey⟩: ∃bk,bk=((m.bx 3).an m.next (some ⟨[.bool x.bQ,.slice p n c,.slice fb cz eH],true⟩)).an (m.next+1) (some ⟨[.bool y.bQ,.slice q k d,.slice lK gI o4],true⟩):=⟨_,rfl⟩;rw[<-ey];have fD:a7 m bk:=by rw[ey];exact(((a7.refl m).bx 3).an (by omega)).an (by omega)
  refine(afi (F.aD fD) (ab.aD fD) hn h5).aD λfk cc e9=> ?_;obtain⟨dG,rfl⟩:=e9;simp;exact fD.trans dG
theorem aJx{m:E}{l:List Nat}{v w:Value}{x y:bp}(aE: ∀c∈l,c<m.next)(F:iL (E.dM m l) v x)(ab:iL (E.dM m l) w y):bU Z 98 [v,w] m λr N=>a7 m N/\va (kh x y) r (E.dM N l):=
  oE va.sub aE (aJa F ab)
end
theorem aJC{m:E}{v:Value}{l:List bp}(S:iG.ax m v l)(fN:l.length<1000000){cJ ew:Nat}(aK:m.next<=cJ)(qj:m.next<=ew)(dE:cJ≠ew): ∀(dX:List bp) (i:Nat) (s:bp) (bk:E) (u:aM) (a b:Value),l.drop i=dX->i+dX.length=l.length->a7 m bk->
    bk.U cJ=some ⟨eg,true⟩->bk.U ew=some ⟨[.bool s.bQ,a,b],true⟩->jj (E.dM bk [cJ,ew]) (.agg #[.bool s.bQ,a,b]) s->0<=s.n->s.n<a3 128->0<=s.d->s.d<a3 128->
    u 2=cb cJ->u 4=cb ew->u 0=v->u 5=X i->
    cH Z (.loop Tl) u bk (tj 0 (tY Z Tk (eU [.h8 2 true 3,.bq 3] (p8 m (k7 s dX))))):=by
  intro dX;induction dX with
  | nil=>intro i s bk u a b ay ag ah aq vt M dm du hN j5 bR fv b1 cv;refine fc λcp aZ=> ?_;have e:i=l.length:=(by simpa using ag);subst e;obtain⟨ez,bM,bY,fj,dL,cN,bs⟩:=M.gz;simp only[Value.agg.injEq,Hi,ox,and_true]at bs;obtain⟨_,rfl,rfl⟩:=bs;have kl:=aO aq;have pa:=aO vt;obtain⟨B,H,_,_⟩:=(S.aD (cU.l1 ah)).len;simp(disch:=first|omega|simp only[b3];omega) [Tl,acu,acv,Tk,bR,fv,b1,cv,B,H,aq,vt];refine⟨ah.an aK,_,rfl,M.sub ?_⟩;rw[<-AI (m:=bk) (b:=cJ) (l:=[cJ,ew]) (x:=some ⟨[.bool s.bQ,.slice ez bM bY,.slice fj dL cN],true⟩) (by simp)];exact cU.dM _ _
  | cons x dX cB=>
    intro i s bk u a b ay ag ah aq vt M dm du hN j5 bR fv b1 cv;refine fc λcp aZ=> ?_;have F:l[i]?=some x:=(by rw[<-xu,ay];rfl);have nm:l.drop (i+1)=dX:=(by rw[<-yK,ay];rfl);simp only[nB]at ag;have KD:=z4;obtain⟨ez,bM,bY,fj,dL,cN,bs⟩:=M.gz;simp only[Value.agg.injEq,Hi,ox,and_true]at bs;obtain⟨_,rfl,rfl⟩:=bs;have kl:=aO aq;have pa:=aO vt;have hR:=ah.next
    have qn:=S.aD (cU.yZ (l:=[cJ,ew]) ah (ast aK qj));obtain⟨B,H,af,aL⟩:=S.len
    replace af:kr 3 v=true:=af
    have bn:(i:Int)<l.length:=(by omega);obtain⟨q,n,c,lK,cz,eH,bh,bt,k1⟩:=iG.fu qn (cU.dM bk [cJ,ew]) F;have WG:= λk=>show g8 (bk.bx k) (mH v 3 (i:Int)) 3=true by obtain⟨_,_,_,_,_,_,a,_⟩:=iG.fu qn ((cU.dM bk [cJ,ew]).trans (cU.bx bk k)) F;exact a
    have WH:= λk=>show k4 (bk.bx k) true 3 (mH v 3 (i:Int))= .agg #[.bool x.bQ,.slice q n c,.slice lK cz eH] by obtain⟨b,o,cs,w,aX,bg,dU,ha⟩:=(S.aD (cU.l1 ah)).qb F;have kF:=(cU.bx bk k).U _ _ bg;rw[<-bt,show iG.O=3 from rfl]at*;rw[aX];simp[bg,kF]
    have bc:=e7 (n:=i) (by omega);simp(disch:=omega) [Tl,acu,acv,Tk,fv,b1,cv,bn,B,H,af,WG,WH,vt];obtain⟨bB,iz⟩: ∃bB,bB=bk.bx 12:=⟨_,rfl⟩;rw[<-iz];have kp:a7 bk bB:=(by rw[iz];exact(a7.refl bk).bx 12);have ayp:bB.next=bk.next+12:=by rw[iz];simp
    have xO:=kp.some aq;have Lv:=kp.some vt;refine(aJx (asu (aO xO) (aO Lv)) ((M.Pn dm (by omega) hN (by omega)).sub (cU.kE kp)) (k1.sub (cU.kE kp))).aD λr hA h9=> ?_;obtain⟨gU,hy,rfl,aH⟩:=h9;obtain⟨gK,fp,dI,l2,mX,gE,rfl⟩:=aH.gz;have iU:=gU.some xO;have Ls:=gU.some Lv;have xY:=aO iU;have YA:=aO Ls;have e2:hA.U (bk.next+9)=none:=gU.none (by omega) (by rw[iz,E.gm,n6 (by simp)]);have YG:=gU.next
    have ayP:bk.next+9<hA.next:=by omega
    have cr:=k1.dm;by_cases k:(kh s x).1=0
    · obtain⟨iF,aX,bg,dU⟩:=PR dm cr k;have b8:k7 s (x::dX)=k7 (kh s x).2 dX:=(by rw[k7,if_pos k]);rw[b8]at aZ⊢;have aHJ:ew≠bk.next+9:=by omega
      have Ot:cJ≠bk.next+9:=by omega
      simp(disch:=omega) [fv,cv,k,Ls,bc];obtain⟨mw,A0⟩: ∃mw:Option fV,mw=some ⟨[.bool (kh s x).2.bQ,.slice gK fp dI,.slice l2 mX gE],true⟩:=⟨_,rfl⟩;rw[<-A0];refine aZ _ _ (cB (i+1) (kh s x).2 ((hA.an (bk.next+9) mw).an ew mw) _ (.slice gK fp dI) (.slice l2 mX gE) nm (by omega) ((((ah.trans kp).trans gU).an (i:=bk.next+9) (by omega)).an qj) (by rw[dC dE,dC Ot,iU]) (by rw[cW (by simpa using YA),A0]) ?_ iF aX bg dU (by simp[bR]) (by simp[fv]) (by simp[b1]) (by simp));rw[AI (by simp)];exact aH.sub (cU.Xc e2)
    · have b8:k7 s (x::dX)=((kh s x).1,.zero):=(by rw[k7,if_neg k]);rw[b8];have Ot:cJ≠bk.next+9:=by omega
      simp(disch:=first|omega|simp only[b3];omega) [bR,k,iU];exact⟨((((ah.trans kp).trans gU).an (i:=bk.next+9) (by omega)).an aK),_,rfl,jj.zero⟩
theorem aJD{m:E}{v:Value}{l:List bp}(S:iG.ax m v l)(fN:l.length<1000000):bU Z 31 [v] m (p8 m (k7 .nil l)):=by
  rw[avK (by simp)];simp(disch:=omega) [acs,anC,anD];obtain⟨bk,ey⟩: ∃bk,bk=((m.bx 2).an m.next (some ⟨eg,true⟩)).bx 3:=⟨_,rfl⟩;rw[<-ey];have fD:a7 m bk:=by rw[ey];exact(((a7.refl m).bx 2).an (by omega)).bx 3
  have aq:bk.U m.next=some ⟨eg,true⟩:=by rw[ey,E.gm,cW (by simp)]
  have av:bk.next=m.next+5:=by rw[ey];simp
  have Yh:bk.U (m.next+2+1)=none:=by rw[ey,E.gm,n6 (by simp)]
  have zj:bU Z 33 [X 0] bk λr N=>a7 bk N/\jj (E.dM N [m.next]) r .nil:=oE Cj.sub (kc (aO aq)) (by have:=Vp (m:=E.dM bk [m.next]) (n:=0) (by omega) (by omega);rw[akE]at this;exact this);refine zj.aD λr bo Y=> ?_;obtain⟨cA,B⟩:=Y;have aj:=cA.some aq;have ql:=aO aj;have A4:=cA.next
  have e2:bo.U (m.next+2+1)=none:=cA.none (by omega) Yh;have Yg:m.next+2+1<bo.next:=by omega
  obtain⟨fP,dX,DJ,adZ⟩:=S.len;obtain⟨p,n,c,fb,cz,eH,rfl⟩:=B.gz;simp(disch:=first|omega|simp only[b3];omega) [];refine aJC S fN (cJ:=m.next) (ew:=m.next+2+1) (by omega) (by omega) (by omega) l 0 bp.nil (bo.an (m.next+2+1) (some ⟨[.bool bp.nil.bQ,.slice p n c,.slice fb cz eH],true⟩)) _ (.slice p n c) (.slice fb cz eH) rfl (by simp) ((fD.trans cA).an (i:=m.next+2+1) (by omega)) (by rw[dC (by omega),aj]) (by rw[cW Yg]) ?_ (by decide) (k6 _) (by decide) BV (by simp) (by simp) (by simp) (by simp);rw[AI (by simp)];refine B.sub ⟨eB _,λb y K=> ?_⟩;have uD:b∉[m.next]:= λoa=>by rw[Hx oa]at K;cases K
  rw[AH uD]at K;rw[AH,K];intro oa;simp at oa uD;rcases oa with h|h
  · exact uD h
  · rw[h,e2]at K;cases K
end Go.Proofs.YtkpifdkccdndcaaGreat
