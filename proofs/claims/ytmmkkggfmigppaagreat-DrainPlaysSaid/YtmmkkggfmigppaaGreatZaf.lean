/-
  A part of the proof, shortened by tools of ours.
-/
import Derived.LoopN
import Derived.StillTail
import Derived.Test.YtmmkkggfmigppaaGreatZae
set_option linter.all false
set_option maxRecDepth 8000
set_option maxHeartbeats 16000000
namespace Go.DI
open Go Go.RowKit
section
variable {P:Program} {z c6:aC} {m cI:H} {aN:Nat} {b4:Callee} {base:Nat}
theorem Fa{l:List Nat}{d:Nat}(h:uU l (some d)=true):d∉l:=by simpa[uU]using h
theorem Aw{d:Option Nat}{v:Value}{t:Nat}(h:d≠some t):cZ z d v t=z t:=by
 cases d with
 |none=>rfl
 | some d=>have:t≠d:= λe=>h (by rw[e]);simp[cZ,k7,this]
theorem Cy{d e:Option Nat}{bf v:Value}(h: ∀x,d=some x->e≠some x):cZ (cZ z d bf) e v=cZ (cZ z e v) d bf:=by
 cases d with
 |none=>rfl
 | some d=>
   cases e with
   |none=>rfl
   | some e=>
     have bG:d≠e:= λx=>h d rfl (by rw[x]);funext t;simp only[cZ,k7];by_cases A:t=e
     ·subst A;simp[Ne.symm bG]
     ·simp[A]
theorem CR{l:List Operand}{x:Operand}{t:Nat}(B:x∈l)(ba:x= .tmp t):t∈IF l:=by subst ba;exact xM.2 ⟨_,B,rfl⟩
theorem Az{o:cO}{d:Option Nat}{v:Value}(h:uU o.yY d=true): ∀x∈o.k.hO,O (cZ z d v) x=O z x:=by intro x B;refine Bn λt ba=>Aw λaV=> ?_;subst aV;exact Fa h (oR _ (CR B ba))
theorem uY{o:cO}{d:Option Nat}{v:Value}(h:uU o.yY d=true):eX (cZ z d v) o.g=eX z o.g:=by
 cases aH:o.g with
 |none=>rfl
 | some CW=>obtain⟨t,b⟩:=CW;simp only[eX];rw[Aw λaV=> ?_];subst aV;exact Fa h (nR _ (by simp[aH]))
theorem abv{k:ah}: ∀x∈k.nm++k.oP,x∈k.hO:=by
 intro x B;cases k<;>simp[ah.nm,ah.oP]at B<;>simp[ah.hO,B]
 ·rcases B with h|h|h<;>simp[h]
theorem Uk{o:cO}(aS:eX z o.g=true)(ar:o.k.fF z m=none){s:aC×H}(h:iq b4 base o z m=some s):
 o.k.ok z m=true/\s=(cZ z o.d (o.k.val (base+o.aW) z m),o.k.hd (base+o.aW) z m):=by
 unfold iq at h;rw[if_pos aS,ar]at h;simp only at h;split at h
 ·rename_i av;cases h;exact⟨av,rfl⟩
 ·cases h
theorem apN{o:cO}(aS:eX z o.g=true)(ar:o.k.fF z m=none)(av:o.k.ok z m=true):
 iq b4 base o z m=some (cZ z o.d (o.k.val (base+o.aW) z m),o.k.hd (base+o.aW) z m):=by
 unfold iq;rw[if_pos aS,ar];simp only[av,if_true]
theorem IJ{o:cO}(D8:o.k.yz=false)(aS:eX z o.g=true)(ar:o.k.fF z m=none){s:aC×H}(h:iq b4 base o z m=some s):
 o.k.ok z m=true/\s=(cZ z o.d (o.k.val (base+o.aW) z m),jt m (o.k.gW (base+o.aW) z m)):=by
 unfold iq at h;rw[if_pos aS,ar]at h;simp only at h;split at h
 ·rename_i av;cases h;exact⟨av,by rw[<-am5 D8]⟩
 ·cases h
theorem IK{o:cO}(D8:o.k.yz=false)(aS:eX z o.g=true)(ar:o.k.fF z m=none)(av:o.k.ok z m=true):
 iq b4 base o z m=some (cZ z o.d (o.k.val (base+o.aW) z m),jt m (o.k.gW (base+o.aW) z m)):=by
 unfold iq;rw[if_pos aS,ar];simp only[av,if_true,am5 D8]
theorem II{o:cO}(aS:eX z o.g=true){f:Nat}{args:List Value}(ar:o.k.fF z m=some (f,args)){s:aC×H}(h:iq b4 base o z m=some s):
 ∃v U,b4 f args m=some (v,U)/\s=(cZ z o.d v,U):=by
 unfold iq at h;rw[if_pos aS,ar]at h;simp only at h;split at h
 ·rename_i v U a5;cases h;exact⟨v,U,a5,rfl⟩
 ·cases h
theorem NS{o:cO}(aS:eX z o.g=true){f:Nat}{args:List Value}(ar:o.k.fF z m=some (f,args)){v:Value}{U:H}(h:b4 f args m=some (v,U)):
 iq b4 base o z m=some (cZ z o.d v,U):=by
 unfold iq;rw[if_pos aS,ar];simp only[h]
theorem CT{o:cO}(aS:eX z o.g=false):iq b4 base o z m=some (cZ z o.d undef,m):=by unfold iq;rw[if_neg (by rw[aS];simp)]
theorem OZ{k:ah}{ml:Nat×List Value}(h:k.fF z m=some ml):k.ln=true:=by cases k<;>first|rfl|(simp[ah.fF]at h)
theorem uJ{k:ah}(h:k.ln=false):k.fF z m=none:=by cases k<;>first|rfl|(simp[ah.ln]at h)
theorem Vj{o:cO}(aS:eX z o.g=true)(ar:o.k.fF z m=none){s:aC×H}(h:iq b4 base o z m=some s):o.k.ln=false:=
 To (Uk aS ar h).1
def aek(k i:cO)(z:aC)(m U:H):Prop:=
 eX z i.g=true->match i.k.fF z m with
  |some _=> ∀p∈rR k i,∀b,ak (O z p.1)=some b->U.I b=m.I b
  |none=> ∀p∈rR k i,∀a b,ak (O z p.1)=some a->ak (O z p.2)=some b->a≠b
theorem O6{o:cO}{d:Option Nat}{v:Value}{U:H}(al:uU (o.yY++o.afw) d=true){E3 MH:H}
 (BO:o.k.ln=true->E3=m/\MH=U) (h:qz o z m U):qz o (cZ z d v) E3 MH:=by
 have A:uU o.yY d=true:=by
  cases d with
  |none=>rfl
  |some d=>simp[uU]at al⊢;exact al.1
 have hj: ∀p∈o.bd,O (cZ z d v) p.1=O z p.1/\O (cZ z d v) p.2=O z p.2:=by
  intro p Z;constructor
  ·refine Bn λt ba=>Aw λaV=> ?_;subst aV;exact Fa al (nR _ (oR _ (CR (gG.2 ⟨p,Z,rfl⟩) ba)))
  ·refine Bn λt ba=>Aw λaV=> ?_;subst aV;exact Fa al (nR _ (nR _ (CR (gG.2 ⟨p,Z,rfl⟩) ba)))
 intro aS;rw[uY A]at aS;have:=h aS;have gP:o.k.fF (cZ z d v) E3=o.k.fF z m:=by
  rw[(zz (m:=E3) (id:=0) (Az A)).2.2.2];cases DZ:o.k.ln with
  |true=>rw[(BO DZ).1]
  |false=>rw[uJ DZ,uJ DZ]
 rw[gP];cases ar:o.k.fF z m with
 | some ml=>rw[ar]at this;simp only at this⊢;obtain⟨rfl,rfl⟩:=BO (OZ ar);intro p Z b hb;rw[(hj p Z).1]at hb;exact this p Z b hb
 | none=>rw[ar]at this;simp only[iX,dP]at this⊢;intro p Z;obtain⟨x,y⟩:=p;have:=this (x,y) Z;simp only at this⊢;rw[(hj _ Z).1,(hj _ Z).2];exact this
theorem aHx{P:Program}{aN:Nat}(cu:sa P aN b4){k i:cO}{uo:List Nat}{c6 zi:aC}{cI qV:H}(PS:sj k i uo=true)(tn:k.aW≠i.aW)(Wq:i.k.fv=true->m.I (base+i.aW)=none)(dm:i.k.fv=true->base+i.aW<m.next)
 (A:iq b4 base k z m=some (c6,cI)) (hj:qz k z m cI) (D:iq b4 base i c6 cI=some (zi,qV)) (dh:aek k i c6 cI qV):
 ∃bQ bn,iq b4 base i z m=some (bQ,bn)/\iq b4 base k bQ bn=some (zi,qV)/\qz k bQ bn qV/\(i.k.ln=true->eX z i.g=true->m=cI/\bn=qV):=by
 simp only[sj,a6]at PS;obtain⟨⟨⟨⟨⟨tr,ym⟩,sn⟩,k1⟩,agY⟩,wW⟩:=PS
 replace tr:k.k.yz=false:=by simpa using tr
 replace ym:i.k.yz=false:=by simpa using ym
 have yh:uU k.yY i.d=true:=by
  cases aV:i.d with
  |none=>rfl
  |some d=>rw[aV]at sn;simp[uU]at sn⊢;exact sn.1
 have yc: ∀x,k.d=some x->i.d≠some x:=by intro x B Y;rw[B,Y]at agY;simp at agY
 by_cases rH:eX z k.g=true
 ·by_cases sr:eX z i.g=true
  ·cases rB:k.k.fF z m with
   | some ml=>
     -- k afi;i aqa fL aRH
     obtain⟨f,args⟩:=ml;have uA:=OZ rB;obtain⟨v,U,aD,aJ⟩:=II rH rB A;cases aJ;have m6:i.k.ln=false:=by
      by_cases h:i.k.ln=true
      ·rw[if_pos h]at wW;simp[uA]at wW
      ·simpa using h
     rw[if_neg (by rw[m6];simp),if_pos uA]at wW;simp only[a6,List.isEmpty_iff]at wW;obtain⟨WZ,Xe⟩:=wW;have BT:eX (cZ z k.d v) i.g=true:=(by rw[uY k1];exact sr);obtain⟨av,cg⟩:=IJ ym BT (uJ m6) D;cases cg;obtain⟨b6,cR,lz,_⟩:=zz (k:=i.k) (m:=cI) (id:=base+i.aW) (Az (z:=z) (v:=v) k1);obtain⟨fW,gI,iO⟩:=Pb (k:=i.k) (z:=z) (id:=base+i.aW) (m:=cI) (cI:=m) ym (by rw[WZ];simp);have P0: ∀p∈i.k.gW (base+i.aW) z m,i.k.fv=true/\p.1=base+i.aW:= λp Z=>by
      rcases IV (k:=i.k) (id:=base+i.aW) (z:=z) (m:=m) p Z with h|⟨x,B,_⟩
      ·exact⟨h.1,h.2.1⟩
      ·rw[Xe]at B;cases B
     -- adW oN pR new block aSw aYg pR lA
     have awi: ∀(l:List (Nat×Option eM)) (yC g5:H),(∀p∈l,i.k.fv=true/\p.1=base+i.aW)->b4 f args yC=some (v,g5)->(l≠[]->base+i.aW<yC.next/\yC.I (base+i.aW)=none)->
      b4 f args (jt yC l)=some (v,jt g5 l)/\(l=[]\/ ∃y,jt yC l=yC.aO (base+i.aW) y/\jt g5 l=g5.aO (base+i.aW) y):=by
      intro l yC g5 az vy BM;have BO: ∀(l:List (Nat×Option eM)) (x:Option eM),(∀p∈l,p.1=base+i.aW)-> ∃y,∀cX:H,jt (cX.aO (base+i.aW) x) l=cX.aO (base+i.aW) y:=by
       intro l;induction l with
       |nil=>intro x _;exact⟨x,λ_=>rfl⟩
       | cons p l cf=>
         intro x Z;obtain⟨y,Y⟩:=cf p.2 (λq bo=>Z q (by simp[bo]));refine⟨y,λcX=> ?_⟩;have e:p.1=base+i.aW:=Z p (by simp);have:(cX.aO (base+i.aW) x).aO p.1 p.2=cX.aO (base+i.aW) p.2:=by rw[e];simp only[H.aO,H.mk.injEq,true_and,and_true];funext j;by_cases aX:j=base+i.aW<;>simp[aX]
         show jt ((cX.aO (base+i.aW) x).aO p.1 p.2) l=_;rw[this,Y]
      cases l with
      |nil=>exact⟨vy,.inl rfl⟩
      | cons p l=>obtain⟨y,Y⟩:=BO l p.2 (λq bo=>(az q (by simp[bo])).2);have e:p.1=base+i.aW:=(az p (by simp)).2;have nz:jt yC (p::l)=yC.aO (base+i.aW) y:=(by show jt (yC.aO p.1 p.2) l=_;rw[e,Y]);have dO:jt g5 (p::l)=g5.aO (base+i.aW) y:=(by show jt (g5.aO p.1 p.2) l=_;rw[e,Y]);rw[nz,dO];obtain⟨bF,cW⟩:=BM (by simp);exact⟨(cu _ _ _ _ _ vy).2.2.2.1 _ y bF cW,.inr ⟨y,rfl,rfl⟩⟩
     obtain⟨ef,e2⟩:=awi (i.k.gW (base+i.aW) z m) m cI P0 aD (λbG=>by obtain⟨p,Z⟩:=List.exists_mem_of_ne_nil _ bG;have:=(P0 p Z).1;exact⟨dm this,Wq this⟩);have agZ:k.k.fF z (jt m (i.k.gW (base+i.aW) z m))=some (f,args):=by
      rcases e2 with h|⟨y,Y,_⟩
      ·rw[h];exact rB
      ·rw[Y];by_cases fl:i.k.fv=true
       ·exact UP.OY ⟨rfl,dm fl,Wq fl⟩ rB
       ·have:i.k.gW (base+i.aW) z m=[]:=by
         cases az:i.k.gW (base+i.aW) z m with
         |nil=>rfl
         |cons p l=>exact absurd (P0 p (by rw[az];simp)).1 fl
        rw[this]at Y;rw[<-Y];exact rB
     refine⟨_,_,IK ym sr (uJ m6) (by rw[<-fW,<-b6];exact av),?_,?_,λh=>by rw[m6]at h;cases h⟩
     ·have avv:k.k.fF (cZ z i.d (i.k.val (base+i.aW) z m)) (jt m (i.k.gW (base+i.aW) z m))=some (f,args):=(by rw[(zz (m:=jt m (i.k.gW (base+i.aW) z m)) (id:=0) (Az yh)).2.2.2];exact agZ);rw[cR,lz,gI,iO];have:=NS (b4:=b4) (base:=base) (m:=jt m (i.k.gW (base+i.aW) z m)) (by rw[uY yh];exact rH) avv ef;rw[this,Cy yc]
     ·rw[lz,iO];refine O6 sn (λ_=>⟨rfl,rfl⟩) (λaS=> ?_);have bY:=hj aS;rw[rB]at bY;rw[agZ];simp only at bY⊢;rcases e2 with h|⟨y,Y,KK⟩
      ·rw[h];exact bY
      ·rw[Y,KK];intro q bo b hb;have:=bY q bo b hb;by_cases Km:b=base+i.aW
       ·subst Km;have ae:i.k.gW (base+i.aW) z m=[]\/i.k.fv=true:=by
         cases az:i.k.gW (base+i.aW) z m with
         |nil=>exact .inl rfl
         |cons p l=>exact .inr (P0 p (by rw[az];simp)).1
        rcases ae with ae|fl
        ·rw[ae]at Y KK;rw[<-Y,<-KK];exact this
        ·rw[H.mK,H.mK,if_pos rfl,if_pos rfl,if_pos (dm fl),if_pos (ql (dm fl) (cu _ _ _ _ _ aD).2.1)]
       ·rw[H.mK,H.mK,if_neg Km,if_neg Km];exact this
   | none=>
     have uA:=Vj rH rB A;obtain⟨Ec,aD⟩:=IJ tr rH rB A;cases aD;have BT:eX (cZ z k.d (k.k.val (base+k.aW) z m)) i.g=true:=(by rw[uY k1];exact sr);obtain⟨b6,cR,lz,ji⟩:=zz (k:=i.k) (m:=jt m (k.k.gW (base+k.aW) z m)) (id:=base+i.aW) (Az (z:=z) (v:=k.k.val (base+k.aW) z m) k1);have n5:=dh BT;cases gP:i.k.fF z (jt m (k.k.gW (base+k.aW) z m))with
     | some ml=>
       -- i afi;k adW aR6
       obtain⟨f,args⟩:=ml;have m6:=OZ gP;rw[if_pos m6]at wW;simp only[a6,r7,List.isEmpty_iff]at wW;obtain⟨⟨⟨_,fl⟩,Xe⟩,W3⟩:=wW;have ahY:k.k.gW (base+k.aW) z m=[]:=by
        cases az:k.k.gW (base+k.aW) z m with
        |nil=>rfl
        | cons p l=>
          rcases IV (k:=k.k) (id:=base+k.aW) (z:=z) (m:=m) p (by rw[az];simp)with h|⟨x,B,_⟩
          ·rw[fl]at h;cases h.1
          ·rw[Xe]at B;cases B
       rw[ahY]at D n5 gP ji⊢;have zZ:jt m []=m:=rfl;rw[zZ]at D n5 gP ji;rw[ji,gP]at n5;simp only at n5;obtain⟨v,U,aE,a2⟩:=II BT (by rw[ji];exact gP) D;cases a2;refine⟨_,_,NS sr gP aE,?_,?_,λ_ _=>⟨rfl,rfl⟩⟩
       ·obtain⟨fW,gI,iO⟩:=Pb (k:=k.k) (z:=z) (id:=base+k.aW) (m:=m) (cI:=qV) tr (λx B b hb=>by
         have Z:(x,x)∈rR k i:=(by simp only[rR,m6,if_true];exact gG.2 ⟨x,B,rfl⟩);have awK:O (cZ z k.d (k.k.val (base+k.aW) z m)) x=O z x:=Bn λt ba=>Aw λaV=>by have:=dP.1 W3 t (CR B ba);simp[aV]at this
         exact(n5 (x,x) Z b (by rw[awK];exact hb)).symm)
        obtain⟨eD,eS,gN,f4⟩:=zz (k:=k.k) (m:=qV) (id:=base+k.aW) (Az (z:=z) (d:=i.d) (v:=v) yh);have:=IK (b4:=b4) (base:=base) (m:=qV) (z:=cZ z i.d v) (o:=k) tr (by rw[uY yh];exact rH) (uJ uA) (by rw[eD,<-fW];exact Ec);rw[this,eS,gN,<-gI,<-iO,ahY,Cy yc];rfl
       ·exact O6 sn (λh=>by rw[uA]at h;cases h) hj
     | none=>
       -- aRQ afi
       have m6:=Vj (by rw[<-uY k1 (z:=z)]at sr;exact sr) (by rw[ji];exact gP) D;rw[ji,gP]at n5;simp only at n5;rw[if_neg (by rw[m6];simp),if_neg (by rw[uA];simp)]at wW;simp only[a6,ua,r7]at wW;obtain⟨fl,W3⟩:=wW;obtain⟨WM,cg⟩:=IJ ym BT (uJ m6) D;rw[b6]at WM;rw[cR,lz]at cg
       -- pR aSp aM7,at aNV aXv
       have Xj: ∀x∈k.k.nm++k.k.oP,O (cZ z k.d (k.k.val (base+k.aW) z m)) x=O z x:=(by intro x B;refine Bn λt ba=>Aw λaV=> ?_;have:=dP.1 W3 t (CR B ba);simp[aV]at this);have Qg: ∀y∈i.k.nm++i.k.oP,O (cZ z k.d (k.k.val (base+k.aW) z m)) y=O z y:= λy Y=>Az k1 y (abv y Y);have P6:rR k i=((k.k.oP++(if k.k.fv then Pf k.d else[])).flatMap λx=>(i.k.nm++i.k.oP).map λy=>(x,y))++k.k.nm.flatMap λx=>i.k.oP.map λy=>(x,y):=by simp only[rR,m6,uA,je,if_false]
       -- aQ1 adW do not aCT aqB i aqa
       have dq: ∀p∈k.k.gW (base+k.aW) z m,∀y∈i.k.nm++i.k.oP,∀b,ak (O z y)=some b->p.1≠b:=by
        intro p Z y Y b hb;rcases IV (k:=k.k) p Z with⟨aa,e,Wi⟩|⟨x,B,Wk⟩
        ·rcases fl with fl|fl
         ·rw[fl]at aa;cases aa
         ·obtain⟨d,aV⟩:=Om.1 fl.1;have:=n5 (.tmp d,y) (by
           rw[P6];refine oR _ (wm.2 ⟨.tmp d,?_,gG.2 ⟨y,Y,rfl⟩⟩);simp[aa,aV,Pf]) (base+k.aW) b (by simp only[O,aV,cZ,k7,if_true];exact Wi) (by rw[Qg y Y];exact hb)
          rw[e];exact this
        ·exact n5 (x,y) (by rw[P6];exact oR _ (wm.2 ⟨x,oR _ B,gG.2 ⟨y,Y,rfl⟩⟩)) p.1 b (by rw[Xj x (nR _ B)];exact Wk) (by rw[Qg y Y];exact hb)
       obtain⟨fW,gI,iO⟩:=Pb (k:=i.k) (z:=z) (id:=base+i.aW) (m:=jt m (k.k.gW (base+k.aW) z m)) (cI:=m) ym (λy Y b hb=>VW _ _ _ λp Z=>dq p Z y (oR _ Y) b hb);rw[fW]at WM;rw[gI,iO]at cg;cases cg
       -- aPp adW do not aCT aqB k aqa
       have aqC: ∀p∈i.k.gW (base+i.aW) z m,∀x∈k.k.nm++k.k.oP,∀b,ak (O z x)=some b->p.1≠b:=by
        intro p Z x B b hb e;rcases IV (k:=i.k) p Z with⟨aa,aJ,Wi⟩|⟨y,Y,PQ⟩
        ·have:=aDB Ec x B b hb;rw[<-e,aJ,Wq aa]at this;cases this
        ·rcases js.1 B with hk|hk
         ·exact n5 (x,y) (by rw[P6];exact nR _ (wm.2 ⟨x,hk,gG.2 ⟨y,Y,rfl⟩⟩)) b p.1 (by rw[Xj x B];exact hb) (by rw[Qg y (nR _ Y)];exact PQ) e.symm
         ·exact n5 (x,y) (by rw[P6];exact oR _ (wm.2 ⟨x,oR _ hk,gG.2 ⟨y,nR _ Y,rfl⟩⟩)) b p.1 (by rw[Xj x B];exact hb) (by rw[Qg y (nR _ Y)];exact PQ) e.symm
       have aIx: ∀p∈k.k.gW (base+k.aW) z m,∀q∈i.k.gW (base+i.aW) z m,p.1≠q.1:=by
        intro p Z q bo e;rcases IV (k:=i.k) q bo with⟨aa,aJ,Wi⟩|⟨y,Y,PQ⟩
        ·rcases IV (k:=k.k) p Z with⟨_,cg,_⟩|⟨x,B,Wk⟩
         ·omega
         ·exact aqC q bo x (nR _ B) p.1 Wk e.symm
        ·exact dq p Z y (nR _ Y) q.1 PQ e
       refine⟨_,_,IK ym sr (uJ m6) WM,?_,?_,λh=>by rw[m6]at h;cases h⟩
       ·obtain⟨eD,eS,gN,f4⟩:=zz (k:=k.k) (m:=jt m (i.k.gW (base+i.aW) z m)) (id:=base+k.aW) (Az (z:=z) (d:=i.d) (v:=i.k.val (base+i.aW) z m) yh);obtain⟨aE,a2,cj⟩:=Pb (k:=k.k) (z:=z) (id:=base+k.aW) (m:=jt m (i.k.gW (base+i.aW) z m)) (cI:=m) tr (λx B b hb=>VW _ _ _ λp Z=>aqC p Z x (oR _ B) b hb);have:=IK (b4:=b4) (base:=base) (m:=jt m (i.k.gW (base+i.aW) z m)) (z:=cZ z i.d (i.k.val (base+i.aW) z m)) (o:=k) tr (by rw[uY yh];exact rH) (uJ uA) (by rw[eD,aE];exact Ec);rw[this,eS,gN,a2,cj,Cy yc,aeL _ _ m aIx]
       ·exact O6 sn (λh=>by rw[uA]at h;cases h) hj
  ·-- i B9 aDK over
   have KH:eX z i.g=false:=(by simpa using sr);have ie: ∃v,c6=cZ z k.d v:=by
    cases rB:k.k.fF z m with
    |some ml=>obtain⟨v,U,_,e⟩:=II rH rB A;cases e;exact⟨v,rfl⟩
    |none=>obtain⟨_,e⟩:=IJ tr rH rB A;cases e;exact⟨_,rfl⟩
   obtain⟨v,rfl⟩:=ie;rw[CT (by rw[uY k1];exact KH)]at D;cases D;refine⟨_,_,CT KH,?_,O6 sn (λ_=>⟨rfl,rfl⟩) hj,λ_ h=>absurd h sr⟩;have ahX:eX (cZ z i.d undef) k.g=true:=(by rw[uY yh];exact rH);obtain⟨eD,eS,gN,f4⟩:=zz (k:=k.k) (m:=m) (id:=base+k.aW) (Az (z:=z) (d:=i.d) (v:=undef) yh);cases rB:k.k.fF z m with
   | some ml=>obtain⟨f,args⟩:=ml;obtain⟨bf,U,aE,a2⟩:=II rH rB A;have aD:=congrArg Prod.fst a2;have aJ:=congrArg Prod.snd a2;simp only at aD aJ;subst aJ;have cg:cZ (cZ z i.d undef) k.d bf=cZ (cZ z k.d bf) i.d undef:=(Cy yc).symm;rw[NS ahX (by rw[f4];exact rB) aE,cg,<-aD]
   | none=>obtain⟨av,a2⟩:=IJ tr rH rB A;have aD:=congrArg Prod.fst a2;have aJ:=congrArg Prod.snd a2;simp only at aD aJ;subst aJ;have cg:cZ (cZ z i.d undef) k.d (k.k.val (base+k.aW) z m)=cZ (cZ z k.d (k.k.val (base+k.aW) z m)) i.d undef:=(Cy yc).symm;rw[IK tr ahX (by rw[f4];exact rB) (by rw[eD];exact av),eS,gN,cg,<-aD]
 ·-- k B9 aDK over
  have ahW:eX z k.g=false:=(by simpa using rH);rw[CT ahW]at A;cases A;have qL: ∀v cX,iq b4 base k (cZ z i.d v) cX=some (cZ (cZ z i.d v) k.d undef,cX):= λv cX=>CT (by rw[uY yh];exact ahW);have Wm: ∀v E3 MH,qz k (cZ z i.d v) E3 MH:= λv E3 MH aS=>by rw[uY yh]at aS;exact absurd aS rH
  obtain⟨eD,eS,gN,f4⟩:=zz (k:=i.k) (m:=m) (id:=base+i.aW) (Az (z:=z) (d:=k.d) (v:=undef) k1);by_cases sr:eX z i.g=true
  ·have BT:eX (cZ z k.d undef) i.g=true:=(by rw[uY k1];exact sr);cases gP:i.k.fF z m with
   | some ml=>obtain⟨f,args⟩:=ml;obtain⟨bf,U,aE,a2⟩:=II BT (by rw[f4];exact gP) D;cases a2;exact⟨_,_,NS sr gP aE,by rw[qL,Cy yc],Wm _ _ _,λ_ _=>⟨rfl,rfl⟩⟩
   | none=>obtain⟨av,a2⟩:=IJ ym BT (by rw[f4];exact gP) D;have m6:=To av;rw[eS,gN]at a2;cases a2;exact⟨_,_,IK ym sr gP (by rw[<-eD];exact av),by rw[qL,Cy yc],Wm _ _ _,λh=>by rw[m6]at h;cases h⟩
  ·have KH:eX z i.g=false:=(by simpa using sr);rw[CT (by rw[uY k1];exact KH)]at D;cases D;exact⟨_,_,CT KH,by rw[qL,Cy yc],Wm _ _ _,λ_ h=>absurd h sr⟩
end
def vn(l:List cO):List Nat:=l.filterMap (·.d)
section
variable {P:Program} {aN:Nat} {b4:Callee} {base:Nat} {ops:Array Oper} {dc:Nat}
theorem Pa{k i:cO}{b cw:List Nat}(h: ∀t∈cw,t∈b)(ar:sj k i b=true):sj k i cw=true:=by
 have ahv: ∀t,(!b.contains t)=true->(!cw.contains t)=true:=by intro t ba;simp at ba⊢;exact λbT=>ba (h t bT)
 have jk: ∀l:List Nat,(l.all λt=> !b.contains t&&k.d !=some t)=true->(l.all λt=> !cw.contains t&&k.d !=some t)=true:=by intro l az;rw[dP]at az⊢;intro t ba;have:=az t ba;rw[a6]at this⊢;exact⟨ahv t this.1,this.2⟩
 simp only[sj,a6]at ar⊢;refine⟨ar.1,?_⟩;have k1:=ar.2;split at k1
 ·rename_i A;rw[if_pos A];simp only[a6]at k1⊢;exact⟨k1.1,jk _ k1.2⟩
 ·rename_i A;rw[if_neg A];split at k1
  ·rename_i D;rw[if_pos D];exact k1
  ·rename_i D;rw[if_neg D];simp only[a6,ua]at k1⊢;refine⟨k1.1.imp id λai=>⟨ai.1,?_⟩,jk _ k1.2⟩;cases aV:k.d with
   |none=>rfl
   |some d=>rw[aV]at ai;exact ahv d ai.2
theorem apM{o:cO}{z K:aC}{m U:H}(h:iq b4 base o z m=some (K,U)){t:Nat}(ba:o.d≠some t):K t=z t:=by
 unfold iq at h;split at h
 ·split at h
  ·split at h
   ·cases h;exact Aw ba
   ·cases h
  ·split at h
   ·cases h;exact Aw ba
   ·cases h
 ·cases h;exact Aw ba
theorem move(cu:sa P aN b4){i:cO}{post:List cO}{apr:aC×H}: ∀(cD:List cO) (z:aC) (m:H),k3 b4 base (cD++i::post) z m=some apr->
 (∀ao k C,cD=ao++k::C->sj k i (vn C)=true/\ ∀p∈rR k i,p∈i.bd)->(∀k∈cD,k.aW≠i.aW)->(i.k.fv=true->m.I (base+i.aW)=none/\base+i.aW<m.next)->
 ∃bQ bn xP jn Td,iq b4 base i z m=some (bQ,bn)/\k3 b4 base (cD++post) bQ bn=some apr/\qz i xP jn Td/\(∀t,t∉vn cD->xP t=z t)/\(i.k.ln=true->eX z i.g=true->jn=m/\Td=bn)
 | [],z,m,h,_,_,_=>by obtain⟨bQ,bn,A,D,ai⟩:=sI h;exact⟨bQ,bn,z,m,bn,A,ai,D,λ_ _=>rfl,λ_ _=>⟨rfl,rfl⟩⟩
 | k::cD,z,m,h,ar,tn,a5=>by
   obtain⟨c6,cI,A,D,ai⟩:=sI h;have ahn:=tn k (by simp);have Ko:=ar [] k cD rfl;obtain⟨zi,qV,xP,jn,Td,aE,a2,cj,dy,fB⟩:=move cu cD c6 cI ai (λao e7 C e=>ar (k::ao) e7 C (by rw[e];rfl)) (λe7 lj=>tn e7 (by simp[lj])) (λfl=>⟨Uj cu A (a5 fl).2 (by omega) (a5 fl).1,ql (a5 fl).2 (IH cu A)⟩)
   -- aqB i yY B9 not aY2 by aXu OO Z3
   have n9: ∀t,t∈i.yY->t∉vn cD:=(by intro t ba aV;obtain⟨e7,lj,D3⟩:=xM.1 aV;obtain⟨ao,C,e⟩:=List.append_of_mem lj;have:=(ar (k::ao) e7 C (by rw[e];rfl)).1;simp only[sj,a6]at this;rw[D3]at this;exact Fa this.1.1.2 ba);have Xd:eX xP i.g=eX c6 i.g:=by
    cases aH:i.g with
    |none=>rfl
    |some CW=>obtain⟨t,b⟩:=CW;simp only[eX];rw[dy t (n9 t (nR _ (by simp[aH])))]
   have Wp: ∀x∈i.k.hO,O xP x=O c6 x:= λx B=>Bn λt ba=>dy t (n9 t (oR _ (CR B ba)));have dh:aek k i c6 cI qV:=by
    intro aS;have hj:=cj (by rw[Xd];exact aS);have gP:i.k.fF xP jn=i.k.fF c6 cI:=by
     rw[(zz (m:=jn) (id:=0) Wp).2.2.2];cases DZ:i.k.ln with
     |true=>rw[(fB DZ aS).1]
     |false=>rw[uJ DZ,uJ DZ]
    rw[gP]at hj;have wX:=Ko.1;simp only[sj,a6]at wX;obtain⟨_,wX⟩:=wX;cases bo:i.k.fF c6 cI with
    | some ml=>
      have m6:=OZ bo;rw[bo]at hj;simp only at hj⊢;obtain⟨rfl,rfl⟩:=fB m6 aS;rw[if_pos m6]at wX;simp only[a6]at wX;intro p Z b hb;have oF:=Z;simp only[rR,m6,if_true]at oF;obtain⟨x,B,rfl⟩:=gG.1 oF;refine hj _ (Ko.2 _ Z) b ?_;rw[show O xP x=O c6 x from Bn λt ba=>dy t (λaV=> ?_)]
      ·exact hb
      ·have:=dP.1 wX.2 t (CR B ba);simp at this;exact this.1 aV
    | none=>
      rw[bo]at hj;simp only[iX,dP]at hj;simp only;intro p Z a b aa hb e;by_cases m6:i.k.ln=true
      ·-- U8 aSq aHE aWK lA aM8 aNl:Z3 agV not run
       have:=Vj aS bo aE;rw[m6]at this;cases this
      rw[if_neg m6]at wX;by_cases uA:k.k.ln=true
      ·simp only[rR,if_neg m6,if_pos uA]at Z;cases Z
      rw[if_neg uA]at wX;simp only[a6,ua,r7]at wX;have oF:=Z;simp only[rR,if_neg m6,if_neg uA]at oF;have ahR: ∀x∈k.k.nm++k.k.oP,O xP x=O c6 x:= λx B=>Bn λt ba=>dy t λaV=>by have:=dP.1 wX.2 t (CR B ba);simp at this;exact this.1 aV
      have rF:O xP p.1=O c6 p.1/\O xP p.2=O c6 p.2:=by
       rcases js.1 oF with aT|aT
       ·obtain⟨x,B,bF⟩:=wm.1 aT;obtain⟨y,Y,rfl⟩:=gG.1 bF;refine⟨?_,Wp y (abv y Y)⟩;rcases js.1 B with cW|cW
        ·exact ahR x (nR _ cW)
        ·split at cW
         ·rename_i fl;rcases wX.1 with dU|dU
          ·rw[fl]at dU;cases dU
          ·cases aV:k.d with
           |none=>rw[aV]at cW;cases cW
           | some d=>rw[aV]at cW dU;simp only[Pf,rg]at cW;subst cW;exact dy d (Fa dU.2)
         ·cases cW
       ·obtain⟨x,B,bF⟩:=wm.1 aT;obtain⟨y,Y,rfl⟩:=gG.1 bF;exact⟨ahR x (oR _ B),Wp y (abv y (nR _ Y))⟩
      have:=hj p (Ko.2 p Z);obtain⟨x,y⟩:=p;simp only at this aa hb rF;rw[rF.1,rF.2,aa,hb]at this;simp[e]at this
   obtain⟨bQ,bn,a8,bV,cv,fQ⟩:=aHx cu Ko.1 ahn (λfl=>(a5 fl).1) (λfl=>(a5 fl).2) A D aE dh;refine⟨bQ,bn,xP,jn,Td,a8,AD bV cv a2,cj,λt ba=> ?_,λbF cW=> ?_⟩
   ·have rG:t∉vn cD:= λaV=>ba (by
     obtain⟨e7,lj,D3⟩:=xM.1 aV;exact xM.2 ⟨e7,by simp[lj],D3⟩)
    have G0:k.d≠some t:= λaV=>ba (xM.2 ⟨k,by simp,aV⟩);rw[dy t rG,apM A G0]
   ·have P3:uU i.yY k.d=true:=by
     have:=Ko.1;simp only[sj,a6]at this;exact this.1.1.2
    have w5:eX c6 i.g=true:=by
     cases aH:i.g with
     |none=>rfl
     | some CW=>
       obtain⟨t,b⟩:=CW;rw[aH]at cW;simp only[eX]at cW⊢;rw[apM A (t:=t) λaV=> ?_]
       ·exact cW
       ·rw[aV]at P3;exact Fa P3 (nR _ (by simp[aH]))
    obtain⟨rfl,rfl⟩:=fB bF w5;exact⟨(fQ bF cW).1.symm,(fQ bF cW).2.symm⟩
def rk(ir:List Nat):List cO->Prop
 |[]=>True
 |k::bN=>(∀cD i post,bN=cD++i::post->(ir.getD i.aW 0).testBit k.aW=true\/(sj k i (vn cD)=true/\ ∀p∈rR k i,p∈i.bd))/\rk ir bN
theorem rk.m1{ir:List Nat}: ∀(ao:List cO) (k:cO) (C:List cO) (i:cO) (bU:List cO),rk ir (ao++k::C++i::bU)->(ir.getD i.aW 0).testBit k.aW=true\/(sj k i (vn C)=true/\ ∀p∈rR k i,p∈i.bd)
 |[],_,C,i,bU,h=>h.1 C i bU rfl
 |_::ao,k,C,i,bU,h=>rk.m1 ao k C i bU h.2
theorem rk.aoH{ir:List Nat}: ∀(ao:List cO) (x:cO) (C:List cO),rk ir (ao++x::C)->rk ir (ao++C)
 |[],_,_,h=>h.2
 | k::ao,x,C,h=>by
   refine⟨λcD i post e=> ?_,rk.aoH ao x C h.2⟩;rcases List.append_eq_append_iff.1 e with⟨bu,aD,aJ⟩|⟨bs,aD,aJ⟩
   ·-- i aRq Jr x
    have:=h.1 (ao++x::bu) i post (by rw[aJ];simp);refine this.imp id λbT=>⟨Pa (λt ba=> ?_) bT.1,bT.2⟩;rw[aD]at ba;obtain⟨e7,lj,D3⟩:=xM.1 ba;refine xM.2 ⟨e7,?_,D3⟩;rcases js.1 lj with A|A
    ·exact oR _ A
    ·exact nR _ (by simp[A])
   ·cases bs with
    | nil=>simp only[r8]at aD;simp only[wo]at aJ;have:=h.1 (ao++[x]) i post (by rw[<-aJ];simp);refine this.imp id λbT=>⟨Pa (λt ba=> ?_) bT.1,bT.2⟩;rw[<-aD]at ba;obtain⟨e7,lj,D3⟩:=xM.1 ba;exact xM.2 ⟨e7,oR _ lj,D3⟩
    | cons b bs=>simp only[tZ,ub]at aJ;obtain⟨rfl,aJ⟩:=aJ;exact h.1 cD i (bs++x::C) (by rw[aD];simp)
theorem aCS{ir:List Nat}{o:Oper}{b:Nat}(h:(Tb ir o).testBit b=true): ∃e∈o.after,Region.binds .any e=true/\(e.on=b\/(ir.getD e.on 0).testBit b=true):=by
 unfold Tb at h;have key: ∀(l:List Edge) (s:Nat),(l.foldl (λs e=>if Region.binds .any e then s|||2^e.on|||ir.getD e.on 0 else s) s).testBit b=true->s.testBit b=true\/ ∃e∈l,Region.binds .any e=true/\(e.on=b\/(ir.getD e.on 0).testBit b=true):=by
  intro l;induction l with
  |nil=>intro s h;exact .inl h
  | cons e l cf=>
    intro s h;simp only[zg]at h;rcases cf _ h with A|⟨dd,so,D⟩
    ·split at A
     ·rename_i hb;simp only[Nat.testBit_or,ua,Nat.testBit_two_pow,ey]at A;rcases A with(A|A)|A
      ·exact .inl A
      ·exact .inr ⟨e,by simp,hb,.inl A⟩
      ·exact .inr ⟨e,by simp,hb,.inr A⟩
     ·exact .inl A
    ·exact .inr ⟨dd,by simp[so],D⟩
 rcases key _ 0 h with A|⟨e,aQ,D⟩
 ·simp at A
 ·exact⟨e,by simpa using aQ,D⟩
theorem aat{jx:Nat->Prop}(ag2: ∀j iE,ops[j]?=some iE->jx j-> ∀e∈iE.after,Region.binds .any e=true->jx e.on):
 ∀ (l:List Oper) (dN:List Nat),(∀j,l[j]?=ops[dN.length+j]?)->
   (∀j,j<dN.length-> ∀iE,ops[j]?=some iE->(∀e∈iE.after,Region.binds .any e=true->jx e.on)-> ∀b,(dN.getD j 0).testBit b=true->jx b)->
   ∀j iE,ops[j]?=some iE->(∀e∈iE.after,Region.binds .any e=true->jx e.on)-> ∀b,((Ck l dN).getD j 0).testBit b=true->jx b
 | [],dN,az,PL,j,iE,aX,aV,b,hb=>by
   simp only[Ck]at hb;by_cases h:j<dN.length
   ·exact PL j h iE aX aV b hb
   ·rw[nQ,re (by omega)]at hb;simp at hb
 | o::l,dN,az,PL,j,iE,aX,aV,b,hb=>by
   have aB:ops[dN.length]?=some o:=(by have:=az 0;simpa using this.symm);refine aat ag2 l (dN++[Tb dN o]) (λi=>by have:=az (i+1);simp at this⊢;rw[this];congr 1;omega) (λi W Fe GV ag9 cw iG=> ?_) j iE aX aV b hb;simp only[iv,mC,xN]at W;by_cases h:i<dN.length
   ·rw[nQ,AV h,<-nQ]at iG;exact PL i h Fe GV ag9 cw iG
   ·have lh:i=dN.length:=(by omega);subst lh;rw[nQ,AU (c8 _)]at iG;simp only[Nat.sub_self,List.getElem?_cons_zero,A0]at iG;have:Fe=o:=De (GV.symm.trans aB);subst this;obtain⟨e,aQ,Km,D⟩:=aCS iG;have ahz:=ag9 e aQ Km;rcases D with rfl|D
    ·exact ahz
    ·by_cases ai:e.on<dN.length
     ·have g2: ∃Tm,ops[e.on]?=some Tm:=by
       have F:dN.length<ops.size:=(xL.1 aB).1;exact⟨ops[e.on],IZ (by omega)⟩
      obtain⟨Tm,ahx⟩:=g2;exact PL e.on ai Tm ahx (ag2 e.on Tm ahx ahz) cw D
     ·rw[nQ,re (by omega)]at D;simp at D
end
section
variable {P:Program} {aN:Nat} {b4:Callee} {base:Nat} {ops:Array Oper} {dc:Nat}
theorem S3{jx:Array Bool}{i j:Nat}(W:i<jx.size):(jx.setIfInBounds i true).getD j false=true↔(j=i\/jx.getD j false=true):=by
 by_cases h:i=j
 ·subst h;simp[W]
 ·rw[getD_set_ne false h];constructor
  ·exact .inr
  ·rintro(cn|cn)
   ·exact absurd cn.symm h
   ·exact cn
theorem aeK(cu:sa P aN b4){Q:Exit->Act->World->Prop}{aq8:aC}{am8:H}{Vc:Nat}: ∀(l1:Nat) (L:List cO) (jx:Array Bool) (z:aC) (m:H) (a:Act) (w:World) (ag:Ren),
 L.length=l1->jx.size=ops.size->(∀j,j<ops.size->(jx.getD j false=true↔ ∀cA∈L,cA.aW≠j))->
 (∀j iE,ops[j]?=some iE->jx.getD j false=true-> ∀e∈iE.after,Region.binds .any e=true->jx.getD e.on false=true)->
 (∀cA∈L,∃o,zk P ops dc cA o)->(L.map (·.aW)).Nodup->rk (Ck ops.toList []) L->
 (∀cD cA post,L=cD++cA::post-> ∀iE,ops[cA.aW]?=some iE-> ∀e∈iE.after,Region.binds .any e=true->jx.getD e.on false=true\/ ∃k∈cD,k.aW=e.on)->
 g7 ag dc z a->dv aN ag m w->aN<=w.heap.size->Vc<=base->(∀cA∈L,cA.k.fv=true->base+cA.aW<m.next/\m.I (base+cA.aW)=none/\ag (base+cA.aW)=none)->base<=m.next->
 k3 b4 base L z m=some (aq8,am8)->
 (∀ed w' cT,gH ag cT->(∀b,b<Vc->cT b=ag b)->g7 cT dc aq8 ed->dv aN cT am8 w'->Below aN w w'->Q .normal ed w')->wpAny P .any ops Q l1 jx a w
 | 0,L,jx,z,m,a,w,ag,di,j3,D6,_,_,_,_,_,F,ab,_,_,_,_,jl,bb=>by have gd:L=[]:=r6.1 di;subst gd;simp only[k3,mB,wq]at jl;obtain⟨rfl,rfl⟩:=jl;refine⟨?_,bb a w ag (gH.refl ag) (λ_ _=>rfl) F ab (Below.refl _ _)⟩;apply List.eq_nil_iff_forall_not_mem.2;intro i W;obtain⟨A,iE,D,_⟩:=mem_ready.1 W;have dm:i<ops.size:=(xL.1 D).1;have:=(D6 i dm).2 (by simp);rw[getD_both A]at this;cases this
 | l1+1,L,jx,z,m,a,w,ag,di,j3,D6,ag1,zS,eW,ahi,Qa,F,ab,b9,zQ,eP,wV,jl,bb=>by
   refine⟨λWZ=> ?_,λi W=> ?_⟩
   ·-- pR first cK aSs B9 ready
    exfalso;cases L with
    |nil=>simp at di
    | cons cA L=>
      obtain⟨o,aB⟩:=zS cA (by simp);have dm:cA.aW<ops.size:=(xL.1 aB.1).1;have nC:cA.aW∈Region.ready .any ops jx:=by
       refine mem_ready.2 ⟨?_,o,aB.1,λe aQ hb=> ?_⟩
       ·have:jx.getD cA.aW false≠true:= λh=>(D6 cA.aW dm).1 h cA (by simp) rfl;exact getD_in (by rw[j3];exact dm) (by simpa using this)
       ·rcases Qa [] cA L rfl o aB.1 e aQ hb with h|⟨k,S,_⟩
        ·exact h
        ·cases S
      rw[WZ]at nC;cases nC
   ·obtain⟨W8,Fe,GV,ag8⟩:=mem_ready.1 W;have dm:i<ops.size:=(xL.1 GV).1;have awB:jx.getD i false=false:=getD_both W8;have zU: ∃cA∈L,cA.aW=i:=by
     by_cases h: ∃cA∈L,cA.aW=i
     ·exact h
     ·exfalso;have:=(D6 i dm).2 (λcA mn e=>h ⟨cA,mn,e⟩);rw[awB]at this;cases this
    obtain⟨cA,mn,rfl⟩:=zU;obtain⟨cD,post,rfl⟩:=List.append_of_mem mn;simp only[vf,lO,AY,A1]at eW;have vO: ∀k∈cD,k.aW≠cA.aW:= λk S e=>eW.2.2 k.aW (gG.2 ⟨k,S,rfl⟩) cA.aW (by simp) e;have PS: ∀ao k C,cD=ao++k::C->sj k cA (vn C)=true/\ ∀p∈rR k cA,p∈cA.bd:=by
     intro ao k C e;subst e;rcases rk.m1 ao k C cA post (by simpa using ahi)with h|h
     ·exfalso;have S:jx.getD k.aW false=true:=aat (ops:=ops) (jx:= λj=>jx.getD j false=true) ag1 ops.toList [] (by simp) (by simp) cA.aW Fe GV ag8 k.aW h;obtain⟨Tn,w1⟩:=zS k (by simp);exact(D6 k.aW (xL.1 w1.1).1).1 S k (by simp) rfl
     ·exact h
    have PX:=eP cA (by simp);obtain⟨bQ,bn,_,_,_,A,D,_,_,_⟩:=move cu cD z m jl PS vO (λfl=>⟨(PX fl).2.1,(PX fl).1⟩);obtain⟨o,aB⟩:=zS cA (by simp);have kO:=IH cu A;refine apO cu aB F ab b9 (λfl=>(PX fl).1) (λfl=>(PX fl).2.2) A λed w' cT a8 bV cv fQ g0=> ?_;refine aeK cu l1 (cD++post) (jx.setIfInBounds cA.aW true) bQ bn ed w' cT (by simp at di⊢;omega) (by simp[j3]) (λj aX=> ?_) (λj iE vM aX e aQ hb=> ?_) (λk S=>zS k (by
     rcases js.1 S with h|h
     ·exact oR _ h
     ·exact nR _ (by simp[h]))) ?_ (rk.aoH cD cA post ahi) (λaD7 k aod e iE vM rv aQ hb=> ?_) cv fQ (mD b9 g0.size) zQ (λk S fl=> ?_) (by omega) D (λbR dW ot ef e2 hF j5 yP=>bb bR dW ot (a8.trans ef) (λb hb=>(e2 b hb).trans (bV b (by omega) (by omega))) hF j5 (g0.trans yP))
    ·rw[S3 (by rw[j3];exact dm)];constructor
     ·rintro(rfl|h) k S e
      ·rcases js.1 S with h|h
       ·exact vO k h e
       ·exact eW.2.1.1 (gG.2 ⟨k,h,e⟩)
      ·refine(D6 j aX).1 h k ?_ e;rcases js.1 S with h|h
       ·exact oR _ h
       ·exact nR _ (by simp[h])
     ·intro h;by_cases e:j=cA.aW
      ·exact .inl e
      ·refine .inr ((D6 j aX).2 λk S dd=> ?_);rcases js.1 S with cn|cn
       ·exact h k (oR _ cn) dd
       ·rcases hi.1 cn with cn|cn
        ·subst cn;exact e dd.symm
        ·exact h k (nR _ cn) dd
    ·rw[S3 (by rw[j3];exact dm)]at aX⊢;rcases aX with rfl|aX
     ·have:iE=Fe:=De (vM.symm.trans GV);subst this;exact .inr (ag8 e aQ hb)
     ·exact .inr (ag1 j iE vM aX e aQ hb)
    ·simp only[vf,AY];exact⟨eW.1,eW.2.1.2,λx B y Y=>eW.2.2 x B y (by simp[Y])⟩
    ·rw[S3 (by rw[j3];exact dm)];rcases List.append_eq_append_iff.1 e with⟨bu,aD,aJ⟩|⟨bs,aD,aJ⟩
     ·rcases Qa (cD++cA::bu) k aod (by rw[aJ];simp) iE vM rv aQ hb with h|⟨e7,lj,cg⟩
      ·exact .inl (.inr h)
      ·rcases js.1 lj with h|h
       ·exact .inr ⟨e7,by rw[aD];exact oR _ h,cg⟩
       ·rcases hi.1 h with h|h
        ·subst h;exact .inl (.inl cg.symm)
        ·exact .inr ⟨e7,by rw[aD];exact nR _ h,cg⟩
     ·cases bs with
      | nil=>
        simp only[r8]at aD;simp only[wo]at aJ;rcases Qa (cD++[cA]) k aod (by rw[<-aJ];simp) iE vM rv aQ hb with h|⟨e7,lj,cg⟩
        ·exact .inl (.inr h)
        ·rcases js.1 lj with h|h
         ·exact .inr ⟨e7,by rw[<-aD];exact h,cg⟩
         ·simp only[rg]at h;subst h;exact .inl (.inl cg.symm)
      | cons b bs=>
        simp only[tZ,ub]at aJ;obtain⟨rfl,aJ⟩:=aJ;rcases Qa aD7 k (bs++cA::post) (by rw[aD];simp) iE vM rv aQ hb with h|h
        ·exact .inl (.inr h)
        ·exact .inr h
    ·have qL:k∈cD++cA::post:=by
      rcases js.1 S with h|h
      ·exact oR _ h
      ·exact nR _ (by simp[h])
     have ahn:k.aW≠cA.aW:=by
      rcases js.1 S with h|h
      ·exact vO k h
      ·exact λe=>eW.2.1.1 (gG.2 ⟨k,h,e⟩)
     obtain⟨aE,a2,cj⟩:=eP k qL fl;exact⟨by omega,Uj cu A aE (by omega) a2,by rw[bV _ aE (by omega)];exact cj⟩
theorem afd{aW:Nat}{cA:cO}(h:OV P ops dc aW=some cA):cA.aW=aW/\ ∃o,zk P ops dc cA o:=by
 unfold OV at h;split at h
 ·rename_i o aB;split at h
  ·rename_i k g S aH;split at h
   ·rename_i aV;cases h;exact⟨rfl,o,aB,S,aH,rfl,aV⟩
   ·cases h
  ·cases h
 ·cases h
theorem Vf: ∀(L8:List Nat) (L:List cO),Gn P ops dc L8=some L->L.map (·.aW)=L8/\ ∀cA∈L,∃o,zk P ops dc cA o
 |[],L,h=>by simp[Gn]at h;subst h;simp
 | aW::r,L,h=>by
   simp only[Gn]at h;split at h
   ·rename_i cA bN A D;cases h;obtain⟨e,o,aB⟩:=afd A;obtain⟨aE,a2⟩:=Vf r bN D;refine⟨by simp[e,aE],λk S=> ?_⟩;rcases hi.1 S with rfl|S
    ·exact⟨o,aB⟩
    ·exact a2 k S
   ·cases h
theorem afu{ir:List Nat}{i:cO}: ∀(nk:List cO) (uo:List Nat),O4 ir i nk uo=true->(∀p∈wH ir i nk,p∈i.bd)->
 ∀ao k C,nk=ao++k::C->(ir.getD i.aW 0).testBit k.aW=true\/(sj k i (uo++vn ao)=true/\ ∀p∈rR k i,p∈i.bd)
 |[],_,_,_,ao,k,C,e=>by simp at e
 | x::nk,uo,h,hj,ao,k,C,e=>by
   simp only[O4,a6,ua]at h;cases ao with
   | nil=>
     simp only[wo,ub]at e;obtain⟨rfl,rfl⟩:=e;rcases h.1 with A|A
     ·exact .inl A
     ·by_cases hb:(ir.getD i.aW 0).testBit x.aW=true
      ·exact .inl hb
      ·refine .inr ⟨by simpa[vn]using A,λp Z=>hj p ?_⟩;simp only[wH,if_neg hb];exact oR _ Z
   | cons a ao=>
     simp only[tZ,ub]at e;obtain⟨rfl,rfl⟩:=e;have:=afu (ao++k::C) (uo++x.d.toList) h.2 (λp Z=>hj p (by simp only[wH];exact nR _ Z)) ao k C rfl;refine this.imp id λbT=>⟨Pa (λt ba=> ?_) bT.1,bT.2⟩;simp only[vn,List.filterMap_cons]at ba⊢;cases aV:x.d with
     |none=>rw[aV]at ba;simpa using ba
     |some d=>rw[aV]at ba;simpa using ba
theorem afc{ir:List Nat}: ∀(L8:List Nat) (nk:List cO) (L:List cO),Jw P ops dc ir L8 nk=some L->rk ir nk.reverse->
 L.map (·.aW)=L8/\(∀cA∈L,∃o,zk P ops dc cA o)/\rk ir (nk.reverse++L)/\
 (∀cD cA post,L=cD++cA::post-> ∀iE,ops[cA.aW]?=some iE-> ∀e∈iE.after,Region.binds .any e=true-> ∃k∈nk.reverse++cD,k.aW=e.on)
 | [],nk,L,h,aH=>by simp[Jw]at h;subst h;exact⟨rfl,by simp,by simpa using aH,by simp⟩
 | aW::r,nk,L,h,aH=>by
   simp only[Jw]at h;split at h
   ·rename_i hu A;split at h
    ·rename_i hj;split at h
     ·rename_i bN awt;cases h;simp only[a6]at hj;obtain⟨aD,op,b1⟩:=afd A;have ar:zk P ops dc ⟨hu.aW,hu.d,hu.g,hu.k,wH ir hu nk⟩ op:=b1;have qN:rk ir (cO.mk hu.aW hu.d hu.g hu.k (wH ir hu nk)::nk).reverse:=by
       rw[List.reverse_cons];have gZ:=afu nk [] hj.1 (λp Z=>by
        have: ∀(l:List cO),wH ir ⟨hu.aW,hu.d,hu.g,hu.k,wH ir hu nk⟩ l=wH ir hu l:=by
         intro l;induction l with
         |nil=>rfl
         |cons x l cf=>simp only[wH];rw[cf];rfl
        rw[this]at Z;exact Z)
       -- pR new mv Jr all
       have key: ∀(l:List cO) (x:cO),rk ir l->(∀ao k C,l=ao++k::C->(ir.getD x.aW 0).testBit k.aW=true\/(sj k x (vn C)=true/\ ∀p∈rR k x,p∈x.bd))->rk ir (l++[x]):=by
        intro l x;induction l with
        |nil=>intro _ _;exact⟨by intro cD i post e;simp at e,trivial⟩
        | cons k l cf=>
          intro az B;refine⟨λcD i post e=> ?_,cf az.2 λao e7 C e=>B (k::ao) e7 C (by rw[e];rfl)⟩;rcases List.append_eq_append_iff.1 e with⟨bu,aD,aJ⟩|⟨bs,aD,aJ⟩
          ·cases bu with
           | nil=>simp only[wo,ub]at aJ;obtain⟨rfl,_⟩:=aJ;simp only[r8]at aD;subst aD;exact B [] k cD rfl
           |cons y bu=>simp at aJ
          ·cases bs with
           | nil=>simp only[wo,ub]at aJ;obtain⟨rfl,_⟩:=aJ;simp only[r8]at aD;subst aD;exact B [] k l rfl
           | cons y bs=>simp only[tZ,ub]at aJ;obtain⟨rfl,aJ⟩:=aJ;exact az.1 cD i bs aD
       refine key _ _ aH λao k C e=> ?_;have dd:nk=C.reverse++k::ao.reverse:=by have:=congrArg List.reverse e;simpa using this
       refine(gZ C.reverse k ao.reverse dd).imp id λbT=>⟨Pa (λt ba=> ?_) bT.1,bT.2⟩;simp only[vn,wo,xM,List.mem_reverse]at ba⊢;exact ba
      obtain⟨aE,a2,cj,dy⟩:=afc r _ bN awt qN;refine⟨by simp[aD,aE],λk S=> ?_,by simpa using cj,λcD cA post e iE vM rv aQ hb=> ?_⟩
      ·rcases hi.1 S with rfl|S
       ·exact⟨op,ar⟩
       ·exact a2 k S
      ·cases cD with
       | nil=>
         simp only[wo,ub]at e;obtain⟨rfl,_⟩:=e;have bF:=hj.2;simp only[aD]at vM;simp only[ap9,vM]at bF;simp only[dP,ua,r7,Dd,beq_iff_eq]at bF;rcases bF rv (by simpa using aQ)with cW|⟨k,S,cW⟩
         ·rw[hb]at cW;cases cW
         ·exact⟨k,by simpa using S,cW⟩
       | cons x cD=>simp only[tZ,ub]at e;obtain⟨rfl,e⟩:=e;obtain⟨k,S,cW⟩:=dy cD cA post e iE vM rv aQ hb;exact⟨k,by simpa using S,cW⟩
     ·cases h
    ·cases h
   ·cases h
end
end Go.DI
