/-
  A part of the proof of the statement, in texts that tools of ours (wip/shrink.py, irpack.py, relax.py, minify.py, join.py, lay.py) have shortened.
-/
import Derived.Test.YtkpifdkccdndcaaGreatZaf
set_option linter.all false
set_option maxRecDepth 8000
set_option maxHeartbeats 16000000
namespace Go.DI
open Go Go.RowKit
section
variable {P:Program} {K:jA} {Y:hj} {t m:B} {u ag:aL}
theorem ayC(J:gM Y K t m)(cm:jB K Y u ag){bx:List (Operand×Operand)}(aE:bx.all (λp=>dZ p.1&&dZ p.2)=true)(h:yB u t bx=true){N:B}(W: ∀b,b<m.next-> ¬MY Y t b->N.M b=m.M b):xt ag bx m N:=by
  intro p aq b L;simp only[yB,List.all_eq_true]at h aE;have z:=h p aq;have D:=aE p aq;simp only[Bool.and_eq_true]at D;have X:=cm.ab D.1;generalize ab u p.1=a at X z;generalize ab ag p.1=er at X L;have key: ∀o,ai a=some o->Y o=some b->N.M b=m.M b:= λo an bT=>by rw[an]at z;refine W b (J.cW o b bT).2 λ⟨o',x,aM,a1,cI⟩=> ?_;rw[J.inj o' o b aM bT]at a1;simp[HC,a1,cI]at z
  have akE: ∀cs,K b=some cs->N.M b=m.M b:= λcs de=>by obtain⟨⟨w,Z⟩,aw⟩:=J.bw b cs de;exact W b (aT Z) λ⟨o',x,aM,a1,cI⟩=>by rw[aw o' x aM a1]at cI;cases cI
  cases X with
  | c0 h=>unfold ai at L;split at L<;>simp[fg]at h L
  |bZ bT=>simp[ai]at L;subst L;exact key _ rfl bT
  |slice bT=>simp[ai]at L;subst L;exact key _ rfl bT
  |map bT=>simp[ai]at L;subst L;exact key _ rfl bT
  |kd e de=>simp[ai]at L;subst L;exact akE _ de
  |fL e de=>simp[ai]at L;subst L;exact akE _ de
  |_=>simp[ai]at L
theorem ayB(J:gM Y K t m)(cm:jB K Y u ag){bx:List (Operand×Operand)}(aE:bx.all (λp=>dZ p.1&&dZ p.2)=true){N:B}(W: ∀b,b<m.next->N.M b=m.M b):xt ag bx m N:=by
  intro p aq b L;simp only[List.all_eq_true]at aE;have D:=aE p aq;simp only[Bool.and_eq_true]at D;have X:=cm.ab D.1;generalize ab u p.1=a at X;generalize ab ag p.1=er at X L;cases X with
  | c0 h=>unfold ai at L;split at L<;>simp[fg]at h L
  |bZ bT=>simp[ai]at L;subst L;exact W _ (J.cW _ _ bT).2
  |slice bT=>simp[ai]at L;subst L;exact W _ (J.cW _ _ bT).2
  |map bT=>simp[ai]at L;subst L;exact W _ (J.cW _ _ bT).2
  |kd e de=>simp[ai]at L;subst L;obtain⟨⟨w,Z⟩,_⟩:=J.bw _ _ de;exact W _ (aT Z)
  |fL e de=>simp[ai]at L;subst L;obtain⟨⟨w,Z⟩,_⟩:=J.bw _ _ de;exact W _ (aT Z)
  |_=>simp[ai]at L
theorem acX(J:gM Y K t m)(cm:jB K Y u ag){bx:List (Operand×Operand)}(jZ:bx.all (λp=>dZ p.1&&dZ p.2)=true){aY:pB P}{f:Nat}{args as:List Value}(aE:b2 K Y args as){aV:Value->B->Prop}(h:wJ aY f args t (yB u t bx) aV):
    bJ P f as m λhb N=>xt ag bx m N/\ ∃ee dI r aN,aV r aN/\gM ee dI aN N/\cw dI ee r hb/\a6 t.next m.next Y K t m ee dI aN N:=by
  unfold wJ at h;split at h
  · refine(aAU J aE h).aD λhb N cE=> ?_;obtain⟨z,dI,r,aN,D,Z,aw,aX⟩:=cE;exact⟨ayB J cm jZ z,Y,dI,r,aN,D,Z,aw,aX⟩
  · have D:hn P f args t aV:=by
      have Z:=h.2;split at Z
      · exact aCX Z
      · exact Z
    refine(D Y K as m J aE).aD λhb N cE=> ?_;obtain⟨ee,dI,r,aN,D,Z,aw,aX⟩:=cE;exact⟨ayC J cm jZ h.1 aX.sd,ee,dI,r,aN,D,Z,aw,aX⟩
def MP(Y:hj)(K:jA)(t m:B)(base hp:Nat)(ops:List b6):Prop:= ∀o∈ops,o.k.gF=true->ug Y K t m (base+o.bc) (hp+o.bc)
theorem nodup_cons{o:b6}{ops:List b6}(h:AD ((o::ops).map (·.bc))=true):(∀p∈ops,p.bc≠o.bc)/\AD (ops.map (·.bc))=true:=by simp only[List.map_cons,AD,Bool.and_eq_true]at h;refine⟨λp aq e=> ?_,h.2⟩;have z:=h.1;simp at z;exact z p aq e
theorem S4{aY:pB P}{base hp:Nat}: ∀{ops:List b6} {Y:hj} {K:jA} {t m:B} {u ag:aL} {aV:aL->B->Prop},ops.all aan=true->AD (ops.map (·.bc))=true->gM Y K t m->jB K Y u ag->MP Y K t m base hp ops->base<=t.next->hp<=m.next->
    eo aY base ops u t aV->gY P hp ops ag m λvn N=> ∃ee dI c7 aN,aV c7 aN/\gM ee dI aN N/\jB dI ee c7 vn/\a6 base hp Y K t m ee dI aN N
  | [],Y,K,t,m,u,ag,aV,_,_,J,cm,_,_,_,h=>by rw[aof];exact⟨Y,K,u,t,h,J,cm,a6.refl⟩
  | o::ops,Y,K,t,m,u,ag,aV,aA,lK,J,cm,da,L,Oj,h=>by
    obtain⟨bc,d,g,k,bx⟩:=o;simp only[List.all_cons,Bool.and_eq_true]at aA;obtain⟨dq,VB⟩:=nodup_cons lK;have JL:=aA.1;simp only[aan,Bool.and_eq_true]at JL;have skip: ∀{g:Option (Nat×Bool)},eo aY base ops (dA u d undef) t aV->gY P hp ops (dA ag d undef) m λvn N=> ∃ee dI c7 aN,aV c7 aN/\gM ee dI aN N/\jB dI ee c7 vn/\a6 base hp Y K t m ee dI aN N:= λh=>
      S4 aA.2 VB J (cm.au cw.undef) (λo an aE=>da o (by simp[an]) aE) L Oj h
    have sU:lV aY base ⟨bc,d,g,k,bx⟩ u t (λu t=>eo aY base ops u t aV)->gY P hp (⟨bc,d,none,k,bx⟩::ops) ag m λvn N=> ∃ee dI c7 aN,aV c7 aN/\gM ee dI aN N/\jB dI ee c7 vn/\a6 base hp Y K t m ee dI aN N:= λh=>by
      have after: ∀{hb:Value} {bz:B},(xt ag bx m bz/\ ∃ee dI r aN,(eo aY base ops (dA u d r) aN aV)/\gM ee dI aN bz/\cw dI ee r hb/\a6 t.next m.next Y K t m ee dI aN bz)->
          zu P hp d bx ops ag m (λvn N=> ∃ee dI c7 aN,aV c7 aN/\gM ee dI aN N/\jB dI ee c7 vn/\a6 base hp Y K t m ee dI aN N) hb bz:= λ{hb bz} ⟨W,ft,gR,r,ec,z,D,Z,aw⟩=>by
        refine⟨W,?_⟩;have Ge:jB gR ft (dA u d r) (dA ag d hb):=(cm.aD aw.f aw.e).au Z;have yc:MP ft gR ec bz base hp ops:= λo an aE=>by
          have ak:=da o (by simp[an]) aE;refine⟨?_,λo' yk=> ?_,?_,Nat.lt_of_lt_of_le ak.y9 aw.n9,Nat.lt_of_lt_of_le ak.Av aw.oT⟩
          · cases aU:ft (base+o.bc)with
            |none=>rfl
            | some b=>
              rcases aw.nf _ _ aU with aX|⟨aX,_⟩
              · rw[ak.e]at aX;cases aX
              · have:=ak.y9;omega
          · rcases aw.nf _ _ yk with aX|⟨_,aX⟩
            · exact ak.b _ aX
            · have:=ak.Av;omega
          · cases aU:gR (hp+o.bc)with
            |none=>rfl
            | some cs=>
              rcases aw.fn _ _ aU with aX|aX|⟨o',_,aX,_⟩
              · rw[ak.f]at aX;cases aX
              · have:=ak.Av;omega
              · exact absurd aX (ak.b o')
        have cb:=S4 aA.2 VB D Ge yc (Nat.le_trans L aw.n9) (Nat.le_trans Oj aw.oT) z;obtain⟨n,aH,b4,ll,me,lR,fb,iG,bm,bU,cn,fa⟩:=cb;exact⟨n,aH,b4,ll,me,lR,fb,iG,bm,bU,cn,(aw.Fc L Oj).trans fa⟩
      have aAs: ∀{k:av},k.mu=false->EI k=true->(k.gF=true->ug Y K t m (base+bc) (hp+bc))->(k.lu u t=true/\lg u t bx=true/\eo aY base ops (dA u d (k.lE (base+bc) u t)) (k.yK (base+bc) u t) aV)->
          gY P hp (⟨bc,d,none,k,bx⟩::ops) ag m λvn N=> ∃ee dI c7 aN,aV c7 aN/\gM ee dI aN N/\jB dI ee c7 vn/\a6 base hp Y K t m ee dI aN N:= λ{k} aB W ak h=>by
        rw[oC aB];obtain⟨z,ft,q⟩:=aAp (iH:=base) (ir:=hp) (id:=base+bc) (mid:=hp+bc) J cm aB W h.1 ak (by omega) (by omega);refine⟨z,aq2 J cm JL.2 h.2.1,?_⟩;have Ge:jB K ft (dA u d (k.lE (base+bc) u t)) (dA ag d (k.val (hp+bc) ag m)):=(cm.aD q.bw.f q.bw.e).au q.val;have yc:MP ft K (k.yK (base+bc) u t) (k.kk (hp+bc) ag m) base hp ops:= λo an aE=>by
          have ak:=da o (by simp[an]) aE;have H:=dq o an;simp only at H;refine⟨by rw[q.aat _ (by omega)];exact ak.e,λo' yk=> ?_,ak.f,Nat.lt_of_lt_of_le ak.y9 q.bw.n9,Nat.lt_of_lt_of_le ak.Av q.bw.oT⟩;by_cases e:o'=base+bc
          · subst e;rcases q.self with aX|aX
            · rw[aX]at yk;exact ak.b _ yk
            · rw[aX]at yk;simp only[Option.some.injEq]at yk;omega
          · rw[q.aat _ e]at yk;exact ak.b _ yk
        have cb:=S4 aA.2 VB q.am9 Ge yc (Nat.le_trans L q.bw.n9) (Nat.le_trans Oj q.bw.oT) h.2.2;obtain⟨n,aH,b4,ll,me,lR,fb,iG,bm,bU,cn,fa⟩:=cb;exact⟨n,aH,b4,ll,me,lR,fb,iG,bm,bU,cn,q.bw.trans fa⟩
      have w8:=da ⟨bc,d,g,k,bx⟩ (by simp);have F4:=JL.1;have b7:=F4;simp only[EI,Bool.and_eq_true]at b7;cases k with
      | eI f as=>rw[aob];exact(acX J cm JL.2 (cm.NC b7.1) h).aD λhb bz cE=>after cE
      | lZ x as=>
        simp only[lV,Ix]at h;simp only[av.iY,List.all_cons,Bool.and_eq_true]at b7;split at h
        · next f first lT H=>have X:=cm.ab b7.1.1;rw[H]at X;obtain⟨ys,b1,e,fM,dg⟩:=X.Gi;rw[aod e];exact(acX J cm JL.2 ((fM.th (cm.NC b7.1.2)).th dg) h).aD λhb bz cE=>after cE
        · exact h.elim
      |qB=>exact h.elim
      |_=>exact aAs rfl F4 w8 h
    simp only[eo]at h;cases g with
    |none=>exact sU (by simpa[fN]using h)
    | some g=>
      obtain⟨j,b⟩:=g;rw[aoe,aDU cm];split at h
      · next aO=>rw[if_pos aO];exact sU h
      · next aO=>rw[if_neg aO];exact skip (g:=none) h
theorem apz(J:gM Y K t m)(k:Nat):gM Y K (t.bs k) (m.bs k) where
  m7 o x H:=by
    by_cases h:o<t.next
    · rw[gr h]at H;rcases J.m7 o x H with⟨b,cs,w,z,D,Z⟩|z
      · exact .inl ⟨b,cs,w,z,by rw[gr (aT D),D],Z⟩
      · exact .inr z
    · simp[B.M,B.bs,h]at H
  kz o bg aU:=by
    by_cases h:o<t.next
    · rw[wU h]at aU;obtain⟨b,ei,z,D,Z⟩:=J.kz o bg aU;exact⟨b,ei,z,by rw[wU (J.cW o b z).2,D],Z⟩
    · have:=(hv aU).1;simp[B.M,B.bs,h]at this
  nm:=J.nm
  inj:=J.inj
  cW o b h:=by have:=J.cW o b h;simp only[ad];omega
  bw b cs h:=by obtain⟨⟨w,z⟩,D⟩:=J.bw b cs h;refine⟨⟨w,by rw[gr (aT z),z]⟩,λo x bT H=> ?_⟩;rw[gr (J.cW o b bT).1]at H;exact D o x bT H
theorem apy(J:gM Y K t m)(k:Nat):a6 t.next m.next Y K t m Y K (t.bs k) (m.bs k) where
  e:=iv.refl _
  f:=kn.refl _
  nf o b h:= .inl h
  fn b cs h:= .inl h
  n9:=by simp
  oT:=by simp
  sd b L _:=gr L
  ss b L:= λ⟨o,x,z,D,Z⟩=>⟨o,x,z,by rw[gr (J.cW o b z).1]at D;exact D,Z⟩
  rI b L:= λ⟨o,x,z,D⟩=>⟨o,x,z,by rw[gr (J.cW o b z).1]at D;exact D⟩
theorem aBl{aY:pB P}{ops:List b6}(aA:wb (.I ops)=true)(J:gM Y K t m)(cm:jB K Y u ag){aV:aL->B->Prop}(h:eo aY t.next ops u (k2 ops t) aV):
    gY P m.next ops ag (k2 ops m) λvn N=> ∃ee dI c7 aN,aV c7 aN/\gM ee dI aN N/\jB dI ee c7 vn/\a6 t.next m.next Y K t m ee dI aN N:=by
  simp only[wb,Bool.and_eq_true]at aA;have DP:gM Y K (k2 ops t) (k2 ops m):=by
    unfold k2;split
    · exact apz J _
    · exact J
  have DB:a6 t.next m.next Y K t m Y K (k2 ops t) (k2 ops m):=by
    unfold k2;split
    · exact apy J _
    · exact a6.refl
  have F1:MP Y K (k2 ops t) (k2 ops m) t.next m.next ops:= λo an aE=>by
    have aeF:(ops.any λo=>o.k.gF)=true:=List.any_eq_true.2 ⟨o,an,aE⟩;have ix:o.bc<ops.length:=(by simpa using List.all_eq_true.1 aA.2 o an);refine⟨?_,λo' yk=> ?_,?_,by simp[k2,aeF,ix],by simp[k2,aeF,ix]⟩
    · cases aU:Y (t.next+o.bc)with
      |none=>rfl
      |some b=>have:=(J.cW _ _ aU).1;omega
    · have:=(J.cW _ _ yk).2;omega
    · cases aU:K (m.next+o.bc)with
      |none=>rfl
      |some cs=>obtain⟨⟨w,z⟩,_⟩:=J.bw _ _ aU;have:=aT z;omega
  have:=S4 aA.1.1 aA.1.2 DP cm F1 DB.n9 DB.oT h;obtain⟨n,aH,b4,ll,me,lR,fb,iG,bm,bU,cn,fa⟩:=this;exact⟨n,aH,b4,ll,me,lR,fb,iG,bm,bU,cn,DB.trans fa⟩
theorem E5{aY:pB P}: ∀{c:U} {u:aL} {t:B} {Q:dr->aL->B->Prop},j6 aY c u t Q->hs P c u t Q
  | .skip,u,t,Q,h=> λ_ Y K ag m J cm=>by rw[aoa];exact⟨Y,K,u,t,h,J,cm,a6.refl⟩
  | .bI id,u,t,Q,h=> λ_ Y K ag m J cm=>by rw[an5];exact⟨Y,K,u,t,h,J,cm,a6.refl⟩
  | .a7,u,t,Q,h=> λ_ Y K ag m J cm=>by rw[an8];exact⟨Y,K,u,t,h,J,cm,a6.refl⟩
  | .I ops,u,t,Q,h=> λaA Y K ag m J cm=>by rw[an7];exact aBl aA J cm h
  | .E a b,u,t,Q,h=> λaA Y K ag m J cm=>by
    simp only[wb,Bool.and_eq_true]at aA;rw[an9];refine(E5 (c:=a) h aA.1 Y K ag m J cm).aD λe aH bz cE=> ?_;obtain⟨ft,gR,c7,ec,z,D,Z,aw⟩:=cE;cases e with
    | gv=>rw[anv];refine(E5 (c:=b) z aA.2 ft gR aH bz D Z).aD λe bD b4 cE=> ?_;obtain⟨me,lR,fb,iG,aC,a2,bS,fA⟩:=cE;exact⟨me,lR,fb,iG,aC,a2,bS,aw.trans (fA.Fc aw.n9 aw.oT)⟩
    |bI id=>exact⟨ft,gR,c7,ec,z,D,Z,aw⟩
    |a7=>exact⟨ft,gR,c7,ec,z,D,Z,aw⟩
  | .bj c a b,u,t,Q,h=> λaA Y K ag m J cm=>by
    simp only[wb,Bool.and_eq_true]at aA;rw[an4];have e:=akr (cm.ab aA.1.1) h.1;rw[e];refine⟨h.1,?_⟩;have D:=h.2;split at D
    · next aB=>rw[if_pos aB];exact E5 (c:=a) D aA.1.2 Y K ag m J cm
    · next aB=>rw[if_neg aB];exact E5 (c:=b) D aA.2 Y K ag m J cm
  | .block id c,u,t,Q,h=> λaA Y K ag m J cm=>by
    rw[an3];refine(E5 (c:=c) h aA Y K ag m J cm).aD λe aH bz cE=> ?_;obtain⟨ft,gR,c7,ec,z,D⟩:=cE;cases e with
    |gv=>exact⟨ft,gR,c7,ec,z,D⟩
    |a7=>exact⟨ft,gR,c7,ec,z,D⟩
    | bI l1=>
      rw[Nb];simp only at z;split at z
      · next e=>rw[if_pos e];exact⟨ft,gR,c7,ec,z,D⟩
      · next e=>rw[if_neg e];exact⟨ft,gR,c7,ec,z,D⟩
  | .loop c,u,t,Q,h=>h
theorem hs.aD{c:U}{Q A5:dr->aL->B->Prop}(h:hs P c u t Q)(bt: ∀e u t,Q e u t->A5 e u t):hs P c u t A5:= λaA Y K ag m J cm=>(h aA Y K ag m J cm).aD λe aH bz cE=>by obtain⟨ft,gR,c7,ec,z,D⟩:=cE;exact⟨ft,gR,c7,ec,bt _ _ _ z,D⟩
theorem hn.aD{f:Nat}{args:List Value}{az km:Value->B->Prop}(h:hn P f args t az)(bt: ∀r t,az r t->km r t):hn P f args t km:= λY K as m J aE=>(h Y K as m J aE).aD λhb bz cE=>by obtain⟨ft,gR,r,ec,z,D⟩:=cE;exact⟨ft,gR,r,ec,bt _ _ z,D⟩
theorem su{aY:pB P}{c:U}{Q:dr->aL->B->Prop}(h: ∀b9:aL->B->Prop,(∀ag aN,hs P (.loop c) ag aN Q->b9 ag aN)->j6 aY c u t (xv b9 Q)):hs P (.loop c) u t Q:= λaA Y K ag m J cm=>by
  rw[an6];refine(E5 (h (λag aN=>hs P (.loop c) ag aN Q) (λ_ _ h=>h)) aA Y K ag m J cm).aD λe aH bz cE=> ?_;obtain⟨ft,gR,c7,ec,z,D,Z,aw⟩:=cE;cases e with
  | gv=>rw[akZ];refine(z aA ft gR aH bz D Z).aD λe bD b4 cE=> ?_;obtain⟨me,lR,fb,iG,aC,a2,bS,fA⟩:=cE;exact⟨me,lR,fb,iG,aC,a2,bS,aw.trans (fA.Fc aw.n9 aw.oT)⟩
  |bI id=>exact⟨ft,gR,c7,ec,z,D,Z,aw⟩
  |a7=>exact⟨ft,gR,c7,ec,z,D,Z,aw⟩
theorem hn.drop{f:Nat}{args:List Value}{az km:Value->B->Prop}(h:hn P f args t az)(aR: ∀r aN,az r aN-> ∃SY,km r SY/\SY.next=aN.next/\SY.mp=aN.mp/\ ∀b x,SY.M b=some x->aN.M b=some x):hn P f args t km:= λY K as m J aE=>(h Y K as m J aE).aD λhb bz cE=>by
  obtain⟨ft,gR,r,ec,z,D,Z,aw⟩:=cE;obtain⟨iG,aC,a2,bS,fA⟩:=aR r ec z;have vE: ∀o bg,iG.c6 o=some bg->ec.c6 o=some bg:= λo bg aU=>by obtain⟨aM,a1⟩:=hv aU;exact qv (fA _ _ aM) (by rw[<-bS];exact a1)
  refine⟨ft,gR,r,iG,aC,⟨λo x H=>D.m7 o x (fA o x H),λo bg aU=>D.kz o bg (vE o bg aU),λo an=>by rw[bS];exact D.nm o an,D.inj,λo b L=>by rw[a2];exact D.cW o b L,λb cs L=>⟨(D.bw b cs L).1,λo x bT H=>(D.bw b cs L).2 o x bT (fA o x H)⟩⟩,Z,?_⟩;exact⟨aw.e,aw.f,aw.nf,aw.fn,by rw[a2];exact aw.n9,aw.oT,aw.sd,λb L ⟨o,x,bm,bU,cn⟩=>aw.ss b L ⟨o,x,bm,fA _ _ bU,cn⟩,λb L ⟨o,x,bm,bU⟩=>aw.rI b L ⟨o,x,bm,fA _ _ bU⟩⟩
def St(bb:List nw)(az:Value->B->Prop)(e:dr)(u:aL)(t:B):Prop:=match e with| .bI _=>False|_=>nI t u bb=true/\az (n4 t u bb) t
theorem aaT(J:gM Y K t m)(cm:jB K Y u ag){r:nw}(h:sk t u r=true):sk m ag r=true/\cw K Y (s6 t u r) (s6 m ag r):=by
  cases r with
  |bA x=>exact⟨rfl,cm x⟩
  | h7 x ep n=>
    simp only[sk,Bool.and_eq_true]at h⊢;have sH:oM (u x)=false:=by have z:=h.1;cases H:u x<;>simp[H,gZ]at z<;>rfl
    have z:tg t (u x) n=true:=(by rw[tg,sH];exact h.1);refine⟨⟨M4 J (cm x) z,h.2⟩,?_⟩;have:=akY J (cm x) z h.2;rw[Cc,sH]at this;exact this
theorem amt(J:gM Y K t m)(cm:jB K Y u ag){bb:List nw}(h:nI t u bb=true):nI m ag bb=true/\cw K Y (n4 t u bb) (n4 m ag bb):=by
  simp only[nI,List.all_eq_true]at h⊢;refine⟨λr aF=>(aaT J cm (h r aF)).1,?_⟩;have aG:b2 K Y (bb.map (s6 t u)) (bb.map (s6 m ag)):=b2.Hl _ _ _ λr aF=>(aaT J cm (h r aF)).2;unfold n4;split
  · exact(aaT J cm (h _ (by simp))).2
  · exact aG.tuple
theorem g0{aY:pB P}{f:Nat}{Fn:dn}(de:dj P f=some Fn)(aA:wb Fn.body=true){args:List Value}(aG:args.length<=Fn.ek){az:Value->B->Prop}(h:j6 aY Fn.body (eu args) t (St Fn.qP az)):hn P f args t az:= λY K as m J aE=>by
  rw[fD de (by rw[<-aE.1];exact aG)];refine(E5 h aA Y K (eu as) m J (jB.init aE)).aD λe aH bz cE=> ?_;obtain⟨ft,gR,c7,ec,z,D,Z,aw⟩:=cE;cases e with
  |bI id=>exact z.elim
  |gv=>obtain⟨a,b⟩:=amt D Z z.1;exact⟨a,ft,gR,_,ec,z.2,D,b,aw⟩
  |a7=>obtain⟨a,b⟩:=amt D Z z.1;exact⟨a,ft,gR,_,ec,z.2,D,b,aw⟩
def yJ:B:=⟨0,λ_=>none,λ_=>none⟩
theorem ala(o:Nat):yJ.M o=none:=by simp[yJ,B.M]
theorem aCQ(de:zn K m):gM oW K yJ m where
  m7 o x H:=by rw[ala]at H;cases H
  kz o bg aU:=by have:=(hv aU).1;rw[ala]at this;cases this
  nm o _:=rfl
  inj o o' b h:=by cases h
  cW o b h:=by cases h
  bw b cs h:=⟨de b cs h,λo x bT=>by cases bT⟩
open Classical in
theorem iA{f:Nat}{args:List Value}{r:Value}(h:hn P f args yJ λv t=>eJ 9 t v=some r):eg P f args r:= λK m as de aE=>by
  refine(h oW K as m (aCQ de) aE).aD λhb N cE=> ?_;obtain⟨ee,dI,v,aN,z,D,Z,aw⟩:=cE;refine⟨aw.oT,(λb L=>aw.sd b L λ⟨o,x,e,_⟩=>by cases e),(λb=>match dI b with
    |some cs=>some cs
    |none=>if∃o,ee o=some b then(N.M b).map (·.cells)else none),λb cs L=> ?_,λb cs L=> ?_,?_⟩
  · simp only[aw.f b cs L]
  · simp only at L;split at L
    · next aX=>cases L;exact(D.bw b _ aX).1
    · split at L
      · cases aj:N.M b with
        |none=>rw[aj]at L;cases L
        |some x=>rw[aj]at L;cases L;exact⟨x.own,rfl⟩
      · cases L
  · refine NK D (λb cs L=>by simp only[L]) 9 Z z λo an iE b cs w bT aj=> ?_;cases vF:dI b with
    |some b1=>obtain⟨⟨e1,uL⟩,_⟩:=D.bw b b1 vF;rw[aj]at uL;cases uL;rfl
    |none=>rw[if_pos ⟨o,bT⟩,aj];rfl
theorem Td{c:U}{Q:dr->aL->B->Prop}{d O:Nat}(bB:u d= .slice none 0 0)(h:hs P c (qc u d (.slice (some ⟨t.next,0,none⟩) 0 O)) ((t.bs 1).au t.next (some ⟨[],true⟩)) Q):hs P c u t Q:= λaA Y K ag m J cm=>by
  have bT:Y t.next=none:=by
    cases aU:Y t.next with
    |none=>rfl
    |some b=>have:=(J.cW _ _ aU).1;omega
  have DP:gM Y K ((t.bs 1).au t.next (some ⟨[],true⟩)) m:=by
    refine⟨λo x H=> ?_,λo bg aU=> ?_,J.nm,J.inj,λo b h=>⟨by have:=(J.cW o b h).1;simp only[ae,ad];omega,(J.cW o b h).2⟩,λb cs L=> ?_⟩
    · by_cases an:o=t.next
      · subst an;rw[bX (by simp)]at H;cases H;exact .inr ⟨bT,rfl⟩
      · rw[dv an,B.gr]at H;exact J.m7 o x H
    · by_cases an:o=t.next
      · subst an;have:=(hv aU).2;rw[show((t.bs 1).au t.next (some ⟨[],true⟩)).mp=t.mp from rfl,J.nm _ bT]at this;cases this
      · rw[rX an]at aU;obtain⟨aM,a1⟩:=hv aU;rw[B.gr]at aM;exact J.kz o bg (qv aM a1)
    · obtain⟨z,D⟩:=J.bw b cs L;refine⟨z,λo x UW H=> ?_⟩;have an:o≠t.next:= λe=>by subst e;rw[bT]at UW;cases UW
      rw[dv an,B.gr]at H;exact D o x UW H
  have auZ:jB K Y (qc u d (.slice (some ⟨t.next,0,none⟩) 0 O)) ag:= λx=>by
    have H:=cm x;simp only[qc];split
    · next e=>subst e;rw[bB]at H;rw[H.lo rfl];exact .tX
    · exact H
  refine(h aA Y K ag m DP auZ).aD λe aH bz cE=> ?_;obtain⟨ft,gR,c7,ec,z,D,Z,aw⟩:=cE;refine⟨ft,gR,c7,ec,z,D,Z,?_⟩;have asO:a6 t.next m.next Y K t m Y K ((t.bs 1).au t.next (some ⟨[],true⟩)) m:=⟨iv.refl _,kn.refl _,λ_ _ h=> .inl h,λ_ _ h=> .inl h,by simp,Nat.le_refl _,λ_ _ _=>rfl,λb L=> λ⟨o,x,aM,a1,cI⟩=>by
    have an:o≠t.next:= λe=>by subst e;rw[bT]at aM;cases aM
    rw[dv an,B.gr]at a1;exact⟨o,x,aM,a1,cI⟩,λb L=> λ⟨o,x,aM,a1⟩=>by
    have an:o≠t.next:= λe=>by subst e;rw[bT]at aM;cases aM
    rw[dv an,B.gr]at a1;exact⟨o,x,aM,a1⟩⟩
  exact asO.trans (aw.Fc (by simp) (Nat.le_refl _))
end
end Go.DI
namespace Go.DI
open Go
section
variable {P:Program} {aY:pB P} {CC:List (c8 P)} {SR:List (qf P)} {base bc:Nat} {d:Option Nat} {b0:List b6} {u:aL} {t:B} {aV:aL->B->Prop} {bx:List (Operand×Operand)} {Q:dr->aL->B->Prop}
def S0(aY:pB P)(b:U)(Q:dr->aL->B->Prop)(e:dr)(u:aL)(t:B):Prop:=match e with
  | .gv=>j6 aY b u t Q
  |e=>Q e u t
@[simp] theorem aPQ{b:U}:S0 aY b Q .gv u t=j6 aY b u t Q:=propext Iff.rfl
@[simp] theorem aPP{b:U}{id:Nat}:S0 aY b Q (.bI id) u t=Q (.bI id) u t:=propext Iff.rfl
@[simp] theorem aPR{b:U}:S0 aY b Q .a7 u t=Q .a7 u t:=propext Iff.rfl
@[simp] theorem aNh{K:List nw}{az:Value->B->Prop}:St K az .gv u t=(nI t u K=true/\az (n4 t u K) t):=propext Iff.rfl
@[simp] theorem aNi{K:List nw}{az:Value->B->Prop}:St K az .a7 u t=(nI t u K=true/\az (n4 t u K) t):=propext Iff.rfl
@[simp] theorem aP3:j6 aY .skip u t Q=Q .gv u t:=propext Iff.rfl
@[simp] theorem aPY{id:Nat}:j6 aY (.bI id) u t Q=Q (.bI id) u t:=propext Iff.rfl
@[simp] theorem aP1:j6 aY .a7 u t Q=Q .a7 u t:=propext Iff.rfl
@[simp] theorem aP0{ops:List b6}:j6 aY (.I ops) u t Q=eo aY t.next ops u (k2 ops t) (Q .gv):=propext Iff.rfl
@[simp] theorem aP2{a b:U}:j6 aY (.E a b) u t Q=j6 aY a u t (S0 aY b Q):=propext Iff.rfl
@[simp] theorem aPX{c:Operand}{a b:U}:j6 aY (.bj c a b) u t Q=(vT (ab u c)=true/\if xR (ab u c)=true then j6 aY a u t Q else j6 aY b u t Q):=propext Iff.rfl
@[simp] theorem aPW{id:Nat}{c:U}:j6 aY (.block id c) u t Q=j6 aY c u t (sz id Q):=propext Iff.rfl
@[simp] theorem aPZ{c:U}:j6 aY (.loop c) u t Q=hs P (.loop c) u t Q:=propext Iff.rfl
@[simp] theorem aQr:eo aY base [] u t aV=aV u t:=propext Iff.rfl
@[simp] theorem aQf{k:av}{j:Nat}{b:Bool}:eo aY base (⟨bc,d,some (j,b),k,bx⟩::b0) u t aV=if fN u (some (j,b))=true then eo aY base (⟨bc,d,none,k,bx⟩::b0) u t aV else eo aY base b0 (dA u d undef) t aV:=by simp only[eo];rfl
def ZI(aY:pB P)(base:Nat)(d:Option Nat)(b0:List b6)(u:aL)(aV:aL->B->Prop)(r:Value)(t:B):Prop:=eo aY base b0 (dA u d r) t aV
@[simp] theorem aKK{r:Value}:ZI aY base d b0 u aV r t=eo aY base b0 (dA u d r) t aV:=propext Iff.rfl
@[simp] theorem aQa{f:Nat}{as:List Operand}:eo aY base (⟨bc,d,none,.eI f as,bx⟩::b0) u t aV=wJ aY f (as.map (ab u)) t (yB u t bx) (ZI aY base d b0 u aV):=by simp only[eo,fN,if_true];rfl
@[simp] theorem aQb{x:Operand}{as:List Operand}:eo aY base (⟨bc,d,none,.lZ x as,bx⟩::b0) u t aV=Ix aY (ab u x) (as.map (ab u)) t (yB u t bx) (ZI aY base d b0 u aV):=by simp only[eo,fN,if_true];rfl
@[simp] theorem aHn{f:Nat}{first lT:Array Value}{args:List Value}{v5:Bool}{aV:Value->B->Prop}:Ix aY (.func (.func f) first lT) args t v5 aV=wJ aY f (first.toList++args++lT.toList) t v5 aV:=propext Iff.rfl
@[simp] theorem aQp(x:Operand):eo aY base (⟨bc,d,none,.pk x,bx⟩::b0) u t aV=(lg u t bx=true/\eo aY base b0 (dA u d (ab u x)) (t) aV):=by simp only[eo,fN,if_true,lV,av.lu,av.ok,true_and];rfl
@[simp] theorem aQt(c a b:Operand):eo aY base (⟨bc,d,none,.s4 c a b,bx⟩::b0) u t aV=(vT (ab u c)=true/\(lg u t bx=true/\eo aY base b0 (dA u d (if xR (ab u c)=true then ab u a else ab u b)) (t) aV)):=by simp only[eo,fN,if_true,lV];rfl
@[simp] theorem aQs(x:Operand):eo aY base (⟨bc,d,none,.Az x,bx⟩::b0) u t aV=(Eo (ab u x)=true/\(lg u t bx=true/\eo aY base b0 (dA u d (ab u x)) (t) aV)):=by simp only[eo,fN,if_true,lV];rfl
@[simp] theorem aP4(O:List Value):eo aY base (⟨bc,d,none,.eR O,bx⟩::b0) u t aV=(lg u t bx=true/\eo aY base b0 (dA u d (.pointer (some ⟨base+bc,0,none⟩))) (t.au (base+bc) (some ⟨O,true⟩)) aV):=by simp only[eo,fN,if_true,lV,av.lu,av.ok,true_and];rfl
@[simp] theorem aP7(x:Operand):eo aY base (⟨bc,d,none,.o7 x,bx⟩::b0) u t aV=(ar (ab u x)=true/\(lg u t bx=true/\eo aY base b0 (dA u d (.pointer (some ⟨base+bc,0,none⟩))) (t.au (base+bc) (some ⟨al (ab u x),true⟩)) aV)):=by simp only[eo,fN,if_true,lV];rfl
@[simp] theorem aP9(O:List Value)(dX:List (Nat×Nat×Operand)):eo aY base (⟨bc,d,none,.gT O dX,bx⟩::b0) u t aV=(sh O u dX=true/\(lg u t bx=true/\eo aY base b0 (dA u d (.agg (n3 O u dX).toArray)) (t) aV)):=by simp only[eo,fN,if_true,lV];rfl
@[simp] theorem aP8(O n:Nat)(cs:List Value)(dX:List (Nat×Nat×Operand)):eo aY base (⟨bc,d,none,.iT O n cs dX,bx⟩::b0) u t aV=(sh cs u dX=true/\(lg u t bx=true/\eo aY base b0 (dA u d (.slice (some ⟨base+bc,0,none⟩) n O)) (t.au (base+bc) (some ⟨n3 cs u dX,true⟩)) aV)):=by simp only[eo,fN,if_true,lV];rfl
@[simp] theorem aQj(ep:Bool)(n:Nat)(x:Operand):eo aY base (⟨bc,d,none,.fj ep n x,bx⟩::b0) u t aV=((tg t (ab u x) n&&(ep||decide (n=1)))=true/\(lg u t bx=true/\eo aY base b0 (dA u d (Cc t ep n (ab u x))) (t) aV)):=by simp only[eo,fN,if_true,lV];rfl
@[simp] theorem aQw(n:Nat)(x v:Operand):eo aY base (⟨bc,d,none,.store n x v,bx⟩::b0) u t aV=((gZ t (ab u x) n&&rH t (ab u x)&&ar (ab u v)&&decide ((al (ab u v)).length=n))=true/\(lg u t bx=true/\eo aY base b0 (dA u d (undef)) (qR t (ab u x) (al (ab u v))) aV)):=by simp only[eo,fN,if_true,lV];rfl
@[simp] theorem aP6(op:BinOp)(c:wG)(x y:Operand):eo aY base (⟨bc,d,none,.gz op c x y,bx⟩::b0) u t aV=((oc (ab u x)&&oc (ab u y)&&uj op c (ab u x) (ab u y))=true/\(lg u t bx=true/\eo aY base b0 (dA u d (nc op (ab u x) (ab u y))) (t) aV)):=by simp only[eo,fN,if_true,lV];rfl
@[simp] theorem aQc(bV:Bool)(gG:List rE)(x y:Operand):eo aY base (⟨bc,d,none,.rQ bV gG x y,bx⟩::b0) u t aV=((tK (ab u x)&&tK (ab u y)&&kb gG (al (ab u x)) (al (ab u y)))=true/\(lg u t bx=true/\eo aY base b0 (dA u d (.bool (if bV then !ny (al (ab u x)) (al (ab u y))else ny (al (ab u x)) (al (ab u y))))) (t) aV)):=by simp only[eo,fN,if_true,lV];rfl
@[simp] theorem aQx(op:UnOp)(x:Operand):eo aY base (⟨bc,d,none,.nv op x,bx⟩::b0) u t aV=(AV op (ab u x)=true/\(lg u t bx=true/\eo aY base b0 (dA u d (E6 op (ab u x))) (t) aV)):=by simp only[eo,fN,if_true,lV];rfl
@[simp] theorem aQv(O:Nat)(x:Operand)(cZ aa:Option Operand):eo aY base (⟨bc,d,none,.pv O x cZ aa,bx⟩::b0) u t aV=((nt O (ab u x)&&p5 u cZ&&p5 u aa&&decide (0<=hJ u cZ 0)&&decide (hJ u cZ 0<=hJ u aa (l7 (ab u x)))&&decide (hJ u aa (l7 (ab u x))<=l7 (ab u x)))=true/\(lg u t bx=true/\eo aY base b0 (dA u d (ve (ab u x) O (hJ u cZ 0).toNat (hJ u aa (l7 (ab u x))).toNat)) (t) aV)):=by simp only[eo,fN,if_true,lV];rfl
@[simp] theorem aQu(O n:Nat)(x:Operand):eo aY base (⟨bc,d,none,.sq O n x,bx⟩::b0) u t aV=((gZ t (ab u x) (n*O)&&decide (n<=maxLen))=true/\(lg u t bx=true/\eo aY base b0 (dA u d (Ih (ab u x) O n)) (t) aV)):=by simp only[eo,fN,if_true,lV];rfl
@[simp] theorem aQn(O bytes:Nat)(mT:List Value)(l c:Operand):eo aY base (⟨bc,d,none,.nk O bytes mT l c,bx⟩::b0) u t aV=((fU (ab u l)&&fU (ab u c)&&decide (0<=gd (ab u l))&&decide (gd (ab u l)<=gd (ab u c))&&decide (gd (ab u c)*(bytes:Int)<=140737488355328)&&decide (gd (ab u c)<=9223372036854775807)&&decide (0<O))=true/\(lg u t bx=true/\eo aY base b0 (dA u d (.slice (some ⟨base+bc,0,none⟩) (gd (ab u l)).toNat O)) (t.au (base+bc) (some ⟨(List.replicate (gd (ab u l)).toNat mT).flatten,true⟩)) aV)):=by simp only[eo,fN,if_true,lV];rfl
@[simp] theorem aQe(off:Nat)(x:Operand):eo aY base (⟨bc,d,none,.ur off x,bx⟩::b0) u t aV=(sj (ab u x)=true/\(lg u t bx=true/\eo aY base b0 (dA u d (yT (ab u x) off)) (t) aV)):=by simp only[eo,fN,if_true,lV];rfl
@[simp] theorem aQg(O:Nat)(x i:Operand):eo aY base (⟨bc,d,none,.pg O x i,bx⟩::b0) u t aV=((nt O (ab u x)&&fU (ab u i)&&decide (0<=gd (ab u i))&&decide (gd (ab u i)<l7 (ab u x)))=true/\(lg u t bx=true/\eo aY base b0 (dA u d (Cy (ab u x) O (gd (ab u i)))) (t) aV)):=by simp only[eo,fN,if_true,lV];rfl
@[simp] theorem aQh(O len:Nat)(x i:Operand):eo aY base (⟨bc,d,none,.ph O len x i,bx⟩::b0) u t aV=((sj (ab u x)&&fU (ab u i)&&decide (0<=gd (ab u i))&&decide (gd (ab u i)<(len:Int)))=true/\(lg u t bx=true/\eo aY base b0 (dA u d (yT (ab u x) ((gd (ab u i)).toNat*O))) (t) aV)):=by simp only[eo,fN,if_true,lV];rfl
@[simp] theorem aQd(i:Nat)(x:Operand):eo aY base (⟨bc,d,none,.ext i x,bx⟩::b0) u t aV=(E4 (ab u x) i=true/\(lg u t bx=true/\eo aY base b0 (dA u d (CJ (ab u x) i)) (t) aV)):=by simp only[eo,fN,if_true,lV];rfl
@[simp] theorem aQi(x:Operand):eo aY base (⟨bc,d,none,.uX x,bx⟩::b0) u t aV=(B8 (ab u x)=true/\(lg u t bx=true/\eo aY base b0 (dA u d (.int .i64 (l7 (ab u x)))) (t) aV)):=by simp only[eo,fN,if_true,lV];rfl
@[simp] theorem aP5(O bytes:Nat)(x y:Operand):eo aY base (⟨bc,d,none,.app O bytes x y,bx⟩::b0) u t aV=((ik t O (ab u x)&&nK t (ab u x)&&qb t O (ab u y)&&decide (0<O)&&decide ((hA (ab u x)+nJ (ab u y))*bytes<=140737488355328)&&decide (hA (ab u x)+nJ (ab u y)<=9223372036854775807))=true/\(lg u t bx=true/\eo aY base b0 (dA u d (if nJ (ab u y)=0 then ab u x else .slice (some ⟨base+bc,0,none⟩) (hA (ab u x)+nJ (ab u y)) O)) (if nJ (ab u y)=0 then t else(n0 t (ab u x)).au (base+bc) (some ⟨hO t O (ab u x)++tj t O (ab u y),true⟩)) aV)):=by simp only[eo,fN,if_true,lV];rfl
@[simp] theorem aQk(fC:Bool)(x:Operand)(xs:List Operand):eo aY base (⟨bc,d,none,.xy fC x xs,bx⟩::b0) u t aV=((fU (ab u x)&&xs.all λy=>fU (ab u y))=true/\(lg u t bx=true/\eo aY base b0 (dA u d (xs.foldl (λef y=>if fC then qL ef (ab u y)else qM ef (ab u y)) (ab u x))) (t) aV)):=by simp only[eo,fN,if_true,lV];rfl
@[simp] theorem aQm:eo aY base (⟨bc,d,none,.oS,bx⟩::b0) u t aV=(lg u t bx=true/\eo aY base b0 (dA u d (.map (some (base+bc)))) (t.hq (base+bc) []) aV):=by simp only[eo,fN,if_true,lV,av.lu,av.ok,true_and];rfl
@[simp] theorem aQo(gu:mx)(zero:Value)(o:Bool)(x k:Operand):eo aY base (⟨bc,d,none,.pY gu zero o x k,bx⟩::b0) u t aV=(alh gu t (ab u x) (ab u k)=true/\(lg u t bx=true/\eo aY base b0 (dA u d (ali zero o t (ab u x) (ab u k))) (t) aV)):=by simp only[eo,fN,if_true,lV];rfl
@[simp] theorem aQq(gu:mx)(x k v:Operand):eo aY base (⟨bc,d,none,.pl gu x k v,bx⟩::b0) u t aV=(aln gu t (ab u x) (ab u k) (ab u v)=true/\(lg u t bx=true/\eo aY base b0 (dA u d (undef)) (alm t (ab u x) (ab u k) (ab u v)) aV)):=by simp only[eo,fN,if_true,lV];rfl
@[simp] theorem aQl(f:Nat)(gA cs:List Operand):eo aY base (⟨bc,d,none,.tP (.func f) gA cs,bx⟩::b0) u t aV=(lg u t bx=true/\eo aY base b0 (dA u d (.func (.func f) (gA.map (ab u)).toArray (cs.map (ab u)).toArray)) (t) aV):=by simp only[eo,fN,if_true,lV,av.lu,true_and];rfl
@[simp] theorem aGL{cq:List Value}{k n:Nat}:tg t (fL cq k) n=decide (k+n<=cq.length):=by simp[tg]
@[simp] theorem aGM{a o n:Nat}:tg t (.pointer (some ⟨a,o,none⟩)) n=(match t.M a with|some x=>decide (o+n<=x.cells.length)|none=>false):=rfl
@[simp] theorem aLg{cq:List Value}{k n:Nat}{ep:Bool}:Cc t ep n (fL cq k)=if ep then .agg ((cq.drop k).take n).toArray else((cq.drop k).take 1).headD undef:=by simp[Cc]
@[simp] theorem aLh{a o n:Nat}{ep:Bool}:Cc t ep n (.pointer (some ⟨a,o,none⟩))=if ep then .agg (ka t a o n).toArray else(ka t a o 1).headD undef:=rfl
@[simp] theorem aMx{cq:List Value}{k:Nat}:sj (fL cq k)=true:=rfl
@[simp] theorem aMy{a o:Nat}:sj (.pointer (some ⟨a,o,none⟩))=true:=rfl
@[simp] theorem aMv{cq:List Value}{k n:Nat}:yT (fL cq k) n=fL cq (k+n):=by simp[yT]
@[simp] theorem aMw{a o n:Nat}:yT (.pointer (some ⟨a,o,none⟩)) n= .pointer (some ⟨a,o+n,none⟩):=rfl
section
variable {bR:List (List Value)} {O mS l c n:Nat} {a:Option Addr} {fq:Addr} {s:ByteArray} {i:Int}
@[simp] theorem aKq:B8 (bE bR O)=true:=rfl
@[simp] theorem aKr:B8 (.slice a l c)=true:=rfl
@[simp] theorem aK3:l7 (bE bR O)=bR.length:=by simp[l7]
@[simp] theorem aK4:l7 (.slice a l c)=l:=rfl
@[simp] theorem aPq:nJ (.slice a l c)=l:=rfl
@[simp] theorem aPr:nt mS (bE bR O)=(O==mS):=by simp[nt]
@[simp] theorem aPt{b o:Nat}:nt O (.slice (some ⟨b,o,none⟩) l c)=(c==O):=by simp[nt,jQ]
@[simp] theorem aPs:nt O (.slice none 0 0)=true:=rfl
@[simp] theorem aPw{h:Nat}:ve (bE bR O) mS l h=bE ((bR.take h).drop l) mS:=by simp[ve]
@[simp] theorem aPy{b o h:Nat}:ve (.slice (some ⟨b,o,none⟩) n c) O l h= .slice (some ⟨b,o+l*O,none⟩) (h-l) c:=rfl
@[simp] theorem aPx{h:Nat}:ve (.slice none n c) O l h= .slice none 0 0:=rfl
@[simp] theorem aPn:Cy (bE bR O) mS i=fL (bR.getD i.toNat []) 0:=by simp[Cy]
@[simp] theorem aPo{b o:Nat}:Cy (.slice (some ⟨b,o,none⟩) l c) O i= .pointer (some ⟨b,o+i.toNat*O,none⟩):=rfl
@[simp] theorem aPD{b o:Nat}:qb t O (.slice (some ⟨b,o,none⟩) l c)=(c==O&&(match t.M b with|some x=>decide (o+l*O<=x.cells.length)|none=>false)):=rfl
@[simp] theorem aPC:qb t O (.slice none 0 0)=true:=rfl
@[simp] theorem aHB{b o:Nat}:tj t O (.slice (some ⟨b,o,none⟩) l c)=ka t b o (l*O):=rfl
@[simp] theorem aHA:tj t O (.slice none l c)=[]:=rfl
end
@[simp] theorem aKz{k:IntKind}{n:Int}:l3 (.int k n)=false:=rfl
@[simp] theorem aKw{b:Bool}:l3 (.bool b)=false:=rfl
@[simp] theorem aKF{b:ByteArray}:l3 (.string b)=false:=rfl
@[simp] theorem aKD{a:Option Addr}:l3 (.pointer a)=false:=rfl
@[simp] theorem aKE{a:Option Addr}{l c:Nat}:l3 (.slice a l c)=false:=rfl
@[simp] theorem aKA{a:Option Nat}:l3 (.map a)=false:=rfl
@[simp] theorem aKv{a:Array Value}:l3 (.agg a)=false:=rfl
@[simp] theorem aKG{a:Array Value}:l3 (.tuple a)=false:=rfl
@[simp] theorem aKH:l3 undef=false:=rfl
@[simp] theorem aKx{f:Nat}{a b:Array Value}:l3 (.func (.func f) a b)=false:=rfl
@[simp] theorem aKB:l3 .nilFunc=false:=rfl
@[simp] theorem aKC:l3 .nilIface=false:=rfl
@[simp] theorem aKy{t:TypeId}{v:Value}:l3 (.iface t v)=false:=rfl
@[simp] theorem aGR{k:IntKind}{n:Int}:oc (.int k n)=true:=rfl
@[simp] theorem aGP{b:Bool}:oc (.bool b)=true:=rfl
@[simp] theorem aGV{b:ByteArray}:oc (.string b)=true:=rfl
@[simp] theorem aGU{a:Option Addr}:oc (.pointer a)=true:=rfl
@[simp] theorem aGS{l c:Nat}:oc (.slice none l c)=true:=rfl
@[simp] theorem aGQ{f:Nat}{a b:Array Value}:oc (.func (.func f) a b)=true:=rfl
@[simp] theorem aGT:oc .nilFunc=true:=rfl
@[simp high] theorem aQE{bR:List (List Value)}{O:Nat}:al (bE bR O)=[bE bR O]:=rfl
@[simp high] theorem aQD{cq:List Value}{O:Nat}:al (fL cq O)=[fL cq O]:=rfl
@[simp high] theorem aLR{bR:List (List Value)}{O:Nat}:ar (bE bR O)=true:=rfl
@[simp high] theorem aLQ{cq:List Value}{O:Nat}:ar (fL cq O)=true:=rfl
@[simp high] theorem aMc{bR:List (List Value)}{O:Nat}:ao (bE bR O)=true:=rfl
@[simp high] theorem aIb{bR:List (List Value)}{O:Nat}:fg (bE bR O)=false:=rfl
@[simp high] theorem aIa{cq:List Value}{O:Nat}:fg (fL cq O)=false:=rfl
@[simp high] theorem aKp{cq:List Value}{O:Nat}:Eo (fL cq O)=true:=rfl
@[simp high] theorem aGX{bR:List (List Value)}{O:Nat}:ai (bE bR O)=none:=rfl
@[simp high] theorem aGW{cq:List Value}{O:Nat}:ai (fL cq O)=none:=rfl
@[simp] theorem aHK:lg u t []=true:=rfl
@[simp] theorem aHJ{x y:Operand}:lg u t ((x,y)::bx)=(M6 t (ab u x) (ab u y)&&lg u t bx):=rfl
@[simp] theorem aKM:yB u t []=true:=rfl
@[simp] theorem aKL{x:Operand×Operand}:yB u t (x::bx)=((match ai (ab u x.1)with|some o=> !HC t o|none=>true)&&yB u t bx):=rfl
section
variable {k:IntKind} {n:Int} {b:Bool} {s:ByteArray} {a:Option Addr} {l c f:Nat} {xs ys:Array Value} {v:Value} {tY:TypeId} {mp:Option Nat}
@[simp] theorem aQJ:al (.int k n)=[.int k n]:=rfl
@[simp] theorem aLW:ar (.int k n)=true:=rfl
@[simp] theorem aMh:ao (.int k n)=true:=rfl
@[simp] theorem aQG:al (.bool b)=[.bool b]:=rfl
@[simp] theorem aLT:ar (.bool b)=true:=rfl
@[simp] theorem aMe:ao (.bool b)=true:=rfl
@[simp] theorem aQP:al (.string s)=[.string s]:=rfl
@[simp] theorem aL2:ar (.string s)=true:=rfl
@[simp] theorem aMn:ao (.string s)=true:=rfl
@[simp] theorem aQN:al (.pointer a)=[.pointer a]:=rfl
@[simp] theorem aL0:ar (.pointer a)=true:=rfl
@[simp] theorem aMl:ao (.pointer a)=true:=rfl
@[simp] theorem aQO:al (.slice a l c)=[.slice a l c]:=rfl
@[simp] theorem aL1:ar (.slice a l c)=true:=rfl
@[simp] theorem aMm:ao (.slice a l c)=true:=rfl
@[simp] theorem aQK:al (.map mp)=[.map mp]:=rfl
@[simp] theorem aLX:ar (.map mp)=true:=rfl
@[simp] theorem aMi:ao (.map mp)=true:=rfl
@[simp] theorem aQH:al (.func (.func f) xs ys)=[.func (.func f) xs ys]:=rfl
@[simp] theorem aLU:ar (.func (.func f) xs ys)=true:=rfl
@[simp] theorem aMf:ao (.func (.func f) xs ys)=true:=rfl
@[simp] theorem aQL:al (.nilFunc)=[.nilFunc]:=rfl
@[simp] theorem aLY:ar (.nilFunc)=true:=rfl
@[simp] theorem aMj:ao (.nilFunc)=true:=rfl
@[simp] theorem aQM:al (.nilIface)=[.nilIface]:=rfl
@[simp] theorem aLZ:ar (.nilIface)=true:=rfl
@[simp] theorem aMk:ao (.nilIface)=true:=rfl
@[simp] theorem aQI:al (.iface tY v)=[.iface tY v]:=rfl
@[simp] theorem aLV:ar (.iface tY v)=true:=rfl
@[simp] theorem aMg:ao (.iface tY v)=true:=rfl
@[simp] theorem aQF:al (.agg xs)=xs.toList:=rfl
@[simp] theorem aLS:ar (.agg xs)=true:=rfl
@[simp] theorem aMd:ao (.agg xs)=false:=rfl
@[simp] theorem aL3:ar (.tuple xs)=false:=rfl
@[simp] theorem aG2:ai (.int k n)=none:=rfl
@[simp] theorem aGZ:ai (.bool b)=none:=rfl
@[simp] theorem aHb:ai (.string s)=none:=rfl
@[simp] theorem aG0:ai (.func (.func f) xs ys)=none:=rfl
@[simp] theorem aG4:ai (.nilFunc)=none:=rfl
@[simp] theorem aG5:ai (.nilIface)=none:=rfl
@[simp] theorem aG1:ai (.iface tY v)=none:=rfl
@[simp] theorem aGY:ai (.agg xs)=none:=rfl
@[simp] theorem aHc:ai (.tuple xs)=none:=rfl
@[simp] theorem aG9{fq:Addr}:ai (.pointer (some fq))=some fq.block:=rfl
@[simp] theorem aG8:ai (.pointer none)=none:=rfl
@[simp] theorem aHa{fq:Addr}:ai (.slice (some fq) l c)=some fq.block:=rfl
@[simp] theorem aG6:ai (.slice none l c)=none:=rfl
@[simp] theorem aG3:ai (.map (some l))=some l:=rfl
@[simp] theorem aG7:ai (.map none)=none:=rfl
end
@[simp] theorem aHm{f:Nat}{args:List Value}{v5:Bool}{aV:Value->B->Prop}:wJ aY f args t v5 aV=if FU aY.p f=true then HE aY.p f args t aV else v5=true/\if FT aY.i f=true then y4 aY.i f args t aV else hn P f args t aV:=by simp only[wJ]
@[simp] theorem aIV{f:Nat}:FT ([]:List (qf P)) f=false:=rfl
@[simp] theorem aIU{s:qf P}{f:Nat}:FT (s::SR) f=(s.f==f||FT SR f):=rfl
def anR(o:Option (Value×B))(aV:Value->B->Prop):Prop:=match o with
  |some (r,t)=>aV r t
  |none=>False
@[simp] theorem aQB{r:Value}{aV:Value->B->Prop}:anR (some (r,t)) aV=aV r t:=propext Iff.rfl
@[simp] theorem aPJ{s:qf P}{f:Nat}{args:List Value}{aV:Value->B->Prop}:y4 (s::SR) f args t aV=if s.f=f then anR (s.fn args t) aV else y4 SR f args t aV:=propext Iff.rfl
@[simp] theorem aIX{f:Nat}:FU ([]:List (c8 P)) f=false:=rfl
@[simp] theorem aIW{s:c8 P}{f:Nat}:FU (s::CC) f=(s.f==f||FU CC f):=rfl
def anS(o:Option Value)(az:Value->Prop):Prop:=match o with
  |some r=>az r
  |none=>False
@[simp] theorem aQC{r:Value}{az:Value->Prop}:anS (some r) az=az r:=propext Iff.rfl
@[simp] theorem aPL{s:c8 P}{f:Nat}{args:List Value}{az:Value->Prop}:y5 (s::CC) f args az=if s.f=f then anS (s.fn args) az else y5 CC f args az:=propext Iff.rfl
def Mb(args:List Value)(t:B)(aV:Value->B->Prop)(r:Value):Prop:=aV r (if pb r=true then vr t (args.flatMap (fR 9 t))else wo t (args.flatMap (fR 9 t)))
@[simp low] theorem aMB{args:List Value}{aV:Value->B->Prop}{r:Value}:Mb args t aV r=aV r (if pb r=true then vr t (args.flatMap (fR 9 t))else wo t (args.flatMap (fR 9 t))):=propext Iff.rfl
@[simp] theorem aMA{args:List Value}{aV:Value->B->Prop}{b:Bool}:Mb args t aV (.bool b)=aV (.bool b) (vr t (args.flatMap (fR 9 t))):=propext Iff.rfl
@[simp] theorem aMC{args:List Value}{aV:Value->B->Prop}{k:IntKind}{n:Int}:Mb args t aV (.int k n)=aV (.int k n) (vr t (args.flatMap (fR 9 t))):=propext Iff.rfl
@[simp] theorem aMz{args:List Value}{aV:Value->B->Prop}{bR:List (List Value)}{O:Nat}:Mb args t aV (bE bR O)=aV (bE bR O) (wo t (args.flatMap (fR 9 t))):=propext Iff.rfl
def ani(o:Option (List Value))(aY:List (c8 P))(f:Nat)(az:Value->Prop):Prop:=match o with
  |some ts=>y5 aY f ts az
  |none=>False
@[simp] theorem aPK{ts:List Value}{f:Nat}{az:Value->Prop}:ani (some ts) CC f az=y5 CC f ts az:=propext Iff.rfl
@[simp] theorem aMD{f:Nat}{args:List Value}{aV:Value->B->Prop}:HE CC f args t aV=ani (NL 9 t args) CC f (Mb args t aV):=propext Iff.rfl
open Classical in
noncomputable def c8.fJ(f:Nat)(cf:Type)(cD:cf->Prop)(enc:cf->List Value)(qP:cf->Value)(ok: ∀x,cD x->eg P f (enc x) (qP x)):c8 P:=
  ⟨f,λargs=>if h: ∃x,cD x/\enc x=args then some (qP h.choose)else none,λargs r h=>by
    split at h
    · next H=>cases h;have:=ok _ H.choose_spec.1;rw[H.choose_spec.2]at this;exact this
    · cases h⟩
theorem c8.gX{f:Nat}{cf:Type}{cD:cf->Prop}{enc:cf->List Value}{qP:cf->Value}{ok: ∀x,cD x->eg P f (enc x) (qP x)}{x:cf}(aq:cD x)(aa: ∀y,enc y=enc x->y=x):(c8.fJ f cf cD enc qP ok).fn (enc x)=some (qP x):=by have nC: ∃y,cD y/\enc y=enc x:=⟨x,aq,rfl⟩;simp only[c8.fJ,dif_pos nC];rw[aa _ nC.choose_spec.2]
@[simp] theorem c8.aMb{f:Nat}{cf:Type}{cD:cf->Prop}{enc:cf->List Value}{qP:cf->Value}{ok: ∀x,cD x->eg P f (enc x) (qP x)}:(c8.fJ f cf cD enc qP ok).f=f:=rfl
@[simp] theorem aIt{n:Nat}{args:List Value}:NL n t args=ih (eJ n t) args:=rfl
@[simp] theorem aMr{cK qV:Type}{f:cK->Option qV}:ih f []=some []:=rfl
@[simp] theorem aMq{cK qV:Type}{f:cK->Option qV}{x:cK}{xs:List cK}:ih f (x::xs)=match f x with
  | some y=>(match ih f xs with
    |some ys=>some (y::ys)
    |none=>none)
  |none=>none:=rfl
theorem Di{n:Nat}{v:Value}(h:j9 v=true):eJ n t v=some v:=by cases n<;>simp[eJ,h]
theorem HF{n:Nat}{v:Value}(h:j9 v=true):fR n t v=[]:=by cases n<;>simp[fR,h]
@[simp] theorem aIk{n:Nat}{k:IntKind}{x:Int}:eJ n t (.int k x)=some (.int k x):=Di rfl
@[simp] theorem aM2{n:Nat}{k:IntKind}{x:Int}:fR n t (.int k x)=[]:=HF rfl
@[simp] theorem aHt{k:IntKind}{x:Int}:j9 (.int k x)=true:=rfl
@[simp] theorem aIj{n:Nat}{b:Bool}:eJ n t (.bool b)=some (.bool b):=Di rfl
@[simp] theorem aMV{n:Nat}{b:Bool}:fR n t (.bool b)=[]:=HF rfl
@[simp] theorem aHs{b:Bool}:j9 (.bool b)=true:=rfl
@[simp] theorem aIm{n:Nat}{s:ByteArray}:eJ n t (.string s)=some (.string s):=Di rfl
@[simp] theorem aM4{n:Nat}{s:ByteArray}:fR n t (.string s)=[]:=HF rfl
@[simp] theorem aHz{s:ByteArray}:j9 (.string s)=true:=rfl
@[simp] theorem aIl{n:Nat}:eJ n t (.slice none 0 0)=some (.slice none 0 0):=Di rfl
@[simp] theorem aM3{n:Nat}:fR n t (.slice none 0 0)=[]:=HF rfl
@[simp] theorem aHw:j9 (.slice none 0 0)=true:=rfl
@[simp] theorem aHy:j9 (.pointer none)=true:=rfl
@[simp] theorem aHu:j9 (.nilFunc)=true:=rfl
@[simp] theorem aHv:j9 (.nilIface)=true:=rfl
@[simp] theorem aHx:j9 (.map none)=true:=rfl
@[simp] theorem aIc{n:Nat}{bR:List (List Value)}{O:Nat}:eJ n t (bE bR O)=some (bE bR O):=Di rfl
@[simp] theorem aMO{n:Nat}{bR:List (List Value)}{O:Nat}:fR n t (bE bR O)=[]:=HF rfl
@[simp] theorem aHr{bR:List (List Value)}{O:Nat}:j9 (bE bR O)=true:=rfl
@[simp] theorem aHq{cq:List Value}{O:Nat}:j9 (fL cq O)=true:=rfl
theorem UC{n b o l O:Nat}:eJ (n+1) t (.slice (some ⟨b,o,none⟩) l O)=match t.M b with
  | some x=>if o+l*O<=x.cells.length then(match ih (ih (eJ n t)) (oe O l (x.cells.drop o))with
    |some bR=>some (bE bR O)
    |none=>none)else none
  |none=>none:=by
  simp only[eJ,j9,fg,l3,Bool.or_false,Bool.false_eq_true,if_false,Option.isNone_none,Bool.true_and,decide_eq_true_eq];rfl
@[simp] theorem aIi{cs:Array Value}:eJ 9 t (.agg cs)=match ih (eJ 8 t) cs.toList with
  |some l=>some (.agg l.toArray)
  |none=>none:=rfl
@[simp] theorem aIs{cs:Array Value}:eJ 9 t (.tuple cs)=match ih (eJ 8 t) cs.toList with
  |some l=>some (.tuple l.toArray)
  |none=>none:=rfl
@[simp] theorem aRI{f:Nat}{xs cs:Array Value}:eJ 9 t (.func (.func f) xs cs)=match ih (eJ 8 t) xs.toList,ih (eJ 8 t) cs.toList with
  |some l,some k=>some (.func (.func f) l.toArray k.toArray)
  |_,_=>none:=rfl
theorem jq{b o l O:Nat}:eJ 9 t (.slice (some ⟨b,o,none⟩) l O)=match t.M b with
  | some x=>if o+l*O<=x.cells.length then(match ih (ih (eJ 8 t)) (oe O l (x.cells.drop o))with
    |some bR=>some (bE bR O)
    |none=>none)else none
  |none=>none:=UC
@[simp] theorem aMU{cs:Array Value}:fR 9 t (.agg cs)=cs.toList.flatMap (fR 8 t):=rfl
@[simp] theorem aNa{cs:Array Value}:fR 9 t (.tuple cs)=cs.toList.flatMap (fR 8 t):=rfl
@[simp] theorem aM1{f:Nat}{xs cs:Array Value}:fR 9 t (.func (.func f) xs cs)=xs.toList.flatMap (fR 8 t)++cs.toList.flatMap (fR 8 t):=rfl
theorem jw{b o l O:Nat}:fR 9 t (.slice (some ⟨b,o,none⟩) l O)=b::(match t.M b with
  |some x=>x.cells.flatMap (fR 8 t)
  |none=>[]):=rfl
@[simp] theorem aIh{cs:Array Value}:eJ 8 t (.agg cs)=match ih (eJ 7 t) cs.toList with
  |some l=>some (.agg l.toArray)
  |none=>none:=rfl
@[simp] theorem aIr{cs:Array Value}:eJ 8 t (.tuple cs)=match ih (eJ 7 t) cs.toList with
  |some l=>some (.tuple l.toArray)
  |none=>none:=rfl
@[simp] theorem aRH{f:Nat}{xs cs:Array Value}:eJ 8 t (.func (.func f) xs cs)=match ih (eJ 7 t) xs.toList,ih (eJ 7 t) cs.toList with
  |some l,some k=>some (.func (.func f) l.toArray k.toArray)
  |_,_=>none:=rfl
theorem adZ{b o l O:Nat}:eJ 8 t (.slice (some ⟨b,o,none⟩) l O)=match t.M b with
  | some x=>if o+l*O<=x.cells.length then(match ih (ih (eJ 7 t)) (oe O l (x.cells.drop o))with
    |some bR=>some (bE bR O)
    |none=>none)else none
  |none=>none:=UC
@[simp] theorem aMT{cs:Array Value}:fR 8 t (.agg cs)=cs.toList.flatMap (fR 7 t):=rfl
@[simp] theorem aM9{cs:Array Value}:fR 8 t (.tuple cs)=cs.toList.flatMap (fR 7 t):=rfl
@[simp] theorem aM0{f:Nat}{xs cs:Array Value}:fR 8 t (.func (.func f) xs cs)=xs.toList.flatMap (fR 7 t)++cs.toList.flatMap (fR 7 t):=rfl
theorem amn{b o l O:Nat}:fR 8 t (.slice (some ⟨b,o,none⟩) l O)=b::(match t.M b with
  |some x=>x.cells.flatMap (fR 7 t)
  |none=>[]):=rfl
@[simp] theorem aIg{cs:Array Value}:eJ 7 t (.agg cs)=match ih (eJ 6 t) cs.toList with
  |some l=>some (.agg l.toArray)
  |none=>none:=rfl
@[simp] theorem aIq{cs:Array Value}:eJ 7 t (.tuple cs)=match ih (eJ 6 t) cs.toList with
  |some l=>some (.tuple l.toArray)
  |none=>none:=rfl
@[simp] theorem aRG{f:Nat}{xs cs:Array Value}:eJ 7 t (.func (.func f) xs cs)=match ih (eJ 6 t) xs.toList,ih (eJ 6 t) cs.toList with
  |some l,some k=>some (.func (.func f) l.toArray k.toArray)
  |_,_=>none:=rfl
@[simp] theorem aMS{cs:Array Value}:fR 7 t (.agg cs)=cs.toList.flatMap (fR 6 t):=rfl
@[simp] theorem aM8{cs:Array Value}:fR 7 t (.tuple cs)=cs.toList.flatMap (fR 6 t):=rfl
@[simp] theorem aMZ{f:Nat}{xs cs:Array Value}:fR 7 t (.func (.func f) xs cs)=xs.toList.flatMap (fR 6 t)++cs.toList.flatMap (fR 6 t):=rfl
@[simp] theorem aIf{cs:Array Value}:eJ 6 t (.agg cs)=match ih (eJ 5 t) cs.toList with
  |some l=>some (.agg l.toArray)
  |none=>none:=rfl
@[simp] theorem aIp{cs:Array Value}:eJ 6 t (.tuple cs)=match ih (eJ 5 t) cs.toList with
  |some l=>some (.tuple l.toArray)
  |none=>none:=rfl
@[simp] theorem aRF{f:Nat}{xs cs:Array Value}:eJ 6 t (.func (.func f) xs cs)=match ih (eJ 5 t) xs.toList,ih (eJ 5 t) cs.toList with
  |some l,some k=>some (.func (.func f) l.toArray k.toArray)
  |_,_=>none:=rfl
@[simp] theorem aMR{cs:Array Value}:fR 6 t (.agg cs)=cs.toList.flatMap (fR 5 t):=rfl
@[simp] theorem aM7{cs:Array Value}:fR 6 t (.tuple cs)=cs.toList.flatMap (fR 5 t):=rfl
@[simp] theorem aMY{f:Nat}{xs cs:Array Value}:fR 6 t (.func (.func f) xs cs)=xs.toList.flatMap (fR 5 t)++cs.toList.flatMap (fR 5 t):=rfl
@[simp] theorem aIe{cs:Array Value}:eJ 5 t (.agg cs)=match ih (eJ 4 t) cs.toList with
  |some l=>some (.agg l.toArray)
  |none=>none:=rfl
@[simp] theorem aIo{cs:Array Value}:eJ 5 t (.tuple cs)=match ih (eJ 4 t) cs.toList with
  |some l=>some (.tuple l.toArray)
  |none=>none:=rfl
@[simp] theorem aRE{f:Nat}{xs cs:Array Value}:eJ 5 t (.func (.func f) xs cs)=match ih (eJ 4 t) xs.toList,ih (eJ 4 t) cs.toList with
  |some l,some k=>some (.func (.func f) l.toArray k.toArray)
  |_,_=>none:=rfl
@[simp] theorem aMQ{cs:Array Value}:fR 5 t (.agg cs)=cs.toList.flatMap (fR 4 t):=rfl
@[simp] theorem aM6{cs:Array Value}:fR 5 t (.tuple cs)=cs.toList.flatMap (fR 4 t):=rfl
@[simp] theorem aMX{f:Nat}{xs cs:Array Value}:fR 5 t (.func (.func f) xs cs)=xs.toList.flatMap (fR 4 t)++cs.toList.flatMap (fR 4 t):=rfl
@[simp] theorem aId{cs:Array Value}:eJ 4 t (.agg cs)=match ih (eJ 3 t) cs.toList with
  |some l=>some (.agg l.toArray)
  |none=>none:=rfl
@[simp] theorem aIn{cs:Array Value}:eJ 4 t (.tuple cs)=match ih (eJ 3 t) cs.toList with
  |some l=>some (.tuple l.toArray)
  |none=>none:=rfl
@[simp] theorem aRD{f:Nat}{xs cs:Array Value}:eJ 4 t (.func (.func f) xs cs)=match ih (eJ 3 t) xs.toList,ih (eJ 3 t) cs.toList with
  |some l,some k=>some (.func (.func f) l.toArray k.toArray)
  |_,_=>none:=rfl
@[simp] theorem aMP{cs:Array Value}:fR 4 t (.agg cs)=cs.toList.flatMap (fR 3 t):=rfl
@[simp] theorem aM5{cs:Array Value}:fR 4 t (.tuple cs)=cs.toList.flatMap (fR 3 t):=rfl
@[simp] theorem aMW{f:Nat}{xs cs:Array Value}:fR 4 t (.func (.func f) xs cs)=xs.toList.flatMap (fR 3 t)++cs.toList.flatMap (fR 3 t):=rfl
@[simp] theorem aHD{O:Nat}{cs:List Value}:oe O 0 cs=[]:=rfl
@[simp] theorem aHE{O:Nat}{cs:List Value}:oe O 1 cs=[cs.take O]:=rfl
@[simp] theorem aHF{O:Nat}{cs:List Value}:oe O 2 cs=[cs.take O,(cs.drop O).take O]:=rfl
@[simp] theorem aHG{O:Nat}{cs:List Value}:oe O 3 cs=[cs.take O,(cs.drop O).take O,((cs.drop O).drop O).take O]:=rfl
@[simp] theorem aHH{O:Nat}{cs:List Value}:oe O 4 cs=[cs.take O,(cs.drop O).take O,((cs.drop O).drop O).take O,(((cs.drop O).drop O).drop O).take O]:=rfl
@[simp] theorem aHI{O:Nat}{cs:List Value}:oe O 5 cs=[cs.take O,(cs.drop O).take O,((cs.drop O).drop O).take O,(((cs.drop O).drop O).drop O).take O,((((cs.drop O).drop O).drop O).drop O).take O]:=rfl
@[simp] theorem aLw:yJ.next=0:=rfl
theorem FF{bR:List (List Value)}{n o l O:Nat}{w:Bool}(aj:t.M o=some ⟨bR.flatten,w⟩)(aG:l=bR.length)(aF: ∀r∈bR,r.length=O/\ ∀v∈r,j9 v=true):eJ (n+1) t (.slice (some ⟨o,0,none⟩) l O)=some (bE bR O):=by subst aG;have bY: ∀r∈bR,r.length=O:= λr h=>(aF r h).1;have D:ih (ih (eJ n t)) bR=some bR:=L5 λr h=>L5 λv X=>Di ((aF r h).2 v X);have Z:(bR.flatten).length=bR.length*O:=tn bY;simp[eJ,j9,fg,l3,aj,T4 bY,D,Z]
theorem aBi{cs:List Value}{n:Nat}(aF: ∀v∈cs,j9 v=true):cs.flatMap (fR n t)=[]:=by rw[List.flatMap_eq_nil_iff];exact λv X=>HF (aF v X)
end
@[simp] theorem aNn{d dF:List Value}{l:List (List Value)}:(dF::l)[0]?.getD d=dF:=rfl
@[simp] theorem aNo{d dF bn:List Value}{l:List (List Value)}:(dF::bn::l)[1]?.getD d=bn:=rfl
@[simp] theorem aNp{d dF bn bF:List Value}{l:List (List Value)}:(dF::bn::bF::l)[2]?.getD d=bF:=rfl
theorem fS{t:B}{a b:Nat}:(t.bs a).bs b=t.bs (a+b):=by
  simp only[B.bs,B.mk.injEq,and_true];refine⟨by omega,?_⟩;funext i;by_cases h:i<t.next
  · simp[h,show i<t.next+a by omega]
  · simp[h]
theorem gl{t:B}{c k:Nat}{x:Option fO}(h:c<t.next):(t.au c x).bs k=(t.bs k).au c x:=by
  simp only[B.bs,B.au,B.mk.injEq,and_true,true_and];funext i;by_cases z:i=c
  · subst z;simp[h]
  · simp[z]
attribute [simp] M6 Ir HC Je Jd rX wU oI
end Go.DI
namespace Go.DI
open Go Go.RowKit
def vw(m:B):jA:= λb=>(m.M b).map (·.cells)
section
variable {P:Program} {K:jA} {m N:B}
theorem NM(m:B):zn (vw m) m:= λb cs h=>by
  simp only[vw]at h;cases aj:m.M b with
  |none=>rw[aj]at h;cases h
  |some x=>rw[aj]at h;cases h;exact⟨x.own,rfl⟩
theorem I3{b:Nat}{cs:List Value}{w:Bool}(h:m.M b=some ⟨cs,w⟩):vw m b=some cs:=by simp[vw,h]
theorem ad2(h:zn K m):kn K (vw m):= λb cs L=>by obtain⟨w,aO⟩:=h b cs L;exact I3 aO
abbrev uf(m:B)(v bW:Value):Prop:=cw (vw m) oW v bW
abbrev CY(m:B)(c2 aDR:List Value):Prop:=b2 (vw m) oW c2 aDR
theorem aDm{f:Nat}{ts:List Value}{r:Value}(h: ∀m as,CY m ts as->bJ P f as m λhb N=>(m.next<=N.next/\ ∀b,b<m.next->N.M b=m.M b)/\uf N r hb):eg P f ts r:= λK m as de aE=>by refine(h m as (aE.aD (ad2 de) (iv.refl _))).aD λhb N cE=> ?_;obtain⟨⟨z,D⟩,Z⟩:=cE;exact⟨z,D,vw N,λb cs L=>by obtain⟨w,aO⟩:=de b cs L;exact I3 (by rw[D b (aT aO)];exact aO),NM N,Z⟩
theorem eg.below{f:Nat}{ts as:List Value}{r:Value}(h:eg P f ts r)(aE:CY m ts as):bJ P f as m λhb N=>(m.next<=N.next/\ ∀b,b<m.next->N.M b=m.M b)/\uf N r hb:=by refine(h (vw m) m as (NM m) aE).aD λhb N cE=> ?_;obtain⟨z,D,dI,Z,aw,aX⟩:=cE;exact⟨⟨z,D⟩,aX.aD (ad2 aw) (iv.refl _)⟩
theorem b2.ha{Y:hj}{x:Value}{ys:List Value}(h:b2 K Y [x] ys): ∃y,ys=[y]/\cw K Y x y:=by
  match ys,h with
  |[y],h=>exact⟨y,rfl,h.2 0 x y rfl rfl⟩
  |[],h=>simp[b2]at h
  |_::_::_,h=>simp[b2]at h
theorem b2.MG{Y:hj}{x y:Value}{mT:List Value}(h:b2 K Y [x,y] mT): ∃a b,mT=[a,b]/\cw K Y x a/\cw K Y y b:=by
  match mT,h with
  |[a,b],h=>exact⟨a,b,rfl,h.2 0 x a rfl rfl,h.2 1 y b rfl rfl⟩
  |[],h=>simp[b2]at h
  |[_],h=>simp[b2]at h
  |_::_::_::_,h=>simp[b2]at h
theorem b2.anx{Y:hj}{x y O:Value}{mT:List Value}(h:b2 K Y [x,y,O] mT): ∃a b c,mT=[a,b,c]/\cw K Y x a/\cw K Y y b/\cw K Y O c:=by
  match mT,h with
  |[a,b,c],h=>exact⟨a,b,c,rfl,h.2 0 x a rfl rfl,h.2 1 y b rfl rfl,h.2 2 O c rfl rfl⟩
  |[],h=>simp[b2]at h
  |[_],h=>simp[b2]at h
  |[_,_],h=>simp[b2]at h
  |_::_::_::_::_,h=>simp[b2]at h
structure A4{cK:Type}(q:gS cK)(enc:cK->List Value)(ok:cK->Prop):Prop where
  O: ∀x,(enc x).length=q.O
  sr: ∀m cs x,ok x->CY m (enc x) cs->q.R m cs x
  fJ: ∀m cs x,q.R m cs x->CY m (enc x) cs
theorem A4.ab1{cK:Type}{q:gS cK}{enc:cK->List Value}{ok:cK->Prop}(h:A4 q enc ok){l:List cK}{v:Value}(aA: ∀x∈l,ok x)(X:uf m (bE (l.map enc) q.O) v):q.G m v l:=by
  obtain⟨bR,O,e,z⟩:=X.afT rfl;rw[Wg]at e;obtain⟨aM,a1⟩:=e;subst a1;rcases z with⟨z,rfl⟩|⟨b,off,cs,rfl,de,aG,bY,aB⟩
  · rw[z]at aM;exact .inl ⟨rfl,by simpa using aM⟩
  · obtain⟨w,aO⟩:=NM m b cs de;have adw:bR.length=l.length:=(by rw[<-aM];simp);refine .inr ⟨b,off,cs,w,by rw[adw],aO,by rw[<-adw];exact aG,λi x H=> ?_⟩;refine h.sr _ _ _ (aA x (List.mem_of_getElem? H)) ?_;have aF:bR[i]?=some (enc x):=(by rw[<-aM,List.getElem?_map,H];rfl);have aa:=(List.getElem?_eq_some_iff.1 aF).1;have aK:(i+1)*q.O<=bR.length*q.O:=Nat.mul_le_mul_right _ aa;rw[Nat.add_mul]at aK;refine⟨by rw[h.O];simp;omega,λj aJ y bk ah=> ?_⟩;rw[List.getElem?_take]at ah;split at ah
    · rw[List.getElem?_drop]at ah;exact aB i j _ aJ y aF bk ah
    · cases ah
theorem A4.aAk{cK:Type}{q:gS cK}{enc:cK->List Value}{ok:cK->Prop}(h:A4 q enc ok){l:List cK}{v:Value}(X:q.G m v l):uf m (bE (l.map enc) q.O) v:=by
  rcases X with⟨rfl,rfl⟩|⟨b,o,cs,w,rfl,D,Z,aw⟩
  · exact .ki rfl
  · have:=cw.kd (K:=vw m) (Y:=oW) (v:=bE (l.map enc) q.O) (b:=b) (off:=o) (O:=q.O) (cs:=cs) (bR:=l.map enc) rfl (I3 D) (by simpa using Z) (λi r aF=> ?_) λi j r x y aF H ah=> ?_
    · simpa using this
    · rw[List.getElem?_map,Option.map_eq_some_iff]at aF;obtain⟨x,_,rfl⟩:=aF;exact h.O x
    · rw[List.getElem?_map,Option.map_eq_some_iff]at aF;obtain⟨cl,hZ,rfl⟩:=aF;have:=h.fJ _ _ _ (aw i cl hZ);refine this.2 j x y H ?_;have cp:=(List.getElem?_eq_some_iff.1 H).1;rw[h.O]at cp;rw[List.getElem?_take,if_pos cp,List.getElem?_drop];exact ah
theorem A4.tO{cK:Type}{q:gS cK}{enc:cK->List Value}{ok:cK->Prop}(h:A4 q enc ok):A4 q.tO (λl=>[bE (l.map enc) q.O]) (λl=> ∀x∈l,ok x) where
  O _:=rfl
  sr m cs l aA aG:=by obtain⟨y,rfl,X⟩:=aG.ha;exact⟨y,rfl,h.ab1 aA X⟩
  fJ m cs l aG:=by obtain⟨v,rfl,X⟩:=aG;exact b2.cons (h.aAk X) b2.nil
def jW:(s:fF)->s.aW->List Value
  | .int k,n=>[.int k n]
  | .bool,b=>[.bool b]
  | .str,s=>[.string s]
  | .slice e,l=>[bE ((kh l).map (jW e)) e.cells]
  | .unit,_=>[]
  | .gB a b,d=>jW a d.1++jW b d.2
theorem NA: ∀(s:fF) (d:s.aW),(jW s d).length=s.cells
  | .int _,_=>rfl
  | .bool,_=>rfl
  | .str,_=>rfl
  | .slice _,_=>rfl
  | .unit,_=>rfl
  | .gB a b,d=>by simp[jW,NA a,NA b,fF.cells]
theorem M0: ∀{s:fF} {cs:List Value} {d:s.aW},rD m s cs d->CY m (jW s d) cs
  | .int k,cs,d,h=>by rw[h.1];exact b2.cons (.c0 rfl) b2.nil
  | .bool,cs,d,h=>by have:cs=[.bool d]:=h;rw[this];exact b2.cons (.c0 rfl) b2.nil
  | .str,cs,d,h=>by rw[h.1];exact b2.cons (.c0 rfl) b2.nil
  | .unit,cs,d,h=>by have:cs=[]:=h;rw[this];exact b2.nil
  | .gB a b,cs,d,h=>by obtain⟨cB,eQ,rfl,z,D⟩:=h;exact(M0 z).th (M0 D)
  | .slice e,cs,l,h=>by
    simp only[jW];rcases h with⟨rfl,h⟩|⟨b,bR,rfl,D,Z,aw,aX⟩
    · rw[h];exact b2.cons (.ki rfl) b2.nil
    · refine b2.cons ?_ b2.nil;have bY: ∀r∈bR,r.length=e.cells:= λr aF=>by
        obtain⟨i,aa,rfl⟩:=List.getElem_of_mem aF;exact(aX i _ _ (List.getElem?_eq_getElem aa) (List.getElem?_eq_getElem (by omega))).len
      have oK:bR.flatten.length=bR.length*e.cells:=tn bY;have:=cw.kd (K:=vw m) (Y:=oW) (v:=bE ((kh l).map (jW e)) e.cells) (b:=b) (off:=0) (O:=e.cells) (cs:=bR.flatten) (bR:=(kh l).map (jW e)) rfl (I3 D) (by rw[oK,aw,List.length_map];omega) (λi r aF=> ?_) λi j r x y aF H ah=> ?_
      · simpa using this
      · rw[List.getElem?_map,Option.map_eq_some_iff]at aF;obtain⟨x,_,rfl⟩:=aF;exact NA e x
      · rw[List.getElem?_map,Option.map_eq_some_iff]at aF;obtain⟨cl,hZ,rfl⟩:=aF;have aa:=(List.getElem?_eq_some_iff.1 hZ).1;have jE:i<bR.length:=(by rw[aw];exact aa);have qz:=aX i _ _ (List.getElem?_eq_getElem jE) hZ;refine(M0 qz).2 j x y H ?_;have cp:=(List.getElem?_eq_some_iff.1 H).1;rw[NA]at cp;have bt:=UB bY (List.getElem?_eq_getElem jE);rw[<-bt,List.getElem?_take,if_pos cp,List.getElem?_drop,<-ah,Nat.zero_add]
def M7(s:fF)(d:s.aW):Value:=if s.isAgg then .agg (jW s d).toArray else(jW s d).headD undef
theorem ao3{s:fF}{v:Value}{d:s.aW}(h:zj m s v d):uf m (M7 s d) v:=by
  obtain⟨cs,z,rfl⟩:=h;have:=M0 z;unfold M7;split
  · exact this.agg
  · exact this.headD
inductive H7:List fF->List Value->Prop
  |nil:H7 [] []
  |cons {s:fF} {d:s.aW} {nb:List fF} {c2:List Value} (ok:xB s d) (J:H7 nb c2):H7 (s::nb) (M7 s d::c2)
theorem ao2{nb:List fF}{fm:List Value}(h:wB m nb fm): ∃ts,H7 nb ts/\CY m ts fm:=by
  induction h with
  |nil=>exact⟨[],.nil,b2.nil⟩
  | cons h J cb=>obtain⟨ts,z,D⟩:=cb;obtain⟨cs,Z,aw⟩:=h;exact⟨_,.cons Z.ok z,b2.cons (ao3 ⟨cs,Z,aw⟩) D⟩
theorem ayS{f:Nat}{nb:List fF}(h: ∀ts,H7 nb ts->eg P f ts (.bool true))(m:B)(fm:List Value)(aE:wB m nb fm):bJ P f fm m λr _=>r= .bool true:=by obtain⟨ts,z,D⟩:=ao2 aE;exact((h ts z).below D).aD λr N cE=>cE.2.tJ
end
section
variable {P:Program} {aY:pB P} {t ec:B} {u c7:aL} {c:U} {Q:dr->aL->B->Prop}
theorem aD6(aj: ∀Y K ag m,gM Y K t m->jB K Y u ag->gM Y K ec m/\jB K Y c7 ag/\a6 t.next m.next Y K t m Y K ec m)(h:hs P c c7 ec Q):hs P c u t Q:= λaA Y K ag m J cm=>by obtain⟨aC,a2,bS⟩:=aj Y K ag m J cm;refine(h aA Y K ag m aC a2).aD λe aH bz cE=> ?_;obtain⟨ft,gR,fb,iG,z,D,Z,aw⟩:=cE;exact⟨ft,gR,fb,iG,z,D,Z,bS.trans (aw.Fc bS.n9 (Nat.le_refl _))⟩
theorem acf{Y:hj}{K:jA}{m:B}(J:gM Y K t m){o j O:Nat}{cs:List Value}(an:t.M o=some ⟨cs,true⟩)(cp:cs[j]?=some (.slice none 0 0)):
    gM Y K (((t.bs 1).au t.next (some ⟨[],true⟩)).au o (some ⟨cs.set j (.slice (some ⟨t.next,0,none⟩) 0 O),true⟩)) m/\a6 t.next m.next Y K t m Y K (((t.bs 1).au t.next (some ⟨[],true⟩)).au o (some ⟨cs.set j (.slice (some ⟨t.next,0,none⟩) 0 O),true⟩)) m:=by
  refine⟨?_,?_⟩
  · have bT:Y t.next=none:=by
      cases aU:Y t.next with
      |none=>rfl
      |some b=>have:=(J.cW _ _ aU).1;omega
    have cM:=aT an;have dq:o≠t.next:=by omega
    refine⟨λp x H=> ?_,λp bg aU=> ?_,J.nm,J.inj,λp b h=>⟨by have:=(J.cW p b h).1;simp only[ae,ad];omega,(J.cW p b h).2⟩,λb b1 L=> ?_⟩
    · by_cases aq:p=o
      · subst aq;rw[bX (by simp;omega)]at H;cases H;rcases J.m7 p _ an with⟨b,b1,w,z,D,Z,aw⟩|⟨z,D⟩
        · refine .inl ⟨b,b1,w,z,D,Z,?_⟩;obtain⟨y,ah,X⟩:=aw.M cp;have:=aw.set j (y:=y) (x:= .slice (some ⟨t.next,0,none⟩) 0 O) (by rw[X.lo rfl];exact .tX);rw[show b1.set j y=b1 from by
            apply List.ext_getElem?;intro i;rw[List.getElem?_set];split
            · next e=>subst e;rw[ah];simp;exact(List.getElem?_eq_some_iff.1 ah).1
            · rfl]at this
          exact this
        · simp only at D;subst D;simp at cp
      · rw[dv aq]at H;by_cases bt:p=t.next
        · subst bt;rw[bX (by simp)]at H;cases H;exact .inr ⟨bT,rfl⟩
        · rw[dv bt,B.gr]at H;exact J.m7 p x H
    · by_cases aq:p=o
      · subst aq;obtain⟨aM,a1⟩:=hv aU;rw[bX (by simp;omega)]at aM;have:cs=[]:=(by simpa using aM);subst this;simp at cp
      · obtain⟨aM,a1⟩:=hv aU;rw[dv aq]at aM;by_cases bt:p=t.next
        · subst bt;have Z:t.mp t.next=some bg:=a1
          rw[J.nm _ bT]at Z;cases Z
        · rw[dv bt,B.gr]at aM;exact J.kz p bg (qv aM a1)
    · obtain⟨z,D⟩:=J.bw b b1 L;refine⟨z,λp x NW H=> ?_⟩;by_cases aq:p=o
      · subst aq;have:=D p _ NW an;cases this
      · rw[dv aq]at H;have bt:p≠t.next:= λe=>by subst e;rw[bT]at NW;cases NW
        rw[dv bt,B.gr]at H;exact D p x NW H
  · have bT:Y t.next=none:=by
      cases aU:Y t.next with
      |none=>rfl
      |some b=>have:=(J.cW _ _ aU).1;omega
    refine⟨iv.refl _,kn.refl _,λ_ _ h=> .inl h,λ_ _ h=> .inl h,by simp,Nat.le_refl _,λ_ _ _=>rfl,λb L=> λ⟨p,x,aM,a1,cI⟩=> ?_,λb L=> λ⟨p,x,aM,a1⟩=> ?_⟩
    · by_cases aq:p=o
      · subst aq;exact⟨p,_,aM,an,rfl⟩
      · rw[dv aq]at a1;have bt:p≠t.next:= λe=>by subst e;rw[bT]at aM;cases aM
        rw[dv bt,B.gr]at a1;exact⟨p,x,aM,a1,cI⟩
    · by_cases aq:p=o
      · subst aq;exact⟨p,_,aM,an⟩
      · rw[dv aq]at a1;have bt:p≠t.next:= λe=>by subst e;rw[bT]at aM;cases aM
        rw[dv bt,B.gr]at a1;exact⟨p,x,aM,a1⟩
theorem ack{o j O:Nat}{cs:List Value}(an:t.M o=some ⟨cs,true⟩)(cp:cs[j]?=some (.slice none 0 0))
    (h:hs P c u (((t.bs 1).au t.next (some ⟨[],true⟩)).au o (some ⟨cs.set j (.slice (some ⟨t.next,0,none⟩) 0 O),true⟩)) Q):hs P c u t Q:=
  aD6 (λY K ag m J cm=>⟨(acf J an cp).1,cm,(acf J an cp).2⟩) h
theorem aEa{f:Nat}{args:List Value}{az:Value->B->Prop}{o j O:Nat}{cs:List Value}(an:t.M o=some ⟨cs,true⟩)(cp:cs[j]?=some (.slice none 0 0))
    (h:hn P f args (((t.bs 1).au t.next (some ⟨[],true⟩)).au o (some ⟨cs.set j (.slice (some ⟨t.next,0,none⟩) 0 O),true⟩)) az):hn P f args t az:= λY K as m J aE=>by
  obtain⟨aC,a2⟩:=acf (O:=O) J an cp;refine(h Y K as m aC aE).aD λhb bz cE=> ?_;obtain⟨ft,gR,r,ec,z,D,Z,aw⟩:=cE;exact⟨ft,gR,r,ec,z,D,Z,a2.trans (aw.Fc a2.n9 (Nat.le_refl _))⟩
theorem aCY{l:List (c8 P)}{f:Nat}{ts:List Value}{az km:Value->Prop}(h:y5 l f ts az)(W: ∀r,az r->km r):y5 l f ts km:=by
  induction l with
  |nil=>exact h
  | cons s aY cb=>
    simp only[y5]at h⊢;split at h
    · next e=>
      rw[if_pos e];cases aI:s.fn ts with
      |none=>rw[aI]at h;exact h
      |some r=>rw[aI]at h;exact W _ h
    · next e=>rw[if_neg e];exact cb h
theorem aCW{l:List (qf P)}{f:Nat}{ts:List Value}{t:B}{aV zo:Value->B->Prop}(h:y4 l f ts t aV)(W: ∀r t,aV r t->zo r t):y4 l f ts t zo:=by
  induction l with
  |nil=>exact h
  | cons s aY cb=>
    simp only[y4]at h⊢;split at h
    · next e=>
      rw[if_pos e];cases aI:s.fn ts t with
      |none=>rw[aI]at h;exact h
      |some r=>rw[aI]at h;exact W _ _ h
    · next e=>rw[if_neg e];exact cb h
theorem acW{f:Nat}{args:List Value}{v5:Bool}{aV zo:Value->B->Prop}(h:wJ aY f args t v5 aV)(W: ∀r t,aV r t->zo r t):wJ aY f args t v5 zo:=by
  unfold wJ at h⊢;split at h
  · next J=>
    rw[if_pos J];unfold HE at h⊢;split at h
    · next ts bY=>exact aCY h λr h=>W _ _ h
    · exact h
  · next J=>
    rw[if_neg J];refine⟨h.1,?_⟩;have D:=h.2;split at D
    · next e=>rw[if_pos e];exact aCW D W
    · next e=>rw[if_neg e];exact D.aD W
theorem Ig{base:Nat}: ∀{ops:List b6} {u:aL} {t:B} {aV zo:aL->B->Prop},eo aY base ops u t aV->(∀u t,aV u t->zo u t)->eo aY base ops u t zo
  |[],_,_,_,_,h,W=>W _ _ h
  | o::ops,u,t,aV,zo,h,W=>by
    simp only[eo]at h⊢;split at h
    · next aO=>
      rw[if_pos aO];obtain⟨bc,d,g,k,bx⟩:=o;cases k with
      |eI f as=>exact acW h λr t h=>Ig h W
      | lZ x as=>
        simp only[lV,Ix]at h⊢;split at h
        · exact acW h λr t h=>Ig h W
        · exact h
      |qB=>exact h
      |_=>exact⟨h.1,h.2.1,Ig h.2.2 W⟩
    · next aO=>rw[if_neg aO];exact Ig h W
theorem C2: ∀{c:U} {u:aL} {t:B} {Q A5:dr->aL->B->Prop},j6 aY c u t Q->(∀e u t,Q e u t->A5 e u t)->j6 aY c u t A5
  | .skip,_,_,_,_,h,bt=>bt _ _ _ h
  | .bI _,_,_,_,_,h,bt=>bt _ _ _ h
  | .a7,_,_,_,_,h,bt=>bt _ _ _ h
  | .I _,_,_,_,_,h,bt=>Ig h λu t h=>bt _ _ _ h
  | .E a b,_,_,_,_,h,bt=>C2 (c:=a) h λe u t h=>by
    cases e with
    |gv=>exact C2 (c:=b) h bt
    |bI id=>exact bt _ _ _ h
    |a7=>exact bt _ _ _ h
  | .bj c a b,_,_,_,_,h,bt=>by
    refine⟨h.1,?_⟩;have D:=h.2;split at D
    · next e=>rw[if_pos e];exact C2 (c:=a) D bt
    · next e=>rw[if_neg e];exact C2 (c:=b) D bt
  | .block id c,_,_,_,_,h,bt=>C2 (c:=c) h λe u t h=>by
    cases e with
    |gv=>exact bt _ _ _ h
    |a7=>exact bt _ _ _ h
    | bI l1=>
      simp only at h⊢;split at h
      · next e=>rw[if_pos e];exact bt _ _ _ h
      · next e=>rw[if_neg e];exact bt _ _ _ h
  | .loop _,_,_,_,_,h,bt=>h.aD bt
theorem jn(S:Nat->aL->B->Prop)(n:Nat)(step: ∀i u t,i<n->S i u t-> ∀b9:aL->B->Prop,(∀ag aN,S (i+1) ag aN->b9 ag aN)->j6 aY c u t (xv b9 Q))
    (ZO: ∀u t,S n u t->j6 aY c u t (xv (λ_ _=>False) Q)): ∀(i:Nat) (u:aL) (t:B),i<=n->S i u t->hs P (.loop c) u t Q:=by
  have key: ∀(r i:Nat) (u:aL) (t:B),i+r=n->S i u t->hs P (.loop c) u t Q:=by
    intro r;induction r with
    | zero=>
      intro i u t aa uw;have e:i=n:=(by omega);subst e;refine su (aY:=aY) λb9 a9=> ?_;have z:=ZO u t uw;refine C2 z λe u t h=> ?_;cases e with
      |gv=>exact h.elim
      |bI id=>exact h
      |a7=>exact h
    | succ r cb=>intro i u t aa uw;exact su (aY:=aY) λb9 a9=>step i u t (by omega) uw b9 λag aN h=>a9 _ _ (cb (i+1) ag aN (by omega) h)
  exact λi u t aa uw=>key (n-i) i u t (by omega) uw
end
end Go.DI
