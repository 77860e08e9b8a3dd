/-
  A part of the proof of the statement, in texts that tools of ours (wip/shrink.py, irpack.py, relax.py, minify.py, join.py, lay.py) have shortened.
-/
import Derived.Test.YtkpifdkccdndcaaGreatRows
import Derived.Test.YtkpifdkccdndcaaGreatZaf
set_option linter.all false
set_option maxRecDepth 8000
set_option maxHeartbeats 16000000
namespace Go.DI
open Go Go.RowKit
section
variable {P:Program} {z:iS} {W:gZ} {t m:E} {u ae:aM}
theorem aGq(M:gx W z t m)(cL:jH z W u ae){bI:List (Operand×Operand)}(aC:bI.all (λp=>er p.1&&er p.2)=true)(h:zJ u t bI=true){N:E}(aa: ∀b,b<m.next-> ¬PN W t b->N.U b=m.U b):yk ae bI m N:=by
  intro p Y b K;simp only[zJ,hJ]at h aC;have B:=h p Y;have H:=aC p Y;simp only[bK]at H;have S:=cL.ad H.1;generalize ad u p.1=a at S B;generalize ad ae p.1=cI at S K;have key: ∀o,ai a=some o->W o=some b->N.U b=m.U b:= λo ah b8=>by rw[ah]at B;refine aa b (M.fa o b b8).2 λ⟨o',x,aX,bg,dU⟩=> ?_;rw[M.inj o' o b aX b8]at bg;simp[JQ,bg,dU]at B
  have apv: ∀cs,z b=some cs->N.U b=m.U b:= λcs dD=>by obtain⟨⟨w,af⟩,aL⟩:=M.bG b cs dD;exact aa b (aO af) λ⟨o',x,aX,bg,dU⟩=>by rw[aL o' x aX bg]at dU;cases dU
  cases S with
  | dc h=>unfold ai at K;split at K<;>simp[fy]at h K
  |cb b8=>simp[ai]at K;subst K;exact key _ rfl b8
  |slice b8=>simp[ai]at K;subst K;exact key _ rfl b8
  |map b8=>simp[ai]at K;subst K;exact key _ rfl b8
  |jX e dD=>simp[ai]at K;subst K;exact apv _ dD
  |gb e dD=>simp[ai]at K;subst K;exact apv _ dD
  |_=>simp[ai]at K
theorem aGp(M:gx W z t m)(cL:jH z W u ae){bI:List (Operand×Operand)}(aC:bI.all (λp=>er p.1&&er p.2)=true){N:E}(aa: ∀b,b<m.next->N.U b=m.U b):yk ae bI m N:=by
  intro p Y b K;simp only[hJ]at aC;have H:=aC p Y;simp only[bK]at H;have S:=cL.ad H.1;generalize ad u p.1=a at S;generalize ad ae p.1=cI at S K;cases S with
  | dc h=>unfold ai at K;split at K<;>simp[fy]at h K
  |cb b8=>simp[ai]at K;subst K;exact aa _ (M.fa _ _ b8).2
  |slice b8=>simp[ai]at K;subst K;exact aa _ (M.fa _ _ b8).2
  |map b8=>simp[ai]at K;subst K;exact aa _ (M.fa _ _ b8).2
  |jX e dD=>simp[ai]at K;subst K;obtain⟨⟨w,af⟩,_⟩:=M.bG _ _ dD;exact aa _ (aO af)
  |gb e dD=>simp[ai]at K;subst K;obtain⟨⟨w,af⟩,_⟩:=M.bG _ _ dD;exact aa _ (aO af)
  |_=>simp[ai]at K
theorem ahU(M:gx W z t m)(cL:jH z W u ae){bI:List (Operand×Operand)}(jU:bI.all (λp=>er p.1&&er p.2)=true){a0:si P}{f:Nat}{args a1i:List Value}(aC:b5 z W args a1i){aU:Value->E->Prop}(h:xF a0 f args t (zJ u t bI) aU):
    bU P f a1i m λhy N=>yk ae bI m N/\ ∃ej dH r bu,aU r bu/\gx ej dH bu N/\cQ dH ej r hy/\bp t.next m.next W z t m ej dH bu N:=by
  unfold xF at h;split at h
  · refine(aqY M aC h).aD λhy N a6=> ?_;obtain⟨B,dH,r,bu,H,af,aL,cm⟩:=a6;exact⟨aGp M cL jU B,W,dH,r,bu,H,af,aL,cm⟩
  · have H:iE P f args t aU:=by
      have af:=h.2;split at af
      · exact aLx af
      · exact af
    refine(H W z a1i m M aC).aD λhy N a6=> ?_;obtain⟨ej,dH,r,bu,H,af,aL,cm⟩:=a6;exact⟨aGq M cL jU h.1 cm.rW,ej,dH,r,bu,H,af,aL,cm⟩
def PE(W:gZ)(z:iS)(t m:E)(base hF:Nat)(ops:List cd):Prop:= ∀o∈ops,o.k.gF=true->uk W z t m (base+o.bb) (hF+o.bb)
theorem nodup_cons{o:cd}{ops:List cd}(h:BO ((o::ops).map (·.bb))=true):(∀p∈ops,p.bb≠o.bb)/\BO (ops.map (·.bb))=true:=by simp only[n0,BO,bK]at h;refine⟨λp Y e=> ?_,h.2⟩;have B:=h.1;simp at B;exact B p Y e
theorem V1{a0:si P}{base hF:Nat}: ∀{ops:List cd} {W:gZ} {z:iS} {t m:E} {u ae:aM} {aU:aM->E->Prop},ops.all aez=true->BO (ops.map (·.bb))=true->gx W z t m->jH z W u ae->PE W z t m base hF ops->base<=t.next->hF<=m.next->
    eN a0 base ops u t aU->gW P hF ops ae m λwk N=> ∃ej dH cC bu,aU cC bu/\gx ej dH bu N/\jH dH ej cC wk/\bp base hF W z t m ej dH bu N
  | [],W,z,t,m,u,ae,aU,_,_,M,cL,_,_,_,h=>by rw[as8];exact⟨W,z,u,t,h,M,cL,bp.refl⟩
  | o::ops,W,z,t,m,u,ae,aU,aA,lp,M,cL,e2,K,Q9,h=>by
    obtain⟨bb,d,g,k,bI⟩:=o;simp only[uh,bK]at aA;obtain⟨dE,YH⟩:=nodup_cons lp;have Mc:=aA.1;simp only[aez,bK]at Mc;have skip: ∀{g:Option (Nat×Bool)},eN a0 base ops (dO u d undef) t aU->gW P hF ops (dO ae d undef) m λwk N=> ∃ej dH cC bu,aU cC bu/\gx ej dH bu N/\jH dH ej cC wk/\bp base hF W z t m ej dH bu N:= λh=>
      V1 aA.2 YH M (cL.an cQ.undef) (λo ah aC=>e2 o (by simp[ah]) aC) K Q9 h
    have tO:lJ a0 base ⟨bb,d,g,k,bI⟩ u t (λu t=>eN a0 base ops u t aU)->gW P hF (⟨bb,d,none,k,bI⟩::ops) ae m λwk N=> ∃ej dH cC bu,aU cC bu/\gx ej dH bu N/\jH dH ej cC wk/\bp base hF W z t m ej dH bu N:= λh=>by
      have after: ∀{hy:Value} {bo:E},(yk ae bI m bo/\ ∃ej dH r bu,(eN a0 base ops (dO u d r) bu aU)/\gx ej dH bu bo/\cQ dH ej r hy/\bp t.next m.next W z t m ej dH bu bo)->
          AE P hF d bI ops ae m (λwk N=> ∃ej dH cC bu,aU cC bu/\gx ej dH bu N/\jH dH ej cC wk/\bp base hF W z t m ej dH bu N) hy bo:= λ{hy bo} ⟨aa,e5,gS,r,eu,B,H,af,aL⟩=>by
        refine⟨aa,?_⟩;have Ip:jH gS e5 (dO u d r) (dO ae d hy):=(cL.aD aL.f aL.e).an af;have Yi:PE e5 gS eu bo base hF ops:= λo ah aC=>by
          have av:=e2 o (by simp[ah]) aC;refine⟨?_,λo' wI=> ?_,?_,nz av.yA aL.ov,nz av.zV aL.oS⟩
          · cases a2:e5 (base+o.bb)with
            |none=>rfl
            | some b=>
              rcases aL.mR _ _ a2 with cm|⟨cm,_⟩
              · rw[av.e]at cm;cases cm
              · have:=av.yA;omega
          · rcases aL.mR _ _ wI with cm|⟨_,cm⟩
            · exact av.b _ cm
            · have:=av.zV;omega
          · cases a2:gS (hF+o.bb)with
            |none=>rfl
            | some cs=>
              rcases aL.fn _ _ a2 with cm|cm|⟨o',_,cm,_⟩
              · rw[av.f]at cm;cases cm
              · have:=av.zV;omega
              · exact absurd cm (av.b o')
        have cB:=V1 aA.2 YH H Ip Yi (nC K aL.ov) (nC Q9 aL.oS) B;obtain⟨n,aw,cc,k0,la,lx,ev,ks,bC,cq,cZ,fR⟩:=cB;exact⟨n,aw,cc,k0,la,lx,ev,ks,bC,cq,cZ,(aL.Hd K Q9).trans fR⟩
      have aIf: ∀{k:al},k.mj=false->GK k=true->(k.gF=true->uk W z t m (base+bb) (hF+bb))->(k.k5 u t=true/\kY u t bI=true/\eN a0 base ops (dO u d (k.ll (base+bb) u t)) (k.zU (base+bb) u t) aU)->
          gW P hF (⟨bb,d,none,k,bI⟩::ops) ae m λwk N=> ∃ej dH cC bu,aU cC bu/\gx ej dH bu N/\jH dH ej cC wk/\bp base hF W z t m ej dH bu N:= λ{k} aK aa av h=>by
        rw[oW aK];obtain⟨B,e5,q⟩:=aIc (hl:=base) (hV:=hF) (id:=base+bb) (mid:=hF+bb) M cL aK aa h.1 av (by omega) (by omega);refine⟨B,awd M cL Mc.2 h.2.1,?_⟩;have Ip:jH z e5 (dO u d (k.ll (base+bb) u t)) (dO ae d (k.val (hF+bb) ae m)):=(cL.aD q.bG.f q.bG.e).an q.val;have Yi:PE e5 z (k.zU (base+bb) u t) (k.iH (hF+bb) ae m) base hF ops:= λo ah aC=>by
          have av:=e2 o (by simp[ah]) aC;have F:=dE o ah;simp only at F;refine⟨by rw[q.aeE _ (by omega)];exact av.e,λo' wI=> ?_,av.f,nz av.yA q.bG.ov,nz av.zV q.bG.oS⟩;by_cases e:o'=base+bb
          · subst e;rcases q.self with cm|cm
            · rw[cm]at wI;exact av.b _ wI
            · rw[cm]at wI;simp only[nA]at wI;omega
          · rw[q.aeE _ e]at wI;exact av.b _ wI
        have cB:=V1 aA.2 YH q.arT Ip Yi (nC K q.bG.ov) (nC Q9 q.bG.oS) h.2.2;obtain⟨n,aw,cc,k0,la,lx,ev,ks,bC,cq,cZ,fR⟩:=cB;exact⟨n,aw,cc,k0,la,lx,ev,ks,bC,cq,cZ,q.bG.trans fR⟩
      have x0:=e2 ⟨bb,d,g,k,bI⟩ (by simp);have H8:=Mc.1;have cw:=H8;simp only[GK,bK]at cw;cases k with
      | gl f a1i=>rw[as4];exact(ahU M cL Mc.2 (cL.Qu cw.1) h).aD λhy bo a6=>after a6
      | ln x a1i=>
        simp only[lJ,KW]at h;simp only[al.jg,uh,bK]at cw;split at h
        · next f first lB F=>have S:=cL.ad cw.1.1;rw[F]at S;obtain⟨ys,ds,e,fP,dX⟩:=S.Iu;rw[as6 e];exact(ahU M cL Mc.2 ((fP.uq (cL.Qu cw.1.2)).uq dX) h).aD λhy bo a6=>after a6
        · exact h.elim
      |q2=>exact h.elim
      |_=>exact aIf rfl H8 x0 h
    simp only[eN]at h;cases g with
    |none=>exact tO (by simpa[fY]using h)
    | some g=>
      obtain⟨j,b⟩:=g;rw[as7,aMx cL];split at h
      · next aS=>rw[if_pos aS];exact tO h
      · next aS=>rw[if_neg aS];exact skip (g:=none) h
theorem ahM(M:gx W z t m)(k:Nat):gx W z (t.bx k) (m.bx k) where
  lu o x F:=by
    by_cases h:o<t.next
    · rw[gm h]at F;rcases M.lu o x F with⟨b,cs,w,B,H,af⟩|B
      · exact .inl ⟨b,cs,w,B,by rw[gm (aO H),H],af⟩
      · exact .inr B
    · simp[E.U,E.bx,h]at F
  jB o bJ a2:=by
    by_cases h:o<t.next
    · rw[QP h]at a2;obtain⟨b,eE,B,H,af⟩:=M.jB o bJ a2;exact⟨b,eE,B,by rw[QP (M.fa o b B).2,H],af⟩
    · have:=(j6 a2).1;simp[E.U,E.bx,h]at this
  lI:=M.lI
  inj:=M.inj
  fa o b h:=by have:=M.fa o b h;simp only[vQ];omega
  bG b cs h:=by obtain⟨⟨w,B⟩,H⟩:=M.bG b cs h;refine⟨⟨w,by rw[gm (aO B),B]⟩,λo x b8 F=> ?_⟩;rw[gm (M.fa o b b8).1]at F;exact H o x b8 F
theorem WS(M:gx W z t m)(k:Nat):bp t.next m.next W z t m W z (t.bx k) (m.bx k) where
  e:=h7.refl _
  f:=j0.refl _
  mR o b h:= .inl h
  fn b cs h:= .inl h
  ov:=by simp
  oS:=by simp
  rW b K _:=gm K
  ud b K:= λ⟨o,x,B,H,af⟩=>⟨o,x,B,by rw[gm (M.fa o b B).1]at H;exact H,af⟩
  rC b K:= λ⟨o,x,B,H⟩=>⟨o,x,B,by rw[gm (M.fa o b B).1]at H;exact H⟩
theorem aJn{a0:si P}{ops:List cd}(aA:w6 (.G ops)=true)(M:gx W z t m)(cL:jH z W u ae){aU:aM->E->Prop}(h:eN a0 t.next ops u (kK ops t) aU):
    gW P m.next ops ae (kK ops m) λwk N=> ∃ej dH cC bu,aU cC bu/\gx ej dH bu N/\jH dH ej cC wk/\bp t.next m.next W z t m ej dH bu N:=by
  simp only[w6,bK]at aA;have qm:gx W z (kK ops t) (kK ops m):=by
    unfold kK;split
    · exact ahM M _
    · exact M
  have xU:bp t.next m.next W z t m W z (kK ops t) (kK ops m):=by
    unfold kK;split
    · exact WS M _
    · exact bp.refl
  have H4:PE W z (kK ops t) (kK ops m) t.next m.next ops:= λo ah aC=>by
    have ajn:(ops.any λo=>o.k.gF)=true:=List.any_eq_true.2 ⟨o,ah,aC⟩;have xW:o.bb<ops.length:=(by simpa using hJ.1 aA.2 o ah);refine⟨?_,λo' wI=> ?_,?_,by simp[kK,ajn,xW],by simp[kK,ajn,xW]⟩
    · cases a2:W (t.next+o.bb)with
      |none=>rfl
      |some b=>have:=(M.fa _ _ a2).1;omega
    · have:=(M.fa _ _ wI).2;omega
    · cases a2:z (m.next+o.bb)with
      |none=>rfl
      |some cs=>obtain⟨⟨w,B⟩,_⟩:=M.bG _ _ a2;have:=aO B;omega
  have:=V1 aA.1.1 aA.1.2 qm cL H4 xU.ov xU.oS h;obtain⟨n,aw,cc,k0,la,lx,ev,ks,bC,cq,cZ,fR⟩:=this;exact⟨n,aw,cc,k0,la,lx,ev,ks,bC,cq,cZ,xU.trans fR⟩
theorem G8{a0:si P}: ∀{c:J} {u:aM} {t:E} {Q:dp->aM->E->Prop},lb a0 c u t Q->gD P c u t Q
  | .skip,u,t,Q,h=> λ_ W z ae m M cL=>by rw[as3];exact⟨W,z,u,t,h,M,cL,bp.refl⟩
  | .bw id,u,t,Q,h=> λ_ W z ae m M cL=>by rw[asX];exact⟨W,z,u,t,h,M,cL,bp.refl⟩
  | .aT,u,t,Q,h=> λ_ W z ae m M cL=>by rw[as1];exact⟨W,z,u,t,h,M,cL,bp.refl⟩
  | .G ops,u,t,Q,h=> λaA W z ae m M cL=>by rw[as0];exact aJn aA M cL h
  | .w1 _ _ _,_,_,_,h=>h.elim
  | .D a b,u,t,Q,h=> λaA W z ae m M cL=>by
    simp only[w6,bK]at aA;rw[as2];refine(G8 (c:=a) h aA.1 W z ae m M cL).aD λe aw bo a6=> ?_;obtain⟨e5,gS,cC,eu,B,H,af,aL⟩:=a6;cases e with
    | gu=>rw[asl];refine(G8 (c:=b) B aA.2 e5 gS aw bo H af).aD λe bR cc a6=> ?_;obtain⟨la,lx,ev,ks,aj,ba,cD,fs⟩:=a6;exact⟨la,lx,ev,ks,aj,ba,cD,aL.trans (fs.Hd aL.ov aL.oS)⟩
    |bw id=>exact⟨e5,gS,cC,eu,B,H,af,aL⟩
    |aT=>exact⟨e5,gS,cC,eu,B,H,af,aL⟩
  | .a8 c a b,u,t,Q,h=> λaA W z ae m M cL=>by
    simp only[w6,bK]at aA;rw[asW];have e:=apg (cL.ad aA.1.1) h.1;rw[e];refine⟨h.1,?_⟩;have H:=h.2;split at H
    · next aK=>rw[if_pos aK];exact G8 (c:=a) H aA.1.2 W z ae m M cL
    · next aK=>rw[if_neg aK];exact G8 (c:=b) H aA.2 W z ae m M cL
  | .block id c,u,t,Q,h=> λaA W z ae m M cL=>by
    rw[asV];refine(G8 (c:=c) h aA W z ae m M cL).aD λe aw bo a6=> ?_;obtain⟨e5,gS,cC,eu,B,H⟩:=a6;cases e with
    |gu=>exact⟨e5,gS,cC,eu,B,H⟩
    |aT=>exact⟨e5,gS,cC,eu,B,H⟩
    | bw lV=>
      rw[P2];simp only at B;split at B
      · next e=>rw[if_pos e];exact⟨e5,gS,cC,eu,B,H⟩
      · next e=>rw[if_neg e];exact⟨e5,gS,cC,eu,B,H⟩
  | .loop c,u,t,Q,h=>h
theorem gD.aD{c:J}{Q Cn:dp->aM->E->Prop}(h:gD P c u t Q)(bz: ∀e u t,Q e u t->Cn e u t):gD P c u t Cn:= λaA W z ae m M cL=>(h aA W z ae m M cL).aD λe aw bo a6=>by obtain⟨e5,gS,cC,eu,B,H⟩:=a6;exact⟨e5,gS,cC,eu,bz _ _ _ B,H⟩
theorem iE.aD{f:Nat}{args:List Value}{aI jR:Value->E->Prop}(h:iE P f args t aI)(bz: ∀r t,aI r t->jR r t):iE P f args t jR:= λW z a1i m M aC=>(h W z a1i m M aC).aD λhy bo a6=>by obtain⟨e5,gS,r,eu,B,H⟩:=a6;exact⟨e5,gS,r,eu,bz _ _ B,H⟩
theorem ru{a0:si P}{c:J}{Q:dp->aM->E->Prop}(h: ∀cp:aM->E->Prop,(∀ae bu,gD P (.loop c) ae bu Q->cp ae bu)->lb a0 c u t (ym cp Q)):gD P (.loop c) u t Q:= λaA W z ae m M cL=>by
  rw[asZ];refine(G8 (h (λae bu=>gD P (.loop c) ae bu Q) (λ_ _ h=>h)) aA W z ae m M cL).aD λe aw bo a6=> ?_;obtain⟨e5,gS,cC,eu,B,H,af,aL⟩:=a6;cases e with
  | gu=>rw[apX];refine(B aA e5 gS aw bo H af).aD λe bR cc a6=> ?_;obtain⟨la,lx,ev,ks,aj,ba,cD,fs⟩:=a6;exact⟨la,lx,ev,ks,aj,ba,cD,aL.trans (fs.Hd aL.ov aL.oS)⟩
  |bw id=>exact⟨e5,gS,cC,eu,B,H,af,aL⟩
  |aT=>exact⟨e5,gS,cC,eu,B,H,af,aL⟩
theorem iE.drop{f:Nat}{args:List Value}{aI jR:Value->E->Prop}(h:iE P f args t aI)(ay: ∀r bu,aI r bu-> ∃VV,jR r VV/\VV.next=bu.next/\VV.mp=bu.mp/\ ∀b x,VV.U b=some x->bu.U b=some x):iE P f args t jR:= λW z a1i m M aC=>(h W z a1i m M aC).aD λhy bo a6=>by
  obtain⟨e5,gS,r,eu,B,H,af,aL⟩:=a6;obtain⟨ks,aj,ba,cD,fs⟩:=ay r eu B;have Fi: ∀o bJ,ks.fg o=some bJ->eu.fg o=some bJ:= λo bJ a2=>by obtain⟨aX,bg⟩:=j6 a2;exact o7 (fs _ _ aX) (by rw[<-cD];exact bg)
  refine⟨e5,gS,r,ks,aj,⟨λo x F=>H.lu o x (fs o x F),λo bJ a2=>H.jB o bJ (Fi o bJ a2),λo ah=>by rw[cD];exact H.lI o ah,H.inj,λo b K=>by rw[ba];exact H.fa o b K,λb cs K=>⟨(H.bG b cs K).1,λo x b8 F=>(H.bG b cs K).2 o x b8 (fs o x F)⟩⟩,af,?_⟩;exact⟨aL.e,aL.f,aL.mR,aL.fn,by rw[ba];exact aL.ov,aL.oS,aL.rW,λb K ⟨o,x,bC,cq,cZ⟩=>aL.ud b K ⟨o,x,bC,fs _ _ cq,cZ⟩,λb K ⟨o,x,bC,cq⟩=>aL.rC b K ⟨o,x,bC,fs _ _ cq⟩⟩
def Vo(bf:List nD)(aI:Value->E->Prop)(e:dp)(u:aM)(t:E):Prop:=match e with| .bw _=>False|_=>nU t u bf=true/\aI (oq t u bf) t
theorem afa(M:gx W z t m)(cL:jH z W u ae){r:nD}(h:sT t u r=true):sT m ae r=true/\cQ z W (tU t u r) (tU m ae r):=by
  cases r with
  |bq x=>exact⟨rfl,cL x⟩
  | h8 x df n=>
    simp only[sT,bK]at h⊢;have rP:pd (u x)=false:=by have B:=h.1;cases F:u x<;>simp[F,g8]at B<;>rfl
    have B:uo t (u x) n=true:=(by rw[uo,rP];exact h.1);refine⟨⟨PT M (cL x) B,h.2⟩,?_⟩;have:=apW M (cL x) B h.2;rw[DM,rP]at this;exact this
theorem arf(M:gx W z t m)(cL:jH z W u ae){bf:List nD}(h:nU t u bf=true):nU m ae bf=true/\cQ z W (oq t u bf) (oq m ae bf):=by
  simp only[nU,hJ]at h⊢;refine⟨λr aH=>(afa M cL (h r aH)).1,?_⟩;have aE:b5 z W (bf.map (tU t u)) (bf.map (tU m ae)):=b5.JD _ _ _ λr aH=>(afa M cL (h r aH)).2;unfold oq;split
  · exact(afa M cL (h _ (by simp))).2
  · exact aE.tuple
theorem ga{a0:si P}{f:Nat}{Fn:cR}(dD:cO P f=some Fn)(aA:w6 Fn.body=true){args:List Value}(aE:args.length<=Fn.eb){aI:Value->E->Prop}(h:lb a0 Fn.body (eX args) t (Vo Fn.rm aI)):iE P f args t aI:= λW z a1i m M aC=>by
  rw[fK dD (by rw[<-aC.1];exact aE)];refine(G8 h aA W z (eX a1i) m M (jH.init aC)).aD λe aw bo a6=> ?_;obtain⟨e5,gS,cC,eu,B,H,af,aL⟩:=a6;cases e with
  |bw id=>exact B.elim
  |gu=>obtain⟨a,b⟩:=arf H af B.1;exact⟨a,e5,gS,_,eu,B.2,H,b,aL⟩
  |aT=>obtain⟨a,b⟩:=arf H af B.1;exact⟨a,e5,gS,_,eu,B.2,H,b,aL⟩
def rY:E:=⟨0,λ_=>none,λ_=>none⟩
theorem ap6(o:Nat):rY.U o=none:=by simp[rY,E.U]
theorem aLp(dD:Au z m):gx oi z rY m where
  lu o x F:=by rw[ap6]at F;cases F
  jB o bJ a2:=by have:=(j6 a2).1;rw[ap6]at this;cases this
  lI o _:=rfl
  inj o o' b h:=by cases h
  fa o b h:=by cases h
  bG b cs h:=⟨dD b cs h,λo x b8=>by cases b8⟩
open Classical in
theorem gR{f:Nat}{args:List Value}{r:Value}(h:iE P f args rY λv t=>eg 9 t v=some r):c4 P f args r:= λz m a1i dD aC=>by
  refine(h oi z a1i m (aLp dD) aC).aD λhy N a6=> ?_;obtain⟨ej,dH,v,bu,B,H,af,aL⟩:=a6;refine⟨aL.oS,(λb K=>aL.rW b K λ⟨o,x,e,_⟩=>by cases e),(λb=>match dH b with
    |some cs=>some cs
    |none=>if∃o,ej o=some b then(N.U b).map (·.cells)else none),λb cs K=> ?_,λb cs K=> ?_,?_⟩
  · simp only[aL.f b cs K]
  · simp only at K;split at K
    · next cm=>cases K;exact(H.bG b _ cm).1
    · split at K
      · cases aq:N.U b with
        |none=>rw[aq]at K;cases K
        |some x=>rw[aq]at K;cases K;exact⟨x.own,rfl⟩
      · cases K
  · refine QE H (λb cs K=>by simp only[K]) 9 af B λo ah gO b cs w b8 aq=> ?_;cases wC:dH b with
    |some ds=>obtain⟨⟨ee,vA⟩,_⟩:=H.bG b ds wC;rw[aq]at vA;cases vA;rfl
    |none=>rw[if_pos ⟨o,b8⟩,aq];rfl
theorem ahd{c:J}{Q:dp->aM->E->Prop}{d O:Nat}(bH:u d= .slice none 0 0)(h:gD P c (p4 u d (.slice (some ⟨t.next,0,none⟩) 0 O)) ((t.bx 1).an t.next (some ⟨[],true⟩)) Q):gD P c u t Q:= λaA W z ae m M cL=>by
  have b8:W t.next=none:=by
    cases a2:W t.next with
    |none=>rfl
    |some b=>have:=(M.fa _ _ a2).1;omega
  have qm:gx W z ((t.bx 1).an t.next (some ⟨[],true⟩)) m:=by
    refine⟨λo x F=> ?_,λo bJ a2=> ?_,M.lI,M.inj,λo b h=>⟨by have:=(M.fa o b h).1;simp only[BL,vQ];omega,(M.fa o b h).2⟩,λb cs K=> ?_⟩
    · by_cases ah:o=t.next
      · subst ah;rw[cW (by simp)]at F;cases F;exact .inr ⟨b8,rfl⟩
      · rw[dC ah,E.gm]at F;exact M.lu o x F
    · by_cases ah:o=t.next
      · subst ah;have:=(j6 a2).2;rw[show((t.bx 1).an t.next (some ⟨[],true⟩)).mp=t.mp from rfl,M.lI _ b8]at this;cases this
      · rw[xP ah]at a2;obtain⟨aX,bg⟩:=j6 a2;rw[E.gm]at aX;exact M.jB o bJ (o7 aX bg)
    · obtain⟨B,H⟩:=M.bG b cs K;refine⟨B,λo x Fm F=> ?_⟩;have ah:o≠t.next:= λe=>by subst e;rw[b8]at Fm;cases Fm
      rw[dC ah,E.gm]at F;exact H o x Fm F
  have aAi:jH z W (p4 u d (.slice (some ⟨t.next,0,none⟩) 0 O)) ae:= λx=>by
    have F:=cL x;simp only[p4];split
    · next e=>subst e;rw[bH]at F;rw[F.kx rfl];exact .tX
    · exact F
  refine(h aA W z ae m qm aAi).aD λe aw bo a6=> ?_;obtain⟨e5,gS,cC,eu,B,H,af,aL⟩:=a6;refine⟨e5,gS,cC,eu,B,H,af,?_⟩;have XQ:bp t.next m.next W z t m W z ((t.bx 1).an t.next (some ⟨[],true⟩)) m:=⟨h7.refl _,j0.refl _,λ_ _ h=> .inl h,λ_ _ h=> .inl h,by simp,eB _,λ_ _ _=>rfl,λb K=> λ⟨o,x,aX,bg,dU⟩=>by
    have ah:o≠t.next:= λe=>by subst e;rw[b8]at aX;cases aX
    rw[dC ah,E.gm]at bg;exact⟨o,x,aX,bg,dU⟩,λb K=> λ⟨o,x,aX,bg⟩=>by
    have ah:o≠t.next:= λe=>by subst e;rw[b8]at aX;cases aX
    rw[dC ah,E.gm]at bg;exact⟨o,x,aX,bg⟩⟩
  exact XQ.trans (aL.Hd (by simp) (eB _))
end
open Go
section
variable {P:Program} {a0:si P} {xh:List (cf P)} {VN:List (ly P)} {base bb:Nat} {d:Option Nat} {b4:List cd} {u:aM} {t:E} {aU:aM->E->Prop} {bI:List (Operand×Operand)} {Q:dp->aM->E->Prop}
def VX(a0:si P)(b:J)(Q:dp->aM->E->Prop)(e:dp)(u:aM)(t:E):Prop:=match e with
  | .gu=>lb a0 b u t Q
  |e=>Q e u t
@[simp] theorem aZs{b:J}:VX a0 b Q .gu u t=lb a0 b u t Q:=propext nb
@[simp] theorem aZr{b:J}{id:Nat}:VX a0 b Q (.bw id) u t=Q (.bw id) u t:=propext nb
@[simp] theorem aZt{b:J}:VX a0 b Q .aT u t=Q .aT u t:=propext nb
@[simp] theorem aVQ{z:List nD}{aI:Value->E->Prop}:Vo z aI .gu u t=(nU t u z=true/\aI (oq t u z) t):=propext nb
@[simp] theorem aVR{z:List nD}{aI:Value->E->Prop}:Vo z aI .aT u t=(nU t u z=true/\aI (oq t u z) t):=propext nb
@[simp] theorem aZF:lb a0 .skip u t Q=Q .gu u t:=propext nb
@[simp] theorem aZA{id:Nat}:lb a0 (.bw id) u t Q=Q (.bw id) u t:=propext nb
@[simp] theorem aZD:lb a0 .aT u t Q=Q .aT u t:=propext nb
@[simp] theorem aZC{ops:List cd}:lb a0 (.G ops) u t Q=eN a0 t.next ops u (kK ops t) (Q .gu):=propext nb
@[simp] theorem aZE{a b:J}:lb a0 (.D a b) u t Q=lb a0 a u t (VX a0 b Q):=propext nb
@[simp] theorem aZz{c:Operand}{a b:J}:lb a0 (.a8 c a b) u t Q=(wU (ad u c)=true/\if yT (ad u c)=true then lb a0 a u t Q else lb a0 b u t Q):=propext nb
@[simp] theorem aZy{id:Nat}{c:J}:lb a0 (.block id c) u t Q=lb a0 c u t (tj id Q):=propext nb
@[simp] theorem aZB{c:J}:lb a0 (.loop c) u t Q=gD P (.loop c) u t Q:=propext nb
@[simp] theorem aZ3:eN a0 base [] u t aU=aU u t:=propext nb
@[simp] theorem aZR{k:al}{j:Nat}{b:Bool}:eN a0 base (⟨bb,d,some (j,b),k,bI⟩::b4) u t aU=if fY u (some (j,b))=true then eN a0 base (⟨bb,d,none,k,bI⟩::b4) u t aU else eN a0 base b4 (dO u d undef) t aU:=by simp only[eN];rfl
def adX(a0:si P)(base:Nat)(d:Option Nat)(b4:List cd)(u:aM)(aU:aM->E->Prop)(r:Value)(t:E):Prop:=eN a0 base b4 (dO u d r) t aU
@[simp] theorem aTC{r:Value}:adX a0 base d b4 u aU r t=eN a0 base b4 (dO u d r) t aU:=propext nb
@[simp] theorem aZM{f:Nat}{a1i:List Operand}:eN a0 base (⟨bb,d,none,.gl f a1i,bI⟩::b4) u t aU=xF a0 f (a1i.map (ad u)) t (zJ u t bI) (adX a0 base d b4 u aU):=by simp only[eN,fY,if_true];rfl
@[simp] theorem aZN{x:Operand}{a1i:List Operand}:eN a0 base (⟨bb,d,none,.ln x a1i,bI⟩::b4) u t aU=KW a0 (ad u x) (a1i.map (ad u)) t (zJ u t bI) (adX a0 base d b4 u aU):=by simp only[eN,fY,if_true];rfl
@[simp] theorem aP7{f:Nat}{first lB:Array Value}{args:List Value}{wZ:Bool}{aU:Value->E->Prop}:KW a0 (.func (.func f) first lB) args t wZ aU=xF a0 f (first.toList++args++lB.toList) t wZ aU:=propext nb
@[simp] theorem aZ1(x:Operand):eN a0 base (⟨bb,d,none,.pk x,bI⟩::b4) u t aU=(kY u t bI=true/\eN a0 base b4 (dO u d (ad u x)) (t) aU):=by simp only[eN,fY,if_true,lJ,al.k5,al.ok,true_and];rfl
@[simp] theorem aZ5(c a b:Operand):eN a0 base (⟨bb,d,none,.tR c a b,bI⟩::b4) u t aU=(wU (ad u c)=true/\(kY u t bI=true/\eN a0 base b4 (dO u d (if yT (ad u c)=true then ad u a else ad u b)) (t) aU)):=by simp only[eN,fY,if_true,lJ];rfl
@[simp] theorem aZ4(x:Operand):eN a0 base (⟨bb,d,none,.DV x,bI⟩::b4) u t aU=(Gj (ad u x)=true/\(kY u t bI=true/\eN a0 base b4 (dO u d (ad u x)) (t) aU)):=by simp only[eN,fY,if_true,lJ];rfl
@[simp] theorem aZG(O:List Value):eN a0 base (⟨bb,d,none,.eC O,bI⟩::b4) u t aU=(kY u t bI=true/\eN a0 base b4 (dO u d (.pointer (some ⟨base+bb,0,none⟩))) (t.an (base+bb) (some ⟨O,true⟩)) aU):=by simp only[eN,fY,if_true,lJ,al.k5,al.ok,true_and];rfl
@[simp] theorem aZJ(x:Operand):eN a0 base (⟨bb,d,none,.pK x,bI⟩::b4) u t aU=(aB (ad u x)=true/\(kY u t bI=true/\eN a0 base b4 (dO u d (.pointer (some ⟨base+bb,0,none⟩))) (t.an (base+bb) (some ⟨ao (ad u x),true⟩)) aU)):=by simp only[eN,fY,if_true,lJ];rfl
@[simp] theorem aZL(O:List Value)(en:List (Nat×Nat×Operand)):eN a0 base (⟨bb,d,none,.hg O en,bI⟩::b4) u t aU=(sP O u en=true/\(kY u t bI=true/\eN a0 base b4 (dO u d (.agg (oo O u en).toArray)) (t) aU)):=by simp only[eN,fY,if_true,lJ];rfl
@[simp] theorem aZK(O n:Nat)(cs:List Value)(en:List (Nat×Nat×Operand)):eN a0 base (⟨bb,d,none,.jx O n cs en,bI⟩::b4) u t aU=(sP cs u en=true/\(kY u t bI=true/\eN a0 base b4 (dO u d (.slice (some ⟨base+bb,0,none⟩) n O)) (t.an (base+bb) (some ⟨oo cs u en,true⟩)) aU)):=by simp only[eN,fY,if_true,lJ];rfl
@[simp] theorem aZV(df:Bool)(n:Nat)(x:Operand):eN a0 base (⟨bb,d,none,.fu df n x,bI⟩::b4) u t aU=((uo t (ad u x) n&&(df||decide (n=1)))=true/\(kY u t bI=true/\eN a0 base b4 (dO u d (DM t df n (ad u x))) (t) aU)):=by simp only[eN,fY,if_true,lJ];rfl
@[simp] theorem aZ8(n:Nat)(x v:Operand):eN a0 base (⟨bb,d,none,.store n x v,bI⟩::b4) u t aU=((g8 t (ad u x) n&&sj t (ad u x)&&aB (ad u v)&&decide ((ao (ad u v)).length=n))=true/\(kY u t bI=true/\eN a0 base b4 (dO u d (undef)) (rq t (ad u x) (ao (ad u v))) aU)):=by simp only[eN,fY,if_true,lJ];rfl
@[simp] theorem aZI(op:BinOp)(c:xB)(x y:Operand):eN a0 base (⟨bb,d,none,.gL op c x y,bI⟩::b4) u t aU=((oD (ad u x)&&oD (ad u y)&&vg op c (ad u x) (ad u y))=true/\(kY u t bI=true/\eN a0 base b4 (dO u d (ng op (ad u x) (ad u y))) (t) aU)):=by simp only[eN,fY,if_true,lJ];rfl
@[simp] theorem aZO(bQ:Bool)(gQ:List sg)(x y:Operand):eN a0 base (⟨bb,d,none,.pL bQ gQ x y,bI⟩::b4) u t aU=((uO (ad u x)&&uO (ad u y)&&g9 gQ (ao (ad u x)) (ao (ad u y)))=true/\(kY u t bI=true/\eN a0 base b4 (dO u d (.bool (if bQ then !iM (ao (ad u x)) (ao (ad u y))else iM (ao (ad u x)) (ao (ad u y))))) (t) aU)):=by simp only[eN,fY,if_true,lJ];rfl
@[simp] theorem aZ9(op:UnOp)(x:Operand):eN a0 base (⟨bb,d,none,.oU op x,bI⟩::b4) u t aU=(Ca op (ad u x)=true/\(kY u t bI=true/\eN a0 base b4 (dO u d (G9 op (ad u x))) (t) aU)):=by simp only[eN,fY,if_true,lJ];rfl
@[simp] theorem aZ7(O:Nat)(x:Operand)(cK ag:Option Operand):eN a0 base (⟨bb,d,none,.qI O x cK ag,bI⟩::b4) u t aU=((nw O (ad u x)&&qF u cK&&qF u ag&&decide (0<=hT u cK 0)&&decide (hT u cK 0<=hT u ag (l0 (ad u x)))&&decide (hT u ag (l0 (ad u x))<=l0 (ad u x)))=true/\(kY u t bI=true/\eN a0 base b4 (dO u d (v7 (ad u x) O (hT u cK 0).toNat (hT u ag (l0 (ad u x))).toNat)) (t) aU)):=by simp only[eN,fY,if_true,lJ];rfl
@[simp] theorem aZ6(O n:Nat)(x:Operand):eN a0 base (⟨bb,d,none,.sY O n x,bI⟩::b4) u t aU=((g8 t (ad u x) (n*O)&&decide (n<=maxLen))=true/\(kY u t bI=true/\eN a0 base b4 (dO u d (KJ (ad u x) O n)) (t) aU)):=by simp only[eN,fY,if_true,lJ];rfl
@[simp] theorem aZZ(O bytes:Nat)(mO:List Value)(l c:Operand):eN a0 base (⟨bb,d,none,.nN O bytes mO l c,bI⟩::b4) u t aU=((gi (ad u l)&&gi (ad u c)&&decide (0<=gy (ad u l))&&decide (gy (ad u l)<=gy (ad u c))&&decide (gy (ad u c)*(bytes:Int)<=140737488355328)&&decide (gy (ad u c)<=9223372036854775807)&&decide (0<O))=true/\(kY u t bI=true/\eN a0 base b4 (dO u d (.slice (some ⟨base+bb,0,none⟩) (gy (ad u l)).toNat O)) (t.an (base+bb) (some ⟨(List.replicate (gy (ad u l)).toNat mO).flatten,true⟩)) aU)):=by simp only[eN,fY,if_true,lJ];rfl
@[simp] theorem aZQ(off:Nat)(x:Operand):eN a0 base (⟨bb,d,none,.vq off x,bI⟩::b4) u t aU=(sQ (ad u x)=true/\(kY u t bI=true/\eN a0 base b4 (dO u d (z3 (ad u x) off)) (t) aU)):=by simp only[eN,fY,if_true,lJ];rfl
@[simp] theorem aZS(O:Nat)(x i:Operand):eN a0 base (⟨bb,d,none,.sC O x i,bI⟩::b4) u t aU=((nw O (ad u x)&&gi (ad u i)&&decide (0<=gy (ad u i))&&decide (gy (ad u i)<l0 (ad u x)))=true/\(kY u t bI=true/\eN a0 base b4 (dO u d (Ec (ad u x) O (gy (ad u i)))) (t) aU)):=by simp only[eN,fY,if_true,lJ];rfl
@[simp] theorem aZT(O len:Nat)(x i:Operand):eN a0 base (⟨bb,d,none,.wN O len x i,bI⟩::b4) u t aU=((sQ (ad u x)&&gi (ad u i)&&decide (0<=gy (ad u i))&&decide (gy (ad u i)<(len:Int)))=true/\(kY u t bI=true/\eN a0 base b4 (dO u d (z3 (ad u x) ((gy (ad u i)).toNat*O))) (t) aU)):=by simp only[eN,fY,if_true,lJ];rfl
@[simp] theorem aZP(i:Nat)(x:Operand):eN a0 base (⟨bb,d,none,.ext i x,bI⟩::b4) u t aU=(G7 (ad u x) i=true/\(kY u t bI=true/\eN a0 base b4 (dO u d (Ej (ad u x) i)) (t) aU)):=by simp only[eN,fY,if_true,lJ];rfl
@[simp] theorem aZU(x:Operand):eN a0 base (⟨bb,d,none,.vO x,bI⟩::b4) u t aU=(DH (ad u x)=true/\(kY u t bI=true/\eN a0 base b4 (dO u d (.int .i64 (l0 (ad u x)))) (t) aU)):=by simp only[eN,fY,if_true,lJ];rfl
@[simp] theorem aZH(O bytes:Nat)(x y:Operand):eN a0 base (⟨bb,d,none,.app O bytes x y,bI⟩::b4) u t aU=((ig t O (ad u x)&&nX t (ad u x)&&pq t O (ad u y)&&decide (0<O)&&decide ((hL (ad u x)+m5 (ad u y))*bytes<=140737488355328)&&decide (hL (ad u x)+m5 (ad u y)<=9223372036854775807))=true/\(kY u t bI=true/\eN a0 base b4 (dO u d (if m5 (ad u y)=0 then ad u x else .slice (some ⟨base+bb,0,none⟩) (hL (ad u x)+m5 (ad u y)) O)) (if m5 (ad u y)=0 then t else(mY t (ad u x)).an (base+bb) (some ⟨hX t O (ad u x)++sl t O (ad u y),true⟩)) aU)):=by simp only[eN,fY,if_true,lJ];rfl
@[simp] theorem aZW(fQ:Bool)(x:Operand)(xs:List Operand):eN a0 base (⟨bb,d,none,.yo fQ x xs,bI⟩::b4) u t aU=((gi (ad u x)&&xs.all λy=>gi (ad u y))=true/\(kY u t bI=true/\eN a0 base b4 (dO u d (xs.foldl (λeF y=>if fQ then ra eF (ad u y)else rb eF (ad u y)) (ad u x))) (t) aU)):=by simp only[eN,fY,if_true,lJ];rfl
@[simp] theorem aZY:eN a0 base (⟨bb,d,none,.pj,bI⟩::b4) u t aU=(kY u t bI=true/\eN a0 base b4 (dO u d (.map (some (base+bb)))) (t.hx (base+bb) []) aU):=by simp only[eN,fY,if_true,lJ,al.k5,al.ok,true_and];rfl
@[simp] theorem aZ0(gJ:mu)(zero:Value)(o:Bool)(x k:Operand):eN a0 base (⟨bb,d,none,.pY gJ zero o x k,bI⟩::b4) u t aU=(aqa gJ t (ad u x) (ad u k)=true/\(kY u t bI=true/\eN a0 base b4 (dO u d (aqb zero o t (ad u x) (ad u k))) (t) aU)):=by simp only[eN,fY,if_true,lJ];rfl
@[simp] theorem aZ2(gJ:mu)(x k v:Operand):eN a0 base (⟨bb,d,none,.p0 gJ x k v,bI⟩::b4) u t aU=(aqg gJ t (ad u x) (ad u k) (ad u v)=true/\(kY u t bI=true/\eN a0 base b4 (dO u d (undef)) (aqf t (ad u x) (ad u k) (ad u v)) aU)):=by simp only[eN,fY,if_true,lJ];rfl
@[simp] theorem aZX(f:Nat)(gH cs:List Operand):eN a0 base (⟨bb,d,none,.uR (.func f) gH cs,bI⟩::b4) u t aU=(kY u t bI=true/\eN a0 base b4 (dO u d (.func (.func f) (gH.map (ad u)).toArray (cs.map (ad u)).toArray)) (t) aU):=by simp only[eN,fY,if_true,lJ,al.k5,true_and];rfl
@[simp] theorem aPv{cS:List Value}{k n:Nat}:uo t (gb cS k) n=decide (k+n<=cS.length):=by simp[uo]
@[simp] theorem aPw{a o n:Nat}:uo t (.pointer (some ⟨a,o,none⟩)) n=(match t.U a with|some x=>decide (o+n<=x.cells.length)|none=>false):=rfl
@[simp] theorem aT1{cS:List Value}{k n:Nat}{df:Bool}:DM t df n (gb cS k)=if df then .agg ((cS.drop k).take n).toArray else((cS.drop k).take 1).headD undef:=by simp[DM]
@[simp] theorem aT2{a o n:Nat}{df:Bool}:DM t df n (.pointer (some ⟨a,o,none⟩))=if df then .agg (jI t a o n).toArray else(jI t a o 1).headD undef:=rfl
@[simp] theorem aU8{cS:List Value}{k:Nat}:sQ (gb cS k)=true:=rfl
@[simp] theorem aU9{a o:Nat}:sQ (.pointer (some ⟨a,o,none⟩))=true:=rfl
@[simp] theorem aU6{cS:List Value}{k n:Nat}:z3 (gb cS k) n=gb cS (k+n):=by simp[z3]
@[simp] theorem aU7{a o n:Nat}:z3 (.pointer (some ⟨a,o,none⟩)) n= .pointer (some ⟨a,o+n,none⟩):=rfl
section
variable {bW:List (List Value)} {O iR l c n:Nat} {a:Option Addr} {fr:Addr} {s:ByteArray} {i:Int}
@[simp] theorem aTi:DH (aQ bW O)=true:=rfl
@[simp] theorem aTj:DH (.slice a l c)=true:=rfl
@[simp] theorem aTO:l0 (aQ bW O)=bW.length:=by simp[l0]
@[simp] theorem aTP:l0 (.slice a l c)=l:=rfl
@[simp] theorem aY0:m5 (aQ bW O)=bW.length:=by simp[m5]
@[simp] theorem aY1:m5 (.slice a l c)=l:=rfl
@[simp] theorem aY2:nw iR (aQ bW O)=(O==iR):=by simp[nw]
@[simp] theorem aY4{b o:Nat}:nw O (.slice (some ⟨b,o,none⟩) l c)=(c==O):=by simp[nw,jL]
@[simp] theorem aY3:nw O (.slice none 0 0)=true:=rfl
@[simp] theorem aY7{h:Nat}:v7 (aQ bW O) iR l h=aQ ((bW.take h).drop l) iR:=by simp[v7]
@[simp] theorem aY9{b o h:Nat}:v7 (.slice (some ⟨b,o,none⟩) n c) O l h= .slice (some ⟨b,o+l*O,none⟩) (h-l) c:=rfl
@[simp] theorem aY8{h:Nat}:v7 (.slice none n c) O l h= .slice none 0 0:=rfl
@[simp] theorem aYX:Ec (aQ bW O) iR i=gb (bW.getD i.toNat []) 0:=by simp[Ec]
@[simp] theorem aYY{b o:Nat}:Ec (.slice (some ⟨b,o,none⟩) l c) O i= .pointer (some ⟨b,o+i.toNat*O,none⟩):=rfl
@[simp] theorem aZd:pq t iR (aQ bW O)=(O==iR):=by simp[pq]
@[simp] theorem aZf{b o:Nat}:pq t O (.slice (some ⟨b,o,none⟩) l c)=(c==O&&(match t.U b with|some x=>decide (o+l*O<=x.cells.length)|none=>false)):=rfl
@[simp] theorem aZe:pq t O (.slice none 0 0)=true:=rfl
@[simp] theorem aQk:sl t iR (aQ bW O)=bW.flatten:=by simp[sl]
@[simp] theorem aQm{b o:Nat}:sl t O (.slice (some ⟨b,o,none⟩) l c)=jI t b o (l*O):=rfl
@[simp] theorem aQl:sl t O (.slice none l c)=[]:=rfl
end
@[simp] theorem aTr{k:IntKind}{n:Int}:lW (.int k n)=false:=rfl
@[simp] theorem aTo{b:Bool}:lW (.bool b)=false:=rfl
@[simp] theorem aTx{b:ByteArray}:lW (.string b)=false:=rfl
@[simp] theorem aTv{a:Option Addr}:lW (.pointer a)=false:=rfl
@[simp] theorem aTw{a:Option Addr}{l c:Nat}:lW (.slice a l c)=false:=rfl
@[simp] theorem aTs{a:Option Nat}:lW (.map a)=false:=rfl
@[simp] theorem aTn{a:Array Value}:lW (.agg a)=false:=rfl
@[simp] theorem aTy{a:Array Value}:lW (.tuple a)=false:=rfl
@[simp] theorem aTz:lW undef=false:=rfl
@[simp] theorem aTp{f:Nat}{a b:Array Value}:lW (.func (.func f) a b)=false:=rfl
@[simp] theorem aTt:lW .nilFunc=false:=rfl
@[simp] theorem aTu:lW .nilIface=false:=rfl
@[simp] theorem aTq{t:TypeId}{v:Value}:lW (.iface t v)=false:=rfl
@[simp] theorem aPB{k:IntKind}{n:Int}:oD (.int k n)=true:=rfl
@[simp] theorem aPz{b:Bool}:oD (.bool b)=true:=rfl
@[simp] theorem aPF{b:ByteArray}:oD (.string b)=true:=rfl
@[simp] theorem aPE{a:Option Addr}:oD (.pointer a)=true:=rfl
@[simp] theorem aPC{l c:Nat}:oD (.slice none l c)=true:=rfl
@[simp] theorem aPA{f:Nat}{a b:Array Value}:oD (.func (.func f) a b)=true:=rfl
@[simp] theorem aPD:oD .nilFunc=true:=rfl
@[simp high] theorem a0g{bW:List (List Value)}{O:Nat}:ao (aQ bW O)=[aQ bW O]:=rfl
@[simp high] theorem a0f{cS:List Value}{O:Nat}:ao (gb cS O)=[gb cS O]:=rfl
@[simp high] theorem aUw{bW:List (List Value)}{O:Nat}:aB (aQ bW O)=true:=rfl
@[simp high] theorem aUv{cS:List Value}{O:Nat}:aB (gb cS O)=true:=rfl
@[simp high] theorem aUN{bW:List (List Value)}{O:Nat}:au (aQ bW O)=true:=rfl
@[simp high] theorem aQQ{bW:List (List Value)}{O:Nat}:fy (aQ bW O)=false:=rfl
@[simp high] theorem aQP{cS:List Value}{O:Nat}:fy (gb cS O)=false:=rfl
@[simp high] theorem aTh{cS:List Value}{O:Nat}:Gj (gb cS O)=true:=rfl
@[simp high] theorem aPH{bW:List (List Value)}{O:Nat}:ai (aQ bW O)=none:=rfl
@[simp high] theorem aPG{cS:List Value}{O:Nat}:ai (gb cS O)=none:=rfl
@[simp] theorem aQv:kY u t []=true:=rfl
@[simp] theorem aQu{x y:Operand}:kY u t ((x,y)::bI)=(PX t (ad u x) (ad u y)&&kY u t bI):=rfl
@[simp] theorem aTE:zJ u t []=true:=rfl
@[simp] theorem aTD{x:Operand×Operand}:zJ u t (x::bI)=((match ai (ad u x.1)with|some o=> !JQ t o|none=>true)&&zJ u t bI):=rfl
section
variable {k:IntKind} {n:Int} {b:Bool} {s:ByteArray} {a:Option Addr} {l c f:Nat} {xs ys:Array Value} {v:Value} {s0:TypeId} {mp:Option Nat}
@[simp] theorem a0l:ao (.int k n)=[.int k n]:=rfl
@[simp] theorem aUB:aB (.int k n)=true:=rfl
@[simp] theorem aUS:au (.int k n)=true:=rfl
@[simp] theorem a0i:ao (.bool b)=[.bool b]:=rfl
@[simp] theorem aUy:aB (.bool b)=true:=rfl
@[simp] theorem aUP:au (.bool b)=true:=rfl
@[simp] theorem a0r:ao (.string s)=[.string s]:=rfl
@[simp] theorem aUH:aB (.string s)=true:=rfl
@[simp] theorem aUY:au (.string s)=true:=rfl
@[simp] theorem a0p:ao (.pointer a)=[.pointer a]:=rfl
@[simp] theorem aUF:aB (.pointer a)=true:=rfl
@[simp] theorem aUW:au (.pointer a)=true:=rfl
@[simp] theorem a0q:ao (.slice a l c)=[.slice a l c]:=rfl
@[simp] theorem aUG:aB (.slice a l c)=true:=rfl
@[simp] theorem aUX:au (.slice a l c)=true:=rfl
@[simp] theorem a0m:ao (.map mp)=[.map mp]:=rfl
@[simp] theorem aUC:aB (.map mp)=true:=rfl
@[simp] theorem aUT:au (.map mp)=true:=rfl
@[simp] theorem a0j:ao (.func (.func f) xs ys)=[.func (.func f) xs ys]:=rfl
@[simp] theorem aUz:aB (.func (.func f) xs ys)=true:=rfl
@[simp] theorem aUQ:au (.func (.func f) xs ys)=true:=rfl
@[simp] theorem a0n:ao (.nilFunc)=[.nilFunc]:=rfl
@[simp] theorem aUD:aB (.nilFunc)=true:=rfl
@[simp] theorem aUU:au (.nilFunc)=true:=rfl
@[simp] theorem a0o:ao (.nilIface)=[.nilIface]:=rfl
@[simp] theorem aUE:aB (.nilIface)=true:=rfl
@[simp] theorem aUV:au (.nilIface)=true:=rfl
@[simp] theorem a0k:ao (.iface s0 v)=[.iface s0 v]:=rfl
@[simp] theorem aUA:aB (.iface s0 v)=true:=rfl
@[simp] theorem aUR:au (.iface s0 v)=true:=rfl
@[simp] theorem a0h:ao (.agg xs)=xs.toList:=rfl
@[simp] theorem aUx:aB (.agg xs)=true:=rfl
@[simp] theorem aUO:au (.agg xs)=false:=rfl
@[simp] theorem aUI:aB (.tuple xs)=false:=rfl
@[simp] theorem aPM:ai (.int k n)=none:=rfl
@[simp] theorem aPJ:ai (.bool b)=none:=rfl
@[simp] theorem aPV:ai (.string s)=none:=rfl
@[simp] theorem aPK:ai (.func (.func f) xs ys)=none:=rfl
@[simp] theorem aPO:ai (.nilFunc)=none:=rfl
@[simp] theorem aPP:ai (.nilIface)=none:=rfl
@[simp] theorem aPL:ai (.iface s0 v)=none:=rfl
@[simp] theorem aPI:ai (.agg xs)=none:=rfl
@[simp] theorem aPW:ai (.tuple xs)=none:=rfl
@[simp] theorem aPT{fr:Addr}:ai (.pointer (some fr))=some fr.block:=rfl
@[simp] theorem aPS:ai (.pointer none)=none:=rfl
@[simp] theorem aPU{fr:Addr}:ai (.slice (some fr) l c)=some fr.block:=rfl
@[simp] theorem aPQ:ai (.slice none l c)=none:=rfl
@[simp] theorem aPN:ai (.map (some l))=some l:=rfl
@[simp] theorem aPR:ai (.map none)=none:=rfl
end
@[simp] theorem aP6{f:Nat}{args:List Value}{wZ:Bool}{aU:Value->E->Prop}:xF a0 f args t wZ aU=if HW a0.p f=true then D2 a0.p f args t aU else wZ=true/\if HV a0.i f=true then Aa a0.i f args t aU else iE P f args t aU:=by simp only[xF]
@[simp] theorem aRH{f:Nat}:HV ([]:List (ly P)) f=false:=rfl
@[simp] theorem aRG{s:ly P}{f:Nat}:HV (s::VN) f=(s.f==f||HV VN f):=rfl
def asG(o:Option (Value×E))(aU:Value->E->Prop):Prop:=match o with
  |some (r,t)=>aU r t
  |none=>False
@[simp] theorem a0d{r:Value}{aU:Value->E->Prop}:asG (some (r,t)) aU=aU r t:=propext nb
@[simp] theorem aZl{s:ly P}{f:Nat}{args:List Value}{aU:Value->E->Prop}:Aa (s::VN) f args t aU=if s.f=f then asG (s.fn args t) aU else Aa VN f args t aU:=propext nb
@[simp] theorem aRJ{f:Nat}:HW ([]:List (cf P)) f=false:=rfl
@[simp] theorem aRI{s:cf P}{f:Nat}:HW (s::xh) f=(s.f==f||HW xh f):=rfl
def asH(o:Option Value)(aI:Value->Prop):Prop:=match o with
  |some r=>aI r
  |none=>False
@[simp] theorem a0e{r:Value}{aI:Value->Prop}:asH (some r) aI=aI r:=propext nb
@[simp] theorem aZn{s:cf P}{f:Nat}{args:List Value}{aI:Value->Prop}:yx (s::xh) f args aI=if s.f=f then asH (s.fn args) aI else yx xh f args aI:=propext nb
def OJ(args:List Value)(t:E)(aU:Value->E->Prop)(r:Value):Prop:=aU r (if o6 r=true then vi t (args.flatMap (gd 9 t))else xf t (args.flatMap (gd 9 t)))
@[simp low] theorem aVc{args:List Value}{aU:Value->E->Prop}{r:Value}:OJ args t aU r=aU r (if o6 r=true then vi t (args.flatMap (gd 9 t))else xf t (args.flatMap (gd 9 t))):=propext nb
@[simp] theorem aVb{args:List Value}{aU:Value->E->Prop}{b:Bool}:OJ args t aU (.bool b)=aU (.bool b) (vi t (args.flatMap (gd 9 t))):=propext nb
@[simp] theorem aVd{args:List Value}{aU:Value->E->Prop}{k:IntKind}{n:Int}:OJ args t aU (.int k n)=aU (.int k n) (vi t (args.flatMap (gd 9 t))):=propext nb
@[simp] theorem aVa{args:List Value}{aU:Value->E->Prop}{bW:List (List Value)}{O:Nat}:OJ args t aU (aQ bW O)=aU (aQ bW O) (xf t (args.flatMap (gd 9 t))):=propext nb
def ar5(o:Option (List Value))(a0:List (cf P))(f:Nat)(aI:Value->Prop):Prop:=match o with
  |some ts=>yx a0 f ts aI
  |none=>False
@[simp] theorem aZm{ts:List Value}{f:Nat}{aI:Value->Prop}:ar5 (some ts) xh f aI=yx xh f ts aI:=propext nb
@[simp] theorem aVe{f:Nat}{args:List Value}{aU:Value->E->Prop}:D2 xh f args t aU=ar5 (Lj 9 t args) xh f (OJ args t aU):=propext nb
open Classical in
noncomputable def cf.ek(f:Nat)(cy:Type)(cj:cy->Prop)(enc:cy->List Value)(rm:cy->Value)(ok: ∀x,cj x->c4 P f (enc x) (rm x)):cf P:=
  ⟨f,λargs=>if h: ∃x,cj x/\enc x=args then some (rm h.choose)else none,λargs r h=>by
    split at h
    · next F=>cases h;have:=ok _ F.choose_spec.1;rw[F.choose_spec.2]at this;exact this
    · cases h⟩
theorem cf.eP{f:Nat}{cy:Type}{cj:cy->Prop}{enc:cy->List Value}{rm:cy->Value}{ok: ∀x,cj x->c4 P f (enc x) (rm x)}{x:cy}(Y:cj x)(ag: ∀y,enc y=enc x->y=x):(cf.ek f cy cj enc rm ok).fn (enc x)=some (rm x):=by have nH: ∃y,cj y/\enc y=enc x:=⟨x,Y,rfl⟩;simp only[cf.ek,dif_pos nH];rw[ag _ nH.choose_spec.2]
@[simp] theorem cf.aUM{f:Nat}{cy:Type}{cj:cy->Prop}{enc:cy->List Value}{rm:cy->Value}{ok: ∀x,cj x->c4 P f (enc x) (rm x)}:(cf.ek f cy cj enc rm ok).f=f:=rfl
@[simp] theorem aRe{n:Nat}{args:List Value}:Lj n t args=gV (eg n t) args:=rfl
@[simp] theorem aU2{α p7:Type}{f:α->Option p7}:gV f []=some []:=rfl
@[simp] theorem aU1{α p7:Type}{f:α->Option p7}{x:α}{xs:List α}:gV f (x::xs)=match f x with
  | some y=>(match gV f xs with
    |some ys=>some (y::ys)
    |none=>none)
  |none=>none:=rfl
theorem y4{n:Nat}{v:Value}(h:il v=true):eg n t v=some v:=by cases n<;>simp[eg,h]
theorem D4{n:Nat}{v:Value}(h:il v=true):gd n t v=[]:=by cases n<;>simp[gd,h]
@[simp] theorem aQ5{n:Nat}{k:IntKind}{x:Int}:eg n t (.int k x)=some (.int k x):=y4 rfl
@[simp] theorem aVB{n:Nat}{k:IntKind}{x:Int}:gd n t (.int k x)=[]:=D4 rfl
@[simp] theorem aQd{k:IntKind}{x:Int}:il (.int k x)=true:=rfl
@[simp] theorem aQY{n:Nat}{b:Bool}:eg n t (.bool b)=some (.bool b):=y4 rfl
@[simp] theorem aVu{n:Nat}{b:Bool}:gd n t (.bool b)=[]:=D4 rfl
@[simp] theorem aQc{b:Bool}:il (.bool b)=true:=rfl
@[simp] theorem aQ7{n:Nat}{s:ByteArray}:eg n t (.string s)=some (.string s):=y4 rfl
@[simp] theorem aVD{n:Nat}{s:ByteArray}:gd n t (.string s)=[]:=D4 rfl
@[simp] theorem aQj{s:ByteArray}:il (.string s)=true:=rfl
@[simp] theorem aQ6{n:Nat}:eg n t (.slice none 0 0)=some (.slice none 0 0):=y4 rfl
@[simp] theorem aVC{n:Nat}:gd n t (.slice none 0 0)=[]:=D4 rfl
@[simp] theorem aQg:il (.slice none 0 0)=true:=rfl
@[simp] theorem aQi:il (.pointer none)=true:=rfl
@[simp] theorem aQe:il (.nilFunc)=true:=rfl
@[simp] theorem aQf:il (.nilIface)=true:=rfl
@[simp] theorem aQh:il (.map none)=true:=rfl
@[simp] theorem aQS{n:Nat}{bW:List (List Value)}{O:Nat}:eg n t (aQ bW O)=some (aQ bW O):=y4 rfl
@[simp] theorem aVo{n:Nat}{bW:List (List Value)}{O:Nat}:gd n t (aQ bW O)=[]:=D4 rfl
@[simp] theorem aQb{bW:List (List Value)}{O:Nat}:il (aQ bW O)=true:=rfl
@[simp] theorem aQa{cS:List Value}{O:Nat}:il (gb cS O)=true:=rfl
theorem QF{n b o l O:Nat}:eg (n+1) t (.slice (some ⟨b,o,none⟩) l O)=match t.U b with
  | some x=>if o+l*O<=x.cells.length then(match gV (gV (eg n t)) (n5 O l (x.cells.drop o))with
    |some bW=>some (aQ bW O)
    |none=>none)else none
  |none=>none:=by
  simp only[eg,il,fy,lW,Bool.or_false,lv,if_false,Option.isNone_none,oY,fU];rfl
@[simp] theorem axG{cs:Array Value}:eg 9 t (.agg cs)=match gV (eg 8 t) cs.toList with
  |some l=>some (.agg l.toArray)
  |none=>none:=rfl
@[simp] theorem aRd{cs:Array Value}:eg 9 t (.tuple cs)=match gV (eg 8 t) cs.toList with
  |some l=>some (.tuple l.toArray)
  |none=>none:=rfl
@[simp] theorem aQ4{f:Nat}{xs cs:Array Value}:eg 9 t (.func (.func f) xs cs)=match gV (eg 8 t) xs.toList,gV (eg 8 t) cs.toList with
  |some l,some k=>some (.func (.func f) l.toArray k.toArray)
  |_,_=>none:=rfl
theorem ss{b o l O:Nat}:eg 9 t (.slice (some ⟨b,o,none⟩) l O)=match t.U b with
  | some x=>if o+l*O<=x.cells.length then(match gV (gV (eg 8 t)) (n5 O l (x.cells.drop o))with
    |some bW=>some (aQ bW O)
    |none=>none)else none
  |none=>none:=QF
@[simp] theorem aJk{cs:Array Value}:gd 9 t (.agg cs)=cs.toList.flatMap (gd 8 t):=rfl
@[simp] theorem aVJ{cs:Array Value}:gd 9 t (.tuple cs)=cs.toList.flatMap (gd 8 t):=rfl
@[simp] theorem aVA{f:Nat}{xs cs:Array Value}:gd 9 t (.func (.func f) xs cs)=xs.toList.flatMap (gd 8 t)++cs.toList.flatMap (gd 8 t):=rfl
theorem sS{b o l O:Nat}:gd 9 t (.slice (some ⟨b,o,none⟩) l O)=b::(match t.U b with
  |some x=>x.cells.flatMap (gd 8 t)
  |none=>[]):=rfl
@[simp] theorem aQX{cs:Array Value}:eg 8 t (.agg cs)=match gV (eg 7 t) cs.toList with
  |some l=>some (.agg l.toArray)
  |none=>none:=rfl
@[simp] theorem aRc{cs:Array Value}:eg 8 t (.tuple cs)=match gV (eg 7 t) cs.toList with
  |some l=>some (.tuple l.toArray)
  |none=>none:=rfl
@[simp] theorem aQ3{f:Nat}{xs cs:Array Value}:eg 8 t (.func (.func f) xs cs)=match gV (eg 7 t) xs.toList,gV (eg 7 t) cs.toList with
  |some l,some k=>some (.func (.func f) l.toArray k.toArray)
  |_,_=>none:=rfl
theorem XA{b o l O:Nat}:eg 8 t (.slice (some ⟨b,o,none⟩) l O)=match t.U b with
  | some x=>if o+l*O<=x.cells.length then(match gV (gV (eg 7 t)) (n5 O l (x.cells.drop o))with
    |some bW=>some (aQ bW O)
    |none=>none)else none
  |none=>none:=QF
@[simp] theorem aVt{cs:Array Value}:gd 8 t (.agg cs)=cs.toList.flatMap (gd 7 t):=rfl
@[simp] theorem aVI{cs:Array Value}:gd 8 t (.tuple cs)=cs.toList.flatMap (gd 7 t):=rfl
@[simp] theorem aVz{f:Nat}{xs cs:Array Value}:gd 8 t (.func (.func f) xs cs)=xs.toList.flatMap (gd 7 t)++cs.toList.flatMap (gd 7 t):=rfl
theorem ae8{b o l O:Nat}:gd 8 t (.slice (some ⟨b,o,none⟩) l O)=b::(match t.U b with
  |some x=>x.cells.flatMap (gd 7 t)
  |none=>[]):=rfl
@[simp] theorem aQW{cs:Array Value}:eg 7 t (.agg cs)=match gV (eg 6 t) cs.toList with
  |some l=>some (.agg l.toArray)
  |none=>none:=rfl
@[simp] theorem aRb{cs:Array Value}:eg 7 t (.tuple cs)=match gV (eg 6 t) cs.toList with
  |some l=>some (.tuple l.toArray)
  |none=>none:=rfl
@[simp] theorem aQ2{f:Nat}{xs cs:Array Value}:eg 7 t (.func (.func f) xs cs)=match gV (eg 6 t) xs.toList,gV (eg 6 t) cs.toList with
  |some l,some k=>some (.func (.func f) l.toArray k.toArray)
  |_,_=>none:=rfl
theorem aiR{b o l O:Nat}:eg 7 t (.slice (some ⟨b,o,none⟩) l O)=match t.U b with
  | some x=>if o+l*O<=x.cells.length then(match gV (gV (eg 6 t)) (n5 O l (x.cells.drop o))with
    |some bW=>some (aQ bW O)
    |none=>none)else none
  |none=>none:=QF
@[simp] theorem aVs{cs:Array Value}:gd 7 t (.agg cs)=cs.toList.flatMap (gd 6 t):=rfl
@[simp] theorem aVH{cs:Array Value}:gd 7 t (.tuple cs)=cs.toList.flatMap (gd 6 t):=rfl
@[simp] theorem aVy{f:Nat}{xs cs:Array Value}:gd 7 t (.func (.func f) xs cs)=xs.toList.flatMap (gd 6 t)++cs.toList.flatMap (gd 6 t):=rfl
@[simp] theorem aQV{cs:Array Value}:eg 6 t (.agg cs)=match gV (eg 5 t) cs.toList with
  |some l=>some (.agg l.toArray)
  |none=>none:=rfl
@[simp] theorem aRa{cs:Array Value}:eg 6 t (.tuple cs)=match gV (eg 5 t) cs.toList with
  |some l=>some (.tuple l.toArray)
  |none=>none:=rfl
@[simp] theorem aQ1{f:Nat}{xs cs:Array Value}:eg 6 t (.func (.func f) xs cs)=match gV (eg 5 t) xs.toList,gV (eg 5 t) cs.toList with
  |some l,some k=>some (.func (.func f) l.toArray k.toArray)
  |_,_=>none:=rfl
@[simp] theorem aVr{cs:Array Value}:gd 6 t (.agg cs)=cs.toList.flatMap (gd 5 t):=rfl
@[simp] theorem aVG{cs:Array Value}:gd 6 t (.tuple cs)=cs.toList.flatMap (gd 5 t):=rfl
@[simp] theorem aVx{f:Nat}{xs cs:Array Value}:gd 6 t (.func (.func f) xs cs)=xs.toList.flatMap (gd 5 t)++cs.toList.flatMap (gd 5 t):=rfl
@[simp] theorem aQU{cs:Array Value}:eg 5 t (.agg cs)=match gV (eg 4 t) cs.toList with
  |some l=>some (.agg l.toArray)
  |none=>none:=rfl
@[simp] theorem aQ9{cs:Array Value}:eg 5 t (.tuple cs)=match gV (eg 4 t) cs.toList with
  |some l=>some (.tuple l.toArray)
  |none=>none:=rfl
@[simp] theorem aQ0{f:Nat}{xs cs:Array Value}:eg 5 t (.func (.func f) xs cs)=match gV (eg 4 t) xs.toList,gV (eg 4 t) cs.toList with
  |some l,some k=>some (.func (.func f) l.toArray k.toArray)
  |_,_=>none:=rfl
@[simp] theorem aVq{cs:Array Value}:gd 5 t (.agg cs)=cs.toList.flatMap (gd 4 t):=rfl
@[simp] theorem aVF{cs:Array Value}:gd 5 t (.tuple cs)=cs.toList.flatMap (gd 4 t):=rfl
@[simp] theorem aVw{f:Nat}{xs cs:Array Value}:gd 5 t (.func (.func f) xs cs)=xs.toList.flatMap (gd 4 t)++cs.toList.flatMap (gd 4 t):=rfl
@[simp] theorem aQT{cs:Array Value}:eg 4 t (.agg cs)=match gV (eg 3 t) cs.toList with
  |some l=>some (.agg l.toArray)
  |none=>none:=rfl
@[simp] theorem aQ8{cs:Array Value}:eg 4 t (.tuple cs)=match gV (eg 3 t) cs.toList with
  |some l=>some (.tuple l.toArray)
  |none=>none:=rfl
@[simp] theorem aQZ{f:Nat}{xs cs:Array Value}:eg 4 t (.func (.func f) xs cs)=match gV (eg 3 t) xs.toList,gV (eg 3 t) cs.toList with
  |some l,some k=>some (.func (.func f) l.toArray k.toArray)
  |_,_=>none:=rfl
@[simp] theorem aVp{cs:Array Value}:gd 4 t (.agg cs)=cs.toList.flatMap (gd 3 t):=rfl
@[simp] theorem aVE{cs:Array Value}:gd 4 t (.tuple cs)=cs.toList.flatMap (gd 3 t):=rfl
@[simp] theorem aVv{f:Nat}{xs cs:Array Value}:gd 4 t (.func (.func f) xs cs)=xs.toList.flatMap (gd 3 t)++cs.toList.flatMap (gd 3 t):=rfl
@[simp] theorem aQo{O:Nat}{cs:List Value}:n5 O 0 cs=[]:=rfl
@[simp] theorem aQp{O:Nat}{cs:List Value}:n5 O 1 cs=[cs.take O]:=rfl
@[simp] theorem aQq{O:Nat}{cs:List Value}:n5 O 2 cs=[cs.take O,(cs.drop O).take O]:=rfl
@[simp] theorem aQr{O:Nat}{cs:List Value}:n5 O 3 cs=[cs.take O,(cs.drop O).take O,((cs.drop O).drop O).take O]:=rfl
@[simp] theorem aQs{O:Nat}{cs:List Value}:n5 O 4 cs=[cs.take O,(cs.drop O).take O,((cs.drop O).drop O).take O,(((cs.drop O).drop O).drop O).take O]:=rfl
@[simp] theorem aQt{O:Nat}{cs:List Value}:n5 O 5 cs=[cs.take O,(cs.drop O).take O,((cs.drop O).drop O).take O,(((cs.drop O).drop O).drop O).take O,((((cs.drop O).drop O).drop O).drop O).take O]:=rfl
@[simp] theorem aUg:rY.next=0:=rfl
theorem E3{bW:List (List Value)}{n o l O:Nat}{w:Bool}(aq:t.U o=some ⟨bW.flatten,w⟩)(aE:l=bW.length)(aH: ∀r∈bW,r.length=O/\ ∀v∈r,il v=true):eg (n+1) t (.slice (some ⟨o,0,none⟩) l O)=some (aQ bW O):=by subst aE;have cl: ∀r∈bW,r.length=O:= λr h=>(aH r h).1;have H:gV (gV (eg n t)) bW=some bW:=GM λr h=>GM λv S=>y4 ((aH r h).2 v S);have af:(bW.flatten).length=bW.length*O:=CH cl;simp[eg,il,fy,lW,aq,W9 cl,H,af]
theorem aq9{cs:List Value}{n:Nat}(aH: ∀v∈cs,il v=true):cs.flatMap (gd n t)=[]:=by rw[List.flatMap_eq_nil_iff];exact λv S=>D4 (aH v S)
end
@[simp] theorem aVW{d fm:List Value}{l:List (List Value)}:(fm::l)[0]?.getD d=fm:=rfl
@[simp] theorem aVX{d fm bh:List Value}{l:List (List Value)}:(fm::bh::l)[1]?.getD d=bh:=rfl
@[simp] theorem aVY{d fm bh bt:List Value}{l:List (List Value)}:(fm::bh::bt::l)[2]?.getD d=bt:=rfl
theorem KQ{t:E}{a b:Nat}:(t.bx a).bx b=t.bx (a+b):=by
  simp only[E.bx,E.mk.injEq,and_true];refine⟨by omega,?_⟩;funext i;by_cases h:i<t.next
  · simp[h,show i<t.next+a by omega]
  · simp[h]
theorem OK{t:E}{c k:Nat}{x:Option fV}(h:c<t.next):(t.an c x).bx k=(t.bx k).an c x:=by
  simp only[E.bx,E.an,E.mk.injEq,and_true,true_and];funext i;by_cases B:i=c
  · subst B;simp[h]
  · simp[B]
attribute [simp] PX KO JQ LC LB xP QP o8
def wz(m:E):iS:= λb=>(m.U b).map (·.cells)
section
variable {P:Program} {z:iS} {m N:E}
theorem QG(m:E):Au (wz m) m:= λb cs h=>by
  simp only[wz]at h;cases aq:m.U b with
  |none=>rw[aq]at h;cases h
  |some x=>rw[aq]at h;cases h;exact⟨x.own,rfl⟩
theorem Lk{b:Nat}{cs:List Value}{w:Bool}(h:m.U b=some ⟨cs,w⟩):wz m b=some cs:=by simp[wz,h]
theorem aiU(h:Au z m):j0 z (wz m):= λb cs K=>by obtain⟨w,aS⟩:=h b cs K;exact Lk aS
abbrev vb(m:E)(v b2:Value):Prop:=cQ (wz m) oi v b2
abbrev EF(m:E)(dh asM:List Value):Prop:=b5 (wz m) oi dh asM
theorem aLW{f:Nat}{ts:List Value}{r:Value}(h: ∀m a1i,EF m ts a1i->bU P f a1i m λhy N=>(m.next<=N.next/\ ∀b,b<m.next->N.U b=m.U b)/\vb N r hy):c4 P f ts r:= λz m a1i dD aC=>by refine(h m a1i (aC.aD (aiU dD) (h7.refl _))).aD λhy N a6=> ?_;obtain⟨⟨B,H⟩,af⟩:=a6;exact⟨B,H,wz N,λb cs K=>by obtain⟨w,aS⟩:=dD b cs K;exact Lk (by rw[H b (aO aS)];exact aS),QG N,af⟩
theorem c4.below{f:Nat}{ts a1i:List Value}{r:Value}(h:c4 P f ts r)(aC:EF m ts a1i):bU P f a1i m λhy N=>(m.next<=N.next/\ ∀b,b<m.next->N.U b=m.U b)/\vb N r hy:=by refine(h (wz m) m a1i (QG m) aC).aD λhy N a6=> ?_;obtain⟨B,H,dH,af,aL,cm⟩:=a6;exact⟨⟨B,H⟩,cm.aD (aiU aL) (h7.refl _)⟩
theorem b5.hS{W:gZ}{x:Value}{ys:List Value}(h:b5 z W [x] ys): ∃y,ys=[y]/\cQ z W x y:=by
  match ys,h with
  |[y],h=>exact⟨y,rfl,h.2 0 x y rfl rfl⟩
  |[],h=>simp[b5]at h
  |_::_::_,h=>simp[b5]at h
theorem b5.Kc{W:gZ}{x y:Value}{mO:List Value}(h:b5 z W [x,y] mO): ∃a b,mO=[a,b]/\cQ z W x a/\cQ z W y b:=by
  match mO,h with
  |[a,b],h=>exact⟨a,b,rfl,h.2 0 x a rfl rfl,h.2 1 y b rfl rfl⟩
  |[],h=>simp[b5]at h
  |[_],h=>simp[b5]at h
  |_::_::_::_,h=>simp[b5]at h
theorem b5.VY{W:gZ}{x y O:Value}{mO:List Value}(h:b5 z W [x,y,O] mO): ∃a b c,mO=[a,b,c]/\cQ z W x a/\cQ z W y b/\cQ z W O c:=by
  match mO,h with
  |[a,b,c],h=>exact⟨a,b,c,rfl,h.2 0 x a rfl rfl,h.2 1 y b rfl rfl,h.2 2 O c rfl rfl⟩
  |[],h=>simp[b5]at h
  |[_],h=>simp[b5]at h
  |[_,_],h=>simp[b5]at h
  |_::_::_::_::_,h=>simp[b5]at h
structure Cm{α:Type}(q:g0 α)(enc:α->List Value)(ok:α->Prop):Prop where
  O: ∀x,(enc x).length=q.O
  r9: ∀m cs x,ok x->EF m (enc x) cs->q.R m cs x
  ek: ∀m cs x,q.R m cs x->EF m (enc x) cs
theorem Cm.agW{α:Type}{q:g0 α}{enc:α->List Value}{ok:α->Prop}(h:Cm q enc ok){l:List α}{v:Value}(aA: ∀x∈l,ok x)(S:vb m (aQ (l.map enc) q.O) v):q.ax m v l:=by
  obtain⟨bW,O,e,B⟩:=S.akF rfl;rw[Zk]at e;obtain⟨aX,bg⟩:=e;subst bg;rcases B with⟨B,rfl⟩|⟨b,off,cs,rfl,dD,aE,cl,aK⟩
  · rw[B]at aX;exact .inl ⟨rfl,by simpa using aX⟩
  · obtain⟨w,aS⟩:=QG m b cs dD;have aiw:bW.length=l.length:=(by rw[<-aX];simp);refine .inr ⟨b,off,cs,w,by rw[aiw],aS,by rw[<-aiw];exact aE,λi x F=> ?_⟩;refine h.r9 _ _ _ (aA x (fT F)) ?_;have aH:bW[i]?=some (enc x):=(by rw[<-aX,p6,F];rfl);have ag:=(dg.1 aH).1;have aN:(i+1)*q.O<=bW.length*q.O:=s6 _ ag;rw[mN]at aN;refine⟨by rw[h.O];simp;omega,λj aG y ar ab=> ?_⟩;rw[se]at ab;split at ab
    · rw[rv]at ab;exact aK i j _ aG y aH ar ab
    · cases ab
theorem Cm.aH8{α:Type}{q:g0 α}{enc:α->List Value}{ok:α->Prop}(h:Cm q enc ok){l:List α}{v:Value}(S:q.ax m v l):vb m (aQ (l.map enc) q.O) v:=by
  rcases S with⟨rfl,rfl⟩|⟨b,o,cs,w,rfl,H,af,aL⟩
  · exact .jK rfl
  · have:=cQ.jX (z:=wz m) (W:=oi) (v:=aQ (l.map enc) q.O) (b:=b) (off:=o) (O:=q.O) (cs:=cs) (bW:=l.map enc) rfl (Lk H) (by simpa using af) (λi r aH=> ?_) λi j r x y aH F ab=> ?_
    · simpa using this
    · rw[p6,xq]at aH;obtain⟨x,_,rfl⟩:=aH;exact h.O x
    · rw[p6,xq]at aH;obtain⟨cr,gP,rfl⟩:=aH;have:=h.ek _ _ _ (aL i cr gP);refine this.2 j x y F ?_;have c6:=(dg.1 F).1;rw[h.O]at c6;rw[se,if_pos c6,rv];exact ab
theorem Cm.uQ{α:Type}{q:g0 α}{enc:α->List Value}{ok:α->Prop}(h:Cm q enc ok):Cm q.uQ (λl=>[aQ (l.map enc) q.O]) (λl=> ∀x∈l,ok x) where
  O _:=rfl
  r9 m cs l aA aE:=by obtain⟨y,rfl,S⟩:=aE.hS;exact⟨y,rfl,h.agW aA S⟩
  ek m cs l aE:=by obtain⟨v,rfl,S⟩:=aE;exact b5.cons (h.aH8 S) b5.nil
def kk:(s:fZ)->s.cn->List Value
  | .int k,n=>[.int k n]
  | .bool,b=>[.bool b]
  | .str,s=>[.string s]
  | .slice e,l=>[aQ ((jv l).map (kk e)) e.cells]
  | .unit,_=>[]
  | .g5 a b,d=>kk a d.1++kk b d.2
theorem Qs: ∀(s:fZ) (d:s.cn),(kk s d).length=s.cells
  | .int _,_=>rfl
  | .bool,_=>rfl
  | .str,_=>rfl
  | .slice _,_=>rfl
  | .unit,_=>rfl
  | .g5 a b,d=>by simp[kk,Qs a,Qs b,fZ.cells]
theorem PQ: ∀{s:fZ} {cs:List Value} {d:s.cn},sf m s cs d->EF m (kk s d) cs
  | .int k,cs,d,h=>by rw[h.1];exact b5.cons (.dc rfl) b5.nil
  | .bool,cs,d,h=>by have:cs=[.bool d]:=h;rw[this];exact b5.cons (.dc rfl) b5.nil
  | .str,cs,d,h=>by rw[h.1];exact b5.cons (.dc rfl) b5.nil
  | .unit,cs,d,h=>by have:cs=[]:=h;rw[this];exact b5.nil
  | .g5 a b,cs,d,h=>by obtain⟨bY,cN,rfl,B,H⟩:=h;exact(PQ B).uq (PQ H)
  | .slice e,cs,l,h=>by
    simp only[kk];rcases h with⟨rfl,h⟩|⟨b,bW,rfl,H,af,aL,cm⟩
    · rw[h];exact b5.cons (.jK rfl) b5.nil
    · refine b5.cons ?_ b5.nil;have cl: ∀r∈bW,r.length=e.cells:= λr aH=>by
        obtain⟨i,ag,rfl⟩:=s7 aH;exact(cm i _ _ (c0 ag) (c0 (by omega))).len
      have lU:bW.flatten.length=bW.length*e.cells:=CH cl;have:=cQ.jX (z:=wz m) (W:=oi) (v:=aQ ((jv l).map (kk e)) e.cells) (b:=b) (off:=0) (O:=e.cells) (cs:=bW.flatten) (bW:=(jv l).map (kk e)) rfl (Lk H) (by rw[lU,aL,jZ];omega) (λi r aH=> ?_) λi j r x y aH F ab=> ?_
      · simpa using this
      · rw[p6,xq]at aH;obtain⟨x,_,rfl⟩:=aH;exact Qs e x
      · rw[p6,xq]at aH;obtain⟨cr,gP,rfl⟩:=aH;have ag:=(dg.1 gP).1;have jJ:i<bW.length:=(by rw[aL];exact ag);have sA:=cm i _ _ (c0 jJ) gP;refine(PQ sA).2 j x y F ?_;have c6:=(dg.1 F).1;rw[Qs]at c6;have bz:=Xx cl (c0 jJ);rw[<-bz,se,if_pos c6,rv,<-ab,Nat.zero_add]
def KI(s:fZ)(d:s.cn):Value:=if s.isAgg then .agg (kk s d).toArray else(kk s d).headD undef
theorem aub{s:fZ}{v:Value}{d:s.cn}(h:Aq m s v d):vb m (KI s d) v:=by
  obtain⟨cs,B,rfl⟩:=h;have:=PQ B;unfold KI;split
  · exact this.agg
  · exact this.headD
inductive Ku:List fZ->List Value->Prop
  |nil:Ku [] []
  |cons {s:fZ} {d:s.cn} {m7:List fZ} {dh:List Value} (ok:yr s d) (M:Ku m7 dh):Ku (s::m7) (KI s d::dh)
theorem aua{m7:List fZ}{fl:List Value}(h:xw m m7 fl): ∃ts,Ku m7 ts/\EF m ts fl:=by
  induction h with
  |nil=>exact⟨[],.nil,b5.nil⟩
  | cons h M cB=>obtain⟨ts,B,H⟩:=cB;obtain⟨cs,af,aL⟩:=h;exact⟨_,.cons af.ok B,b5.cons (aub ⟨cs,af,aL⟩) H⟩
theorem aGK{f:Nat}{m7:List fZ}(h: ∀ts,Ku m7 ts->c4 P f ts (.bool true))(m:E)(fl:List Value)(aC:xw m m7 fl):bU P f fl m λr _=>r= .bool true:=by obtain⟨ts,B,H⟩:=aua aC;exact((h ts B).below H).aD λr N a6=>a6.2.uN
end
section
variable {P:Program} {a0:si P} {t eu:E} {u cC:aM} {c:J} {Q:dp->aM->E->Prop}
theorem aMB(aq: ∀W z ae m,gx W z t m->jH z W u ae->gx W z eu m/\jH z W cC ae/\bp t.next m.next W z t m W z eu m)(h:gD P c cC eu Q):gD P c u t Q:= λaA W z ae m M cL=>by obtain⟨aj,ba,cD⟩:=aq W z ae m M cL;refine(h aA W z ae m aj ba).aD λe aw bo a6=> ?_;obtain⟨e5,gS,ev,ks,B,H,af,aL⟩:=a6;exact⟨e5,gS,ev,ks,B,H,af,cD.trans (aL.Hd cD.ov (eB _))⟩
theorem asL{W:gZ}{z:iS}{m:E}(M:gx W z t m){o j O:Nat}{cs:List Value}(ah:t.U o=some ⟨cs,true⟩)(c6:cs[j]?=some (.slice none 0 0)):
    gx W z (((t.bx 1).an t.next (some ⟨[],true⟩)).an o (some ⟨cs.set j (.slice (some ⟨t.next,0,none⟩) 0 O),true⟩)) m/\bp t.next m.next W z t m W z (((t.bx 1).an t.next (some ⟨[],true⟩)).an o (some ⟨cs.set j (.slice (some ⟨t.next,0,none⟩) 0 O),true⟩)) m:=by
  refine⟨?_,?_⟩
  · have b8:W t.next=none:=by
      cases a2:W t.next with
      |none=>rfl
      |some b=>have:=(M.fa _ _ a2).1;omega
    have cg:=aO ah;have dE:o≠t.next:=by omega
    refine⟨λp x F=> ?_,λp bJ a2=> ?_,M.lI,M.inj,λp b h=>⟨by have:=(M.fa p b h).1;simp only[BL,vQ];omega,(M.fa p b h).2⟩,λb ds K=> ?_⟩
    · by_cases Y:p=o
      · subst Y;rw[cW (by simp;omega)]at F;cases F;rcases M.lu p _ ah with⟨b,ds,w,B,H,af,aL⟩|⟨B,H⟩
        · refine .inl ⟨b,ds,w,B,H,af,?_⟩;obtain⟨y,ab,S⟩:=aL.U c6;have:=aL.set j (y:=y) (x:= .slice (some ⟨t.next,0,none⟩) 0 O) (by rw[S.kx rfl];exact .tX);rw[show ds.set j y=ds from by
            apply List.ext_getElem?;intro i;rw[EA];split
            · next e=>subst e;rw[ab];simp;exact(dg.1 ab).1
            · rfl]at this
          exact this
        · simp only at H;subst H;simp at c6
      · rw[dC Y]at F;by_cases bz:p=t.next
        · subst bz;rw[cW (by simp)]at F;cases F;exact .inr ⟨b8,rfl⟩
        · rw[dC bz,E.gm]at F;exact M.lu p x F
    · by_cases Y:p=o
      · subst Y;obtain⟨aX,bg⟩:=j6 a2;rw[cW (by simp;omega)]at aX;have:cs=[]:=(by simpa using aX);subst this;simp at c6
      · obtain⟨aX,bg⟩:=j6 a2;rw[dC Y]at aX;by_cases bz:p=t.next
        · subst bz;have af:t.mp t.next=some bJ:=bg
          rw[M.lI _ b8]at af;cases af
        · rw[dC bz,E.gm]at aX;exact M.jB p bJ (o7 aX bg)
    · obtain⟨B,H⟩:=M.bG b ds K;refine⟨B,λp x QT F=> ?_⟩;by_cases Y:p=o
      · subst Y;have:=H p _ QT ah;cases this
      · rw[dC Y]at F;have bz:p≠t.next:= λe=>by subst e;rw[b8]at QT;cases QT
        rw[dC bz,E.gm]at F;exact H p x QT F
  · have b8:W t.next=none:=by
      cases a2:W t.next with
      |none=>rfl
      |some b=>have:=(M.fa _ _ a2).1;omega
    refine⟨h7.refl _,j0.refl _,λ_ _ h=> .inl h,λ_ _ h=> .inl h,by simp,eB _,λ_ _ _=>rfl,λb K=> λ⟨p,x,aX,bg,dU⟩=> ?_,λb K=> λ⟨p,x,aX,bg⟩=> ?_⟩
    · by_cases Y:p=o
      · subst Y;exact⟨p,_,aX,ah,rfl⟩
      · rw[dC Y]at bg;have bz:p≠t.next:= λe=>by subst e;rw[b8]at aX;cases aX
        rw[dC bz,E.gm]at bg;exact⟨p,x,aX,bg,dU⟩
    · by_cases Y:p=o
      · subst Y;exact⟨p,_,aX,ah⟩
      · rw[dC Y]at bg;have bz:p≠t.next:= λe=>by subst e;rw[b8]at aX;cases aX
        rw[dC bz,E.gm]at bg;exact⟨p,x,aX,bg⟩
theorem ahe{o j O:Nat}{cs:List Value}(ah:t.U o=some ⟨cs,true⟩)(c6:cs[j]?=some (.slice none 0 0))
    (h:gD P c u (((t.bx 1).an t.next (some ⟨[],true⟩)).an o (some ⟨cs.set j (.slice (some ⟨t.next,0,none⟩) 0 O),true⟩)) Q):gD P c u t Q:=
  aMB (λW z ae m M cL=>⟨(asL M ah c6).1,cL,(asL M ah c6).2⟩) h
theorem aLy{l:List (cf P)}{f:Nat}{ts:List Value}{aI jR:Value->Prop}(h:yx l f ts aI)(aa: ∀r,aI r->jR r):yx l f ts jR:=by
  induction l with
  |nil=>exact h
  | cons s a0 cB=>
    simp only[yx]at h⊢;split at h
    · next e=>
      rw[if_pos e];cases bs:s.fn ts with
      |none=>rw[bs]at h;exact h
      |some r=>rw[bs]at h;exact aa _ h
    · next e=>rw[if_neg e];exact cB h
theorem aLw{l:List (ly P)}{f:Nat}{ts:List Value}{t:E}{aU Ax:Value->E->Prop}(h:Aa l f ts t aU)(aa: ∀r t,aU r t->Ax r t):Aa l f ts t Ax:=by
  induction l with
  |nil=>exact h
  | cons s a0 cB=>
    simp only[Aa]at h⊢;split at h
    · next e=>
      rw[if_pos e];cases bs:s.fn ts t with
      |none=>rw[bs]at h;exact h
      |some r=>rw[bs]at h;exact aa _ _ h
    · next e=>rw[if_neg e];exact cB h
theorem ahT{f:Nat}{args:List Value}{wZ:Bool}{aU Ax:Value->E->Prop}(h:xF a0 f args t wZ aU)(aa: ∀r t,aU r t->Ax r t):xF a0 f args t wZ Ax:=by
  unfold xF at h⊢;split at h
  · next M=>
    rw[if_pos M];unfold D2 at h⊢;split at h
    · next ts cl=>exact aLy h λr h=>aa _ _ h
    · exact h
  · next M=>
    rw[if_neg M];refine⟨h.1,?_⟩;have H:=h.2;split at H
    · next e=>rw[if_pos e];exact aLw H aa
    · next e=>rw[if_neg e];exact H.aD aa
theorem KG{base:Nat}: ∀{ops:List cd} {u:aM} {t:E} {aU Ax:aM->E->Prop},eN a0 base ops u t aU->(∀u t,aU u t->Ax u t)->eN a0 base ops u t Ax
  |[],_,_,_,_,h,aa=>aa _ _ h
  | o::ops,u,t,aU,Ax,h,aa=>by
    simp only[eN]at h⊢;split at h
    · next aS=>
      rw[if_pos aS];obtain⟨bb,d,g,k,bI⟩:=o;cases k with
      |gl f a1i=>exact ahT h λr t h=>KG h aa
      | ln x a1i=>
        simp only[lJ,KW]at h⊢;split at h
        · exact ahT h λr t h=>KG h aa
        · exact h
      |q2=>exact h
      |_=>exact⟨h.1,h.2.1,KG h.2.2 aa⟩
    · next aS=>rw[if_neg aS];exact KG h aa
theorem EM: ∀{c:J} {u:aM} {t:E} {Q Cn:dp->aM->E->Prop},lb a0 c u t Q->(∀e u t,Q e u t->Cn e u t)->lb a0 c u t Cn
  | .skip,_,_,_,_,h,bz=>bz _ _ _ h
  | .bw _,_,_,_,_,h,bz=>bz _ _ _ h
  | .aT,_,_,_,_,h,bz=>bz _ _ _ h
  | .G _,_,_,_,_,h,bz=>KG h λu t h=>bz _ _ _ h
  | .w1 _ _ _,_,_,_,_,h,_=>h.elim
  | .D a b,_,_,_,_,h,bz=>EM (c:=a) h λe u t h=>by
    cases e with
    |gu=>exact EM (c:=b) h bz
    |bw id=>exact bz _ _ _ h
    |aT=>exact bz _ _ _ h
  | .a8 c a b,_,_,_,_,h,bz=>by
    refine⟨h.1,?_⟩;have H:=h.2;split at H
    · next e=>rw[if_pos e];exact EM (c:=a) H bz
    · next e=>rw[if_neg e];exact EM (c:=b) H bz
  | .block id c,_,_,_,_,h,bz=>EM (c:=c) h λe u t h=>by
    cases e with
    |gu=>exact bz _ _ _ h
    |aT=>exact bz _ _ _ h
    | bw lV=>
      simp only at h⊢;split at h
      · next e=>rw[if_pos e];exact bz _ _ _ h
      · next e=>rw[if_neg e];exact bz _ _ _ h
  | .loop _,_,_,_,_,h,bz=>h.aD bz
theorem hC(X:Nat->aM->E->Prop)(n:Nat)(step: ∀i u t,i<n->X i u t-> ∀cp:aM->E->Prop,(∀ae bu,X (i+1) ae bu->cp ae bu)->lb a0 c u t (ym cp Q))
    (ad2: ∀u t,X n u t->lb a0 c u t (ym (λ_ _=>False) Q)): ∀(i:Nat) (u:aM) (t:E),i<=n->X i u t->gD P (.loop c) u t Q:=by
  have key: ∀(r i:Nat) (u:aM) (t:E),i+r=n->X i u t->gD P (.loop c) u t Q:=by
    intro r;induction r with
    | zero=>
      intro i u t ag xQ;have e:i=n:=(by omega);subst e;refine ru (a0:=a0) λcp aZ=> ?_;have B:=ad2 u t xQ;refine EM B λe u t h=> ?_;cases e with
      |gu=>exact h.elim
      |bw id=>exact h
      |aT=>exact h
    | succ r cB=>intro i u t ag xQ;exact ru (a0:=a0) λcp aZ=>step i u t (by omega) xQ cp λae bu h=>aZ _ _ (cB (i+1) ae bu (by omega) h)
  exact λi u t ag xQ=>key (n-i) i u t (by omega) xQ
end
end Go.DI
namespace Go
noncomputable abbrev Z:=Go.Proofs.Tryz.prog
abbrev aW:Value:= .slice none 0 0
abbrev bd:Value:= .int .i64 0
end Go
