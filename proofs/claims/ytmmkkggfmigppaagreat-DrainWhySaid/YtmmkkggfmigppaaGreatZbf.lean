/-
  A part of the proof, shortened by tools of ours.
-/
import Derived.Test.YtmmkkggfmigppaaGreatZbe
set_option linter.all false
set_option maxRecDepth 8000
set_option maxHeartbeats 16000000
namespace Go.DI
open Go Go.RowKit
def cO.vE:cO->Exit
 | .eR=> .normal
 | .cF id=> .exit id
 | .fi=> .ret
section
variable {P:Program} {aP:Nat} {b5:Callee} {da n:Nat}
theorem ao2: ∀(l:List Nat),zf l=true->l.Nodup
 |[],_=>List.nodup_nil
 | x::l,h=>by simp only[zf,a7,sj,List.contains_eq_mem,Gv]at h;exact Bx.2 ⟨h.1,ao2 l h.2⟩
theorem aE2{l:List Nat}(h:aca n l=true):l.Nodup/\(∀i,i∈l↔i<n)/\l.length=n:=by simp only[aca,a7,eF,ei,pH,List.contains_iff_mem]at h;obtain⟨⟨⟨A,E⟩,ao⟩,aS⟩:=h;exact⟨ao2 l E,λi=>⟨λY=>ao i Y,λY=>aS i Y⟩,A⟩
theorem awb{m:G}{b:Nat}(h:m.next<=b):m.F b=none:=by unfold G.F;rw[if_neg (by omega)]
theorem Nr(L:List cS)(m:G):m.next<=(h9 L m).next/\((∃o∈L,o.k.fD=true)->(h9 L m).next=m.next+L.length):=by
 unfold h9;split
 ·exact⟨by rw[G.qP];omega,λ_=>rfl⟩
 ·rename_i h;refine⟨c8 _,λ⟨o,aC,E⟩=>absurd (Jj.2 ⟨o,aC,E⟩) h⟩
theorem ap2(L:List cS)(m:G)(b:Nat):(h9 L m).F b=m.F b:=by
 unfold h9;split
 ·exact G.cl m _ b
 ·rfl
theorem dG.h9{m:G}{w:World}{ak:Ren}(h:dG aP ak m w)(L:List cS):dG aP ak (Go.DI.h9 L m) w:=by
 unfold Go.DI.h9;split
 ·exact h.bU _
 ·exact h
theorem agq{ops:Array Oper}{Q:Exit->Act->World->Prop}(a8:ark ops=true)(Hb:agp (CS ops.toList []) ops.size=true): ∀(l6 k:Nat) (jz:Array Bool) (a:Act) (w:World),k+l6=ops.size->jz.size=ops.size->
 (∀j,j<ops.size->(jz.getD j false=true↔j<k))->wpOps P ops Q (List.range' k l6) a w->wpAny P .any ops Q l6 jz a w
 | 0,k,jz,a,w,O,kk,aA,h=>by refine⟨?_,h⟩;apply List.eq_nil_iff_forall_not_mem.2;intro i Y;obtain⟨A,iI,E,_⟩:=mem_ready.1 Y;have dA:i<ops.size:=(yg.1 E).1;have:=(aA i dA).2 (by omega);rw[getD_both A]at this;cases this
 | l6+1,k,jz,a,w,O,kk,aA,h=>by
   have Aw:k<ops.size:=(by omega);have aeg: ∀j iI,ops[j]?=some iI-> ∀e∈iI.after,Region.binds .any e=true->e.on<j:=by
    intro j iI aV e aU hb;have dA:j<ops.size:=(yg.1 aV).1;have:=ei.1 a8 j (pH.2 dA);simp only[aV,ei,uv,sj,eF]at this;rcases this e (by simpa using aU)with h|h
    ·rw[hb]at h;cases h
    ·exact h
   have cq: ∀j iI,ops[j]?=some iI->jz.getD j false=true-> ∀e∈iI.after,Region.binds .any e=true->jz.getD e.on false=true:=(by intro j iI aV axA e aU hb;have dA:j<ops.size:=(yg.1 aV).1;have A:=aeg j iI aV e aU hb;have E:=(aA j dA).1 axA;exact(aA e.on (by omega)).2 (by omega));rw[List.range'_succ,wpOps_cons]at h;have step: ∀i∈Region.ready .any ops jz,i=k:=by
    intro i Y;obtain⟨A,FM,E,ao⟩:=mem_ready.1 Y;have dA:i<ops.size:=(yg.1 E).1;have aj: ¬i<k:= λW9=>by have:=(aA i dA).2 W9;rw[getD_both A]at this;cases this
    by_cases e:i=k
    ·exact e
    ·exfalso;have hb:((CS ops.toList []).getD i 0).testBit k=true:=by
      have:=ei.1 Hb i (pH.2 dA);exact ei.1 this k (pH.2 (by omega))
     have:=abv (ops:=ops) (jz:= λj=>jz.getD j false=true) cq ops.toList [] (by simp) (by simp) i FM E ao k hb;have:=(aA k Aw).1 this;omega
   refine⟨λar=> ?_,λi Y=> ?_⟩
   ·exfalso;obtain⟨o,aC⟩: ∃o,ops[k]?=some o:=⟨ops[k],Jm Aw⟩;have pb:k∈Region.ready .any ops jz:=by
     refine mem_ready.2 ⟨?_,o,aC,λe aU hb=> ?_⟩
     ·have:jz.getD k false≠true:= λh=>by have:=(aA k Aw).1 h;omega
      exact getD_in (by rw[kk];exact Aw) (by simpa using this)
     ·exact(aA e.on (by have:=aeg k o aC e aU hb;omega)).2 (aeg k o aC e aU hb)
    rw[ar]at pb;cases pb
   ·have e:=step i Y;subst e;refine wpOp_mono (λa w h=>agq a8 Hb l6 (i+1) _ a w (by omega) (by simp[kk]) (λj aV=> ?_) h) h;rw[Tl (by rw[kk];exact Aw),aA j aV];omega
theorem agE: ∀{L:List cS} {r:List cS×cS×List cS},J4 L=some r->L=r.1++r.2.1::r.2.2/\r.2.1.k.fD=true
 |[],_,h=>by simp[J4]at h
 | o::L,r,h=>by
   unfold J4 at h;split at h
   ·rename_i O;cases h;exact⟨rfl,by simp[O,an.fD]⟩
   ·simp only[vI]at h;obtain⟨⟨a,b,c⟩,A,E⟩:=h;obtain⟨aE,a5⟩:=agE A;subst E;exact⟨by simp only at aE⊢;rw[aE];rfl,a5⟩
theorem aC7(pc:P.follows .mixedOrders=true)(cq: ∀aP,sn P aP b5){id:Nat}{ops:Array Oper}{uR:Bool}{rX:aB}(av:Vq P da ops uR=some rX){z K:aD}{m U:G}{e:cO}
 (h:e5 b5 n rX z m=some (e,K,U)) {a:Act} {w:World} {ak:Ren} (H:hl ak da z a) (al:dG aP ak m w) (cd:aP<=w.heap.size) {Q:Exit->Act->World->Prop}
 (a6: ∀ev w' cT,gQ ak cT->(∀b,b<m.next->cT b=ak b)->hl cT da K ev->dG aP cT U w'->Below aP w w'->Q e.vE ev w'):(Code.region id ops uR).wp P Q a w:=by
 have Hw: ∀b,m.next<=b->ak b=none:=by
  intro b hb;cases ar:ak b with
  |none=>rfl
  |some l=>have:=al.lq b l ar;omega
 unfold Vq at av;split at av
 ·rename_i Hb;split at av
  ·rename_i L jx;simp only[vI]at av;obtain⟨⟨cI,af,bK⟩,aw9,rfl⟩:=av;obtain⟨A,E⟩:=Vr _ _ jx;obtain⟨aG,fw⟩:=agE aw9;simp only at aG fw;subst aG;have dc:cI.length+(bK.length+1)=ops.size:=(by have:=congrArg List.length A;simpa using this);have eM:((cI++af::bK).map (·.aY)).Nodup:=(by rw[A];exact List.nodup_range);have tI: ∀cG∈cI++af::bK,cG.aY<ops.size:= λcG mB=>by
    have:cG.aY∈(cI++af::bK).map (·.aY):=gx.2 ⟨cG,mB,rfl⟩;rw[A,pH]at this;exact this
   rw[p7,lW,zM,Bx]at eM;simp only[e5]at h;split at h
   ·rename_i bT bn aiN;split at h
    ·rename_i ax;split at h
     ·rename_i c2 cK aiO;cases h;have ka:m.next+ops.size<=bn.next:=by have:=Nv (cq aP) _ _ _ _ aiN;rw[G.qP,dc]at this;exact this
      have wj:(af.k.hr (m.next+af.aY) bT bn).next=bn.next:=by
       unfold pl at ax;simp only[a7]at ax;have:=ax.1.2;split at this
       ·rename_i O;rw[O];simp only[an.hr];split
        ·rfl
        ·unfold hR;split<;>rfl
       ·cases this
      have tK:bn.next<=cK.next:=Nv (cq aP) _ _ _ _ aiO
      have key: ∀bp,dG aP ak m bp->aP<=bp.heap.size->Below aP w bp->wpOps P ops Q (List.range ops.size) a bp:=by
       intro bp Ax Wr Ao;rw[<-A,p7,lW];refine ab6 (base:=m.next) (cq aP) cI z _ a bp ak bT bn (λcG mB=>E cG (by simp[mB])) eM.1 H (Ax.bU _) Wr (λcG mB _=>⟨by rw[G.qP,dc];have:=tI cG (by simp[mB]);omega,Hw _ (by omega)⟩) aiN λbr cr oD a9 bW cA fV g9=> ?_;obtain⟨aTW,eh⟩:=E af (by simp);have aP8:=tI af (by simp);rw[wpOps_cons];refine aC8 (base:=m.next) eh cA fV (mR Wr g9.size) (by omega) ?_ ax λbQ ea oE dC fK iz ky zk Nh=> ?_
       ·rw[bW _ (by rw[G.qP,dc];omega) (λcG mB e=>eM.2.2 cG.aY (gx.2 ⟨cG,mB,rfl⟩) af.aY (by simp) (by omega))];exact Hw _ (by omega)
       ·refine aph (base:=m.next) (cq ea.heap.size) bK _ (pW bn) bQ ea oE K cK (λcG mB=>E cG (by simp[mB])) eM.2.1.2 iz zk (c8 _) (λcG mB _=>⟨?_,?_⟩) aiO λa3 ko aK4 eK gp kZ ri A0=> ?_
        ·show _<bn.next
         have:=tI cG (by simp[mB]);omega
        ·have B:=tI cG (by simp[mB]);have bx:cG.aY≠af.aY:= λe=>eM.2.1.1 (gx.2 ⟨cG,mB,e⟩);rw[fK _ (by omega),bW _ (by rw[G.qP,dc];omega) (λk O e=>eM.2.2 k.aY (gx.2 ⟨k,O,rfl⟩) cG.aY (by simp only[hv,gx];exact .inr ⟨cG,mB,rfl⟩) (by omega))];exact Hw _ (by omega)
        ·have eW:aP<=ea.heap.size:=mR Wr (mR g9.size Nh.size);refine a6 a3 ko aK4 (a9.trans (dC.trans eK)) (λb hb=> ?_) kZ ?_ (Ao.trans (g9.trans (Nh.trans (A0.mono eW))))
         ·rw[gp b hb (by show b<bn.next;omega),fK b (by omega),bW b (by rw[G.qP];omega) (λ_ _=>by omega)]
         ·have:=aC6 rfl ky ri eK (by rw[wj];exact tK) A0
          rwa [wj]at this
      cases uR
      ·exact wp_region (key w al cd (Below.refl _ _))
      ·simp only[Bool.not_true,Bool.false_or,a7]at Hb;refine wp_region_any pc ?_;refine agq Hb.2.1 Hb.2.2 ops.size 0 _ a _ (by omega) (by simp) (λj aV=>by rw[getD_replicate_false];simp) ?_;rw[<-List.range_eq_range'];exact key _ (al.ar0 rfl) cd ⟨rfl,rfl,rfl,c8 _,λ_ _=>rfl⟩
     ·cases h
    ·cases h
   ·cases h
  ·cases av
 ·cases av
theorem aGb(pc:P.follows .mixedOrders=true)(cq:sn P aP b5){id:Nat}{ops:Array Oper}{uR:Bool}{rX:aB}(av:O3 P da ops uR=some rX){z K:aD}{m U:G}{e:cO}
 (h:e5 b5 n rX z m=some (e,K,U)) {a:Act} {w:World} {ak:Ren} (H:hl ak da z a) (al:dG aP ak m w) (cd:aP<=w.heap.size) {Q:Exit->Act->World->Prop}
 (a6: ∀ev w' cT,gQ ak cT->(∀b,b<m.next->cT b=ak b)->hl cT da K ev->dG aP cT U w'->Below aP w w'->Q e.vE ev w'):(Code.region id ops uR).wp P Q a w:=by
 have Hw: ∀b,m.next<=b->ak b=none:=by
  intro b hb;cases ar:ak b with
  |none=>rfl
  |some l=>have:=al.lq b l ar;omega
 cases uR
 ·simp only[O3]at av;split at av
  ·rename_i L jx;cases av;obtain⟨A,E⟩:=Vr _ _ jx;simp only[e5]at h;split at h
   ·rename_i bT bn jl;cases h;have dc:L.length=ops.size:=(by have:=congrArg List.length A;simpa using this);refine wp_region ?_;rw[<-A];refine aph (base:=m.next) cq L z _ a w ak K U E (by rw[A];exact List.nodup_range) H (al.h9 L) cd (λcG mB fw=> ?_) jl λev w' cT a9 bW cA fV g9=>a6 ev w' cT a9 (λb hb=>bW b hb (by have:=(Nr L m).1;omega)) cA fV g9;have:cG.aY∈L.map (·.aY):=gx.2 ⟨cG,mB,rfl⟩;rw[A,pH]at this;exact⟨by rw[(Nr L m).2 ⟨cG,mB,fw⟩];omega,Hw _ (by omega)⟩
   ·cases h
  ·cases av
 ·simp only[O3]at av;split at av
  ·rename_i axU;split at av
   ·rename_i L jx;cases av;obtain⟨dC,fK,iz⟩:=aE2 axU;obtain⟨A,E,ao,aS⟩:=agc _ [] L jx trivial;simp only[List.reverse_nil,wZ]at ao aS;simp only[e5]at h;split at h
    ·rename_i bT bn jl;cases h;have dc:L.length=ops.size:=(by rw[<-iz,<-A];simp);have l9:dG aP ak (h9 L m) {w with drawn:=w.drawn+1}:=(al.h9 L).ar0 rfl;refine wp_region_any pc ?_;refine afH (base:=m.next) (Vm:=m.next) cq ops.size L _ z _ a _ ak dc (by simp) (λj aV=> ?_) (λj iI _ aA=>by rw[getD_replicate_false]at aA;cases aA) E (by rw[A];exact dC) ao (λcI cG post e iI wm rK aU hb=> .inr (aS cI cG post e iI wm rK aU hb)) H l9 cd (c8 _) (λcG mB fw=> ?_) (Nr L m).1 jl λev w' cT a9 bW cA fV g9=>a6 ev w' cT a9 bW cA fV (Below.trans (a:=w) (b:={w with drawn:=w.drawn+1}) ⟨rfl,rfl,rfl,c8 _,λ_ _=>rfl⟩ g9)
     ·rw[getD_replicate_false];constructor
      ·intro h;cases h
      ·intro h;exfalso;have:j∈L.map (·.aY):=(by rw[A,fK];exact aV);obtain⟨cG,mB,e⟩:=gx.1 this;exact h cG mB e
     ·have:cG.aY∈L.map (·.aY):=gx.2 ⟨cG,mB,rfl⟩;rw[A,fK]at this;exact⟨by rw[(Nr L m).2 ⟨cG,mB,fw⟩];omega,by rw[ap2];exact awb (by omega),Hw _ (by omega)⟩
    ·cases h
   ·cases av
  ·cases av
theorem MH{f:aD->G->Option (cO×aD×G)}{j:Nat}{z:aD}{m:G}{r:cO×aD×G}(h:kV f (j+1) z m=some r):
 (∃bT bn,f z m=some (.eR,bT,bn)/\kV f j bT bn=some r)\/(f z m=some r/\r.1≠ .eR):=by
 simp only[kV]at h;split at h
 ·rename_i bT bn A;exact .inl ⟨bT,bn,A,h⟩
 ·rename_i A;refine .inr ⟨h,λe=> ?_⟩;obtain⟨eK,gp,kZ⟩:=r;simp only at e;subst e;exact A _ _ h
theorem vU(cq:sn P aP b5): ∀(c:aB) (z:aD) (m:G) (e:cO) (K:aD) (U:G),e5 b5 n c z m=some (e,K,U)->m.next<=U.next/\ ∀b,b<m.next->m.F b=none->U.F b=none
 | .skip,z,m,e,K,U,h=>by simp[e5]at h;obtain⟨_,_,rfl⟩:=h;exact⟨c8 _,λ_ _ h=>h⟩
 | .kN ops,z,m,e,K,U,h=>by
   simp only[e5]at h;split at h
   ·rename_i bT bn jl;cases h;have A:=Nv cq ops z _ _ jl;have E:=(Nr ops m).1;exact⟨by simp only at A;omega,λb hb aH=>acW cq hb ops z _ _ E jl (by rw[ap2];exact aH)⟩
   ·cases h
 | .ve cI o bK,z,m,e,K,U,h=>by
   simp only[e5]at h;split at h
   ·rename_i bT bn A;split at h
    ·rename_i ax;split at h
     ·rename_i c2 cK E;cases h;have aE:=Nv cq _ _ _ _ A;rw[G.qP]at aE;have kI:iA b5 m.next o bT bn=some (c0 bT o.d (o.k.val (m.next+o.aY) bT bn),o.k.hr (m.next+o.aY) bT bn):=by
       unfold pl at ax;simp only[a7,DG]at ax;refine aq4 ?_ (u9 (TC ax.2)) ax.2;rw[ax.1.1];rfl
      have a5:=I5 cq kI;rw[G.qP];refine⟨by simp only at aE;omega,λb hb aH=> ?_⟩;rw[G.cl];exact UD cq kI (by simp only at aE;omega) (by omega) (acW cq hb cI z _ _ (by rw[G.qP];omega) A (by rw[G.cl];exact aH))
     ·cases h
    ·cases h
   ·cases h
 | .kB c d,z,m,e,K,U,h=>by
   simp only[e5]at h;split at h
   ·rename_i bT bn A;obtain⟨br,bQ⟩:=vU cq c z m _ bT bn A;obtain⟨eH,eN⟩:=vU cq d bT bn _ _ _ h;exact⟨by omega,λb hb aH=>eN b (by omega) (bQ b hb aH)⟩
   ·exact vU cq c z m _ _ _ h
 | .nG x c d,z,m,e,K,U,h=>by
   simp only[e5]at h;split at h
   ·split at h
    ·exact vU cq c z m _ _ _ h
    ·exact vU cq d z m _ _ _ h
   ·cases h
 | .block id c,z,m,e,K,U,h=>by
   simp only[e5]at h;split at h
   ·rename_i kl bT bn A;have:=vU cq c z m _ bT bn A;split at h<;>cases h<;>exact this
   ·exact vU cq c z m _ _ _ h
 | .loop c,z,m,e,K,U,h=>by
   simp only[e5]at h;have key: ∀(j:Nat) (z:aD) (m:G),kV (e5 b5 n c) j z m=some (e,K,U)->m.next<=U.next/\ ∀b,b<m.next->m.F b=none->U.F b=none:=by
    intro j;induction j with
    |zero=>intro z m h;simp[kV]at h
    | succ j cj=>
      intro z m h;rcases MH h with⟨bT,bn,A,E⟩|⟨A,_⟩
      ·obtain⟨br,bQ⟩:=vU cq c z m _ bT bn A;obtain⟨eH,eN⟩:=cj bT bn E;exact⟨by omega,λb hb aH=>eN b (by omega) (bQ b hb aH)⟩
      ·exact vU cq c z m _ _ _ A
   exact key n z m h
 | .cF id,z,m,e,K,U,h=>by simp[e5]at h;obtain⟨_,_,rfl⟩:=h;exact⟨c8 _,λ_ _ h=>h⟩
 | .fi,z,m,e,K,U,h=>by simp[e5]at h;obtain⟨_,_,rfl⟩:=h;exact⟨c8 _,λ_ _ h=>h⟩
theorem arq{e:cO}(h:e≠ .eR):e.vE≠ .normal:=by cases e<;>simp[cO.vE]at h⊢
theorem arl{aR:Act->World->Prop}{Q:Exit->Act->World->Prop}{e:Exit}{a:Act}{w:World}(h:e≠ .normal)(bg:Q e a w):Exit.then aR Q e a w:=by cases e<;>first|exact bg|exact absurd rfl h
theorem yw(pc:P.follows .mixedOrders=true)(cq: ∀aP,sn P aP b5): ∀(c:Code) (rX:aB),tp P da c=some rX-> ∀(z:aD) (m:G) (e:cO) (K:aD) (U:G),e5 b5 n rX z m=some (e,K,U)->
 ∀(a:Act) (w:World) (ak:Ren),hl ak da z a->dG aP ak m w->aP<=w.heap.size-> ∀(Q:Exit->Act->World->Prop),
 (∀ev w' cT,gQ ak cT->(∀b,b<m.next->cT b=ak b)->hl cT da K ev->dG aP cT U w'->Below aP w w'->Q e.vE ev w')->c.wp P Q a w
 | .skip,rX,av,z,m,e,K,U,h,a,w,ak,H,al,cd,Q,a6=>by cases av;simp[e5]at h;obtain⟨rfl,rfl,rfl⟩:=h;exact wp_skip (a6 a w ak (gQ.refl ak) (λ_ _=>rfl) H al (Below.refl _ _))
 | .region id ops uR,rX,av,z,m,e,K,U,h,a,w,ak,H,al,cd,Q,a6=>by
   simp only[tp]at av;split at av
   ·rename_i c aA;cases av;exact aC7 pc cq aA h H al cd a6
   ·exact aGb pc (cq aP) av h H al cd a6
 | .seq c d,rX,av,z,m,e,K,U,h,a,w,ak,H,al,cd,Q,a6=>by
   simp only[tp]at av;split at av
   ·rename_i x y B Z;cases av;refine wp_seq ?_;simp only[e5]at h;split at h
    ·rename_i bT bn A;refine yw pc cq c x B z m _ bT bn A a w ak H al cd _ λbr cr oD a9 bW cA fV g9=> ?_;have aj:=(vU (cq aP) x z m _ bT bn A).1;refine yw pc cq d y Z bT bn e K U h br cr oD cA fV (mR cd g9.size) Q λbQ ea oE dC fK iz ky zk=> ?_;exact a6 bQ ea oE (a9.trans dC) (λb hb=>(fK b (by omega)).trans (bW b hb)) iz ky (g9.trans zk)
    ·rename_i bx;refine yw pc cq c x B z m _ K U h a w ak H al cd _ λbr cr oD a9 bW cA fV g9=> ?_;refine arl (arq λaU=> ?_) (a6 br cr oD a9 bW cA fV g9);subst aU;exact bx _ _ h
   ·cases av
 | .cond x c d,rX,av,z,m,e,K,U,h,a,w,ak,H,al,cd,Q,a6=>by
   simp only[tp]at av;split at av
   ·rename_i y I Z bE;split at av<;>cases av;rename_i B;simp only[e5]at h;split at h
    ·rename_i hb;have ar:=H.S B;cases M:S z x<;>simp[M,wA]at hb;rename_i t;rw[M]at ar h;refine wp_cond ar.tR ?_;simp only[yt]at h;cases t
     ·exact yw pc cq d I bE z m e K U h a w ak H al cd Q a6
     ·exact yw pc cq c y Z z m e K U h a w ak H al cd Q a6
    ·cases h
   ·cases av
 | .block id c,rX,av,z,m,e,K,U,h,a,w,ak,H,al,cd,Q,a6=>by
   simp only[tp]at av;split at av
   ·rename_i x B;cases av;refine wp_block ?_;simp only[e5]at h;split at h
    ·rename_i kl bT bn A;refine yw pc cq c x B z m _ bT bn A a w ak H al cd _ λbr cr oD a9 bW cA fV g9=> ?_;show if kl=id then Q .normal br cr else Q (.exit kl) br cr
     split at h
     ·rename_i aU;cases h;rw[if_pos aU];exact a6 br cr oD a9 bW cA fV g9
     ·rename_i aU;cases h;rw[if_neg aU];exact a6 br cr oD a9 bW cA fV g9
    ·rename_i bx;refine yw pc cq c x B z m _ K U h a w ak H al cd _ λbr cr oD a9 bW cA fV g9=> ?_;have:=a6 br cr oD a9 bW cA fV g9;cases e with
     |eR=>exact this
     |fi=>exact this
     |cF kl=>exact absurd h (bx _ _ _)
   ·cases av
 | .loop c,rX,av,z,m,e,K,U,h,a,w,ak,H,al,cd,Q,a6=>by
   simp only[tp]at av;split at av
   ·rename_i x B;cases av;simp only[e5]at h;refine wp_loop_rounds n ?_
    have key: ∀(j:Nat) (z:aD) (m:G) (a:Act) (w:World) (ak:Ren),kV (e5 b5 n x) j z m=some (e,K,U)->hl ak da z a->dG aP ak m w->aP<=w.heap.size->
     (∀ev w' cT,gQ ak cT->(∀b,b<m.next->cT b=ak b)->hl cT da K ev->dG aP cT U w'->Below aP w w'->Q e.vE ev w')->Code.rounds P c Q j a w:=by
     intro j;induction j with
     |zero=>intro z m a w ak h;simp[kV]at h
     | succ j cj=>
       intro z m a w ak h H al cd a6;rw[rounds_succ];rcases MH h with⟨bT,bn,A,E⟩|⟨A,bx⟩
       ·have aj:=(vU (cq aP) x z m _ bT bn A).1;refine yw pc cq c x B z m _ bT bn A a w ak H al cd _ λbr cr oD a9 bW cA fV g9=> ?_;exact cj bT bn br cr oD E cA fV (mR cd g9.size) λbQ ea oE dC fK iz ky zk=>a6 bQ ea oE (a9.trans dC) (λb hb=>(fK b (by omega)).trans (bW b hb)) iz ky (g9.trans zk)
       ·refine yw pc cq c x B z m _ K U A a w ak H al cd _ λbr cr oD a9 bW cA fV g9=> ?_;exact arl (arq bx) (a6 br cr oD a9 bW cA fV g9)
    exact key n z m a w ak h H al cd a6
   ·cases av
 | .exit id,rX,av,z,m,e,K,U,h,a,w,ak,H,al,cd,Q,a6=>by cases av;simp[e5]at h;obtain⟨rfl,rfl,rfl⟩:=h;exact wp_exit (a6 a w ak (gQ.refl ak) (λ_ _=>rfl) H al (Below.refl _ _))
 | .ret,rX,av,z,m,e,K,U,h,a,w,ak,H,al,cd,Q,a6=>by cases av;simp[e5]at h;obtain⟨rfl,rfl,rfl⟩:=h;exact wp_ret (a6 a w ak (gQ.refl ak) (λ_ _=>rfl) H al (Below.refl _ _))
 | .rangeFunc _ _ _ _,_,av,_,_,_,_,_,_,_,_,_,_,_,_,_,_=>by cases av
 | .scope _,_,av,_,_,_,_,_,_,_,_,_,_,_,_,_,_=>by cases av
 | .label _,_,av,_,_,_,_,_,_,_,_,_,_,_,_,_,_=>by cases av
 | .goto _,_,av,_,_,_,_,_,_,_,_,_,_,_,_,_,_=>by cases av
 | .refuse _,_,av,_,_,_,_,_,_,_,_,_,_,_,_,_,_=>by cases av
def IL(a:Act):ResultVar->Sem Value
 | .tmp t=>Pure.pure (a.tmps.getD t undef)
 | .cell x t=>do loadVar t (<-asAddr (a.tmps.getD x undef))
theorem Vs: ∀(l:List ResultVar) (cH:List ln),z5 P da l=some cH-> ∀{z:aD} {m:G} {a:Act} {w:World} {ak:Ren},hl ak da z a->dG aP ak m w->mL m z cH=true->
 ∃vs:List Value,(l.mapM (m:=Sem) (IL a)).run P w= .ok vs w/\dd ak (cH.map (sZ m z)) vs
 | [],cH,h,z,m,a,w,ak,H,al,ax=>by simp[z5]at h;subst h;exact⟨[],by simp,dd.nil ak⟩
 | .tmp t::r,cH,h,z,m,a,w,ak,H,al,ax=>by
   simp only[z5]at h;split at h
   ·rename_i l aA;split at h<;>cases h;simp only[mL,m9,a7]at ax;obtain⟨vs,A,E⟩:=Vs r l aA H al ax.2;refine⟨a.tmps.getD t undef::vs,?_,dd.cons (H.ow t) E⟩;have lN:(IL a (.tmp t)).run P w= .ok (a.tmps.getD t undef) w:=rfl;simp only[List.mapM_cons,Sem.run_bind,lN,Result.andThen_ok,A,Sem.run_pure]
   ·cases h
 | .cell x t::r,cH,h,z,m,a,w,ak,H,al,ax=>by
   simp only[z5]at h;split at h
   ·rename_i dE n l xq aj aA;split at h<;>cases h;simp only[mL,m9,a7,r6,uv,eF]at ax;obtain⟨vs,A,E⟩:=Vs r l aA H al ax.2;obtain⟨eG,ds,aG,aN,ct,gC⟩:=abl al (H.ow x) ax.1.1 ax.1.2;refine⟨_::vs,?_,dd.cons gC E⟩;have lN:(IL a (.cell x t)).run P w= .ok (if dE then .agg ds.toArray else ds.headD undef) w:=by
     simp only[IL,Sem.run_bind,aG,asAddr,Sem.run_pure,Result.andThen_ok,ac0 xq aj ax.1.2 aN ct]
    simp only[List.mapM_cons,Sem.run_bind,lN,Result.andThen_ok,A,Sem.run_pure]
   ·cases h
theorem aGf{fn:Func}{cH:List ln}(h:z5 P da fn.results.toList=some cH){z:aD}{m:G}{a:Act}{w:World}{ak:Ren}(H:hl ak da z a)(al:dG aP ak m w)(ax:mL m z cH=true):
 ∃v,(results fn a.tmps).run P w= .ok v w/\dX ak (m3 m z cH) v:=by
 obtain⟨vs,A,E⟩:=Vs _ _ h H al ax;refine⟨if h:vs.toArray.size=1 then vs.toArray[0]else .tuple vs.toArray,?_,?_⟩
 ·unfold results;simp only[Sem.run_bind];rw[Array.mapM_eq_mapM_toList];simp only[Sem.run_map];have bb:(List.mapM (m:=Sem) (IL a) fn.results.toList).run P w= .ok vs w:=A;change (((Sem.run P (List.mapM (m:=Sem) (IL a) fn.results.toList) w).andThen _).andThen _)=_;rw[bb];rfl
 ·have dc:=E.1
  match cH,vs,E,dc with
  |[r],[v],E,_=>exact E.2 0 _ _ rfl rfl
  |[],[],E,_=>exact dX.undef ak
  |[_],[],_,aA=>simp at aA
  |[_],_::_::_,_,aA=>simp at aA
  |[],_::_,_,aA=>simp at aA
  |_::_::_,[],_,aA=>simp at aA
  |_::_::_,[_],_,aA=>simp at aA
  | eK::gp::cH,wT::vG::vs,E,_=>simp only[m3,List.size_toArray,m8];rw[dif_neg (by omega)];exact E.tuple
theorem atQ{f:Nat}{u:ca}(h:cm P f=some u): ∃fn c,P.funcs[f]?=some fn∧fn.body=some c∧(fn.name== "runtime.NumGoroutine")=false∧tp P fn.ntmps c=some u.body∧z5 P fn.ntmps fn.results.toList=some u.j5∧u.da=fn.ntmps:=by
 unfold cm at h;split at h
 ·rename_i fn Hc;split at h
  ·cases h
  ·rename_i ma;split at h
   ·rename_i c av;split at h
    ·rename_i b cH hb ar;cases h;have axM:(fn.name== "runtime.NumGoroutine")=false:=by
      cases A:fn.name== "runtime.NumGoroutine" with
      |false=>rfl
      |true=>rw[A]at ma;simp at ma
     exact⟨fn,c,Hc,av,axM,hb,ar,rfl⟩
    ·cases h
   ·cases h
 ·cases h
theorem ayO{ak:Ren}{args:List Value}{l1:Array Value}(h:dd ak args l1.toList)(eW:args.length<=da):hl ak da (ij args) {tmps:=l1++Array.replicate (da-l1.size) undef,defers:=[]}:=by
 have aA:l1.size=args.length:=by have:=h.1;simp at this;exact this.symm
 refine⟨by simp;omega,rfl,λt=> ?_⟩;simp only[ij];rw[m7,Array.getD_eq_getD_getElem?];by_cases a8:t<args.length
 ·obtain⟨y,Z,u4⟩:=h.F (c6 a8);rw[c6 a8,Ot (by omega)];rw[Om]at Z;rw[Z];exact u4
 ·rw[qD (by omega)];rw[Array.getElem?_append_right (by omega),Array.getElem?_replicate];split<;>exact dX.undef ak
theorem agi(pc:P.follows .mixedOrders=true): ∀k aP,sn P aP (kS P k)
 |0,aP,f,args,m,r,U,h=>by simp[kS]at h
 | k+1,aP,f,args,m,r,U,h=>by
   have cj:=agi pc k;have Xo: ∀id x,id<m.next->m.F id=none->kS P (k+1) f args (m.aK id x)=some (r,U.aK id x):= λid x A E=>by obtain⟨cJ,aE,a5⟩:=U6.JY (k+1) x f args m r U h (m.aK id x) ⟨rfl,A,E⟩;rw[aE,a5.eq]
   simp only[kS]at h;split at h
   ·rename_i u df;obtain⟨fn,c,A,E,ao,aS,bI,cZ⟩:=atQ df;split at h
    ·rename_i eW
     have AR: ∀(e:cO) (K:aD) (bn:G),e5 (kS P k) k u.body (ij args) m=some (e,K,bn)->(∀id,e≠ .cF id)->mL bn K u.j5=true->m3 bn K u.j5=r->bn=U->
      GA P f/\m.next<=U.next/\(∀b,b<m.next->m.F b=none->U.F b=none)/\
      (∀id x,id<m.next->m.F id=none->kS P (k+1) f args (m.aK id x)=some (r,U.aK id x))/\
      ∀ ak w (l1:Array Value),dd ak args l1.toList->dG aP ak m w->aP<=w.heap.size->
        Calls P f l1 w λe w'=> ∃v cT,e= .returned v/\gQ ak cT/\(∀b,b<m.next->cT b=ak b)/\dX cT r v/\dG aP cT U w'/\Below aP w w':=by
      intro e K bn hX bx ax ar l9;subst ar;subst l9;have ma:=vU (cj aP) u.body _ _ _ _ _ hX;refine⟨⟨fn,A,by rw[E];rfl,ao⟩,ma.1,ma.2,Xo,λak w l1 ag al cd=> ?_⟩;refine calls_of_wp A E ?_;rw[cZ]at eW;refine yw pc cj c u.body aS (ij args) m e K bn hX _ w ak (ayO ag eW) al cd _ λev w' cT a9 bW cA fV g9=> ?_;obtain⟨v,aE,a5⟩:=aGf bI cA fV ax
      have aiH:ev.defers=[]/\ ∃v,(results fn ev.tmps).run P w'= .ok v w'/\(λ(e:Ending) (w':World)=> ∃v cT,e= .returned v/\gQ ak cT/\(∀b,b<m.next->cT b=ak b)/\dX cT (m3 bn K u.j5) v/\dG aP cT bn w'/\Below aP w w') (.returned v) w':=
       ⟨cA.defers,v,aE,v,cT,rfl,a9,bW,a5,fV,g9⟩
      cases e with
      |eR=>exact aiH
      |fi=>exact aiH
      |cF id=>exact absurd rfl (bx id)
     split at h
     ·cases h
     ·rename_i e K bn bx hX;split at h
      ·rename_i ax;cases h;exact AR e K U hX (λid aU=>bx id aU) ax rfl rfl
      ·cases h
     ·cases h
    ·cases h
   ·split at h
    ·rename_i ja;exact⟨ja.1,ayR h,λb A E=>ayS h A E,Xo,λak w l1 ag al cd=>ja.2 aP args m r U h ak w l1 ag al cd⟩
    ·cases h
end
section bt
variable {b5 BQ:Callee}
def Ov(b5 BQ:Callee):Prop:= ∀f a m r,b5 f a m=some r->BQ f a m=some r
theorem aIJ(h:Ov b5 BQ){base:Nat}{o:cS}{z:aD}{m:G}{r:aD×G}(H:iA b5 base o z m=some r):iA BQ base o z m=some r:=by
 unfold iA at H⊢;by_cases aQ:e9 z o.g=true
 ·rw[if_pos aQ]at H⊢;cases av:o.k.fL z m with
  |none=>rw[av]at H;exact H
  | some my=>
    obtain⟨f,args⟩:=my;rw[av]at H;simp only at H⊢;cases bb:b5 f args m with
    |none=>rw[bb]at H;cases H
    |some Jf=>rw[bb]at H;rw[h _ _ _ _ bb];exact H
 ·rw[if_neg aQ]at H⊢;exact H
theorem FX(h:Ov b5 BQ){base:Nat}: ∀{L:List cS} {z:aD} {m:G} {r:aD×G},lh b5 base L z m=some r->lh BQ base L z m=some r
 |[],_,_,_,H=>H
 | _::_,_,_,_,H=>by obtain⟨bT,bn,A,E,ao⟩:=s0 H;exact A6 (aIJ h A) E (FX h ao)
theorem S7{f g:aD->G->Option (cO×aD×G)}(h: ∀z m r,f z m=some r->g z m=some r): ∀{n g0:Nat} {z:aD} {m:G} {r:cO×aD×G},n<=g0->kV f n z m=some r->kV g g0 z m=some r
 |0,_,_,_,_,_,H=>by simp[kV]at H
 |n+1,0,_,_,_,aj,_=>by omega
 | n+1,g0+1,z,m,r,aj,H=>by
   rcases MH H with⟨bT,bn,A,E⟩|⟨A,E⟩
   ·simp only[kV,h _ _ _ A];exact S7 h (by omega) E
   ·obtain⟨eK,gp,kZ⟩:=r;simp only[kV,h _ _ _ A];cases eK with
    |eR=>exact absurd rfl E
    |cF id=>rfl
    |fi=>rfl
theorem yC(h:Ov b5 BQ){n g0:Nat}(aj:n<=g0): ∀{c:aB} {z:aD} {m:G} {r:cO×aD×G},e5 b5 n c z m=some r->e5 BQ g0 c z m=some r
 | .skip,_,_,_,H=>H
 | .kN ops,z,m,r,H=>by
   simp only[e5]at H⊢;split at H
   ·rename_i ar;rw[FX h ar];exact H
   ·cases H
 | .ve cI o bK,z,m,r,H=>by
   simp only[e5]at H⊢;split at H
   ·rename_i A;split at H
    ·rename_i ax;split at H
     ·rename_i E;rw[FX h A];simp only[ax,if_true,FX h E];exact H
     ·cases H
    ·cases H
   ·cases H
 | .kB a b,z,m,r,H=>by
   simp only[e5]at H⊢;split at H
   ·rename_i A;rw[yC h aj A];exact yC h aj H
   ·rename_i bx;rw[yC h aj H];obtain⟨eK,gp,kZ⟩:=r;cases eK with
    |eR=>exact absurd H (bx _ _)
    |cF id=>rfl
    |fi=>rfl
 | .nG x a b,z,m,r,H=>by
   simp only[e5]at H⊢;split at H
   ·rename_i A;rw[if_pos A];split at H
    ·rename_i E;rw[if_pos E];exact yC h aj H
    ·rename_i E;rw[if_neg E];exact yC h aj H
   ·cases H
 | .block id c,z,m,r,H=>by
   simp only[e5]at H⊢;split at H
   ·rename_i A;rw[yC h aj A];exact H
   ·rename_i bx;rw[yC h aj H];obtain⟨eK,gp,kZ⟩:=r;cases eK with
    |eR=>rfl
    |cF id=>exact absurd H (bx _ _ _)
    |fi=>rfl
 | .loop c,z,m,r,H=>by simp only[e5]at H⊢;exact S7 (λz m r A=>yC h aj A) aj H
 | .cF id,_,_,_,H=>H
 | .fi,_,_,_,H=>H
theorem BN{P:Program}: ∀{n g0:Nat},n<=g0->Ov (kS P n) (kS P g0)
 |0,_,_=> λf a m r h=>by simp[kS]at h
 |n+1,0,aj=>by omega
 | n+1,g0+1,aj=> λf a m r h=>by
   simp only[kS]at h⊢;split at h
   ·rename_i u df;split at h
    ·rename_i eW;rw[if_pos eW];split at h
     ·cases h
     ·rename_i e K U bx hX;rw[yC (BN (by omega:n<=g0)) (by omega:n<=g0) hX];cases e with
      |eR=>exact h
      |fi=>exact h
      |cF id=>exact absurd rfl (bx id)
     ·cases h
    ·cases h
   ·exact h
end bt
section wp
variable (P:Program)
def eu(f:Nat)(args:List Value)(m:G)(bu:Value->G->Prop):Prop:= ∃n r U,kS P n f args m=some (r,U)/\bu r U
def fJ(c:aB)(z:aD)(m:G)(Q:cO->aD->G->Prop):Prop:= ∃n e K U,e5 (kS P n) n c z m=some (e,K,U)/\Q e K U
def fG(base:Nat)(ops:List cS)(z:aD)(m:G)(aR:aD->G->Prop):Prop:= ∃n K U,lh (kS P n) base ops z m=some (K,U)/\aR K U
def UJ(b:aB)(Q:cO->aD->G->Prop)(e:cO)(z:aD)(m:G):Prop:=match e with| .eR=>fJ P b z m Q|e=>Q e z m
def DZ(id:Nat)(Q:cO->aD->G->Prop)(e:cO)(z:aD)(m:G):Prop:=match e with| .cF kl=>if kl=id then Q .eR z m else Q (.cF kl) z m|e=>Q e z m
def Tn(c:aB)(Q:cO->aD->G->Prop)(e:cO)(z:aD)(m:G):Prop:=match e with| .eR=>fJ P (.loop c) z m Q|e=>Q e z m
def m2(cH:List ln)(bu:Value->G->Prop)(e:cO)(z:aD)(m:G):Prop:=match e with| .cF _=>False|_=>mL m z cH=true/\bu (m3 m z cH) m
def xd(base:Nat)(d:Option Nat)(bc:List (Operand×Operand))(bK:List cS)(z:aD)(m:G)(aR:aD->G->Prop)(r:Value)(U:G):Prop:=vd z bc m U/\fG P base bK (c0 z d r) U aR
variable {P} {z:aD} {m:G} {Q:cO->aD->G->Prop}
theorem N2{b:aB}:UJ P b Q .eR z m=fJ P b z m Q:=rfl
theorem aIU{b:aB}{id:Nat}:UJ P b Q (.cF id) z m=Q (.cF id) z m:=rfl
theorem aIV{b:aB}:UJ P b Q .fi z m=Q .fi z m:=rfl
theorem atH{id:Nat}:DZ id Q .eR z m=Q .eR z m:=rfl
theorem GO{id kl:Nat}:DZ id Q (.cF kl) z m=if kl=id then Q .eR z m else Q (.cF kl) z m:=rfl
theorem atI{id:Nat}:DZ id Q .fi z m=Q .fi z m:=rfl
theorem aog{c:aB}:Tn P c Q .eR z m=fJ P (.loop c) z m Q:=rfl
theorem aDE{c:aB}{id:Nat}:Tn P c Q (.cF id) z m=Q (.cF id) z m:=rfl
theorem aDF{c:aB}:Tn P c Q .fi z m=Q .fi z m:=rfl
theorem aGg{u:List ln}{bu:Value->G->Prop}:m2 u bu .eR z m=(mL m z u=true/\bu (m3 m z u) m):=rfl
theorem aGh{u:List ln}{bu:Value->G->Prop}:m2 u bu .fi z m=(mL m z u=true/\bu (m3 m z u) m):=rfl
theorem G1{n g0:Nat}(h:n<=g0){c:aB}{r:cO×aD×G}(H:e5 (kS P n) n c z m=some r):e5 (kS P g0) g0 c z m=some r:=yC (BN h) h H
theorem aeK:fJ P .skip z m Q=Q .eR z m:=by refine propext ⟨λ⟨n,e,K,U,h,q⟩=> ?_,λh=>⟨0,_,_,_,rfl,h⟩⟩;cases h;exact q
theorem aeH{id:Nat}:fJ P (.cF id) z m Q=Q (.cF id) z m:=by refine propext ⟨λ⟨n,e,K,U,h,q⟩=> ?_,λh=>⟨0,_,_,_,rfl,h⟩⟩;cases h;exact q
theorem aeJ:fJ P .fi z m Q=Q .fi z m:=by refine propext ⟨λ⟨n,e,K,U,h,q⟩=> ?_,λh=>⟨0,_,_,_,rfl,h⟩⟩;cases h;exact q
theorem aeI{ops:List cS}:fJ P (.kN ops) z m Q=fG P m.next ops z (h9 ops m) (Q .eR):=by
 refine propext ⟨λ⟨n,e,K,U,h,q⟩=> ?_,λ⟨n,K,U,h,q⟩=>⟨n,.eR,K,U,by simp only[e5,h],q⟩⟩;simp only[e5]at h;split at h
 ·rename_i ar;cases h;exact⟨n,_,_,ar,q⟩
 ·cases h
def MM(o:cS)(Q:cO->aD->G->Prop)(id:Nat)(bT:aD)(bn:G)(c2:aD)(cK:G):Prop:=Q .eR c2 ((o.k.hr id bT bn).bU (cK.next-bn.next))
theorem ar1{cI:List cS}{o:cS}{bK:List cS}:fJ P (.ve cI o bK) z m Q=fG P m.next cI z (m.bU (cI.length+(bK.length+1))) λbT bn=>
 pl o bT bn=true/\fG P m.next bK (c0 bT o.d (o.k.val (m.next+o.aY) bT bn)) (pW bn) (MM o Q (m.next+o.aY) bT bn):=by
 refine propext ⟨λ⟨n,e,K,U,h,q⟩=> ?_,λ⟨n,bT,bn,h,ax,er,c2,cK,E,q⟩=>⟨max n er,.eR,c2,_,by simp only[e5,FX (BN (Nat.le_max_left n er)) h,ax,if_true,FX (BN (Nat.le_max_right n er)) E],q⟩⟩;simp only[e5]at h;split at h
 ·rename_i bT bn A;split at h
  ·rename_i ax;split at h
   ·rename_i c2 cK E;cases h;exact⟨n,bT,bn,A,ax,n,_,cK,E,q⟩
   ·cases h
  ·cases h
 ·cases h
theorem UQ{a b:aB}:fJ P (.kB a b) z m Q=fJ P a z m (UJ P b Q):=by
 refine propext ⟨λ⟨n,e,K,U,h,q⟩=> ?_,λ⟨n,e,K,U,h,q⟩=> ?_⟩
 ·simp only[e5]at h;split at h
  ·rename_i bT bn A;exact⟨n,.eR,bT,bn,A,n,e,K,U,h,q⟩
  ·rename_i bx;refine⟨n,e,K,U,h,?_⟩;cases e with
   |eR=>exact absurd h (bx _ _)
   |cF id=>exact q
   |fi=>exact q
 ·cases e with
  | eR=>obtain⟨er,aN,c2,cK,E,bW⟩:=q;refine⟨max n er,aN,c2,cK,?_,bW⟩;simp only[e5,G1 (Nat.le_max_left n er) h];exact G1 (Nat.le_max_right n er) E
  |cF id=>exact⟨n,_,K,U,by simp only[e5,h],q⟩
  |fi=>exact⟨n,_,K,U,by simp only[e5,h],q⟩
theorem UP{c:Operand}{a b:aB}:fJ P (.nG c a b) z m Q=(wA (S z c)=true/\if yt (S z c)=true then fJ P a z m Q else fJ P b z m Q):=by
 refine propext ⟨λ⟨n,e,K,U,h,q⟩=> ?_,λ⟨A,E⟩=> ?_⟩
 ·simp only[e5]at h;split at h
  ·rename_i A;refine⟨A,?_⟩;split at h
   ·rename_i E;rw[if_pos E];exact⟨n,e,K,U,h,q⟩
   ·rename_i E;rw[if_neg E];exact⟨n,e,K,U,h,q⟩
  ·cases h
 ·split at E
  ·rename_i ao;obtain⟨n,e,K,U,h,q⟩:=E;exact⟨n,e,K,U,by simp only[e5,if_pos A,if_pos ao,h],q⟩
  ·rename_i ao;obtain⟨n,e,K,U,h,q⟩:=E;exact⟨n,e,K,U,by simp only[e5,if_pos A,if_neg ao,h],q⟩
theorem Od{id:Nat}{c:aB}:fJ P (.block id c) z m Q=fJ P c z m (DZ id Q):=by
 refine propext ⟨λ⟨n,e,K,U,h,q⟩=> ?_,λ⟨n,e,K,U,h,q⟩=> ?_⟩
 ·simp only[e5]at h;split at h
  ·rename_i kl bT bn A;refine⟨n,.cF kl,bT,bn,A,?_⟩;rw[GO];split at h
   ·rename_i aU;cases h;rw[if_pos aU];exact q
   ·rename_i aU;cases h;rw[if_neg aU];exact q
  ·rename_i bx;refine⟨n,e,K,U,h,?_⟩;cases e with
   |eR=>exact q
   |cF kl=>exact absurd h (bx _ _ _)
   |fi=>exact q
 ·cases e with
  |eR=>exact⟨n,.eR,K,U,by simp only[e5,h],q⟩
  |fi=>exact⟨n,.fi,K,U,by simp only[e5,h],q⟩
  | cF kl=>
    rw[GO]at q;split at q
    ·rename_i aU;exact⟨n,.eR,K,U,by simp only[e5,h,if_pos aU],q⟩
    ·rename_i aU;exact⟨n,.cF kl,K,U,by simp only[e5,h,if_neg aU],q⟩
theorem ar2{c:aB}:fJ P (.loop c) z m Q=fJ P c z m (Tn P c Q):=by
 refine propext ⟨λ⟨n,e,K,U,h,q⟩=> ?_,λ⟨n,e,K,U,h,q⟩=> ?_⟩
 ·simp only[e5]at h;cases n with
  |zero=>simp[kV]at h
  | succ n=>
    rcases MH h with⟨bT,bn,A,E⟩|⟨A,E⟩
    ·refine⟨n+1,.eR,bT,bn,A,n+1,e,K,U,?_,q⟩;simp only[e5];exact S7 (λ_ _ _ h=>h) (by omega) E
    ·refine⟨n+1,e,K,U,A,?_⟩;cases e with
     |eR=>exact absurd rfl E
     |cF id=>exact q
     |fi=>exact q
 ·cases e with
  | eR=>obtain⟨er,aN,c2,cK,E,bW⟩:=q;refine⟨max n er+1,aN,c2,cK,?_,bW⟩;simp only[e5]at E⊢;have A:e5 (kS P (max n er+1)) (max n er+1) c z m=some (.eR,K,U):=G1 (by omega) h;simp only[kV,A];exact S7 (λ_ _ _ h=>G1 (by omega) h) (by omega) E
  |cF id=>exact⟨n+1,_,K,U,by simp only[e5,kV];rw[G1 (by omega:n<=n+1) h],q⟩
  |fi=>exact⟨n+1,_,K,U,by simp only[e5,kV];rw[G1 (by omega:n<=n+1) h],q⟩
theorem nz{f:Nat}{args:List Value}{bu:Value->G->Prop}{u:ca}(df:cm P f=some u)(aA:args.length<=u.da):eu P f args m bu=fJ P u.body (ij args) m (m2 u.j5 bu):=by
 refine propext ⟨λ⟨n,r,U,h,q⟩=> ?_,λ⟨n,e,K,U,h,q⟩=> ?_⟩
 ·cases n with
  |zero=>simp[kS]at h
  | succ n=>
    simp only[kS,df,if_pos aA]at h;split at h
    ·cases h
    ·rename_i e K bn bx hX;split at h
     ·rename_i ax;cases h;refine⟨n,e,K,U,hX,?_⟩;cases e with
      |eR=>exact⟨ax,q⟩
      |fi=>exact⟨ax,q⟩
      |cF id=>exact absurd rfl (bx id)
     ·cases h
    ·cases h
 ·cases e with
  |eR=>exact⟨n+1,_,U,by simp only[kS,df,if_pos aA,h,q.1,if_true],q.2⟩
  |fi=>exact⟨n+1,_,U,by simp only[kS,df,if_pos aA,h,q.1,if_true],q.2⟩
  |cF id=>exact q.elim
theorem aJW{f:Nat}{args:List Value}{bu:Value->G->Prop}(df:cm P f=none)(ja:Jv P f){r:Value}{U:G}(h:tO args m=some (r,U))(q:bu r U):eu P f args m bu:=
 ⟨1,r,U,by simp only[kS,df,if_pos ja,h],q⟩
def qJ(P:Program)(f:Nat)(args:List Value)(m:G)(r:Value)(U:G):Prop:= ∃n,kS P n f args m=some (r,U)
theorem qJ.wp{f:Nat}{args:List Value}{r:Value}{U:G}(h:qJ P f args m r U){bu:Value->G->Prop}:eu P f args m bu=bu r U:=by obtain⟨n,aj⟩:=h;refine propext ⟨λ⟨g0,eA,vh,cw,q⟩=> ?_,λq=>⟨n,r,U,aj,q⟩⟩;have A:=BN (Nat.le_max_left n g0) _ _ _ _ aj;have E:=BN (Nat.le_max_right n g0) _ _ _ _ cw;rw[A]at E;cases E;exact q
theorem qJ.xZ{f:Nat}{args:List Value}{r:Value}{U:G}(h:eu P f args m λeA vh=>eA=r/\vh=U):qJ P f args m r U:=by obtain⟨n,eA,vh,A,rfl,rfl⟩:=h;exact⟨n,A⟩
theorem eu.bt{f:Nat}{args:List Value}{bu uy:Value->G->Prop}(h:eu P f args m bu)(bg: ∀r U,bu r U->uy r U):eu P f args m uy:=by obtain⟨n,r,U,A,q⟩:=h;exact⟨n,r,U,A,bg _ _ q⟩
theorem fJ.bt{c:aB}{BF:cO->aD->G->Prop}(h:fJ P c z m Q)(bg: ∀e K U,Q e K U->BF e K U):fJ P c z m BF:=by obtain⟨n,e,K,U,A,q⟩:=h;exact⟨n,e,K,U,A,bg _ _ _ q⟩
variable {aR:aD->G->Prop} {base aY:Nat} {bK:List cS} {d:Option Nat} {g:Option (Nat×Bool)} {bc:List (Operand×Operand)}
theorem aeN:fG P base [] z m aR=aR z m:=by refine propext ⟨λ⟨n,K,U,h,q⟩=> ?_,λh=>⟨0,_,_,rfl,h⟩⟩;cases h;exact q
theorem aGX{n g0:Nat}(h:n<=g0){L:List cS}{r:aD×G}(H:lh (kS P n) base L z m=some r):lh (kS P g0) base L z m=some r:=FX (BN h) H
theorem nA{k:an}(O:k.lx=false):fG P base (⟨aY,d,none,k,bc⟩::bK) z m aR=(k.ok z m=true/\iY z bc=true/\fG P base bK (c0 z d (k.val (base+aY) z m)) (k.hr (base+aY) z m) aR):=by
 have gZ:k.fL z m=none:=u9 O;refine propext ⟨λ⟨n,K,U,h,q⟩=> ?_,λ⟨A,E,n,K,U,ao,q⟩=> ?_⟩
 ·obtain⟨bT,bn,A,E,ao⟩:=s0 h;obtain⟨ax,e⟩:=UE (o:=⟨aY,d,none,k,bc⟩) rfl gZ A;cases e;have aS:=E rfl;simp only[gZ]at aS;exact⟨ax,aS,n,K,U,ao,q⟩
 ·refine⟨n,K,U,A6 (aq4 (o:=⟨aY,d,none,k,bc⟩) rfl gZ A) (λ_=> ?_) ao,q⟩;simp only[gZ];exact E
theorem US{k:an}{t:Nat}{b:Bool}:fG P base (⟨aY,d,some (t,b),k,bc⟩::bK) z m aR=if e9 z (some (t,b))=true then fG P base (⟨aY,d,none,k,bc⟩::bK) z m aR else fG P base bK (c0 z d undef) m aR:=by
 split
 ·rename_i aQ;have kI: ∀b5:Callee,iA b5 base ⟨aY,d,some (t,b),k,bc⟩ z m=iA b5 base ⟨aY,d,none,k,bc⟩ z m:= λb5=>by
   unfold iA;simp only[aQ,if_true,show e9 z none=true from rfl]
  have ah4: ∀U,qQ ⟨aY,d,some (t,b),k,bc⟩ z m U↔qQ ⟨aY,d,none,k,bc⟩ z m U:= λU=>⟨λh _=>h aQ,λh _=>h rfl⟩;refine propext ⟨λ⟨n,K,U,h,q⟩=> ?_,λ⟨n,K,U,h,q⟩=> ?_⟩
  ·obtain⟨bT,bn,A,E,ao⟩:=s0 h;exact⟨n,K,U,A6 (by rw[<-kI];exact A) ((ah4 _).1 E) ao,q⟩
  ·obtain⟨bT,bn,A,E,ao⟩:=s0 h;exact⟨n,K,U,A6 (by rw[kI];exact A) ((ah4 _).2 E) ao,q⟩
 ·rename_i aQ;have kJ:e9 z (some (t,b))=false:=(by simpa using aQ);refine propext ⟨λ⟨n,K,U,h,q⟩=> ?_,λ⟨n,K,U,h,q⟩=> ?_⟩
  ·obtain⟨bT,bn,A,E,ao⟩:=s0 h;rw[Dn (o:=⟨aY,d,some (t,b),k,bc⟩) kJ]at A;cases A;exact⟨n,K,U,ao,q⟩
  ·exact⟨n,K,U,A6 (Dn (o:=⟨aY,d,some (t,b),k,bc⟩) kJ) (λh=>absurd h aQ) h,q⟩
theorem UR{k:an}{f:Nat}{args:List Value}(gZ:k.fL z m=some (f,args)):fG P base (⟨aY,d,none,k,bc⟩::bK) z m aR=eu P f args m (xd P base d bc bK z m aR):=by
 refine propext ⟨λ⟨n,K,U,h,q⟩=> ?_,λ⟨n,r,bn,h,A,er,c2,cK,E,q⟩=> ?_⟩
 ·obtain⟨bT,bn,A,E,ao⟩:=s0 h;obtain⟨v,cK,aE,a5⟩:=I6 (o:=⟨aY,d,none,k,bc⟩) rfl gZ A;cases a5;have aS:=E rfl;simp only[gZ]at aS;exact⟨n,v,_,aE,aS,n,K,U,ao,q⟩
 ·refine⟨max n er,c2,cK,A6 (NW (o:=⟨aY,d,none,k,bc⟩) rfl gZ (BN (Nat.le_max_left n er) _ _ _ _ h)) (λ_=> ?_) (aGX (Nat.le_max_right n er) E),q⟩;simp only[gZ];exact A
theorem aeL{f:Nat}{bz:List Operand}:fG P base (⟨aY,d,none,.l2 f bz,bc⟩::bK) z m aR=eu P f (bz.map (S z)) m (xd P base d bc bK z m aR):=UR rfl
theorem aeM{x:Operand}{bz:List Operand}{f:Nat}{first ks:Array Value}(h:S z x= .func (.func f) first ks):
 fG P base (⟨aY,d,none,.nc x bz,bc⟩::bK) z m aR=eu P f (first.toList++bz.map (S z)++ks.toList) m (xd P base d bc bK z m aR):=UR (by simp only[an.fL,h])
theorem JX{r:Value}{U:G}:xd P base d [] bK z m aR r U=fG P base bK (c0 z d r) U aR:=by simp[xd,vd]
theorem aun:iY z []=true:=rfl
end wp
theorem dG.empty{aP:Nat}{w:World}:dG aP (λ_=>none) ⟨0,λ_=>none,λ_=>none⟩ w where
 lq:= λ_ _ h=>by cases h
 mb:= λ_ _ h=>by cases h
 md:= λb x h=>by unfold G.F at h;split at h<;>cases h
 rN:= λb x cB hM l c7 h=>by unfold G.F at h;split at h<;>cases h
 xV:= λ_ _ h=>by cases h
 maps:= λb es h=>by simp only[G.fC,G.F,DL,if_false]at h;cases h
 tY:= λb x l h=>by unfold G.F at h;split at h<;>cases h
open Go
def vR(s:ByteArray)(i:Nat):Int:=((s.data.toList.getD i 0).toNat:Nat)
def aox(eX:lX)(m:G)(x k:Value):Bool:=match lQ m x with
 |some es=>nU eX k es
 |none=>false
def aoy(zero:Value)(o:Bool)(m:G)(x k:Value):Value:=
 if o then .tuple #[((lQ m x).bind (jK k)).getD zero,.bool ((lQ m x).bind (jK k)).isSome]else((lQ m x).bind (jK k)).getD zero
def aoF(eX:lX)(m:G)(x k v:Value):Bool:=match x with
 | .map (some b)=>(match m.fC b with
   |some es=>nU eX k es&&ad v
   |none=>false)
 |_=>false
def aoE(m:G)(x k v:Value):G:=m.hL (y9 x) (lg k v ((m.fC (y9 x)).getD []))
@[simp] theorem aTt{eX:lX}{m:G}{b:Nat}{k:Value}:aox eX m (.map (some b)) k=(match m.fC b with|some es=>nU eX k es|none=>false):=rfl
@[simp] theorem aTu{I:Value}{o:Bool}{m:G}{b:Nat}{k:Value}:aoy I o m (.map (some b)) k=if o then .tuple #[((m.fC b).bind (jK k)).getD I,.bool ((m.fC b).bind (jK k)).isSome]else((m.fC b).bind (jK k)).getD I:=rfl
@[simp] theorem aTw{eX:lX}{m:G}{b:Nat}{k v:Value}:aoF eX m (.map (some b)) k v=(match m.fC b with|some es=>nU eX k es&&ad v|none=>false):=rfl
@[simp] theorem aTv{m:G}{b:Nat}{k v:Value}:aoE m (.map (some b)) k v=m.hL b (lg k v ((m.fC b).getD [])):=rfl
attribute [simp] aeK aeH aeJ aeI UQ UP Od N2 aIU aIV atH GO atI aog aDE aDF aGg aGh
 aeN US aeL JX aun
section
variable {P:Program} {base aY:Nat} {d:Option Nat} {bK:List cS} {z:aD} {m:G} {aR:aD->G->Prop} {bc:List (Operand×Operand)}
@[simp] theorem a0B(x:Operand):fG P base (⟨aY,d,none,.hY x,bc⟩::bK) z m aR=(iY z bc=true/\fG P base bK (c0 z d (S z x)) (m) aR):=by rw[nA rfl];simp only[an.ok,true_and];try rfl
@[simp] theorem a0D(c a b:Operand):fG P base (⟨aY,d,none,.vl c a b,bc⟩::bK) z m aR=(wA (S z c)=true/\iY z bc=true/\fG P base bK (c0 z d (if yt (S z c)=true then S z a else S z b)) (m) aR):=by rw[nA rfl];rfl
@[simp] theorem a0C(x:Operand):fG P base (⟨aY,d,none,.vj x,bc⟩::bK) z m aR=(CJ (S z x)=true/\iY z bc=true/\fG P base bK (c0 z d (S z x)) (m) aR):=by rw[nA rfl];rfl
@[simp] theorem a0k(I:List Value):fG P base (⟨aY,d,none,.nD I,bc⟩::bK) z m aR=(iY z bc=true/\fG P base bK (c0 z d (.pointer (some ⟨base+aY,0,none⟩))) (m.aK (base+aY) (some ⟨I,true⟩)) aR):=by rw[nA rfl];simp only[an.ok,true_and];try rfl
@[simp] theorem a0n(x:Operand):fG P base (⟨aY,d,none,.oK x,bc⟩::bK) z m aR=(ah (S z x)=true/\iY z bc=true/\fG P base bK (c0 z d (.pointer (some ⟨base+aY,0,none⟩))) (m.aK (base+aY) (some ⟨ab (S z x),true⟩)) aR):=by rw[nA rfl];rfl
@[simp] theorem a0p(I:List Value)(ps:List (Nat×Nat×Operand)):fG P base (⟨aY,d,none,.vQ I ps,bc⟩::bK) z m aR=(r3 I z ps=true/\iY z bc=true/\fG P base bK (c0 z d (.agg (ns I z ps).toArray)) (m) aR):=by rw[nA rfl];rfl
@[simp] theorem a0o(I n:Nat)(cs:List Value)(ps:List (Nat×Nat×Operand)):fG P base (⟨aY,d,none,.mv I n cs ps,bc⟩::bK) z m aR=(r3 cs z ps=true/\iY z bc=true/\fG P base bK (c0 z d (.slice (some ⟨base+aY,0,none⟩) n I)) (m.aK (base+aY) (some ⟨ns cs z ps,true⟩)) aR):=by rw[nA rfl];rfl
@[simp] theorem a0x(dE:Bool)(n:Nat)(x:Operand):fG P base (⟨aY,d,none,.hq dE n x,bc⟩::bK) z m aR=((g2 m (S z x) n&&(dE||decide (n=1)))=true/\iY z bc=true/\fG P base bK (c0 z d (lP m dE n (S z x))) (m) aR):=by rw[nA rfl];rfl
@[simp] theorem a0F(n:Nat)(x v:Operand):fG P base (⟨aY,d,none,.store n x v,bc⟩::bK) z m aR=((g2 m (S z x) n&&rG m (S z x)&&ah (S z v)&&decide ((ab (S z v)).length=n))=true/\iY z bc=true/\fG P base bK (c0 z d (undef)) (pD m (S z x) (ab (S z v))) aR):=by rw[nA rfl];rfl
@[simp] theorem a0m(op:BinOp)(c:w5)(x y:Operand):fG P base (⟨aY,d,none,.oJ op c x y,bc⟩::bK) z m aR=(uI op c (S z x) (S z y)=true/\iY z bc=true/\fG P base bK (c0 z d (mU op (S z x) (S z y))) (m) aR):=by rw[nA rfl];rfl
@[simp] theorem a0G(op:UnOp)(x:Operand):fG P base (⟨aY,d,none,.zC op x,bc⟩::bK) z m aR=(Bj op (S z x)=true/\iY z bc=true/\fG P base bK (c0 z d (Gl op (S z x))) (m) aR):=by rw[nA rfl];rfl
@[simp] theorem a0E(I:Nat)(x:Operand)(bh Y:Option Operand):fG P base (⟨aY,d,none,.wP I x bh Y,bc⟩::bK) z m aR=((an.wP I x bh Y).ok z m=true/\iY z bc=true/\fG P base bK (c0 z d (sa (S z x) I (hs z bh 0).toNat (hs z Y (fa (S z x))).toNat)) (m) aR):=by rw[nA rfl];try rfl
@[simp] theorem a0A(I bytes:Nat)(jf:List Value)(l c:Operand):fG P base (⟨aY,d,none,.ov I bytes jf l c,bc⟩::bK) z m aR=((an.ov I bytes jf l c).ok z m=true/\iY z bc=true/\fG P base bK (c0 z d (.slice (some ⟨base+aY,0,none⟩) (eZ (S z l)).toNat I)) (m.aK (base+aY) (some ⟨(List.replicate (eZ (S z l)).toNat jf).flatten,true⟩)) aR):=by rw[nA rfl];try rfl
@[simp] theorem a0s(off:Nat)(x:Operand):fG P base (⟨aY,d,none,.kt off x,bc⟩::bK) z m aR=(sW (S z x)=true/\iY z bc=true/\fG P base bK (c0 z d (zn (S z x) off)) (m) aR):=by rw[nA rfl];rfl
@[simp] theorem a0t(I:Nat)(x i:Operand):fG P base (⟨aY,d,none,.mZ I x i,bc⟩::bK) z m aR=((pC I (S z x)&&fu (S z i)&&decide (0<=eZ (S z i))&&decide (eZ (S z i)<fa (S z x)))=true/\iY z bc=true/\fG P base bK (c0 z d (Dj (S z x) I (eZ (S z i)))) (m) aR):=by rw[nA rfl];rfl
@[simp] theorem a0u(x i:Operand):fG P base (⟨aY,d,none,.EP x i,bc⟩::bK) z m aR=((m0 (S z x)&&fu (S z i)&&decide (0<=eZ (S z i))&&decide (eZ (S z i)<fa (S z x)))=true/\iY z bc=true/\fG P base bK (c0 z d (.int .u8 (vR (w8 (S z x)) (eZ (S z i)).toNat))) (m) aR):=by rw[nA rfl];rfl
@[simp] theorem a0r(i:Nat)(x:Operand):fG P base (⟨aY,d,none,.ext i x,bc⟩::bK) z m aR=(Gj (S z x) i=true/\iY z bc=true/\fG P base bK (c0 z d (Du (S z x) i)) (m) aR):=by rw[nA rfl];rfl
@[simp] theorem a0v(x:Operand):fG P base (⟨aY,d,none,.Fy x,bc⟩::bK) z m aR=(m0 (S z x)=true/\iY z bc=true/\fG P base bK (c0 z d (.int .i64 (fa (S z x)))) (m) aR):=by rw[nA rfl];rfl
@[simp] theorem a0w(x:Operand):fG P base (⟨aY,d,none,.vg x,bc⟩::bK) z m aR=(hQ (S z x)=true/\iY z bc=true/\fG P base bK (c0 z d (.int .i64 (fa (S z x)))) (m) aR):=by rw[nA rfl];rfl
@[simp] theorem a0l(I bytes:Nat)(x y:Operand):fG P base (⟨aY,d,none,.app I bytes x y,bc⟩::bK) z m aR=((an.app I bytes x y).ok z m=true/\iY z bc=true/\fG P base bK (c0 z d ((an.app I bytes x y).val (base+aY) z m)) ((an.app I bytes x y).hr (base+aY) z m) aR):=by rw[nA rfl];try rfl
@[simp] theorem a0y(fP:Bool)(x:Operand)(xs:List Operand):fG P base (⟨aY,d,none,.za fP x xs,bc⟩::bK) z m aR=((fu (S z x)&&xs.all λy=>fu (S z y))=true/\iY z bc=true/\fG P base bK (c0 z d (xs.foldl (λdY y=>if fP then pZ dY (S z y)else p1 dY (S z y)) (S z x))) (m) aR):=by rw[nA rfl];rfl
@[simp] theorem a0z(fn:Fn)(fs cs:List Operand):fG P base (⟨aY,d,none,.zb fn fs cs,bc⟩::bK) z m aR=(iY z bc=true/\fG P base bK (c0 z d (.func fn (fs.map (S z)).toArray (cs.map (S z)).toArray)) (m) aR):=by rw[nA rfl];simp only[an.ok,true_and];try rfl
@[simp] theorem aRf{t X:TypeId}{v:Value}:Lp t (.iface X v)=decide (X=t):=rfl
@[simp] theorem aRg{t:TypeId}{v:Value}:ajd (.iface t v)=v:=rfl
@[simp] theorem aPu{t:Nat}:S z (.tmp t)=z t:=rfl
@[simp] theorem aPs{v:Value}:S z (.const v)=v:=rfl
@[simp] theorem aPt{f:Nat}:S z (.func f)= .func (.func f) #[] #[]:=rfl
@[simp] theorem aUx{t:Nat}{v:Value}:c0 z (some t) v=k3 z t v:=rfl
@[simp] theorem aUw{v:Value}:c0 z none v=z:=rfl
@[simp] theorem aJi{t bf:Nat}{v:Value}:k3 z t v bf=if bf=t then v else z bf:=rfl
@[simp] theorem aRi{a0:Value}{l:List Value}:ij (a0::l) 0=a0:=rfl
@[simp] theorem aRj{a0 br:Value}{l:List Value}:ij (a0::br::l) 1=br:=rfl
@[simp] theorem aRk{a0 br bQ:Value}{l:List Value}:ij (a0::br::bQ::l) 2=bQ:=rfl
@[simp] theorem aRl{a0 br bQ a3:Value}{l:List Value}:ij (a0::br::bQ::a3::l) 3=a3:=rfl
@[simp] theorem aRm{a0 br bQ a3 a4:Value}{l:List Value}:ij (a0::br::bQ::a3::a4::l) 4=a4:=rfl
@[simp] theorem aRn{a0 br bQ a3 a4 fz:Value}{l:List Value}:ij (a0::br::bQ::a3::a4::fz::l) 5=fz:=rfl
@[simp] theorem aRo{a0 br bQ a3 a4 fz jh:Value}{l:List Value}:ij (a0::br::bQ::a3::a4::fz::jh::l) 6=jh:=rfl
@[simp] theorem aRp{a0 br bQ a3 a4 fz jh l0:Value}{l:List Value}:ij (a0::br::bQ::a3::a4::fz::jh::l0::l) 7=l0:=rfl
def aey(v:Value)(b:Bool):Bool:=match v with| .bool c=>c==b|_=>false
@[simp] theorem a0c{c b:Bool}:aey (.bool c) b=(c==b):=rfl
@[simp] theorem a0d{b:Bool}:aey undef b=false:=rfl
@[simp] theorem a0e{t:Nat}{b:Bool}:e9 z (some (t,b))=aey (z t) b:=rfl
@[simp] theorem aU8{r:ln}:m3 m z [r]=sZ m z r:=rfl
@[simp] theorem aU7:m3 m z []= .tuple #[]:=rfl
@[simp] theorem aU9{r s:ln}{l:List ln}:m3 m z (r::s::l)= .tuple ((r::s::l).map (sZ m z)).toArray:=rfl
@[simp] theorem aU3{t:Nat}:sZ m z (.bL t)=z t:=rfl
@[simp] theorem aU2{t n:Nat}{dE:Bool}:sZ m z (.hy t dE n)=lP m dE n (z t):=rfl
@[simp] theorem aU6{l:List ln}:mL m z l=l.all (r6 m z):=rfl
@[simp] theorem aU1{t:Nat}:r6 m z (.bL t)=true:=rfl
@[simp] theorem aU0{t n:Nat}{dE:Bool}:r6 m z (.hy t dE n)=(g2 m (z t) n&&(dE||decide (n=1))):=rfl
@[simp] theorem aUZ{l:List cS}:h9 l m=if l.any (λo=>o.k.fD)=true then m.bU l.length else m:=by unfold h9;rfl
end
attribute [simp] yt wA eZ fu w8 ab gV aa ah CJ sW zn JK m0 Du Gj Py Kj wz hs p4 p1 pZ Fi byteOf r3 ns
 uI mU HD QG Dp NX xk qT sQ Gl Bj qa BP od jF
attribute [simp] nU pY jK lg ad
@[simp] theorem aRU:an.re.fD=true:=rfl
@[simp] theorem aRr(a:List Value):(an.nD a).fD=true:=rfl
@[simp] theorem aRv(a:Operand):(an.oK a).fD=true:=rfl
@[simp] theorem aRw(a b:Nat)(c:List Value)(d:List (Nat×Nat×Operand)):(an.mv a b c d).fD=true:=rfl
@[simp] theorem aRF(a:Operand):(an.qb a).fD=true:=rfl
@[simp] theorem aRV(a b:Nat)(c:List Value)(d e:Operand):(an.ov a b c d e).fD=true:=rfl
@[simp] theorem aRt(a b:Nat)(c:List Value)(d e:Operand):(an.o8 a b c d e).fD=true:=rfl
@[simp] theorem aRs(a b:Nat)(c d:Operand):(an.app a b c d).fD=true:=rfl
@[simp] theorem aRA(a:Operand):(an.D2 a).fD=false:=rfl
@[simp] theorem aRB(a:List Value)(b:Operand):(an.hW a b).fD=false:=rfl
@[simp] theorem aRW(a:lX)(b:Value)(c:Bool)(d e:Operand):(an.rf a b c d e).fD=false:=rfl
@[simp] theorem aRY(a:lX)(b c d:Operand):(an.po a b c d).fD=false:=rfl
@[simp] theorem aR1(a b:Nat)(c:Operand):(an.s5 a b c).fD=false:=rfl
@[simp] theorem aR2(a:Nat)(b:Operand)(c:Option Operand)(d e:Operand):(an.Bg a b c d e).fD=false:=rfl
@[simp] theorem aRT(a:TypeId)(b:Operand):(an.FG a b).fD=false:=rfl
@[simp] theorem aR6(a:TypeId)(b:Operand):(an.Jd a b).fD=false:=rfl
@[simp] theorem aRM(a:List (TypeId×Nat×Option (Bool×Nat)))(b:Operand)(c:List Operand):(an.mE a b c).fD=false:=rfl
@[simp] theorem aRX(a:Operand):(an.hY a).fD=false:=rfl
@[simp] theorem aR0(a b c:Operand):(an.vl a b c).fD=false:=rfl
@[simp] theorem aRZ(a:Operand):(an.vj a).fD=false:=rfl
@[simp] theorem aRx(a:List Value)(b:List (Nat×Nat×Operand)):(an.vQ a b).fD=false:=rfl
@[simp] theorem aRQ(a:Bool)(b:Nat)(c:Operand):(an.hq a b c).fD=false:=rfl
@[simp] theorem aR5(a:Nat)(b c:Operand):(an.store a b c).fD=false:=rfl
@[simp] theorem aRu(a:BinOp)(b:w5)(c d:Operand):(an.oJ a b c d).fD=false:=rfl
@[simp] theorem aRG(a:Bool)(b:List sm)(c d:Operand):(an.Af a b c d).fD=false:=rfl
@[simp] theorem aR7(a:UnOp)(b:Operand):(an.zC a b).fD=false:=rfl
@[simp] theorem aRD(a:IntKind)(b:Operand):(an.D6 a b).fD=false:=rfl
@[simp] theorem aRE(a:Operand):(an.GX a).fD=false:=rfl
@[simp] theorem aRC(a:Operand):(an.pN a).fD=false:=rfl
@[simp] theorem aR4(a:Operand)(b c:Option Operand):(an.Gc a b c).fD=false:=rfl
@[simp] theorem aR3(a:Nat)(b:Operand)(c d:Option Operand):(an.wP a b c d).fD=false:=rfl
@[simp] theorem aRI(a:Nat)(b:Operand):(an.kt a b).fD=false:=rfl
@[simp] theorem aRJ(a:Bool)(b c:Nat)(d:Operand):(an.field a b c d).fD=false:=rfl
@[simp] theorem aRK(a:Nat)(b c:Operand):(an.mZ a b c).fD=false:=rfl
@[simp] theorem aRL(a b:Nat)(c d:Operand):(an.AF a b c d).fD=false:=rfl
@[simp] theorem aRN(a b:Operand):(an.EP a b).fD=false:=rfl
@[simp] theorem aRH(a:Nat)(b:Operand):(an.ext a b).fD=false:=rfl
@[simp] theorem aRO(a:Operand):(an.Fy a).fD=false:=rfl
@[simp] theorem aRP(a:Operand):(an.vg a).fD=false:=rfl
@[simp] theorem aRR(a:Bool)(b:Operand)(c:List Operand):(an.za a b c).fD=false:=rfl
@[simp] theorem aRS(a:Fn)(b c:List Operand):(an.zb a b c).fD=false:=rfl
@[simp] theorem aRy(a:Nat)(b:List Operand):(an.l2 a b).fD=false:=rfl
@[simp] theorem aRz(a:Operand)(b:List Operand):(an.nc a b).fD=false:=rfl
def bj:aB->Nat->aB
 | .kB a b,p=>if p=1 then .kB a b else if p%2=0 then bj a (p/2)else bj b (p/2)
 | .nG c a b,p=>if p=1 then .nG c a b else if p%2=0 then bj a (p/2)else bj b (p/2)
 | .block i a,p=>if p=1 then .block i a else bj a (p/2)
 | .loop a,p=>if p=1 then .loop a else bj a (p/2)
 |c,_=>c
def bk(p:Nat)(x:aB):aB->aB
 | .kB a b=>if p=1 then x else if p%2=0 then .kB (bk (p/2) x a) b else .kB a (bk (p/2) x b)
 | .nG c a b=>if p=1 then x else if p%2=0 then .nG c (bk (p/2) x a) b else .nG c a (bk (p/2) x b)
 | .block i a=>if p=1 then x else .block i (bk (p/2) x a)
 | .loop a=>if p=1 then x else .loop (bk (p/2) x a)
 |c=>if p=1 then x else c
abbrev aJ{dP:Type}{a:dP}(h:{b:dP//a=b}):dP:=h.1
@[simp↓] theorem aTU{dP:Type}{a x:dP}{h:a=x}:aJ ⟨x,h⟩=x:=rfl
abbrev cy(P:Program)(f:Nat):={c:ca//cm P f=some c}
section
variable {m:G} {b cB k:Nat} {x y:Option en} {I:en}
@[simp] theorem eT:(m.aK b x).next=m.next:=rfl
@[simp] theorem fq:(m.bU k).next=m.next+k:=rfl
theorem aF(h:m.F b=some I):b<m.next:=by
 unfold G.F at h;split at h
 ·assumption
 ·cases h
theorem cb(h:b<m.next):(m.aK b x).F b=x:=by simp[G.F,G.aK,h]
theorem aX(h:cB≠b):(m.aK b x).F cB=m.F cB:=by simp[G.F,G.aK,h]
theorem cl(h:b<m.next):(m.bU k).F b=m.F b:=by
 have:b<m.next+k:=by omega
 simp[G.F,G.bU,h,this]
@[simp] theorem aTE{es:List (Value×Value)}:(m.hL b es).next=m.next:=rfl
theorem bS:(∀(m:G) (b:Nat) (x:Option en),(m.aK b x).next=m.next)/\(∀(m:G) (k:Nat),(m.bU k).next=m.next+k)/\ ∀(m:G) (b:Nat) (es:List (Value×Value)),(m.hL b es).next=m.next:=⟨λ_ _ _=>rfl,λ_ _=>rfl,λ_ _ _=>rfl⟩
theorem Ks{es:List (Value×Value)}(h:b<m.next):(m.hL b es).F b=some ⟨[],true⟩:=by simp[G.F,G.hL,h]
theorem o9{es:List (Value×Value)}(h:cB≠b):(m.hL b es).F cB=m.F cB:=by simp[G.F,G.hL,h]
theorem Kq{es:List (Value×Value)}(h:b<m.next):(m.hL b es).fC b=some es:=by simp[G.fC,Ks h];simp[G.hL]
theorem Kp{es:List (Value×Value)}(h:cB≠b):(m.hL b es).fC cB=m.fC cB:=by simp[G.fC,o9 h];simp[G.hL,h]
theorem vX(h:cB≠b):(m.aK b x).fC cB=m.fC cB:=by simp[G.fC,aX h];rfl
theorem Wf(h:b<m.next):(m.bU k).fC b=m.fC b:=by simp[G.fC,cl h];rfl
theorem acn:(m.aK b x).aK b y=m.aK b y:=by simp only[G.aK,G.mk.injEq,true_and,and_true];funext i;by_cases h:i=b<;>simp[h]
theorem aco(h:m.F b=some I):m.aK b (some I)=m:=by
 obtain⟨n,f,g⟩:=m;have A:=aF h;simp only[G.F,G.aK,G.mk.injEq,true_and,and_true]at h A⊢;rw[if_pos A]at h;funext i;by_cases Y:i=b
 ·subst Y;simp[h]
 ·simp[Y]
@[simp] theorem atk{a o n:Nat}:g2 m (.pointer (some ⟨a,o,none⟩)) n=(match m.F a with|some x=>decide (o+n<=x.cells.length)|none=>false):=rfl
@[simp] theorem afB{a o:Nat}:rG m (.pointer (some ⟨a,o,none⟩))=(match m.F a with|some x=>x.own|none=>false):=rfl
@[simp] theorem aDD{a o n:Nat}{dE:Bool}:lP m dE n (.pointer (some ⟨a,o,none⟩))=if dE then .agg (gW m a o n).toArray else(gW m a o 1).headD undef:=rfl
@[simp] theorem agl{a o n:Nat}:gW m a o n=match m.F a with|some x=>(x.cells.drop o).take n|none=>[]:=rfl
@[simp] theorem aIM{a o:Nat}{cs:List Value}:pD m (.pointer (some ⟨a,o,none⟩)) cs=match m.F a with|some x=>m.aK a (some ⟨gV x.cells o cs,x.own⟩)|none=>m:=rfl
@[simp] theorem aqO{a o l c n:Nat}:fF m n (.slice (some ⟨a,o,none⟩) l c)=(c==n&&(match m.F a with|some x=>decide (o+l*n<=x.cells.length)|none=>false)):=rfl
@[simp] theorem aYK{n:Nat}:fF m n (.slice none 0 0)=true:=rfl
@[simp] theorem aYM{a o l c:Nat}:iQ m (.slice (some ⟨a,o,none⟩) l c)=(match m.F a with|some x=>x.own|none=>false):=rfl
@[simp] theorem aYL{l c:Nat}:iQ m (.slice none l c)=true:=rfl
@[simp] theorem aIv{a o l c n:Nat}:fy m n (.slice (some ⟨a,o,none⟩) l c)=gW m a o (l*n):=rfl
@[simp] theorem aYF{l c n:Nat}:fy m n (.slice none l c)=[]:=rfl
@[simp] theorem aSB{a o l c:Nat}:hR m (.slice (some ⟨a,o,none⟩) l c)=m.aK a none:=rfl
@[simp] theorem aSA{l c:Nat}:hR m (.slice none l c)=m:=rfl
end
theorem db{n:Int}(A: -9223372036854775808<=n)(E:n<=9223372036854775807):IntKind.i64.wrap n=n:=IntWalk.i64_in n ⟨A,E⟩
theorem fB{n:Nat}(h:n<9223372036854775807):IntKind.i64.wrap ((n:Int)+1)=(n:Int)+1:=db (by omega) (by omega)
theorem gM{dP:Type}{l:List dP}{i:Nat}(h:i<l.length): ∃x,l[i]?=some x:=⟨_,List.getElem?_eq_getElem h⟩
section
variable {P:Program} {z:aD} {m:G} {Q:cO->aD->G->Prop}
def sS(bO:aD->G->Prop)(Q:cO->aD->G->Prop)(e:cO)(z:aD)(m:G):Prop:=match e with| .eR=>bO z m|e=>Q e z m
@[simp] theorem aTf{bO:aD->G->Prop}:sS bO Q .eR z m=bO z m:=rfl
@[simp] theorem aTe{bO:aD->G->Prop}{id:Nat}:sS bO Q (.cF id) z m=Q (.cF id) z m:=rfl
@[simp] theorem aTg{bO:aD->G->Prop}:sS bO Q .fi z m=Q .fi z m:=rfl
theorem jN{c:aB}(h: ∀bO:aD->G->Prop,(∀K U,fJ P (.loop c) K U Q->bO K U)->fJ P c z m (sS bO Q)):fJ P (.loop c) z m Q:=by rw[ar2];refine(h (λK U=>fJ P (.loop c) K U Q) (λ_ _ h=>h)).bt λe K U h=> ?_;cases e<;>exact h
def O7(P:Program)(v:Value)(args:List Value)(m:G)(bu:Value->G->Prop):Prop:=match v with
 | .func (.func f) first ks=>eu P f (first.toList++args++ks.toList) m bu
 |_=>False
@[simp] theorem aOS{f:Nat}{first ks:Array Value}{args:List Value}{bu:Value->G->Prop}:O7 P (.func (.func f) first ks) args m bu=eu P f (first.toList++args++ks.toList) m bu:=rfl
@[simp] theorem a0q{base aY:Nat}{d:Option Nat}{bK:List cS}{aR:aD->G->Prop}{bc:List (Operand×Operand)}{x:Operand}{bz:List Operand}:
 fG P base (⟨aY,d,none,.nc x bz,bc⟩::bK) z m aR=O7 P (S z x) (bz.map (S z)) m (xd P base d bc bK z m aR):=by
  by_cases B: ∃f first ks,S z x= .func (.func f) first ks
  ·obtain⟨f,first,ks,B⟩:=B;rw[aeM B,B];rfl
  ·have gZ:(an.nc x bz).fL z m=none:=by
    simp only[an.fL];split
    ·rename_i f first ks h;exact absurd ⟨f,first,ks,h⟩ B
    ·rfl
   have E:O7 P (S z x) (bz.map (S z)) m (xd P base d bc bK z m aR)=False:=by
    unfold O7;split
    ·rename_i f first ks h;exact absurd ⟨f,first,ks,h⟩ B
    ·rfl
   rw[E];refine propext ⟨λ⟨n,K,U,h,q⟩=> ?_,False.elim⟩;obtain⟨bT,bn,A,_,_⟩:=s0 h;obtain⟨ax,_⟩:=UE (o:=⟨aY,d,none,.nc x bz,bc⟩) rfl gZ A;cases ax
def QD(P:Program)(bJ:List (TypeId×Nat×Option (Bool×Nat)))(v:Value)(args:List Value)(m:G)(bu:Value->G->Prop):Prop:=match v with
 | .iface t v=>match bJ.find? (λr=>r.1==t)with
   |some (_,f,none)=>eu P f (v::args) m bu
   |some (_,f,some (dE,n))=>(g2 m v n&&(dE||decide (n=1)))=true/\eu P f (lP m dE n v::args) m bu
   |none=>False
 |_=>False
theorem aJY{base aY:Nat}{d:Option Nat}{bK:List cS}{aR:aD->G->Prop}{bc:List (Operand×Operand)}{bJ:List (TypeId×Nat×Option (Bool×Nat))}{x:Operand}{bz:List Operand}:
 fG P base (⟨aY,d,none,.mE bJ x bz,bc⟩::bK) z m aR=QD P bJ (S z x) (bz.map (S z)) m (xd P base d bc bK z m aR):=by
 have kj:(an.mE bJ x bz).fL z m=none->fG P base (⟨aY,d,none,.mE bJ x bz,bc⟩::bK) z m aR=False:= λgZ=>by refine propext ⟨λ⟨n,K,U,h,q⟩=> ?_,False.elim⟩;obtain⟨bT,bn,A,_,_⟩:=s0 h;obtain⟨ax,_⟩:=UE (o:=⟨aY,d,none,.mE bJ x bz,bc⟩) rfl gZ A;cases ax
 unfold QD;split
 ·rename_i t v M;split
  ·rename_i r f ar;exact UR (by simp only[an.fL,M,ar])
  ·rename_i r f dE n ar;by_cases ax:(g2 m v n&&(dE||decide (n=1)))=true
   ·rw[UR (f:=f) (args:=lP m dE n v::bz.map (S z)) (by simp only[an.fL,M,ar,ax,if_true])];simp only[ax,true_and]
   ·rw[kj (by simp only[an.fL,M,ar,if_neg ax])];exact propext ⟨False.elim,λh=>absurd h.1 ax⟩
  ·rename_i ar;rw[kj (by simp only[an.fL,M,ar])]
 ·rename_i M;refine kj ?_;simp only[an.fL]
@[simp] theorem aJX{base aY:Nat}{d:Option Nat}{bK:List cS}{aR:aD->G->Prop}{bc:List (Operand×Operand)}{bJ:List (TypeId×Nat×Option (Bool×Nat))}{x:Operand}{bz:List Operand}:
 fG P base (⟨aY,d,none,.mE bJ x bz,bc⟩::bK) z m aR=QD P bJ (S z x) (bz.map (S z)) m (xd P base d bc bK z m aR):=aJY
end
@[simp] theorem aSY{d a0:Value}{l:List Value}:(a0::l)[0]?.getD d=a0:=rfl
@[simp] theorem aSZ{d a0 br:Value}{l:List Value}:(a0::br::l)[1]?.getD d=br:=rfl
@[simp] theorem aS0{d a0 br bQ:Value}{l:List Value}:(a0::br::bQ::l)[2]?.getD d=bQ:=rfl
@[simp] theorem aS1{d a0 br bQ a3:Value}{l:List Value}:(a0::br::bQ::a3::l)[3]?.getD d=a3:=rfl
@[simp] theorem aS2{d a0 br bQ a3 a4:Value}{l:List Value}:(a0::br::bQ::a3::a4::l)[4]?.getD d=a4:=rfl
@[simp] theorem aS3{d a0 br bQ a3 a4 fz:Value}{l:List Value}:(a0::br::bQ::a3::a4::fz::l)[5]?.getD d=fz:=rfl
@[simp] theorem aS4{d a0 br bQ a3 a4 fz jh:Value}{l:List Value}:(a0::br::bQ::a3::a4::fz::jh::l)[6]?.getD d=jh:=rfl
@[simp] theorem aS5{d a0 br bQ a3 a4 fz jh l0:Value}{l:List Value}:(a0::br::bQ::a3::a4::fz::jh::l0::l)[7]?.getD d=l0:=rfl
attribute [simp] an.ok an.val an.hr
section
variable {p:Option Addr} {a:Addr} {l c I i j:Nat}
@[simp] theorem vf{s:ByteArray}:fa (.string s)=s.size:=rfl
@[simp] theorem aST:fa (.slice p l c)=l:=rfl
@[simp] theorem aSd:hQ (.slice p l c)=true:=rfl
@[simp] theorem aYG:fW (.slice p l c)=l:=rfl
@[simp] theorem aYz{b o:Nat}:pC I (.slice (some ⟨b,o,none⟩) l c)=(c==I):=rfl
@[simp] theorem aYs{b o:Nat}{n:Int}:Dj (.slice (some ⟨b,o,none⟩) l c) I n= .pointer (some ⟨b,o+n.toNat*I,none⟩):=rfl
@[simp] theorem aYE{b o:Nat}:sa (.slice (some ⟨b,o,none⟩) l c) I i j= .slice (some ⟨b,o+i*I,none⟩) (j-i) c:=rfl
@[simp] theorem aYy:pC I (.slice none 0 0)=true:=rfl
@[simp] theorem aYD:sa (.slice none 0 0) I i j= .slice none 0 0:=rfl
end
@[simp] theorem aZT{n:Nat}:min n IntKind.u64.bits=min n 64:=rfl
@[simp] theorem aZS{n:Nat}:min n IntKind.u32.bits=min n 32:=rfl
attribute [simp] cb aX cl acn
end Go.DI
