/-
  A part of the proof, shortened by tools of ours.
-/
import Derived.Test.YtmmkkggfmigppaaGreatZaf
set_option linter.all false
set_option maxRecDepth 8000
set_option maxHeartbeats 16000000
namespace Go.DI
open Go Go.RowKit
def cM.oN:cM->Exit
 | .eB=> .normal
 | .cH id=> .exit id
 | .e3=> .ret
section
variable {P:Program} {aN:Nat} {b4:Callee} {dc n:Nat}
theorem anI: ∀(l:List Nat),yK l=true->l.Nodup
 |[],_=>List.nodup_nil
 | x::l,h=>by simp only[yK,a6,r7,List.contains_eq_mem,I1]at h;exact A1.2 ⟨h.1,anI l h.2⟩
theorem aDP{l:List Nat}(h:aba n l=true):l.Nodup/\(∀i,i∈l↔i<n)/\l.length=n:=by simp only[aba,a6,ey,dP,om,List.contains_iff_mem]at h;obtain⟨⟨⟨A,D⟩,ai⟩,aT⟩:=h;exact⟨anI l D,λi=>⟨λW=>ai i W,λW=>aT i W⟩,A⟩
theorem auU{m:H}{b:Nat}(h:m.next<=b):m.I b=none:=by unfold H.I;rw[if_neg (by omega)]
theorem Nh(L:List cO)(m:H):m.next<=(hV L m).next/\((∃o∈L,o.k.fv=true)->(hV L m).next=m.next+L.length):=by
 unfold hV;split
 ·exact⟨by rw[H.qy];omega,λ_=>rfl⟩
 ·rename_i h;refine⟨c8 _,λ⟨o,aB,D⟩=>absurd (Dd.2 ⟨o,aB,D⟩) h⟩
theorem aoF(L:List cO)(m:H)(b:Nat):(hV L m).I b=m.I b:=by
 unfold hV;split
 ·exact H.cJ m _ b
 ·rfl
theorem dv.hV{m:H}{w:World}{ag:Ren}(h:dv aN ag m w)(L:List cO):dv aN ag (Go.DI.hV L m) w:=by
 unfold Go.DI.hV;split
 ·exact h.b0 _
 ·exact h
theorem afq{ops:Array Oper}{Q:Exit->Act->World->Prop}(ba:ap2 ops=true)(GJ:afp (Ck ops.toList []) ops.size=true): ∀(l1 k:Nat) (jx:Array Bool) (a:Act) (w:World),k+l1=ops.size->jx.size=ops.size->
 (∀j,j<ops.size->(jx.getD j false=true↔j<k))->wpOps P ops Q (List.range' k l1) a w->wpAny P .any ops Q l1 jx a w
 | 0,k,jx,a,w,S,j3,az,h=>by refine⟨?_,h⟩;apply List.eq_nil_iff_forall_not_mem.2;intro i W;obtain⟨A,iE,D,_⟩:=mem_ready.1 W;have dm:i<ops.size:=(xL.1 D).1;have:=(az i dm).2 (by omega);rw[getD_both A]at this;cases this
 | l1+1,k,jx,a,w,S,j3,az,h=>by
   have zY:k<ops.size:=(by omega);have adl: ∀j iE,ops[j]?=some iE-> ∀e∈iE.after,Region.binds .any e=true->e.on<j:=by
    intro j iE aX e aQ hb;have dm:j<ops.size:=(xL.1 aX).1;have:=dP.1 ba j (om.2 dm);simp only[aX,dP,ua,r7,ey]at this;rcases this e (by simpa using aQ)with h|h
    ·rw[hb]at h;cases h
    ·exact h
   have cu: ∀j iE,ops[j]?=some iE->jx.getD j false=true-> ∀e∈iE.after,Region.binds .any e=true->jx.getD e.on false=true:=(by intro j iE aX avY e aQ hb;have dm:j<ops.size:=(xL.1 aX).1;have A:=adl j iE aX e aQ hb;have D:=(az j dm).1 avY;exact(az e.on (by omega)).2 (by omega));rw[List.range'_succ,wpOps_cons]at h;have step: ∀i∈Region.ready .any ops jx,i=k:=by
    intro i W;obtain⟨A,Fe,D,ai⟩:=mem_ready.1 W;have dm:i<ops.size:=(xL.1 D).1;have ae: ¬i<k:= λWE=>by have:=(az i dm).2 WE;rw[getD_both A]at this;cases this
    by_cases e:i=k
    ·exact e
    ·exfalso;have hb:((Ck ops.toList []).getD i 0).testBit k=true:=by
      have:=dP.1 GJ i (om.2 dm);exact dP.1 this k (om.2 (by omega))
     have:=aat (ops:=ops) (jx:= λj=>jx.getD j false=true) cu ops.toList [] (by simp) (by simp) i Fe D ai k hb;have:=(az k zY).1 this;omega
   refine⟨λal=> ?_,λi W=> ?_⟩
   ·exfalso;obtain⟨o,aB⟩: ∃o,ops[k]?=some o:=⟨ops[k],IZ zY⟩;have nC:k∈Region.ready .any ops jx:=by
     refine mem_ready.2 ⟨?_,o,aB,λe aQ hb=> ?_⟩
     ·have:jx.getD k false≠true:= λh=>by have:=(az k zY).1 h;omega
      exact getD_in (by rw[j3];exact zY) (by simpa using this)
     ·exact(az e.on (by have:=adl k o aB e aQ hb;omega)).2 (adl k o aB e aQ hb)
    rw[al]at nC;cases nC
   ·have e:=step i W;subst e;refine wpOp_mono (λa w h=>afq ba GJ l1 (i+1) _ a w (by omega) (by simp[j3]) (λj aX=> ?_) h) h;rw[S3 (by rw[j3];exact zY),az j aX];omega
theorem afF: ∀{L:List cO} {r:List cO×cO×List cO},JF L=some r->L=r.1++r.2.1::r.2.2/\r.2.1.k.fv=true
 |[],_,h=>by simp[JF]at h
 | o::L,r,h=>by
   unfold JF at h;split at h
   ·rename_i S;cases h;exact⟨rfl,by simp[S,ah.fv]⟩
   ·simp only[ve]at h;obtain⟨⟨a,b,c⟩,A,D⟩:=h;obtain⟨aE,a2⟩:=afF A;subst D;exact⟨by simp only at aE⊢;rw[aE];rfl,a2⟩
theorem aB9(oY:P.follows .mixedOrders=true)(cu: ∀aN,sa P aN b4){id:Nat}{ops:Array Oper}{uw:Bool}{rJ:aw}(ar:Ve P dc ops uw=some rJ){z K:aC}{m U:H}{e:cM}
 (h:eR b4 n rJ z m=some (e,K,U)) {a:Act} {w:World} {ag:Ren} (F:g7 ag dc z a) (ab:dv aN ag m w) (b9:aN<=w.heap.size) {Q:Exit->Act->World->Prop}
 (bb: ∀ed w' cT,gH ag cT->(∀b,b<m.next->cT b=ag b)->g7 cT dc K ed->dv aN cT U w'->Below aN w w'->Q e.oN ed w'):(Code.region id ops uw).wp P Q a w:=by
 have G3: ∀b,m.next<=b->ag b=none:=by
  intro b hb;cases al:ag b with
  |none=>rfl
  |some l=>have:=ab.lf b l al;omega
 unfold Ve at ar;split at ar
 ·rename_i GJ;split at ar
  ·rename_i L gd;simp only[ve]at ar;obtain⟨⟨cD,ao,bN⟩,avx,rfl⟩:=ar;obtain⟨A,D⟩:=Vf _ _ gd;obtain⟨aD,fl⟩:=afF avx;simp only at aD fl;subst aD;have di:cD.length+(bN.length+1)=ops.size:=(by have:=congrArg List.length A;simpa using this);have eW:((cD++ao::bN).map (·.aW)).Nodup:=(by rw[A];exact List.nodup_range);have tn: ∀cA∈cD++ao::bN,cA.aW<ops.size:= λcA mn=>by
    have:cA.aW∈(cD++ao::bN).map (·.aW):=gG.2 ⟨cA,mn,rfl⟩;rw[A,om]at this;exact this
   rw[vf,lO,AY,A1]at eW;simp only[eR]at h;split at h
   ·rename_i bQ bn ahM;split at h
    ·rename_i av;split at h
     ·rename_i c6 cI ahN;cases h;have kO:m.next+ops.size<=bn.next:=by have:=Nl (cu aN) _ _ _ _ ahM;rw[H.qy,di]at this;exact this
      have vI:(ao.k.hd (m.next+ao.aW) bQ bn).next=bn.next:=by
       unfold o5 at av;simp only[a6]at av;have:=av.1.2;split at this
       ·rename_i S;rw[S];simp only[ah.hd];split
        ·rfl
        ·unfold hC;split<;>rfl
       ·cases this
      have vJ:bn.next<=cI.next:=Nl (cu aN) _ _ _ _ ahN
      have key: ∀br,dv aN ag m br->aN<=br.heap.size->Below aN w br->wpOps P ops Q (List.range ops.size) a br:=by
       intro br zZ V5 zQ;rw[<-A,vf,lO];refine aa5 (base:=m.next) (cu aN) cD z _ a br ag bQ bn (λcA mn=>D cA (by simp[mn])) eW.1 F (zZ.b0 _) V5 (λcA mn _=>⟨by rw[H.qy,di];have:=tn cA (by simp[mn]);omega,G3 _ (by omega)⟩) ahM λbt ct oq a8 bV cv fQ g0=> ?_;obtain⟨aR9,dG⟩:=D ao (by simp);have aOz:=tn ao (by simp);rw[wpOps_cons];refine aCa (base:=m.next) dG cv fQ (mD V5 g0.size) (by omega) ?_ av λbR dW ot ef e2 hF j5 yP M5=> ?_
       ·rw[bV _ (by rw[H.qy,di];omega) (λcA mn e=>eW.2.2 cA.aW (gG.2 ⟨cA,mn,rfl⟩) ao.aW (by simp) (by omega))];exact G3 _ (by omega)
       ·refine anX (base:=m.next) (cu dW.heap.size) bN _ (pH bn) bR dW ot K cI (λcA mn=>D cA (by simp[mn])) eW.2.1.2 hF yP (c8 _) (λcA mn _=>⟨?_,?_⟩) ahN λa3 kn aJE ek gm kT rV Ay=> ?_
        ·show _<bn.next
         have:=tn cA (by simp[mn]);omega
        ·have B:=tn cA (by simp[mn]);have bG:cA.aW≠ao.aW:= λe=>eW.2.1.1 (gG.2 ⟨cA,mn,e⟩);rw[e2 _ (by omega),bV _ (by rw[H.qy,di];omega) (λk S e=>eW.2.2 k.aW (gG.2 ⟨k,S,rfl⟩) cA.aW (by simp only[hi,gG];exact .inr ⟨cA,mn,rfl⟩) (by omega))];exact G3 _ (by omega)
        ·have eV:aN<=dW.heap.size:=mD V5 (mD g0.size M5.size);refine bb a3 kn aJE (a8.trans (ef.trans ek)) (λb hb=> ?_) kT ?_ (zQ.trans (g0.trans (M5.trans (Ay.mono eV))))
         ·rw[gm b hb (by show b<bn.next;omega),e2 b (by omega),bV b (by rw[H.qy];omega) (λ_ _=>by omega)]
         ·have:=aB8 rfl j5 rV ek (by rw[vI];exact vJ) Ay
          rwa [vI]at this
      cases uw
      ·exact wp_region (key w ab b9 (Below.refl _ _))
      ·simp only[Bool.not_true,Bool.false_or,a6]at GJ;refine wp_region_any oY ?_;refine afq GJ.2.1 GJ.2.2 ops.size 0 _ a _ (by omega) (by simp) (λj aX=>by rw[getD_replicate_false];simp) ?_;rw[<-List.range_eq_range'];exact key _ (ab.aqE rfl) b9 ⟨rfl,rfl,rfl,c8 _,λ_ _=>rfl⟩
     ·cases h
    ·cases h
   ·cases h
  ·cases ar
 ·cases ar
theorem aEV(oY:P.follows .mixedOrders=true)(cu:sa P aN b4){id:Nat}{ops:Array Oper}{uw:Bool}{rJ:aw}(ar:OW P dc ops uw=some rJ){z K:aC}{m U:H}{e:cM}
 (h:eR b4 n rJ z m=some (e,K,U)) {a:Act} {w:World} {ag:Ren} (F:g7 ag dc z a) (ab:dv aN ag m w) (b9:aN<=w.heap.size) {Q:Exit->Act->World->Prop}
 (bb: ∀ed w' cT,gH ag cT->(∀b,b<m.next->cT b=ag b)->g7 cT dc K ed->dv aN cT U w'->Below aN w w'->Q e.oN ed w'):(Code.region id ops uw).wp P Q a w:=by
 have G3: ∀b,m.next<=b->ag b=none:=by
  intro b hb;cases al:ag b with
  |none=>rfl
  |some l=>have:=ab.lf b l al;omega
 cases uw
 ·simp only[OW]at ar;split at ar
  ·rename_i L gd;cases ar;obtain⟨A,D⟩:=Vf _ _ gd;simp only[eR]at h;split at h
   ·rename_i bQ bn jl;cases h;have di:L.length=ops.size:=(by have:=congrArg List.length A;simpa using this);refine wp_region ?_;rw[<-A];refine anX (base:=m.next) cu L z _ a w ag K U D (by rw[A];exact List.nodup_range) F (ab.hV L) b9 (λcA mn fl=> ?_) jl λed w' cT a8 bV cv fQ g0=>bb ed w' cT a8 (λb hb=>bV b hb (by have:=(Nh L m).1;omega)) cv fQ g0;have:cA.aW∈L.map (·.aW):=gG.2 ⟨cA,mn,rfl⟩;rw[A,om]at this;exact⟨by rw[(Nh L m).2 ⟨cA,mn,fl⟩];omega,G3 _ (by omega)⟩
   ·cases h
  ·cases ar
 ·simp only[OW]at ar;split at ar
  ·rename_i awk;split at ar
   ·rename_i L gd;cases ar;obtain⟨ef,e2,hF⟩:=aDP awk;obtain⟨A,D,ai,aT⟩:=afc _ [] L gd trivial;simp only[List.reverse_nil,wo]at ai aT;simp only[eR]at h;split at h
    ·rename_i bQ bn jl;cases h;have di:L.length=ops.size:=(by rw[<-hF,<-A];simp);have l2:dv aN ag (hV L m) {w with drawn:=w.drawn+1}:=(ab.hV L).aqE rfl;refine wp_region_any oY ?_;refine aeK (base:=m.next) (Vc:=m.next) cu ops.size L _ z _ a _ ag di (by simp) (λj aX=> ?_) (λj iE _ az=>by rw[getD_replicate_false]at az;cases az) D (by rw[A];exact ef) ai (λcD cA post e iE vM rv aQ hb=> .inr (aT cD cA post e iE vM rv aQ hb)) F l2 b9 (c8 _) (λcA mn fl=> ?_) (Nh L m).1 jl λed w' cT a8 bV cv fQ g0=>bb ed w' cT a8 bV cv fQ (Below.trans (a:=w) (b:={w with drawn:=w.drawn+1}) ⟨rfl,rfl,rfl,c8 _,λ_ _=>rfl⟩ g0)
     ·rw[getD_replicate_false];constructor
      ·intro h;cases h
      ·intro h;exfalso;have:j∈L.map (·.aW):=(by rw[A,e2];exact aX);obtain⟨cA,mn,e⟩:=gG.1 this;exact h cA mn e
     ·have:cA.aW∈L.map (·.aW):=gG.2 ⟨cA,mn,rfl⟩;rw[A,e2]at this;exact⟨by rw[(Nh L m).2 ⟨cA,mn,fl⟩];omega,by rw[aoF];exact auU (by omega),G3 _ (by omega)⟩
    ·cases h
   ·cases ar
  ·cases ar
theorem L7{f:aC->H->Option (cM×aC×H)}{j:Nat}{z:aC}{m:H}{r:cM×aC×H}(h:kP f (j+1) z m=some r):
 (∃bQ bn,f z m=some (.eB,bQ,bn)/\kP f j bQ bn=some r)\/(f z m=some r/\r.1≠ .eB):=by
 simp only[kP]at h;split at h
 ·rename_i bQ bn A;exact .inl ⟨bQ,bn,A,h⟩
 ·rename_i A;refine .inr ⟨h,λe=> ?_⟩;obtain⟨ek,gm,kT⟩:=r;simp only at e;subst e;exact A _ _ h
theorem vq(cu:sa P aN b4): ∀(c:aw) (z:aC) (m:H) (e:cM) (K:aC) (U:H),eR b4 n c z m=some (e,K,U)->m.next<=U.next/\ ∀b,b<m.next->m.I b=none->U.I b=none
 | .skip,z,m,e,K,U,h=>by simp[eR]at h;obtain⟨_,_,rfl⟩:=h;exact⟨c8 _,λ_ _ h=>h⟩
 | .kl ops,z,m,e,K,U,h=>by
   simp only[eR]at h;split at h
   ·rename_i bQ bn jl;cases h;have A:=Nl cu ops z _ _ jl;have D:=(Nh ops m).1;exact⟨by simp only at A;omega,λb hb aH=>abW cu hb ops z _ _ D jl (by rw[aoF];exact aH)⟩
   ·cases h
 | .uQ cD o bN,z,m,e,K,U,h=>by
   simp only[eR]at h;split at h
   ·rename_i bQ bn A;split at h
    ·rename_i av;split at h
     ·rename_i c6 cI D;cases h;have aE:=Nl cu _ _ _ _ A;rw[H.qy]at aE;have iR:iq b4 m.next o bQ bn=some (cZ bQ o.d (o.k.val (m.next+o.aW) bQ bn),o.k.hd (m.next+o.aW) bQ bn):=by
       unfold o5 at av;simp only[a6,Da]at av;refine apN ?_ (uJ (To av.2)) av.2;rw[av.1.1];rfl
      have a2:=IH cu iR;rw[H.qy];refine⟨by simp only at aE;omega,λb hb aH=> ?_⟩;rw[H.cJ];exact Uj cu iR (by simp only at aE;omega) (by omega) (abW cu hb cD z _ _ (by rw[H.qy];omega) A (by rw[H.cJ];exact aH))
     ·cases h
    ·cases h
   ·cases h
 | .ky c d,z,m,e,K,U,h=>by
   simp only[eR]at h;split at h
   ·rename_i bQ bn A;obtain⟨bt,bR⟩:=vq cu c z m _ bQ bn A;obtain⟨er,eO⟩:=vq cu d bQ bn _ _ _ h;exact⟨by omega,λb hb aH=>eO b (by omega) (bR b hb aH)⟩
   ·exact vq cu c z m _ _ _ h
 | .nx x c d,z,m,e,K,U,h=>by
   simp only[eR]at h;split at h
   ·split at h
    ·exact vq cu c z m _ _ _ h
    ·exact vq cu d z m _ _ _ h
   ·cases h
 | .block id c,z,m,e,K,U,h=>by
   simp only[eR]at h;split at h
   ·rename_i ki bQ bn A;have:=vq cu c z m _ bQ bn A;split at h<;>cases h<;>exact this
   ·exact vq cu c z m _ _ _ h
 | .loop c,z,m,e,K,U,h=>by
   simp only[eR]at h;have key: ∀(j:Nat) (z:aC) (m:H),kP (eR b4 n c) j z m=some (e,K,U)->m.next<=U.next/\ ∀b,b<m.next->m.I b=none->U.I b=none:=by
    intro j;induction j with
    |zero=>intro z m h;simp[kP]at h
    | succ j cf=>
      intro z m h;rcases L7 h with⟨bQ,bn,A,D⟩|⟨A,_⟩
      ·obtain⟨bt,bR⟩:=vq cu c z m _ bQ bn A;obtain⟨er,eO⟩:=cf bQ bn D;exact⟨by omega,λb hb aH=>eO b (by omega) (bR b hb aH)⟩
      ·exact vq cu c z m _ _ _ A
   exact key n z m h
 | .cH id,z,m,e,K,U,h=>by simp[eR]at h;obtain⟨_,_,rfl⟩:=h;exact⟨c8 _,λ_ _ h=>h⟩
 | .e3,z,m,e,K,U,h=>by simp[eR]at h;obtain⟨_,_,rfl⟩:=h;exact⟨c8 _,λ_ _ h=>h⟩
theorem ap8{e:cM}(h:e≠ .eB):e.oN≠ .normal:=by cases e<;>simp[cM.oN]at h⊢
theorem ap3{aR:Act->World->Prop}{Q:Exit->Act->World->Prop}{e:Exit}{a:Act}{w:World}(h:e≠ .normal)(bo:Q e a w):Exit.then aR Q e a w:=by cases e<;>first|exact bo|exact absurd rfl h
theorem xZ(oY:P.follows .mixedOrders=true)(cu: ∀aN,sa P aN b4): ∀(c:Code) (rJ:aw),tc P dc c=some rJ-> ∀(z:aC) (m:H) (e:cM) (K:aC) (U:H),eR b4 n rJ z m=some (e,K,U)->
 ∀(a:Act) (w:World) (ag:Ren),g7 ag dc z a->dv aN ag m w->aN<=w.heap.size-> ∀(Q:Exit->Act->World->Prop),
 (∀ed w' cT,gH ag cT->(∀b,b<m.next->cT b=ag b)->g7 cT dc K ed->dv aN cT U w'->Below aN w w'->Q e.oN ed w')->c.wp P Q a w
 | .skip,rJ,ar,z,m,e,K,U,h,a,w,ag,F,ab,b9,Q,bb=>by cases ar;simp[eR]at h;obtain⟨rfl,rfl,rfl⟩:=h;exact wp_skip (bb a w ag (gH.refl ag) (λ_ _=>rfl) F ab (Below.refl _ _))
 | .region id ops uw,rJ,ar,z,m,e,K,U,h,a,w,ag,F,ab,b9,Q,bb=>by
   simp only[tc]at ar;split at ar
   ·rename_i c az;cases ar;exact aB9 oY cu az h F ab b9 bb
   ·exact aEV oY (cu aN) ar h F ab b9 bb
 | .seq c d,rJ,ar,z,m,e,K,U,h,a,w,ag,F,ab,b9,Q,bb=>by
   simp only[tc]at ar;split at ar
   ·rename_i x y B Y;cases ar;refine wp_seq ?_;simp only[eR]at h;split at h
    ·rename_i bQ bn A;refine xZ oY cu c x B z m _ bQ bn A a w ag F ab b9 _ λbt ct oq a8 bV cv fQ g0=> ?_;have ae:=(vq (cu aN) x z m _ bQ bn A).1;refine xZ oY cu d y Y bQ bn e K U h bt ct oq cv fQ (mD b9 g0.size) Q λbR dW ot ef e2 hF j5 yP=> ?_;exact bb bR dW ot (a8.trans ef) (λb hb=>(e2 b (by omega)).trans (bV b hb)) hF j5 (g0.trans yP)
    ·rename_i bG;refine xZ oY cu c x B z m _ K U h a w ag F ab b9 _ λbt ct oq a8 bV cv fQ g0=> ?_;refine ap3 (ap8 λaQ=> ?_) (bb bt ct oq a8 bV cv fQ g0);subst aQ;exact bG _ _ h
   ·cases ar
 | .cond x c d,rJ,ar,z,m,e,K,U,h,a,w,ag,F,ab,b9,Q,bb=>by
   simp only[tc]at ar;split at ar
   ·rename_i y G Y bw;split at ar<;>cases ar;rename_i B;simp only[eR]at h;split at h
    ·rename_i hb;have al:=F.O B;cases M:O z x<;>simp[M,vU]at hb;rename_i t;rw[M]at al h;refine wp_cond al.tD ?_;simp only[xW]at h;cases t
     ·exact xZ oY cu d G bw z m e K U h a w ag F ab b9 Q bb
     ·exact xZ oY cu c y Y z m e K U h a w ag F ab b9 Q bb
    ·cases h
   ·cases ar
 | .block id c,rJ,ar,z,m,e,K,U,h,a,w,ag,F,ab,b9,Q,bb=>by
   simp only[tc]at ar;split at ar
   ·rename_i x B;cases ar;refine wp_block ?_;simp only[eR]at h;split at h
    ·rename_i ki bQ bn A;refine xZ oY cu c x B z m _ bQ bn A a w ag F ab b9 _ λbt ct oq a8 bV cv fQ g0=> ?_;show if ki=id then Q .normal bt ct else Q (.exit ki) bt ct
     split at h
     ·rename_i aQ;cases h;rw[if_pos aQ];exact bb bt ct oq a8 bV cv fQ g0
     ·rename_i aQ;cases h;rw[if_neg aQ];exact bb bt ct oq a8 bV cv fQ g0
    ·rename_i bG;refine xZ oY cu c x B z m _ K U h a w ag F ab b9 _ λbt ct oq a8 bV cv fQ g0=> ?_;have:=bb bt ct oq a8 bV cv fQ g0;cases e with
     |eB=>exact this
     |e3=>exact this
     |cH ki=>exact absurd h (bG _ _ _)
   ·cases ar
 | .loop c,rJ,ar,z,m,e,K,U,h,a,w,ag,F,ab,b9,Q,bb=>by
   simp only[tc]at ar;split at ar
   ·rename_i x B;cases ar;simp only[eR]at h;refine wp_loop_rounds n ?_
    have key: ∀(j:Nat) (z:aC) (m:H) (a:Act) (w:World) (ag:Ren),kP (eR b4 n x) j z m=some (e,K,U)->g7 ag dc z a->dv aN ag m w->aN<=w.heap.size->
     (∀ed w' cT,gH ag cT->(∀b,b<m.next->cT b=ag b)->g7 cT dc K ed->dv aN cT U w'->Below aN w w'->Q e.oN ed w')->Code.rounds P c Q j a w:=by
     intro j;induction j with
     |zero=>intro z m a w ag h;simp[kP]at h
     | succ j cf=>
       intro z m a w ag h F ab b9 bb;rw[rounds_succ];rcases L7 h with⟨bQ,bn,A,D⟩|⟨A,bG⟩
       ·have ae:=(vq (cu aN) x z m _ bQ bn A).1;refine xZ oY cu c x B z m _ bQ bn A a w ag F ab b9 _ λbt ct oq a8 bV cv fQ g0=> ?_;exact cf bQ bn bt ct oq D cv fQ (mD b9 g0.size) λbR dW ot ef e2 hF j5 yP=>bb bR dW ot (a8.trans ef) (λb hb=>(e2 b (by omega)).trans (bV b hb)) hF j5 (g0.trans yP)
       ·refine xZ oY cu c x B z m _ K U A a w ag F ab b9 _ λbt ct oq a8 bV cv fQ g0=> ?_;exact ap3 (ap8 bG) (bb bt ct oq a8 bV cv fQ g0)
    exact key n z m a w ag h F ab b9 bb
   ·cases ar
 | .exit id,rJ,ar,z,m,e,K,U,h,a,w,ag,F,ab,b9,Q,bb=>by cases ar;simp[eR]at h;obtain⟨rfl,rfl,rfl⟩:=h;exact wp_exit (bb a w ag (gH.refl ag) (λ_ _=>rfl) F ab (Below.refl _ _))
 | .ret,rJ,ar,z,m,e,K,U,h,a,w,ag,F,ab,b9,Q,bb=>by cases ar;simp[eR]at h;obtain⟨rfl,rfl,rfl⟩:=h;exact wp_ret (bb a w ag (gH.refl ag) (λ_ _=>rfl) F ab (Below.refl _ _))
 | .rangeFunc _ _ _ _,_,ar,_,_,_,_,_,_,_,_,_,_,_,_,_,_=>by cases ar
 | .scope _,_,ar,_,_,_,_,_,_,_,_,_,_,_,_,_,_=>by cases ar
 | .label _,_,ar,_,_,_,_,_,_,_,_,_,_,_,_,_,_=>by cases ar
 | .goto _,_,ar,_,_,_,_,_,_,_,_,_,_,_,_,_,_=>by cases ar
 | .refuse _,_,ar,_,_,_,_,_,_,_,_,_,_,_,_,_,_=>by cases ar
def Ik(a:Act):ResultVar->Sem Value
 | .tmp t=>Pure.pure (a.tmps.getD t undef)
 | .cell x t=>do loadVar t (<-asAddr (a.tmps.getD x undef))
theorem Vg: ∀(l:List ResultVar) (cC:List lP),zu P dc l=some cC-> ∀{z:aC} {m:H} {a:Act} {w:World} {ag:Ren},g7 ag dc z a->dv aN ag m w->mw m z cC=true->
 ∃vs:List Value,(l.mapM (m:=Sem) (Ik a)).run P w= .ok vs w/\da ag (cC.map (sG m z)) vs
 | [],cC,h,z,m,a,w,ag,F,ab,av=>by simp[zu]at h;subst h;exact⟨[],by simp,da.nil ag⟩
 | .tmp t::r,cC,h,z,m,a,w,ag,F,ab,av=>by
   simp only[zu]at h;split at h
   ·rename_i l az;split at h<;>cases h;simp only[mw,mZ,a6]at av;obtain⟨vs,A,D⟩:=Vg r l az F ab av.2;refine⟨a.tmps.getD t undef::vs,?_,da.cons (F.og t) D⟩;have lF:(Ik a (.tmp t)).run P w= .ok (a.tmps.getD t undef) w:=rfl;simp only[List.mapM_cons,Sem.run_bind,lF,Result.andThen_ok,A,Sem.run_pure]
   ·cases h
 | .cell x t::r,cC,h,z,m,a,w,ag,F,ab,av=>by
   simp only[zu]at h;split at h
   ·rename_i dr n l wT ae az;split at h<;>cases h;simp only[mw,mZ,a6,rW,ua,ey]at av;obtain⟨vs,A,D⟩:=Vg r l az F ab av.2;obtain⟨eu,ds,aD,aJ,cg,gA⟩:=aam ab (F.og x) av.1.1 av.1.2;refine⟨_::vs,?_,da.cons gA D⟩;have lF:(Ik a (.cell x t)).run P w= .ok (if dr then .agg ds.toArray else ds.headD undef) w:=by
     simp only[Ik,Sem.run_bind,aD,asAddr,Sem.run_pure,Result.andThen_ok,ab0 wT ae av.1.2 aJ cg]
    simp only[List.mapM_cons,Sem.run_bind,lF,Result.andThen_ok,A,Sem.run_pure]
   ·cases h
theorem aEZ{fn:Func}{cC:List lP}(h:zu P dc fn.results.toList=some cC){z:aC}{m:H}{a:Act}{w:World}{ag:Ren}(F:g7 ag dc z a)(ab:dv aN ag m w)(av:mw m z cC=true):
 ∃v,(results fn a.tmps).run P w= .ok v w/\dM ag (mU m z cC) v:=by
 obtain⟨vs,A,D⟩:=Vg _ _ h F ab av;refine⟨if h:vs.toArray.size=1 then vs.toArray[0]else .tuple vs.toArray,?_,?_⟩
 ·unfold results;simp only[Sem.run_bind];rw[Array.mapM_eq_mapM_toList];simp only[Sem.run_map];have a5:(List.mapM (m:=Sem) (Ik a) fn.results.toList).run P w= .ok vs w:=A;change (((Sem.run P (List.mapM (m:=Sem) (Ik a) fn.results.toList) w).andThen _).andThen _)=_;rw[a5];rfl
 ·have di:=D.1
  match cC,vs,D,di with
  |[r],[v],D,_=>exact D.2 0 _ _ rfl rfl
  |[],[],D,_=>exact dM.undef ag
  |[_],[],_,az=>simp at az
  |[_],_::_::_,_,az=>simp at az
  |[],_::_,_,az=>simp at az
  |_::_::_,[],_,az=>simp at az
  |_::_::_,[_],_,az=>simp at az
  | ek::gm::cC,q9::qk::vs,D,_=>simp only[mU,List.size_toArray,mC];rw[dif_neg (by omega)];exact D.tuple
theorem asz{f:Nat}{u:b8}(h:cd P f=some u): ∃fn c,P.funcs[f]?=some fn∧fn.body=some c∧(fn.name== "runtime.NumGoroutine")=false∧tc P fn.ntmps c=some u.body∧zu P fn.ntmps fn.results.toList=some u.j6∧u.dc=fn.ntmps:=by
 unfold cd at h;split at h
 ·rename_i fn GK;split at h
  ·cases h
  ·rename_i l3;split at h
   ·rename_i c ar;split at h
    ·rename_i b cC hb al;cases h;have awb:(fn.name== "runtime.NumGoroutine")=false:=by
      cases A:fn.name== "runtime.NumGoroutine" with
      |false=>rfl
      |true=>rw[A]at l3;simp at l3
     exact⟨fn,c,GK,ar,awb,hb,al,rfl⟩
    ·cases h
   ·cases h
 ·cases h
theorem axe{ag:Ren}{args:List Value}{lV:Array Value}(h:da ag args lV.toList)(eV:args.length<=dc):g7 ag dc (ig args) {tmps:=lV++Array.replicate (dc-lV.size) undef,defers:=[]}:=by
 have az:lV.size=args.length:=by have:=h.1;simp at this;exact this.symm
 refine⟨by simp;omega,rfl,λt=> ?_⟩;simp only[ig];rw[nQ,Array.getD_eq_getD_getElem?];by_cases ba:t<args.length
 ·obtain⟨y,Y,uF⟩:=h.I (c1 ba);rw[c1 ba,Ol (by omega)];rw[Og]at Y;rw[Y];exact uF
 ·rw[re (by omega)];rw[Array.getElem?_append_right (by omega),Array.getElem?_replicate];split<;>exact dM.undef ag
theorem afh(oY:P.follows .mixedOrders=true): ∀k aN,sa P aN (kL P k)
 |0,aN,f,args,m,r,U,h=>by simp[kL]at h
 | k+1,aN,f,args,m,r,U,h=>by
   have cf:=afh oY k;have WV: ∀id x,id<m.next->m.I id=none->kL P (k+1) f args (m.aO id x)=some (r,U.aO id x):= λid x A D=>by obtain⟨cF,aE,a2⟩:=UP.Jz (k+1) x f args m r U h (m.aO id x) ⟨rfl,A,D⟩;rw[aE,a2.eq]
   simp only[kL]at h;split at h
   ·rename_i u dh;obtain⟨fn,c,A,D,ai,aT,bF,cW⟩:=asz dh;split at h
    ·rename_i eV
     have Aq: ∀(e:cM) (K:aC) (bn:H),eR (kL P k) k u.body (ig args) m=some (e,K,bn)->(∀id,e≠ .cH id)->mw bn K u.j6=true->mU bn K u.j6=r->bn=U->
      F7 P f/\m.next<=U.next/\(∀b,b<m.next->m.I b=none->U.I b=none)/\
      (∀id x,id<m.next->m.I id=none->kL P (k+1) f args (m.aO id x)=some (r,U.aO id x))/\
      ∀ ag w (lV:Array Value),da ag args lV.toList->dv aN ag m w->aN<=w.heap.size->
        Calls P f lV w λe w'=> ∃v cT,e= .returned v/\gH ag cT/\(∀b,b<m.next->cT b=ag b)/\dM cT r v/\dv aN cT U w'/\Below aN w w':=by
      intro e K bn g2 bG av al l2;subst al;subst l2;have l3:=vq (cf aN) u.body _ _ _ _ _ g2;refine⟨⟨fn,A,by rw[D];rfl,ai⟩,l3.1,l3.2,WV,λag w lV aa ab b9=> ?_⟩;refine calls_of_wp A D ?_;rw[cW]at eV;refine xZ oY cf c u.body aT (ig args) m e K bn g2 _ w ag (axe aa eV) ab b9 _ λed w' cT a8 bV cv fQ g0=> ?_;obtain⟨v,aE,a2⟩:=aEZ bF cv fQ av
      have ahF:ed.defers=[]/\ ∃v,(results fn ed.tmps).run P w'= .ok v w'/\(λ(e:Ending) (w':World)=> ∃v cT,e= .returned v/\gH ag cT/\(∀b,b<m.next->cT b=ag b)/\dM cT (mU bn K u.j6) v/\dv aN cT bn w'/\Below aN w w') (.returned v) w':=
       ⟨cv.defers,v,aE,v,cT,rfl,a8,bV,a2,fQ,g0⟩
      cases e with
      |eB=>exact ahF
      |e3=>exact ahF
      |cH id=>exact absurd rfl (bG id)
     split at h
     ·cases h
     ·rename_i e K bn bG g2;split at h
      ·rename_i av;cases h;exact Aq e K U g2 (λid aQ=>bG id aQ) av rfl rfl
      ·cases h
     ·cases h
    ·cases h
   ·split at h
    ·rename_i jc;exact⟨jc.1,axh h,λb A D=>axi h A D,WV,λag w lV aa ab b9=>jc.2 aN args m r U h ag w lV aa ab b9⟩
    ·cases h
end
section bD
variable {b4 Bj:Callee}
def On(b4 Bj:Callee):Prop:= ∀f a m r,b4 f a m=some r->Bj f a m=some r
theorem aHs(h:On b4 Bj){base:Nat}{o:cO}{z:aC}{m:H}{r:aC×H}(F:iq b4 base o z m=some r):iq Bj base o z m=some r:=by
 unfold iq at F⊢;by_cases aS:eX z o.g=true
 ·rw[if_pos aS]at F⊢;cases ar:o.k.fF z m with
  |none=>rw[ar]at F;exact F
  | some ml=>
    obtain⟨f,args⟩:=ml;rw[ar]at F;simp only at F⊢;cases a5:b4 f args m with
    |none=>rw[a5]at F;cases F
    |some IT=>rw[a5]at F;rw[h _ _ _ _ a5];exact F
 ·rw[if_neg aS]at F⊢;exact F
theorem Fs(h:On b4 Bj){base:Nat}: ∀{L:List cO} {z:aC} {m:H} {r:aC×H},k3 b4 base L z m=some r->k3 Bj base L z m=some r
 |[],_,_,_,F=>F
 | _::_,_,_,_,F=>by obtain⟨bQ,bn,A,D,ai⟩:=sI F;exact AD (aHs h A) D (Fs h ai)
theorem SO{f g:aC->H->Option (cM×aC×H)}(h: ∀z m r,f z m=some r->g z m=some r): ∀{n gQ:Nat} {z:aC} {m:H} {r:cM×aC×H},n<=gQ->kP f n z m=some r->kP g gQ z m=some r
 |0,_,_,_,_,_,F=>by simp[kP]at F
 |n+1,0,_,_,_,ae,_=>by omega
 | n+1,gQ+1,z,m,r,ae,F=>by
   rcases L7 F with⟨bQ,bn,A,D⟩|⟨A,D⟩
   ·simp only[kP,h _ _ _ A];exact SO h (by omega) D
   ·obtain⟨ek,gm,kT⟩:=r;simp only[kP,h _ _ _ A];cases ek with
    |eB=>exact absurd rfl D
    |cH id=>rfl
    |e3=>rfl
theorem x3(h:On b4 Bj){n gQ:Nat}(ae:n<=gQ): ∀{c:aw} {z:aC} {m:H} {r:cM×aC×H},eR b4 n c z m=some r->eR Bj gQ c z m=some r
 | .skip,_,_,_,F=>F
 | .kl ops,z,m,r,F=>by
   simp only[eR]at F⊢;split at F
   ·rename_i al;rw[Fs h al];exact F
   ·cases F
 | .uQ cD o bN,z,m,r,F=>by
   simp only[eR]at F⊢;split at F
   ·rename_i A;split at F
    ·rename_i av;split at F
     ·rename_i D;rw[Fs h A];simp only[av,if_true,Fs h D];exact F
     ·cases F
    ·cases F
   ·cases F
 | .ky a b,z,m,r,F=>by
   simp only[eR]at F⊢;split at F
   ·rename_i A;rw[x3 h ae A];exact x3 h ae F
   ·rename_i bG;rw[x3 h ae F];obtain⟨ek,gm,kT⟩:=r;cases ek with
    |eB=>exact absurd F (bG _ _)
    |cH id=>rfl
    |e3=>rfl
 | .nx x a b,z,m,r,F=>by
   simp only[eR]at F⊢;split at F
   ·rename_i A;rw[if_pos A];split at F
    ·rename_i D;rw[if_pos D];exact x3 h ae F
    ·rename_i D;rw[if_neg D];exact x3 h ae F
   ·cases F
 | .block id c,z,m,r,F=>by
   simp only[eR]at F⊢;split at F
   ·rename_i A;rw[x3 h ae A];exact F
   ·rename_i bG;rw[x3 h ae F];obtain⟨ek,gm,kT⟩:=r;cases ek with
    |eB=>rfl
    |cH id=>exact absurd F (bG _ _ _)
    |e3=>rfl
 | .loop c,z,m,r,F=>by simp only[eR]at F⊢;exact SO (λz m r A=>x3 h ae A) ae F
 | .cH id,_,_,_,F=>F
 | .e3,_,_,_,F=>F
theorem Bg{P:Program}: ∀{n gQ:Nat},n<=gQ->On (kL P n) (kL P gQ)
 |0,_,_=> λf a m r h=>by simp[kL]at h
 |n+1,0,ae=>by omega
 | n+1,gQ+1,ae=> λf a m r h=>by
   simp only[kL]at h⊢;split at h
   ·rename_i u dh;split at h
    ·rename_i eV;rw[if_pos eV];split at h
     ·cases h
     ·rename_i e K U bG g2;rw[x3 (Bg (by omega:n<=gQ)) (by omega:n<=gQ) g2];cases e with
      |eB=>exact h
      |e3=>exact h
      |cH id=>exact absurd rfl (bG id)
     ·cases h
    ·cases h
   ·exact h
end bD
section wp
variable (P:Program)
def ep(f:Nat)(args:List Value)(m:H)(bA:Value->H->Prop):Prop:= ∃n r U,kL P n f args m=some (r,U)/\bA r U
def fG(c:aw)(z:aC)(m:H)(Q:cM->aC->H->Prop):Prop:= ∃n e K U,eR (kL P n) n c z m=some (e,K,U)/\Q e K U
def fy(base:Nat)(ops:List cO)(z:aC)(m:H)(aR:aC->H->Prop):Prop:= ∃n K U,k3 (kL P n) base ops z m=some (K,U)/\aR K U
def Ur(b:aw)(Q:cM->aC->H->Prop)(e:cM)(z:aC)(m:H):Prop:=match e with| .eB=>fG P b z m Q|e=>Q e z m
def zt(id:Nat)(Q:cM->aC->H->Prop)(e:cM)(z:aC)(m:H):Prop:=match e with| .cH ki=>if ki=id then Q .eB z m else Q (.cH ki) z m|e=>Q e z m
def S5(c:aw)(Q:cM->aC->H->Prop)(e:cM)(z:aC)(m:H):Prop:=match e with| .eB=>fG P (.loop c) z m Q|e=>Q e z m
def nn(cC:List lP)(bA:Value->H->Prop)(e:cM)(z:aC)(m:H):Prop:=match e with| .cH _=>False|_=>mw m z cC=true/\bA (mU m z cC) m
def wF(base:Nat)(d:Option Nat)(bd:List (Operand×Operand))(bN:List cO)(z:aC)(m:H)(aR:aC->H->Prop)(r:Value)(U:H):Prop:=uP z bd m U/\fy P base bN (cZ z d r) U aR
variable {P} {z:aC} {m:H} {Q:cM->aC->H->Prop}
theorem NX{b:aw}:Ur P b Q .eB z m=fG P b z m Q:=rfl
theorem aHF{b:aw}{id:Nat}:Ur P b Q (.cH id) z m=Q (.cH id) z m:=rfl
theorem aHG{b:aw}:Ur P b Q .e3 z m=Q .e3 z m:=rfl
theorem asq{id:Nat}:zt id Q .eB z m=Q .eB z m:=rfl
theorem Gk{id ki:Nat}:zt id Q (.cH ki) z m=if ki=id then Q .eB z m else Q (.cH ki) z m:=rfl
theorem asr{id:Nat}:zt id Q .e3 z m=Q .e3 z m:=rfl
theorem amX{c:aw}:S5 P c Q .eB z m=fG P (.loop c) z m Q:=rfl
theorem aCB{c:aw}{id:Nat}:S5 P c Q (.cH id) z m=Q (.cH id) z m:=rfl
theorem aCC{c:aw}:S5 P c Q .e3 z m=Q .e3 z m:=rfl
theorem aE0{u:List lP}{bA:Value->H->Prop}:nn u bA .eB z m=(mw m z u=true/\bA (mU m z u) m):=rfl
theorem aE1{u:List lP}{bA:Value->H->Prop}:nn u bA .e3 z m=(mw m z u=true/\bA (mU m z u) m):=rfl
theorem Gx{n gQ:Nat}(h:n<=gQ){c:aw}{r:cM×aC×H}(F:eR (kL P n) n c z m=some r):eR (kL P gQ) gQ c z m=some r:=x3 (Bg h) h F
theorem adQ:fG P .skip z m Q=Q .eB z m:=by refine propext ⟨λ⟨n,e,K,U,h,q⟩=> ?_,λh=>⟨0,_,_,_,rfl,h⟩⟩;cases h;exact q
theorem adN{id:Nat}:fG P (.cH id) z m Q=Q (.cH id) z m:=by refine propext ⟨λ⟨n,e,K,U,h,q⟩=> ?_,λh=>⟨0,_,_,_,rfl,h⟩⟩;cases h;exact q
theorem adP:fG P .e3 z m Q=Q .e3 z m:=by refine propext ⟨λ⟨n,e,K,U,h,q⟩=> ?_,λh=>⟨0,_,_,_,rfl,h⟩⟩;cases h;exact q
theorem adO{ops:List cO}:fG P (.kl ops) z m Q=fy P m.next ops z (hV ops m) (Q .eB):=by
 refine propext ⟨λ⟨n,e,K,U,h,q⟩=> ?_,λ⟨n,K,U,h,q⟩=>⟨n,.eB,K,U,by simp only[eR,h],q⟩⟩;simp only[eR]at h;split at h
 ·rename_i al;cases h;exact⟨n,_,_,al,q⟩
 ·cases h
def Mz(o:cO)(Q:cM->aC->H->Prop)(id:Nat)(bQ:aC)(bn:H)(c6:aC)(cI:H):Prop:=Q .eB c6 ((o.k.hd id bQ bn).b0 (cI.next-bn.next))
theorem aqF{cD:List cO}{o:cO}{bN:List cO}:fG P (.uQ cD o bN) z m Q=fy P m.next cD z (m.b0 (cD.length+(bN.length+1))) λbQ bn=>
 o5 o bQ bn=true/\fy P m.next bN (cZ bQ o.d (o.k.val (m.next+o.aW) bQ bn)) (pH bn) (Mz o Q (m.next+o.aW) bQ bn):=by
 refine propext ⟨λ⟨n,e,K,U,h,q⟩=> ?_,λ⟨n,bQ,bn,h,av,ee,c6,cI,D,q⟩=>⟨max n ee,.eB,c6,_,by simp only[eR,Fs (Bg (Nat.le_max_left n ee)) h,av,if_true,Fs (Bg (Nat.le_max_right n ee)) D],q⟩⟩;simp only[eR]at h;split at h
 ·rename_i bQ bn A;split at h
  ·rename_i av;split at h
   ·rename_i c6 cI D;cases h;exact⟨n,bQ,bn,A,av,n,_,cI,D,q⟩
   ·cases h
  ·cases h
 ·cases h
theorem Uy{a b:aw}:fG P (.ky a b) z m Q=fG P a z m (Ur P b Q):=by
 refine propext ⟨λ⟨n,e,K,U,h,q⟩=> ?_,λ⟨n,e,K,U,h,q⟩=> ?_⟩
 ·simp only[eR]at h;split at h
  ·rename_i bQ bn A;exact⟨n,.eB,bQ,bn,A,n,e,K,U,h,q⟩
  ·rename_i bG;refine⟨n,e,K,U,h,?_⟩;cases e with
   |eB=>exact absurd h (bG _ _)
   |cH id=>exact q
   |e3=>exact q
 ·cases e with
  | eB=>obtain⟨ee,aJ,c6,cI,D,bV⟩:=q;refine⟨max n ee,aJ,c6,cI,?_,bV⟩;simp only[eR,Gx (Nat.le_max_left n ee) h];exact Gx (Nat.le_max_right n ee) D
  |cH id=>exact⟨n,_,K,U,by simp only[eR,h],q⟩
  |e3=>exact⟨n,_,K,U,by simp only[eR,h],q⟩
theorem Ux{c:Operand}{a b:aw}:fG P (.nx c a b) z m Q=(vU (O z c)=true/\if xW (O z c)=true then fG P a z m Q else fG P b z m Q):=by
 refine propext ⟨λ⟨n,e,K,U,h,q⟩=> ?_,λ⟨A,D⟩=> ?_⟩
 ·simp only[eR]at h;split at h
  ·rename_i A;refine⟨A,?_⟩;split at h
   ·rename_i D;rw[if_pos D];exact⟨n,e,K,U,h,q⟩
   ·rename_i D;rw[if_neg D];exact⟨n,e,K,U,h,q⟩
  ·cases h
 ·split at D
  ·rename_i ai;obtain⟨n,e,K,U,h,q⟩:=D;exact⟨n,e,K,U,by simp only[eR,if_pos A,if_pos ai,h],q⟩
  ·rename_i ai;obtain⟨n,e,K,U,h,q⟩:=D;exact⟨n,e,K,U,by simp only[eR,if_pos A,if_neg ai,h],q⟩
theorem N8{id:Nat}{c:aw}:fG P (.block id c) z m Q=fG P c z m (zt id Q):=by
 refine propext ⟨λ⟨n,e,K,U,h,q⟩=> ?_,λ⟨n,e,K,U,h,q⟩=> ?_⟩
 ·simp only[eR]at h;split at h
  ·rename_i ki bQ bn A;refine⟨n,.cH ki,bQ,bn,A,?_⟩;rw[Gk];split at h
   ·rename_i aQ;cases h;rw[if_pos aQ];exact q
   ·rename_i aQ;cases h;rw[if_neg aQ];exact q
  ·rename_i bG;refine⟨n,e,K,U,h,?_⟩;cases e with
   |eB=>exact q
   |cH ki=>exact absurd h (bG _ _ _)
   |e3=>exact q
 ·cases e with
  |eB=>exact⟨n,.eB,K,U,by simp only[eR,h],q⟩
  |e3=>exact⟨n,.e3,K,U,by simp only[eR,h],q⟩
  | cH ki=>
    rw[Gk]at q;split at q
    ·rename_i aQ;exact⟨n,.eB,K,U,by simp only[eR,h,if_pos aQ],q⟩
    ·rename_i aQ;exact⟨n,.cH ki,K,U,by simp only[eR,h,if_neg aQ],q⟩
theorem aqG{c:aw}:fG P (.loop c) z m Q=fG P c z m (S5 P c Q):=by
 refine propext ⟨λ⟨n,e,K,U,h,q⟩=> ?_,λ⟨n,e,K,U,h,q⟩=> ?_⟩
 ·simp only[eR]at h;cases n with
  |zero=>simp[kP]at h
  | succ n=>
    rcases L7 h with⟨bQ,bn,A,D⟩|⟨A,D⟩
    ·refine⟨n+1,.eB,bQ,bn,A,n+1,e,K,U,?_,q⟩;simp only[eR];exact SO (λ_ _ _ h=>h) (by omega) D
    ·refine⟨n+1,e,K,U,A,?_⟩;cases e with
     |eB=>exact absurd rfl D
     |cH id=>exact q
     |e3=>exact q
 ·cases e with
  | eB=>obtain⟨ee,aJ,c6,cI,D,bV⟩:=q;refine⟨max n ee+1,aJ,c6,cI,?_,bV⟩;simp only[eR]at D⊢;have A:eR (kL P (max n ee+1)) (max n ee+1) c z m=some (.eB,K,U):=Gx (by omega) h;simp only[kP,A];exact SO (λ_ _ _ h=>Gx (by omega) h) (by omega) D
  |cH id=>exact⟨n+1,_,K,U,by simp only[eR,kP];rw[Gx (by omega:n<=n+1) h],q⟩
  |e3=>exact⟨n+1,_,K,U,by simp only[eR,kP];rw[Gx (by omega:n<=n+1) h],q⟩
theorem nN{f:Nat}{args:List Value}{bA:Value->H->Prop}{u:b8}(dh:cd P f=some u)(az:args.length<=u.dc):ep P f args m bA=fG P u.body (ig args) m (nn u.j6 bA):=by
 refine propext ⟨λ⟨n,r,U,h,q⟩=> ?_,λ⟨n,e,K,U,h,q⟩=> ?_⟩
 ·cases n with
  |zero=>simp[kL]at h
  | succ n=>
    simp only[kL,dh,if_pos az]at h;split at h
    ·cases h
    ·rename_i e K bn bG g2;split at h
     ·rename_i av;cases h;refine⟨n,e,K,U,g2,?_⟩;cases e with
      |eB=>exact⟨av,q⟩
      |e3=>exact⟨av,q⟩
      |cH id=>exact absurd rfl (bG id)
     ·cases h
    ·cases h
 ·cases e with
  |eB=>exact⟨n+1,_,U,by simp only[kL,dh,if_pos az,h,q.1,if_true],q.2⟩
  |e3=>exact⟨n+1,_,U,by simp only[kL,dh,if_pos az,h,q.1,if_true],q.2⟩
  |cH id=>exact q.elim
theorem aIy{f:Nat}{args:List Value}{bA:Value->H->Prop}(dh:cd P f=none)(jc:Ja P f){r:Value}{U:H}(h:tB args m=some (r,U))(q:bA r U):ep P f args m bA:=
 ⟨1,r,U,by simp only[kL,dh,if_pos jc,h],q⟩
def qq(P:Program)(f:Nat)(args:List Value)(m:H)(r:Value)(U:H):Prop:= ∃n,kL P n f args m=some (r,U)
theorem qq.wp{f:Nat}{args:List Value}{r:Value}{U:H}(h:qq P f args m r U){bA:Value->H->Prop}:ep P f args m bA=bA r U:=by obtain⟨n,ae⟩:=h;refine propext ⟨λ⟨gQ,dZ,vV,cn,q⟩=> ?_,λq=>⟨n,r,U,ae,q⟩⟩;have A:=Bg (Nat.le_max_left n gQ) _ _ _ _ ae;have D:=Bg (Nat.le_max_right n gQ) _ _ _ _ cn;rw[A]at D;cases D;exact q
theorem qq.xt{f:Nat}{args:List Value}{r:Value}{U:H}(h:ep P f args m λdZ vV=>dZ=r/\vV=U):qq P f args m r U:=by obtain⟨n,dZ,vV,A,rfl,rfl⟩:=h;exact⟨n,A⟩
theorem ep.bD{f:Nat}{args:List Value}{bA uc:Value->H->Prop}(h:ep P f args m bA)(bo: ∀r U,bA r U->uc r U):ep P f args m uc:=by obtain⟨n,r,U,A,q⟩:=h;exact⟨n,r,U,A,bo _ _ q⟩
theorem fG.bD{c:aw}{A8:cM->aC->H->Prop}(h:fG P c z m Q)(bo: ∀e K U,Q e K U->A8 e K U):fG P c z m A8:=by obtain⟨n,e,K,U,A,q⟩:=h;exact⟨n,e,K,U,A,bo _ _ _ q⟩
variable {aR:aC->H->Prop} {base aW:Nat} {bN:List cO} {d:Option Nat} {g:Option (Nat×Bool)} {bd:List (Operand×Operand)}
theorem adT:fy P base [] z m aR=aR z m:=by refine propext ⟨λ⟨n,K,U,h,q⟩=> ?_,λh=>⟨0,_,_,rfl,h⟩⟩;cases h;exact q
theorem aFH{n gQ:Nat}(h:n<=gQ){L:List cO}{r:aC×H}(F:k3 (kL P n) base L z m=some r):k3 (kL P gQ) base L z m=some r:=Fs (Bg h) F
theorem nr{k:ah}(S:k.ln=false):fy P base (⟨aW,d,none,k,bd⟩::bN) z m aR=(k.ok z m=true/\iX z bd=true/\fy P base bN (cZ z d (k.val (base+aW) z m)) (k.hd (base+aW) z m) aR):=by
 have gP:k.fF z m=none:=uJ S;refine propext ⟨λ⟨n,K,U,h,q⟩=> ?_,λ⟨A,D,n,K,U,ai,q⟩=> ?_⟩
 ·obtain⟨bQ,bn,A,D,ai⟩:=sI h;obtain⟨av,e⟩:=Uk (o:=⟨aW,d,none,k,bd⟩) rfl gP A;cases e;have aT:=D rfl;simp only[gP]at aT;exact⟨av,aT,n,K,U,ai,q⟩
 ·refine⟨n,K,U,AD (apN (o:=⟨aW,d,none,k,bd⟩) rfl gP A) (λ_=> ?_) ai,q⟩;simp only[gP];exact D
theorem UA{k:ah}{t:Nat}{b:Bool}:fy P base (⟨aW,d,some (t,b),k,bd⟩::bN) z m aR=if eX z (some (t,b))=true then fy P base (⟨aW,d,none,k,bd⟩::bN) z m aR else fy P base bN (cZ z d undef) m aR:=by
 split
 ·rename_i aS;have iR: ∀b4:Callee,iq b4 base ⟨aW,d,some (t,b),k,bd⟩ z m=iq b4 base ⟨aW,d,none,k,bd⟩ z m:= λb4=>by
   unfold iq;simp only[aS,if_true,show eX z none=true from rfl]
  have ag4: ∀U,qz ⟨aW,d,some (t,b),k,bd⟩ z m U↔qz ⟨aW,d,none,k,bd⟩ z m U:= λU=>⟨λh _=>h aS,λh _=>h rfl⟩;refine propext ⟨λ⟨n,K,U,h,q⟩=> ?_,λ⟨n,K,U,h,q⟩=> ?_⟩
  ·obtain⟨bQ,bn,A,D,ai⟩:=sI h;exact⟨n,K,U,AD (by rw[<-iR];exact A) ((ag4 _).1 D) ai,q⟩
  ·obtain⟨bQ,bn,A,D,ai⟩:=sI h;exact⟨n,K,U,AD (by rw[iR];exact A) ((ag4 _).2 D) ai,q⟩
 ·rename_i aS;have kE:eX z (some (t,b))=false:=(by simpa using aS);refine propext ⟨λ⟨n,K,U,h,q⟩=> ?_,λ⟨n,K,U,h,q⟩=> ?_⟩
  ·obtain⟨bQ,bn,A,D,ai⟩:=sI h;rw[CT (o:=⟨aW,d,some (t,b),k,bd⟩) kE]at A;cases A;exact⟨n,K,U,ai,q⟩
  ·exact⟨n,K,U,AD (CT (o:=⟨aW,d,some (t,b),k,bd⟩) kE) (λh=>absurd h aS) h,q⟩
theorem Uz{k:ah}{f:Nat}{args:List Value}(gP:k.fF z m=some (f,args)):fy P base (⟨aW,d,none,k,bd⟩::bN) z m aR=ep P f args m (wF P base d bd bN z m aR):=by
 refine propext ⟨λ⟨n,K,U,h,q⟩=> ?_,λ⟨n,r,bn,h,A,ee,c6,cI,D,q⟩=> ?_⟩
 ·obtain⟨bQ,bn,A,D,ai⟩:=sI h;obtain⟨v,cI,aE,a2⟩:=II (o:=⟨aW,d,none,k,bd⟩) rfl gP A;cases a2;have aT:=D rfl;simp only[gP]at aT;exact⟨n,v,_,aE,aT,n,K,U,ai,q⟩
 ·refine⟨max n ee,c6,cI,AD (NS (o:=⟨aW,d,none,k,bd⟩) rfl gP (Bg (Nat.le_max_left n ee) _ _ _ _ h)) (λ_=> ?_) (aFH (Nat.le_max_right n ee) D),q⟩;simp only[gP];exact A
theorem adR{f:Nat}{bu:List Operand}:fy P base (⟨aW,d,none,.lA f bu,bd⟩::bN) z m aR=ep P f (bu.map (O z)) m (wF P base d bd bN z m aR):=Uz rfl
theorem adS{x:Operand}{bu:List Operand}{f:Nat}{first kr:Array Value}(h:O z x= .func (.func f) first kr):
 fy P base (⟨aW,d,none,.m2 x bu,bd⟩::bN) z m aR=ep P f (first.toList++bu.map (O z)++kr.toList) m (wF P base d bd bN z m aR):=Uz (by simp only[ah.fF,h])
theorem Jy{r:Value}{U:H}:wF P base d [] bN z m aR r U=fy P base bN (cZ z d r) U aR:=by simp[wF,uP]
theorem as3:iX z []=true:=rfl
end wp
theorem dv.empty{aN:Nat}{w:World}:dv aN (λ_=>none) ⟨0,λ_=>none,λ_=>none⟩ w where
 lf:= λ_ _ h=>by cases h
 l4:= λ_ _ h=>by cases h
 l8:= λb x h=>by unfold H.I at h;split at h<;>cases h
 rA:= λb x cw hy l c5 h=>by unfold H.I at h;split at h<;>cases h
 xn:= λ_ _ h=>by cases h
 maps:= λb es h=>by simp only[H.fu,H.I,xO,if_false]at h;cases h
 tK:= λb x l h=>by unfold H.I at h;split at h<;>cases h
end Go.DI
