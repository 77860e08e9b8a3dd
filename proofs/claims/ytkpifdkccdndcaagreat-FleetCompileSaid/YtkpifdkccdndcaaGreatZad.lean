/-
  A part of the proof of the statement, in texts that tools of ours (wip/shrink.py, irpack.py, relax.py, minify.py, join.py, lay.py) have shortened.
-/
import Derived.LoopN
import Derived.StillTail
import Derived.Test.YtkpifdkccdndcaaGreatZac
set_option linter.all false
set_option maxRecDepth 8000
set_option maxHeartbeats 16000000
namespace Go.DI
open Go Go.RowKit
def vt(l:List b6):List Nat:=l.filterMap (·.d)
section
variable {P:Program} {bu:Nat} {df:Callee} {base:Nat} {ops:Array Oper} {ek:Nat}
theorem Nq{k i:b6}{b cQ:List Nat}(h: ∀t∈cQ,t∈b)(aB:sA k i b=true):sA k i cQ=true:=by
  have afb: ∀t,(!b.contains t)=true->(!cQ.contains t)=true:=by intro t bH;simp at bH⊢;exact λcE=>bH (h t cE)
  have w1: ∀l:List Nat,(l.all λt=> !b.contains t&&k.d !=some t)=true->(l.all λt=> !cQ.contains t&&k.d !=some t)=true:=by intro l aG;rw[List.all_eq_true]at aG⊢;intro t bH;have:=aG t bH;rw[Bool.and_eq_true]at this⊢;exact⟨afb t this.1,this.2⟩
  simp only[sA,Bool.and_eq_true]at aB⊢;refine⟨aB.1,?_⟩;have om:=aB.2;split at om
  · rename_i z;rw[if_pos z];simp only[Bool.and_eq_true]at om⊢;exact⟨om.1,w1 _ om.2⟩
  · rename_i z;rw[if_neg z];split at om
    · rename_i D;rw[if_pos D];exact om
    · rename_i D;rw[if_neg D];simp only[Bool.and_eq_true,Bool.or_eq_true]at om⊢;refine⟨om.1.imp id λZ=>⟨Z.1,?_⟩,w1 _ om.2⟩;cases aR:k.d with
      |none=>rfl
      |some d=>rw[aR]at Z;exact afb d Z.2
theorem anj{o:b6}{u ag:aL}{m N:B}(h:jb df base o u m=some (ag,N)){t:Nat}(bH:o.d≠some t):ag t=u t:=by
  unfold jb at h;split at h
  · split at h
    · split at h
      · cases h;exact AG bH
      · cases h
    · split at h
      · cases h;exact AG bH
      · cases h
  · cases h;exact AG bH
theorem move(eb:ud P bu df){i:b6}{post:List b6}{am5:aL×B}: ∀(cD:List b6) (u:aL) (m:B),mN df base (cD++i::post) u m=some am5->
    (∀cf k C,cD=cf++k::C->sA k i (vt C)=true/\ ∀p∈sg k i,p∈i.bx)->(∀k∈cD,k.bc≠i.bc)->(i.k.gF=true->m.M (base+i.bc)=none/\base+i.bc<m.next)->
    ∃c7 bz xM xz R8,jb df base i u m=some (c7,bz)/\mN df base (cD++post) c7 bz=some am5/\q1 i xM xz R8/\(∀t,t∉vt cD->xM t=u t)/\(i.k.mu=true->fN u i.g=true->xz=m/\R8=bz)
  | [],u,m,h,_,_,_=>by obtain⟨c7,bz,z,D,Z⟩:=tW h;exact⟨c7,bz,u,m,bz,z,Z,D,λ_ _=>rfl,λ_ _=>⟨rfl,rfl⟩⟩
  | k::cD,u,m,h,aB,ix,aI=>by
    obtain⟨fb,b4,z,D,Z⟩:=tW h;have DG:=ix k (by simp);have Jt:=aB [] k cD rfl;obtain⟨zi,gI,xM,xz,R8,aC,a2,bS,fA,kp⟩:=move eb cD fb b4 Z (λcf gN C e=>aB (k::cf) gN C (by rw[e];rfl)) (λgN uC=>ix gN (by simp[uC])) (λiE=>⟨abP eb z (aI iE).2 (by omega) (aI iE).1,Nat.lt_of_lt_of_le (aI iE).2 (Mu eb z)⟩)
    -- anZ i yV qG not aRk by aPS apq akw
    have afq: ∀t,t∈i.yV->t∉vt cD:=(by intro t bH aR;obtain⟨gN,uC,DE⟩:=List.mem_filterMap.1 aR;obtain⟨cf,C,e⟩:=List.append_of_mem uC;have:=(aB (k::cf) gN C (by rw[e];rfl)).1;simp only[sA,Bool.and_eq_true]at this;rw[DE]at this;exact EF this.1.1.2 bH);have OG:fN xM i.g=fN fb i.g:=by
      cases aj:i.g with
      |none=>rfl
      |some ME=>obtain⟨t,b⟩:=ME;simp only[fN];rw[fA t (afq t (List.mem_append_right _ (by simp[aj])))]
    have Vb: ∀x∈i.k.iY,ab xM x=ab fb x:= λx H=>Bh λt bH=>fA t (afq t (List.mem_append_left _ (Cz H bH)));have de:aco k i fb b4 gI:=by
      intro aO;have jZ:=bS (by rw[OG];exact aO);have hG:i.k.gE xM xz=i.k.gE fb b4:=by
        rw[(zw (m:=xz) (id:=0) Vb).2.2.2];cases Dx:i.k.mu with
        |true=>rw[(kp Dx aO).1]
        |false=>rw[vU Dx,vU Dx]
      rw[hG]at jZ;have w2:=Jt.1;simp only[sA,Bool.and_eq_true]at w2;obtain⟨_,w2⟩:=w2;cases bt:i.k.gE fb b4 with
      | some mW=>
        have nD:=Ni bt;rw[bt]at jZ;simp only at jZ⊢;obtain⟨rfl,rfl⟩:=kp nD aO;rw[if_pos nD]at w2;simp only[Bool.and_eq_true]at w2;intro p aq b L;have fh:=aq;simp only[sg,nD,if_true]at fh;obtain⟨x,H,rfl⟩:=List.mem_map.1 fh;refine jZ _ (Jt.2 _ aq) b ?_;rw[show ab xM x=ab fb x from Bh λt bH=>fA t (λaR=> ?_)]
        · exact L
        · have:=List.all_eq_true.1 w2.2 t (Cz H bH);simp at this;exact this.1 aR
      | none=>
        rw[bt]at jZ;simp only[mh,List.all_eq_true]at jZ;simp only;intro p aq a b aE L e;by_cases nD:i.k.mu=true
        · -- acB aMp aPO aPl eI aHf aHp:akw aIT not run
          have:=TX aO bt aC;rw[nD]at this;cases this
        rw[if_neg nD]at w2;by_cases uD:k.k.mu=true
        · simp only[sg,if_neg nD,if_pos uD]at aq;cases aq
        rw[if_neg uD]at w2;simp only[Bool.and_eq_true,Bool.or_eq_true,Bool.not_eq_true']at w2;have fh:=aq;simp only[sg,if_neg nD,if_neg uD]at fh;have aft: ∀x∈k.k.ma++k.k.o2,ab xM x=ab fb x:= λx H=>Bh λt bH=>fA t λaR=>by have:=List.all_eq_true.1 w2.2 t (Cz H bH);simp at this;exact this.1 aR
        have fP:ab xM p.1=ab fb p.1/\ab xM p.2=ab fb p.2:=by
          rcases List.mem_append.1 fh with aw|aw
          · obtain⟨x,H,aX⟩:=List.mem_flatMap.1 aw;obtain⟨y,ah,rfl⟩:=List.mem_map.1 aX;refine⟨?_,Vb y (aaN y ah)⟩;rcases List.mem_append.1 H with cC|cC
            · exact aft x (List.mem_append_right _ cC)
            · split at cC
              · rename_i iE;rcases w2.1 with gn|gn
                · rw[iE]at gn;cases gn
                · cases aR:k.d with
                  |none=>rw[aR]at cC;cases cC
                  | some d=>rw[aR]at cC gn;simp only[Nw,List.mem_singleton]at cC;subst cC;exact fA d (EF gn.2)
              · cases cC
          · obtain⟨x,H,aX⟩:=List.mem_flatMap.1 aw;obtain⟨y,ah,rfl⟩:=List.mem_map.1 aX;exact⟨aft x (List.mem_append_left _ H),Vb y (aaN y (List.mem_append_right _ ah))⟩
        have:=jZ p (Jt.2 p aq);obtain⟨x,y⟩:=p;simp only at this aE L fP;rw[fP.1,fP.2,aE,L]at this;simp[e]at this
    obtain⟨c7,bz,bm,bU,cn,fa⟩:=aDb eb Jt.1 DG (λiE=>(aI iE).1) (λiE=>(aI iE).2) z D aC de;refine⟨c7,bz,xM,xz,R8,bm,AK bU cn a2,bS,λt bH=> ?_,λaX cC=> ?_⟩
    · have JO:t∉vt cD:= λaR=>bH (by
        obtain⟨gN,uC,DE⟩:=List.mem_filterMap.1 aR;exact List.mem_filterMap.2 ⟨gN,by simp[uC],DE⟩)
      have auE:k.d≠some t:= λaR=>bH (List.mem_filterMap.2 ⟨k,by simp,aR⟩);rw[fA t JO,anj z auE]
    · have afa:uZ i.yV k.d=true:=by
        have:=Jt.1;simp only[sA,Bool.and_eq_true]at this;exact this.1.1.2
      have afy:fN fb i.g=true:=by
        cases aj:i.g with
        |none=>rfl
        | some ME=>
          obtain⟨t,b⟩:=ME;rw[aj]at cC;simp only[fN]at cC⊢;rw[anj z (t:=t) λaR=> ?_]
          · exact cC
          · rw[aR]at afa;exact EF afa (List.mem_append_right _ (by simp[aj]))
      obtain⟨rfl,rfl⟩:=kp aX afy;exact⟨(fa aX cC).1.symm,(fa aX cC).2.symm⟩
def rF(jm:List Nat):List b6->Prop
  |[]=>True
  |k::b0=>(∀cD i post,b0=cD++i::post->(jm.getD i.bc 0).testBit k.bc=true\/(sA k i (vt cD)=true/\ ∀p∈sg k i,p∈i.bx))/\rF jm b0
theorem rF.pC{jm:List Nat}: ∀(cf:List b6) (k:b6) (C:List b6) (i:b6) (aW:List b6),rF jm (cf++k::C++i::aW)->(jm.getD i.bc 0).testBit k.bc=true\/(sA k i (vt C)=true/\ ∀p∈sg k i,p∈i.bx)
  |[],_,C,i,aW,h=>h.1 C i aW rfl
  |_::cf,k,C,i,aW,h=>rF.pC cf k C i aW h.2
theorem rF.amr{jm:List Nat}: ∀(cf:List b6) (x:b6) (C:List b6),rF jm (cf++x::C)->rF jm (cf++C)
  |[],_,_,h=>h.2
  | k::cf,x,C,h=>by
    refine⟨λcD i post e=> ?_,rF.amr cf x C h.2⟩;rcases List.append_eq_append_iff.1 e with⟨as,aM,a1⟩|⟨lY,aM,a1⟩
    · -- i aLd M9 x
      have:=h.1 (cf++x::as) i post (by rw[a1];simp);refine this.imp id λcE=>⟨Nq (λt bH=> ?_) cE.1,cE.2⟩;rw[aM]at bH;obtain⟨gN,uC,DE⟩:=List.mem_filterMap.1 bH;refine List.mem_filterMap.2 ⟨gN,?_,DE⟩;rcases List.mem_append.1 uC with z|z
      · exact List.mem_append_left _ z
      · exact List.mem_append_right _ (by simp[z])
    · cases lY with
      | nil=>simp only[List.append_nil]at aM;simp only[List.nil_append]at a1;have:=h.1 (cf++[x]) i post (by rw[<-a1];simp);refine this.imp id λcE=>⟨Nq (λt bH=> ?_) cE.1,cE.2⟩;rw[<-aM]at bH;obtain⟨gN,uC,DE⟩:=List.mem_filterMap.1 bH;exact List.mem_filterMap.2 ⟨gN,List.mem_append_left _ uC,DE⟩
      | cons b lY=>simp only[List.cons_append,List.cons.injEq]at a1;obtain⟨rfl,a1⟩:=a1;exact h.1 cD i (lY++x::C) (by rw[aM];simp)
theorem azt{jm:List Nat}{o:Oper}{b:Nat}(h:(R5 jm o).testBit b=true): ∃e∈o.after,Region.binds .any e=true/\(e.on=b\/(jm.getD e.on 0).testBit b=true):=by
  unfold R5 at h;have key: ∀(l:List Edge) (s:Nat),(l.foldl (λs e=>if Region.binds .any e then s|||2^e.on|||jm.getD e.on 0 else s) s).testBit b=true->s.testBit b=true\/ ∃e∈l,Region.binds .any e=true/\(e.on=b\/(jm.getD e.on 0).testBit b=true):=by
    intro l;induction l with
    |nil=>intro s h;exact .inl h
    | cons e l cb=>
      intro s h;simp only[List.foldl_cons]at h;rcases cb _ h with z|⟨eW,BA,D⟩
      · split at z
        · rename_i L;simp only[Nat.testBit_or,Bool.or_eq_true,Nat.testBit_two_pow,decide_eq_true_eq]at z;rcases z with(z|z)|z
          · exact .inl z
          · exact .inr ⟨e,by simp,L,.inl z⟩
          · exact .inr ⟨e,by simp,L,.inr z⟩
        · exact .inl z
      · exact .inr ⟨eW,by simp[BA],D⟩
  rcases key _ 0 h with z|⟨e,aU,D⟩
  · simp at z
  · exact⟨e,by simpa using aU,D⟩
theorem ak6{m4:Nat->Prop}(aeL: ∀j k7,ops[j]?=some k7->m4 j-> ∀e∈k7.after,Region.binds .any e=true->m4 e.on):
    ∀ (l:List Oper) (ef:List Nat),(∀j,l[j]?=ops[ef.length+j]?)->
      (∀j,j<ef.length-> ∀k7,ops[j]?=some k7->(∀e∈k7.after,Region.binds .any e=true->m4 e.on)-> ∀b,(ef.getD j 0).testBit b=true->m4 b)->
      ∀j k7,ops[j]?=some k7->(∀e∈k7.after,Region.binds .any e=true->m4 e.on)-> ∀b,((LQ l ef).getD j 0).testBit b=true->m4 b
  | [],ef,aG,NZ,j,k7,cp,aR,b,L=>by
    simp only[LQ]at L;by_cases h:j<ef.length
    · exact NZ j h k7 cp aR b L
    · rw[List.getD_eq_getElem?_getD,List.getElem?_eq_none (by omega)]at L;simp at L
  | o::l,ef,aG,NZ,j,k7,cp,aR,b,L=>by
    have an:ops[ef.length]?=some o:=(by have:=aG 0;simpa using this.symm);refine ak6 aeL l (ef++[R5 ef o]) (λi=>by have:=aG (i+1);simp at this⊢;rw[this];congr 1;omega) (λi aa L0 F5 N6 cQ jD=> ?_) j k7 cp aR b L;simp only[List.length_append,List.length_cons,List.length_nil]at aa;by_cases h:i<ef.length
    · rw[List.getD_eq_getElem?_getD,List.getElem?_append_left h,<-List.getD_eq_getElem?_getD]at jD;exact NZ i h L0 F5 N6 cQ jD
    · have mZ:i=ef.length:=(by omega);subst mZ;rw[List.getD_eq_getElem?_getD,List.getElem?_append_right (Nat.le_refl _)]at jD;simp only[Nat.sub_self,List.getElem?_cons_zero,Option.getD_some]at jD;have:L0=o:=Option.some.inj (F5.symm.trans an);subst this;obtain⟨e,aU,nT,D⟩:=azt jD;have afh:=N6 e aU nT;rcases D with rfl|D
      · exact afh
      · by_cases Z:e.on<ef.length
        · have nC: ∃Sf,ops[e.on]?=some Sf:=by
            have J:ef.length<ops.size:=(Array.getElem?_eq_some_iff.1 an).1;exact⟨ops[e.on],Array.getElem?_eq_getElem (by omega)⟩
          obtain⟨Sf,aff⟩:=nC;exact NZ e.on Z Sf aff (aeL e.on Sf aff afh) cQ D
        · rw[List.getD_eq_getElem?_getD,List.getElem?_eq_none (by omega)]at D;simp at D
end
section
variable {P:Program} {bu:Nat} {df:Callee} {base:Nat} {ops:Array Oper} {ek:Nat}
theorem ZT{m4:Array Bool}{i j:Nat}(aa:i<m4.size):(m4.setIfInBounds i true).getD j false=true↔(j=i\/m4.getD j false=true):=by
  by_cases h:i=j
  · subst h;simp[aa]
  · rw[getD_set_ne false h];constructor
    · exact .inr
    · rintro(ca|ca)
      · exact absurd ca.symm h
      · exact ca
theorem acC(eb:ud P bu df){Q:Exit->Act->World->Prop}{aou:aL}{Cf:B}{TL:Nat}: ∀(oH:Nat) (br:List b6) (m4:Array Bool) (u:aL) (m:B) (a:Act) (w:World) (ax:fE),
    br.length=oH->m4.size=ops.size->(∀j,j<ops.size->(m4.getD j false=true↔ ∀dO∈br,dO.bc≠j))->
    (∀j k7,ops[j]?=some k7->m4.getD j false=true-> ∀e∈k7.after,Region.binds .any e=true->m4.getD e.on false=true)->
    (∀dO∈br,∃o,CV P ops ek dO o)->(br.map (·.bc)).Nodup->rF (LQ ops.toList []) br->
    (∀cD dO post,br=cD++dO::post-> ∀k7,ops[dO.bc]?=some k7-> ∀e∈k7.after,Region.binds .any e=true->m4.getD e.on false=true\/ ∃k∈cD,k.bc=e.on)->
    jf ax ek u a->fc bu ax m w->bu<=w.heap.size->TL<=base->(∀dO∈br,dO.k.gF=true->base+dO.bc<m.next/\m.M (base+dO.bc)=none/\ax (base+dO.bc)=none)->base<=m.next->
    mN df base br u m=some (aou,Cf)->
    (∀er e1 en,im ax en->(∀b,b<TL->en b=ax b)->jf en ek aou er->fc bu en Cf e1->Below bu w e1->Q .normal er e1)->wpAny P .any ops Q oH m4 a w
  | 0,br,m4,u,m,a,w,ax,gH,iQ,w6,_,_,_,_,_,J,aK,_,_,_,_,ll,bf=>by have kq:br=[]:=List.length_eq_zero_iff.1 gH;subst kq;simp only[mN,Option.some.injEq,Prod.mk.injEq]at ll;obtain⟨rfl,rfl⟩:=ll;refine⟨?_,bf a w ax (im.refl ax) (λ_ _=>rfl) J aK (Below.refl _ _)⟩;apply List.eq_nil_iff_forall_not_mem.2;intro i aa;obtain⟨z,k7,D,_⟩:=mem_ready.1 aa;have cM:i<ops.size:=(Array.getElem?_eq_some_iff.1 D).1;have:=(w6 i cM).2 (by simp);rw[getD_both z]at this;cases this
  | oH+1,br,m4,u,m,a,w,ax,gH,iQ,w6,Dy,zQ,lK,aeS,sN,J,aK,ev,N0,e4,U6,ll,bf=>by
    refine⟨λVN=> ?_,λi aa=> ?_⟩
    · -- lX first fJ aMs qG ready
      exfalso;cases br with
      |nil=>simp at gH
      | cons dO br=>
        obtain⟨o,an⟩:=zQ dO (by simp);have cM:dO.bc<ops.size:=(Array.getElem?_eq_some_iff.1 an.1).1;have zU:dO.bc∈Region.ready .any ops m4:=by
          refine mem_ready.2 ⟨?_,o,an.1,λe aU L=> ?_⟩
          · have:m4.getD dO.bc false≠true:= λh=>(w6 dO.bc cM).1 h dO (by simp) rfl;exact getD_in (by rw[iQ];exact cM) (by simpa using this)
          · rcases sN [] dO br rfl o an.1 e aU L with h|⟨k,W,_⟩
            · exact h
            · cases W
        rw[VN]at zU;cases zU
    · obtain⟨OD,L0,F5,aeN⟩:=mem_ready.1 aa;have cM:i<ops.size:=(Array.getElem?_eq_some_iff.1 F5).1;have auH:m4.getD i false=false:=getD_both OD;have ra: ∃dO∈br,dO.bc=i:=by
        by_cases h: ∃dO∈br,dO.bc=i
        · exact h
        · exfalso;have:=(w6 i cM).2 (λdO w5 e=>h ⟨dO,w5,e⟩);rw[auH]at this;cases this
      obtain⟨dO,w5,rfl⟩:=ra;obtain⟨cD,post,rfl⟩:=List.append_of_mem w5;simp only[List.map_append,List.map_cons,List.nodup_append,List.nodup_cons]at lK;have Ov: ∀k∈cD,k.bc≠dO.bc:= λk W e=>lK.2.2 k.bc (List.mem_map.2 ⟨k,W,rfl⟩) dO.bc (by simp) e;have N5: ∀cf k C,cD=cf++k::C->sA k dO (vt C)=true/\ ∀p∈sg k dO,p∈dO.bx:=by
        intro cf k C e;subst e;rcases rF.pC cf k C dO post (by simpa using aeS)with h|h
        · exfalso;have W:m4.getD k.bc false=true:=ak6 (ops:=ops) (m4:= λj=>m4.getD j false=true) Dy ops.toList [] (by simp) (by simp) dO.bc L0 F5 aeN k.bc h;obtain⟨aAl,JK⟩:=zQ k (by simp);exact(w6 k.bc (Array.getElem?_eq_some_iff.1 JK.1).1).1 W k (by simp) rfl
        · exact h
      have Oc:=e4 dO (by simp);obtain⟨c7,bz,_,_,_,z,D,_,_,_⟩:=move eb cD u m ll N5 Ov (λiE=>⟨(Oc iE).2.1,(Oc iE).1⟩);obtain⟨o,an⟩:=zQ dO (by simp);have hY:=Mu eb z;refine ank eb an J aK ev (λiE=>(Oc iE).1) (λiE=>(Oc iE).2.2) z λer e1 en bm bU cn fa fZ=> ?_;refine acC eb oH (cD++post) (m4.setIfInBounds dO.bc true) c7 bz er e1 en (by simp at gH⊢;omega) (by simp[iQ]) (λj cp=> ?_) (λj k7 vK cp e aU L=> ?_) (λk W=>zQ k (by
          rcases List.mem_append.1 W with h|h
          · exact List.mem_append_left _ h
          · exact List.mem_append_right _ (by simp[h]))) ?_ (rF.amr cD dO post aeS) (λaAR k al7 e k7 vK Bg aU L=> ?_) cn fa (Nat.le_trans ev fZ.size) N0 (λk W iE=> ?_) (by omega) D (λbF fz td dK eO gk hN mK=>bf bF fz td (bm.trans dK) (λb L=>(eO b L).trans (bU b (by omega) (by omega))) gk hN (fZ.trans mK))
      · rw[ZT (by rw[iQ];exact cM)];constructor
        · rintro(rfl|h) k W e
          · rcases List.mem_append.1 W with h|h
            · exact Ov k h e
            · exact lK.2.1.1 (List.mem_map.2 ⟨k,h,e⟩)
          · refine(w6 j cp).1 h k ?_ e;rcases List.mem_append.1 W with h|h
            · exact List.mem_append_left _ h
            · exact List.mem_append_right _ (by simp[h])
        · intro h;by_cases e:j=dO.bc
          · exact .inl e
          · refine .inr ((w6 j cp).2 λk W eW=> ?_);rcases List.mem_append.1 W with ca|ca
            · exact h k (List.mem_append_left _ ca) eW
            · rcases List.mem_cons.1 ca with ca|ca
              · subst ca;exact e eW.symm
              · exact h k (List.mem_append_right _ ca) eW
      · rw[ZT (by rw[iQ];exact cM)]at cp⊢;rcases cp with rfl|cp
        · have:k7=L0:=Option.some.inj (vK.symm.trans F5);subst this;exact .inr (aeN e aU L)
        · exact .inr (Dy j k7 vK cp e aU L)
      · simp only[List.map_append,List.nodup_append];exact⟨lK.1,lK.2.1.2,λx H y ah=>lK.2.2 x H y (by simp[ah])⟩
      · rw[ZT (by rw[iQ];exact cM)];rcases List.append_eq_append_iff.1 e with⟨as,aM,a1⟩|⟨lY,aM,a1⟩
        · rcases sN (cD++dO::as) k al7 (by rw[a1];simp) k7 vK Bg aU L with h|⟨gN,uC,cI⟩
          · exact .inl (.inr h)
          · rcases List.mem_append.1 uC with h|h
            · exact .inr ⟨gN,by rw[aM];exact List.mem_append_left _ h,cI⟩
            · rcases List.mem_cons.1 h with h|h
              · subst h;exact .inl (.inl cI.symm)
              · exact .inr ⟨gN,by rw[aM];exact List.mem_append_right _ h,cI⟩
        · cases lY with
          | nil=>
            simp only[List.append_nil]at aM;simp only[List.nil_append]at a1;rcases sN (cD++[dO]) k al7 (by rw[<-a1];simp) k7 vK Bg aU L with h|⟨gN,uC,cI⟩
            · exact .inl (.inr h)
            · rcases List.mem_append.1 uC with h|h
              · exact .inr ⟨gN,by rw[<-aM];exact h,cI⟩
              · simp only[List.mem_singleton]at h;subst h;exact .inl (.inl cI.symm)
          | cons b lY=>
            simp only[List.cons_append,List.cons.injEq]at a1;obtain⟨rfl,a1⟩:=a1;rcases sN aAR k (lY++dO::post) (by rw[aM];simp) k7 vK Bg aU L with h|h
            · exact .inl (.inr h)
            · exact .inr h
      · have r2:k∈cD++dO::post:=by
          rcases List.mem_append.1 W with h|h
          · exact List.mem_append_left _ h
          · exact List.mem_append_right _ (by simp[h])
        have DG:k.bc≠dO.bc:=by
          rcases List.mem_append.1 W with h|h
          · exact Ov k h
          · exact λe=>lK.2.1.1 (List.mem_map.2 ⟨k,h,e⟩)
        obtain⟨aC,a2,bS⟩:=e4 k r2 iE;exact⟨by omega,abP eb z aC (by omega) a2,by rw[bU _ aC (by omega)];exact bS⟩
theorem acS{bc:Nat}{dO:b6}(h:Ng P ops ek bc=some dO):dO.bc=bc/\ ∃o,CV P ops ek dO o:=by
  unfold Ng at h;split at h
  · rename_i o an;split at h
    · rename_i k g W aj;split at h
      · rename_i aR;cases h;exact⟨rfl,o,an,W,aj,rfl,aR⟩
      · cases h
    · cases h
  · cases h
theorem acT: ∀(LA:List Nat) (br:List b6),Iv P ops ek LA=some br->br.map (·.bc)=LA/\ ∀dO∈br,∃o,CV P ops ek dO o
  |[],br,h=>by simp[Iv]at h;subst h;simp
  | bc::r,br,h=>by
    simp only[Iv]at h;split at h
    · rename_i dO b0 z D;cases h;obtain⟨e,o,an⟩:=acS z;obtain⟨aC,a2⟩:=acT r b0 D;refine⟨by simp[e,aC],λk W=> ?_⟩;rcases List.mem_cons.1 W with rfl|W
      · exact⟨o,an⟩
      · exact a2 k W
    · cases h
theorem ac7{jm:List Nat}{i:b6}: ∀(nH:List b6) (uk:List Nat),Nm jm i nH uk=true->(∀p∈wK jm i nH,p∈i.bx)->
    ∀cf k C,nH=cf++k::C->(jm.getD i.bc 0).testBit k.bc=true\/(sA k i (uk++vt cf)=true/\ ∀p∈sg k i,p∈i.bx)
  |[],_,_,_,cf,k,C,e=>by simp at e
  | x::nH,uk,h,jZ,cf,k,C,e=>by
    simp only[Nm,Bool.and_eq_true,Bool.or_eq_true]at h;cases cf with
    | nil=>
      simp only[List.nil_append,List.cons.injEq]at e;obtain⟨rfl,rfl⟩:=e;rcases h.1 with z|z
      · exact .inl z
      · by_cases L:(jm.getD i.bc 0).testBit x.bc=true
        · exact .inl L
        · refine .inr ⟨by simpa[vt]using z,λp aq=>jZ p ?_⟩;simp only[wK,if_neg L];exact List.mem_append_left _ aq
    | cons a cf=>
      simp only[List.cons_append,List.cons.injEq]at e;obtain⟨rfl,rfl⟩:=e;have:=ac7 (cf++k::C) (uk++x.d.toList) h.2 (λp aq=>jZ p (by simp only[wK];exact List.mem_append_right _ aq)) cf k C rfl;refine this.imp id λcE=>⟨Nq (λt bH=> ?_) cE.1,cE.2⟩;simp only[vt,List.filterMap_cons]at bH⊢;cases aR:x.d with
      |none=>rw[aR]at bH;simpa using bH
      |some d=>rw[aR]at bH;simpa using bH
theorem acR{jm:List Nat}: ∀(LA:List Nat) (nH:List b6) (br:List b6),Iu P ops ek jm LA nH=some br->rF jm nH.reverse->
    br.map (·.bc)=LA/\(∀dO∈br,∃o,CV P ops ek dO o)/\rF jm (nH.reverse++br)/\
    (∀cD dO post,br=cD++dO::post-> ∀k7,ops[dO.bc]?=some k7-> ∀e∈k7.after,Region.binds .any e=true-> ∃k∈nH.reverse++cD,k.bc=e.on)
  | [],nH,br,h,aj=>by simp[Iu]at h;subst h;exact⟨rfl,by simp,by simpa using aj,by simp⟩
  | bc::r,nH,br,h,aj=>by
    simp only[Iu]at h;split at h
    · rename_i b5 z;split at h
      · rename_i jZ;split at h
        · rename_i b0 F9;cases h;simp only[Bool.and_eq_true]at jZ;obtain⟨aM,op,b7⟩:=acS z;have aB:CV P ops ek ⟨b5.bc,b5.d,b5.g,b5.k,wK jm b5 nH⟩ op:=b7;have uG:rF jm (b6.mk b5.bc b5.d b5.g b5.k (wK jm b5 nH)::nH).reverse:=by
            rw[List.reverse_cons];have mr:=ac7 nH [] jZ.1 (λp aq=>by
              have: ∀(l:List b6),wK jm ⟨b5.bc,b5.d,b5.g,b5.k,wK jm b5 nH⟩ l=wK jm b5 l:=by
                intro l;induction l with
                |nil=>rfl
                |cons x l cb=>simp only[wK];rw[cb];rfl
              rw[this]at aq;exact aq)
            -- lX new ha M9 all
            have key: ∀(l:List b6) (x:b6),rF jm l->(∀cf k C,l=cf++k::C->(jm.getD x.bc 0).testBit k.bc=true\/(sA k x (vt C)=true/\ ∀p∈sg k x,p∈x.bx))->rF jm (l++[x]):=by
              intro l x;induction l with
              |nil=>intro _ _;exact⟨by intro cD i post e;simp at e,trivial⟩
              | cons k l cb=>
                intro aG H;refine⟨λcD i post e=> ?_,cb aG.2 λcf gN C e=>H (k::cf) gN C (by rw[e];rfl)⟩;rcases List.append_eq_append_iff.1 e with⟨as,aM,a1⟩|⟨lY,aM,a1⟩
                · cases as with
                  | nil=>simp only[List.nil_append,List.cons.injEq]at a1;obtain⟨rfl,_⟩:=a1;simp only[List.append_nil]at aM;subst aM;exact H [] k cD rfl
                  |cons y as=>simp at a1
                · cases lY with
                  | nil=>simp only[List.nil_append,List.cons.injEq]at a1;obtain⟨rfl,_⟩:=a1;simp only[List.append_nil]at aM;subst aM;exact H [] k l rfl
                  | cons y lY=>simp only[List.cons_append,List.cons.injEq]at a1;obtain⟨rfl,a1⟩:=a1;exact aG.1 cD i lY aM
            refine key _ _ aj λcf k C e=> ?_;have eW:nH=C.reverse++k::cf.reverse:=by have:=congrArg List.reverse e;simpa using this
            refine(mr C.reverse k cf.reverse eW).imp id λcE=>⟨Nq (λt bH=> ?_) cE.1,cE.2⟩;simp only[vt,List.nil_append,List.mem_filterMap,List.mem_reverse]at bH⊢;exact bH
          obtain⟨aC,a2,bS,fA⟩:=acR r _ b0 F9 uG;refine⟨by simp[aM,aC],λk W=> ?_,by simpa using bS,λcD dO post e k7 vK Bg aU L=> ?_⟩
          · rcases List.mem_cons.1 W with rfl|W
            · exact⟨op,aB⟩
            · exact a2 k W
          · cases cD with
            | nil=>
              simp only[List.nil_append,List.cons.injEq]at e;obtain⟨rfl,_⟩:=e;have aX:=jZ.2;simp only[aM]at vK;simp only[anC,vK]at aX;simp only[List.all_eq_true,Bool.or_eq_true,Bool.not_eq_true',List.any_eq_true,beq_iff_eq]at aX;rcases aX Bg (by simpa using aU)with cC|⟨k,W,cC⟩
              · rw[L]at cC;cases cC
              · exact⟨k,by simpa using W,cC⟩
            | cons x cD=>simp only[List.cons_append,List.cons.injEq]at e;obtain⟨rfl,e⟩:=e;obtain⟨k,W,cC⟩:=fA cD dO post e k7 vK Bg aU L;exact⟨k,by simpa using W,cC⟩
        · cases h
      · cases h
    · cases h
end
def dr.sr:dr->Exit
  | .gv=> .normal
  | .bI id=> .exit id
  | .a7=> .ret
section
variable {P:Program} {bu:Nat} {df:Callee} {ek n:Nat}
theorem alI: ∀(l:List Nat),AD l=true->l.Nodup
  |[],_=>List.nodup_nil
  | x::l,h=>by simp only[AD,Bool.and_eq_true,Bool.not_eq_true',List.contains_eq_mem,decide_eq_false_iff_not]at h;exact List.nodup_cons.2 ⟨h.1,alI l h.2⟩
theorem aAF{l:List Nat}(h:aax n l=true):l.Nodup/\(∀i,i∈l↔i<n)/\l.length=n:=by simp only[aax,Bool.and_eq_true,decide_eq_true_eq,List.all_eq_true,List.mem_range,List.contains_iff_mem]at h;obtain⟨⟨⟨z,D⟩,Z⟩,aw⟩:=h;exact⟨alI l D,λi=>⟨λaa=>Z i aa,λaa=>aw i aa⟩,z⟩
theorem asB{m:B}{b:Nat}(h:m.next<=b):m.M b=none:=by unfold B.M;rw[if_neg (by omega)]
theorem Mg(br:List b6)(m:B):m.next<=(k2 br m).next/\((∃o∈br,o.k.gF=true)->(k2 br m).next=m.next+br.length):=by
  unfold k2;split
  · exact⟨by rw[B.acO];omega,λ_=>rfl⟩
  · rename_i h;refine⟨Nat.le_refl _,λ⟨o,an,D⟩=>absurd (List.any_eq_true.2 ⟨o,an,D⟩) h⟩
theorem amq(br:List b6)(m:B)(b:Nat):(k2 br m).M b=m.M b:=by
  unfold k2;split
  · exact B.gr m _ b
  · rfl
theorem fc.k2{m:B}{w:World}{ax:fE}(h:fc bu ax m w)(br:List b6):fc bu ax (Go.DI.k2 br m) w:=by
  unfold Go.DI.k2;split
  · exact h.bs _
  · exact h
theorem aBk(rb:P.follows .mixedOrders=true)(eb:ud P bu df){id:Nat}{ops:Array Oper}{Ny:Bool}{uN:U}(aB:rK P ek (.region id ops Ny)=some uN){u ag:aL}{m N:B}{e:dr}
    (h:fK df n uN u m=some (e,ag,N)) {a:Act} {w:World} {ax:fE} (J:jf ax ek u a) (aK:fc bu ax m w) (ev:bu<=w.heap.size) {Q:Exit->Act->World->Prop}
    (bf: ∀er e1 en,im ax en->(∀b,b<m.next->en b=ax b)->jf en ek ag er->fc bu en N e1->Below bu w e1->Q e.sr er e1):(Code.region id ops Ny).wp P Q a w:=by
  have afI: ∀b,m.next<=b->ax b=none:=by
    intro b L;cases aF:ax b with
    |none=>rfl
    |some l=>have:=aK.ql b l aF;omega
  cases Ny
  · simp only[rK]at aB;split at aB
    · rename_i br kq;cases aB;obtain⟨z,D⟩:=acT _ _ kq;simp only[fK]at h;split at h
      · rename_i c7 bz ll;cases h;have gH:br.length=ops.size:=(by have:=congrArg List.length z;simpa using this);refine wp_region ?_;rw[<-z];refine alY (base:=m.next) eb br u _ a w ax ag N D (by rw[z];exact List.nodup_range) J (aK.k2 br) ev (λdO w5 iE=> ?_) ll λer e1 en bm bU cn fa fZ=>bf er e1 en bm (λb L=>bU b L (by have:=(Mg br m).1;omega)) cn fa fZ;have:dO.bc∈br.map (·.bc):=List.mem_map.2 ⟨dO,w5,rfl⟩;rw[z,List.mem_range]at this;exact⟨by rw[(Mg br m).2 ⟨dO,w5,iE⟩];omega,afI _ (by omega)⟩
      · cases h
    · cases aB
  · simp only[rK]at aB;split at aB
    · rename_i aun;split at aB
      · rename_i br kq;cases aB;obtain⟨dK,eO,gk⟩:=aAF aun;obtain⟨z,D,Z,aw⟩:=acR _ [] br kq trivial;simp only[List.reverse_nil,List.nil_append]at Z aw;simp only[fK]at h;split at h
        · rename_i c7 bz ll;cases h;have gH:br.length=ops.size:=(by rw[<-gk,<-z];simp);have vJ:fc bu ax (k2 br m) {w with drawn:=w.drawn+1}:=(aK.k2 br).aD3 rfl;refine wp_region_any rb ?_;refine acC (base:=m.next) (TL:=m.next) eb ops.size br _ u _ a _ ax gH (by simp) (λj cp=> ?_) (λj k7 _ aG=>by rw[getD_replicate_false]at aG;cases aG) D (by rw[z];exact dK) Z (λcD dO post e k7 vK Bg aU L=> .inr (aw cD dO post e k7 vK Bg aU L)) J vJ ev (Nat.le_refl _) (λdO w5 iE=> ?_) (Mg br m).1 ll λer e1 en bm bU cn fa fZ=>bf er e1 en bm bU cn fa (Below.trans (a:=w) (b:={w with drawn:=w.drawn+1}) ⟨rfl,rfl,rfl,Nat.le_refl _,λ_ _=>rfl⟩ fZ)
          · rw[getD_replicate_false];constructor
            · intro h;cases h
            · intro h;exfalso;have:j∈br.map (·.bc):=(by rw[z,eO];exact cp);obtain⟨dO,w5,e⟩:=List.mem_map.1 this;exact h dO w5 e
          · have:dO.bc∈br.map (·.bc):=List.mem_map.2 ⟨dO,w5,rfl⟩;rw[z,eO]at this;exact⟨by rw[(Mg br m).2 ⟨dO,w5,iE⟩];omega,by rw[amq];exact asB (by omega),afI _ (by omega)⟩
        · cases h
      · cases aB
    · cases aB
theorem Lz{f:aL->B->Option (dr×aL×B)}{j:Nat}{u:aL}{m:B}{r:dr×aL×B}(h:lL f (j+1) u m=some r):
    (∃c7 bz,f u m=some (.gv,c7,bz)/\lL f j c7 bz=some r)\/(f u m=some r/\r.1≠ .gv):=by
  simp only[lL]at h;split at h
  · rename_i c7 bz z;exact .inl ⟨c7,bz,z,h⟩
  · rename_i z;refine .inr ⟨h,λe=> ?_⟩;obtain⟨e6,fw,iZ⟩:=r;simp only at e;subst e;exact z _ _ h
theorem vu(eb:ud P bu df): ∀(c:U) (u:aL) (m:B) (e:dr) (ag:aL) (N:B),fK df n c u m=some (e,ag,N)->m.next<=N.next/\ ∀b,b<m.next->m.M b=none->N.M b=none
  | .skip,u,m,e,ag,N,h=>by simp[fK]at h;obtain⟨_,_,rfl⟩:=h;exact⟨Nat.le_refl _,λ_ _ h=>h⟩
  | .I ops,u,m,e,ag,N,h=>by
    simp only[fK]at h;split at h
    · rename_i c7 bz ll;cases h;have z:=amO eb ops u _ _ ll;have D:=(Mg ops m).1;exact⟨by simp only at z;omega,λb L aj=>amP eb L ops u _ _ D ll (by rw[amq];exact aj)⟩
    · cases h
  | .E c d,u,m,e,ag,N,h=>by
    simp only[fK]at h;split at h
    · rename_i c7 bz z;obtain⟨bn,bF⟩:=vu eb c u m _ c7 bz z;obtain⟨dt,dJ⟩:=vu eb d c7 bz _ _ _ h;exact⟨by omega,λb L aj=>dJ b (by omega) (bF b L aj)⟩
    · exact vu eb c u m _ _ _ h
  | .bj x c d,u,m,e,ag,N,h=>by
    simp only[fK]at h;split at h
    · split at h
      · exact vu eb c u m _ _ _ h
      · exact vu eb d u m _ _ _ h
    · cases h
  | .block id c,u,m,e,ag,N,h=>by
    simp only[fK]at h;split at h
    · rename_i l1 c7 bz z;have:=vu eb c u m _ c7 bz z;split at h<;>cases h<;>exact this
    · exact vu eb c u m _ _ _ h
  | .loop c,u,m,e,ag,N,h=>by
    simp only[fK]at h;have key: ∀(j:Nat) (u:aL) (m:B),lL (fK df n c) j u m=some (e,ag,N)->m.next<=N.next/\ ∀b,b<m.next->m.M b=none->N.M b=none:=by
      intro j;induction j with
      |zero=>intro u m h;simp[lL]at h
      | succ j cb=>
        intro u m h;rcases Lz h with⟨c7,bz,z,D⟩|⟨z,_⟩
        · obtain⟨bn,bF⟩:=vu eb c u m _ c7 bz z;obtain⟨dt,dJ⟩:=cb c7 bz D;exact⟨by omega,λb L aj=>dJ b (by omega) (bF b L aj)⟩
        · exact vu eb c u m _ _ _ z
    exact key n u m h
  | .bI id,u,m,e,ag,N,h=>by simp[fK]at h;obtain⟨_,_,rfl⟩:=h;exact⟨Nat.le_refl _,λ_ _ h=>h⟩
  | .a7,u,m,e,ag,N,h=>by simp[fK]at h;obtain⟨_,_,rfl⟩:=h;exact⟨Nat.le_refl _,λ_ _ h=>h⟩
theorem anA{e:dr}(h:e≠ .gv):e.sr≠ .normal:=by cases e<;>simp[dr.sr]at h⊢
theorem anw{aV:Act->World->Prop}{Q:Exit->Act->World->Prop}{e:Exit}{a:Act}{w:World}(h:e≠ .normal)(bt:Q e a w):Exit.then aV Q e a w:=by cases e<;>first|exact bt|exact absurd rfl h
theorem xU(rb:P.follows .mixedOrders=true)(eb:ud P bu df): ∀(c:Code) (uN:U),rK P ek c=some uN-> ∀(u:aL) (m:B) (e:dr) (ag:aL) (N:B),fK df n uN u m=some (e,ag,N)->
    ∀(a:Act) (w:World) (ax:fE),jf ax ek u a->fc bu ax m w->bu<=w.heap.size-> ∀(Q:Exit->Act->World->Prop),
    (∀er e1 en,im ax en->(∀b,b<m.next->en b=ax b)->jf en ek ag er->fc bu en N e1->Below bu w e1->Q e.sr er e1)->c.wp P Q a w
  | .skip,uN,aB,u,m,e,ag,N,h,a,w,ax,J,aK,ev,Q,bf=>by cases aB;simp[fK]at h;obtain⟨rfl,rfl,rfl⟩:=h;exact wp_skip (bf a w ax (im.refl ax) (λ_ _=>rfl) J aK (Below.refl _ _))
  | .region id ops Ny,uN,aB,u,m,e,ag,N,h,a,w,ax,J,aK,ev,Q,bf=>aBk rb eb aB h J aK ev bf
  | .seq c d,uN,aB,u,m,e,ag,N,h,a,w,ax,J,aK,ev,Q,bf=>by
    simp only[rK]at aB;split at aB
    · rename_i x y H ah;cases aB;refine wp_seq ?_;simp only[fK]at h;split at h
      · rename_i c7 bz z;refine xU rb eb c x H u m _ c7 bz z a w ax J aK ev _ λbn cS o4 bm bU cn fa fZ=> ?_;have ak:=(vu eb x u m _ c7 bz z).1;refine xU rb eb d y ah c7 bz e ag N h bn cS o4 cn fa (Nat.le_trans ev fZ.size) Q λbF fz td dK eO gk hN mK=> ?_;exact bf bF fz td (bm.trans dK) (λb L=>(eO b (by omega)).trans (bU b L)) gk hN (fZ.trans mK)
      · rename_i dq;refine xU rb eb c x H u m _ ag N h a w ax J aK ev _ λbn cS o4 bm bU cn fa fZ=> ?_;refine anw (anA λaU=> ?_) (bf bn cS o4 bm bU cn fa fZ);subst aU;exact dq _ _ h
    · cases aB
  | .cond x c d,uN,aB,u,m,e,ag,N,h,a,w,ax,J,aK,ev,Q,bf=>by
    simp only[rK]at aB;split at aB
    · rename_i y O ah bY;split at aB<;>cases aB;rename_i H;simp only[fK]at h;split at h
      · rename_i L;have aF:=J.ab H;cases X:ab u x<;>simp[X,vT]at L;rename_i t;rw[X]at aF h;refine wp_cond aF.tJ ?_;simp only[xR]at h;cases t
        · exact xU rb eb d O bY u m e ag N h a w ax J aK ev Q bf
        · exact xU rb eb c y ah u m e ag N h a w ax J aK ev Q bf
      · cases h
    · cases aB
  | .block id c,uN,aB,u,m,e,ag,N,h,a,w,ax,J,aK,ev,Q,bf=>by
    simp only[rK]at aB;split at aB
    · rename_i x H;cases aB;refine wp_block ?_;simp only[fK]at h;split at h
      · rename_i l1 c7 bz z;refine xU rb eb c x H u m _ c7 bz z a w ax J aK ev _ λbn cS o4 bm bU cn fa fZ=> ?_;show if l1=id then Q .normal bn cS else Q (.exit l1) bn cS
        split at h
        · rename_i aU;cases h;rw[if_pos aU];exact bf bn cS o4 bm bU cn fa fZ
        · rename_i aU;cases h;rw[if_neg aU];exact bf bn cS o4 bm bU cn fa fZ
      · rename_i dq;refine xU rb eb c x H u m _ ag N h a w ax J aK ev _ λbn cS o4 bm bU cn fa fZ=> ?_;have:=bf bn cS o4 bm bU cn fa fZ;cases e with
        |gv=>exact this
        |a7=>exact this
        |bI l1=>exact absurd h (dq _ _ _)
    · cases aB
  | .loop c,uN,aB,u,m,e,ag,N,h,a,w,ax,J,aK,ev,Q,bf=>by
    simp only[rK]at aB;split at aB
    · rename_i x H;cases aB;simp only[fK]at h;refine wp_loop_rounds n ?_
      have key: ∀(j:Nat) (u:aL) (m:B) (a:Act) (w:World) (ax:fE),lL (fK df n x) j u m=some (e,ag,N)->jf ax ek u a->fc bu ax m w->bu<=w.heap.size->
          (∀er e1 en,im ax en->(∀b,b<m.next->en b=ax b)->jf en ek ag er->fc bu en N e1->Below bu w e1->Q e.sr er e1)->Code.rounds P c Q j a w:=by
        intro j;induction j with
        |zero=>intro u m a w ax h;simp[lL]at h
        | succ j cb=>
          intro u m a w ax h J aK ev bf;rw[rounds_succ];rcases Lz h with⟨c7,bz,z,D⟩|⟨z,dq⟩
          · have ak:=(vu eb x u m _ c7 bz z).1;refine xU rb eb c x H u m _ c7 bz z a w ax J aK ev _ λbn cS o4 bm bU cn fa fZ=> ?_;exact cb c7 bz bn cS o4 D cn fa (Nat.le_trans ev fZ.size) λbF fz td dK eO gk hN mK=>bf bF fz td (bm.trans dK) (λb L=>(eO b (by omega)).trans (bU b L)) gk hN (fZ.trans mK)
          · refine xU rb eb c x H u m _ ag N z a w ax J aK ev _ λbn cS o4 bm bU cn fa fZ=> ?_;exact anw (anA dq) (bf bn cS o4 bm bU cn fa fZ)
      exact key n u m a w ax h J aK ev bf
    · cases aB
  | .exit id,uN,aB,u,m,e,ag,N,h,a,w,ax,J,aK,ev,Q,bf=>by cases aB;simp[fK]at h;obtain⟨rfl,rfl,rfl⟩:=h;exact wp_exit (bf a w ax (im.refl ax) (λ_ _=>rfl) J aK (Below.refl _ _))
  | .ret,uN,aB,u,m,e,ag,N,h,a,w,ax,J,aK,ev,Q,bf=>by cases aB;simp[fK]at h;obtain⟨rfl,rfl,rfl⟩:=h;exact wp_ret (bf a w ax (im.refl ax) (λ_ _=>rfl) J aK (Below.refl _ _))
  | .rangeFunc _ _ _ _,_,aB,_,_,_,_,_,_,_,_,_,_,_,_,_,_=>by cases aB
  | .scope _,_,aB,_,_,_,_,_,_,_,_,_,_,_,_,_,_=>by cases aB
  | .label _,_,aB,_,_,_,_,_,_,_,_,_,_,_,_,_,_=>by cases aB
  | .goto _,_,aB,_,_,_,_,_,_,_,_,_,_,_,_,_,_=>by cases aB
  | .refuse _,_,aB,_,_,_,_,_,_,_,_,_,_,_,_,_,_=>by cases aB
def HH(a:Act):ResultVar->Sem Value
  | .tmp t=>Pure.pure (a.tmps.getD t undef)
  | .cell x t=>do loadVar t (<-asAddr (a.tmps.getD x undef))
theorem TV: ∀(l:List ResultVar) (bb:List nw),zt P ek l=some bb-> ∀{u:aL} {m:B} {a:Act} {w:World} {ax:fE},jf ax ek u a->fc bu ax m w->nI m u bb=true->
    ∃c2:List Value,(l.mapM (m:=Sem) (HH a)).run P w= .ok c2 w/\dy ax (bb.map (s6 m u)) c2
  | [],bb,h,u,m,a,w,ax,J,aK,aA=>by simp[zt]at h;subst h;exact⟨[],by simp,dy.nil ax⟩
  | .tmp t::r,bb,h,u,m,a,w,ax,J,aK,aA=>by
    simp only[zt]at h;split at h
    · rename_i l aG;split at h<;>cases h;simp only[nI,List.all_cons,Bool.and_eq_true]at aA;obtain⟨c2,z,D⟩:=TV r l aG J aK aA.2;refine⟨a.tmps.getD t undef::c2,?_,dy.cons (J.u3 t) D⟩;have sJ:(HH a (.tmp t)).run P w= .ok (a.tmps.getD t undef) w:=rfl;simp only[List.mapM_cons,Sem.run_bind,sJ,Result.andThen_ok,z,Sem.run_pure]
    · cases h
  | .cell x t::r,bb,h,u,m,a,w,ax,J,aK,aA=>by
    simp only[zt]at h;split at h
    · rename_i ep n l w0 ak aG;split at h<;>cases h;simp only[nI,List.all_cons,Bool.and_eq_true,sk,Bool.or_eq_true,decide_eq_true_eq]at aA;obtain⟨c2,z,D⟩:=TV r l aG J aK aA.2;obtain⟨fq,b1,aM,a1,cI,fe⟩:=ZV aK (J.u3 x) aA.1.1 aA.1.2;refine⟨_::c2,?_,dy.cons fe D⟩;have sJ:(HH a (.cell x t)).run P w= .ok (if ep then .agg b1.toArray else b1.headD undef) w:=by
        simp only[HH,Sem.run_bind,aM,asAddr,Sem.run_pure,Result.andThen_ok,aa8 w0 ak aA.1.2 a1 cI]
      simp only[List.mapM_cons,Sem.run_bind,sJ,Result.andThen_ok,z,Sem.run_pure]
    · cases h
theorem aBr{fn:Func}{bb:List nw}(h:zt P ek fn.results.toList=some bb){u:aL}{m:B}{a:Act}{w:World}{ax:fE}(J:jf ax ek u a)(aK:fc bu ax m w)(aA:nI m u bb=true):
    ∃v,(results fn a.tmps).run P w= .ok v w/\eE ax (n4 m u bb) v:=by
  obtain⟨c2,z,D⟩:=TV _ _ h J aK aA;refine⟨if h:c2.toArray.size=1 then c2.toArray[0]else .tuple c2.toArray,?_,?_⟩
  · unfold results;simp only[Sem.run_bind];rw[Array.mapM_eq_mapM_toList];simp only[Sem.run_map];have aI:(List.mapM (m:=Sem) (HH a) fn.results.toList).run P w= .ok c2 w:=z;change (((Sem.run P (List.mapM (m:=Sem) (HH a) fn.results.toList) w).andThen _).andThen _)=_;rw[aI];rfl
  · have gH:=D.1
    match bb,c2,D,gH with
    |[r],[v],D,_=>exact D.2 0 _ _ rfl rfl
    |[],[],D,_=>exact eE.undef ax
    |[_],[],_,aG=>simp at aG
    |[_],_::_::_,_,aG=>simp at aG
    |[],_::_,_,aG=>simp at aG
    |_::_::_,[],_,aG=>simp at aG
    |_::_::_,[_],_,aG=>simp at aG
    | e6::fw::bb,ua::vj::c2,D,_=>simp only[n4,List.size_toArray,List.length_cons];rw[dif_neg (by omega)];exact D.tuple
theorem apG{f:Nat}{K:dn}(h:dj P f=some K): ∃fn c,P.funcs[f]?=some fn∧fn.body=some c∧(fn.name== "runtime.NumGoroutine")=false∧rK P fn.ntmps c=some K.body∧zt P fn.ntmps fn.results.toList=some K.qP∧K.ek=fn.ntmps:=by
  unfold dj at h;split at h
  · rename_i fn BC;split at h
    · cases h
    · rename_i bO;split at h
      · rename_i c aB;split at h
        · rename_i b bb L aF;cases h;exact⟨fn,c,BC,aB,by simpa using bO,L,aF,rfl⟩
        · cases h
      · cases h
  · cases h
theorem au6{ax:fE}{args:List Value}{rJ:Array Value}(h:dy ax args rJ.toList)(fG:args.length<=ek):jf ax ek (eu args) {tmps:=rJ++Array.replicate (ek-rJ.size) undef,defers:=[]}:=by
  have aG:rJ.size=args.length:=by have:=h.1;simp at this;exact this.symm
  refine⟨by simp;omega,rfl,λt=> ?_⟩;simp only[eu];rw[List.getD_eq_getElem?_getD,Array.getD_eq_getD_getElem?];by_cases bH:t<args.length
  · obtain⟨y,ah,xf⟩:=h.M (List.getElem?_eq_getElem bH);rw[List.getElem?_eq_getElem bH,Array.getElem?_append_left (by omega)];rw[Array.getElem?_toList]at ah;rw[ah];exact xf
  · rw[List.getElem?_eq_none (by omega)];rw[Array.getElem?_append_right (by omega),Array.getElem?_replicate];split<;>exact eE.undef ax
theorem acY(rb:P.follows .mixedOrders=true): ∀k,ud P bu (lS P k)
  |0,f,args,m,r,N,h=>by simp[lS]at h
  | k+1,f,args,m,r,N,h=>by
    have cb:=acY rb k;have auq: ∀id x,id<m.next->m.M id=none->lS P (k+1) f args (m.au id x)=some (r,N.au id x):= λid x z D=>by obtain⟨h1,aC,a2⟩:=Tx.Iw (k+1) f args m r N h (m.au id x) ⟨rfl,z,D⟩;rw[aC,a2.eq]
    simp only[lS]at h;split at h
    · rename_i K de;obtain⟨fn,c,z,D,Z,aw,aX,cC⟩:=apG de;split at h
      · rename_i fG
        have sU: ∀(e:dr) (ag:aL) (bz:B),fK (lS P k) k K.body (eu args) m=some (e,ag,bz)->(∀id,e≠ .bI id)->nI bz ag K.qP=true->n4 bz ag K.qP=r->bz=N->
            H8 P f/\m.next<=N.next/\(∀b,b<m.next->m.M b=none->N.M b=none)/\
            (∀id x,id<m.next->m.M id=none->lS P (k+1) f args (m.au id x)=some (r,N.au id x))/\
            ∀ ax w (rJ:Array Value),dy ax args rJ.toList->fc bu ax m w->bu<=w.heap.size->
              Calls P f rJ w λe e1=> ∃v en,e= .returned v/\im ax en/\(∀b,b<m.next->en b=ax b)/\eE en r v/\fc bu en N e1/\Below bu w e1:=by
          intro e ag bz nC dq aA aF vJ;subst aF;subst vJ;have bO:=vu cb K.body _ _ _ _ _ nC;refine⟨⟨fn,z,by rw[D];rfl,Z⟩,bO.1,bO.2,auq,λax w rJ aE aK ev=> ?_⟩;refine calls_of_wp z D ?_;rw[cC]at fG;refine xU rb cb c K.body aw (eu args) m e ag bz nC _ w ax (au6 aE fG) aK ev _ λer e1 en bm bU cn fa fZ=> ?_;obtain⟨v,aC,a2⟩:=aBr aX cn fa aA
          have afm:er.defers=[]/\ ∃v,(results fn er.tmps).run P e1= .ok v e1/\(λ(e:Ending) (e1:World)=> ∃v en,e= .returned v/\im ax en/\(∀b,b<m.next->en b=ax b)/\eE en (n4 bz ag K.qP) v/\fc bu en bz e1/\Below bu w e1) (.returned v) e1:=
            ⟨cn.defers,v,aC,v,en,rfl,bm,bU,a2,fa,fZ⟩
          cases e with
          |gv=>exact afm
          |a7=>exact afm
          |bI id=>exact absurd rfl (dq id)
        split at h
        · cases h
        · rename_i e ag bz dq nC;split at h
          · rename_i aA;cases h;exact sU e ag N nC (λid aU=>dq id aU) aA rfl rfl
          · cases h
        · cases h
      · cases h
    · cases h
end
section aD
variable {df Bd:Callee}
def MN(df Bd:Callee):Prop:= ∀f a m r,df f a m=some r->Bd f a m=some r
theorem aC2(h:MN df Bd){base:Nat}{o:b6}{u:aL}{m:B}{r:aL×B}(J:jb df base o u m=some r):jb Bd base o u m=some r:=by
  unfold jb at J⊢;by_cases aO:fN u o.g=true
  · rw[if_pos aO]at J⊢;cases aB:o.k.gE u m with
    |none=>rw[aB]at J;exact J
    | some mW=>
      obtain⟨f,args⟩:=mW;rw[aB]at J;simp only at J⊢;cases aI:df f args m with
      |none=>rw[aI]at J;cases J
      |some H0=>rw[aI]at J;rw[h _ _ _ _ aI];exact J
  · rw[if_neg aO]at J⊢;exact J
theorem aa4(h:MN df Bd){base:Nat}: ∀{br:List b6} {u:aL} {m:B} {r:aL×B},mN df base br u m=some r->mN Bd base br u m=some r
  |[],_,_,_,J=>J
  | _::_,_,_,_,J=>by obtain⟨c7,bz,z,D,Z⟩:=tW J;exact AK (aC2 h z) D (aa4 h Z)
theorem RQ{f g:aL->B->Option (dr×aL×B)}(h: ∀u m r,f u m=some r->g u m=some r): ∀{n dM:Nat} {u:aL} {m:B} {r:dr×aL×B},n<=dM->lL f n u m=some r->lL g dM u m=some r
  |0,_,_,_,_,_,J=>by simp[lL]at J
  |n+1,0,_,_,_,ak,_=>by omega
  | n+1,dM+1,u,m,r,ak,J=>by
    rcases Lz J with⟨c7,bz,z,D⟩|⟨z,D⟩
    · simp only[lL,h _ _ _ z];exact RQ h (by omega) D
    · obtain⟨e6,fw,iZ⟩:=r;simp only[lL,h _ _ _ z];cases e6 with
      |gv=>exact absurd rfl D
      |bI id=>rfl
      |a7=>rfl
theorem xZ(h:MN df Bd){n dM:Nat}(ak:n<=dM): ∀{c:U} {u:aL} {m:B} {r:dr×aL×B},fK df n c u m=some r->fK Bd dM c u m=some r
  | .skip,_,_,_,J=>J
  | .I ops,u,m,r,J=>by
    simp only[fK]at J⊢;split at J
    · rename_i aF;rw[aa4 h aF];exact J
    · cases J
  | .E a b,u,m,r,J=>by
    simp only[fK]at J⊢;split at J
    · rename_i z;rw[xZ h ak z];exact xZ h ak J
    · rename_i dq;rw[xZ h ak J];obtain⟨e6,fw,iZ⟩:=r;cases e6 with
      |gv=>exact absurd J (dq _ _)
      |bI id=>rfl
      |a7=>rfl
  | .bj x a b,u,m,r,J=>by
    simp only[fK]at J⊢;split at J
    · rename_i z;rw[if_pos z];split at J
      · rename_i D;rw[if_pos D];exact xZ h ak J
      · rename_i D;rw[if_neg D];exact xZ h ak J
    · cases J
  | .block id c,u,m,r,J=>by
    simp only[fK]at J⊢;split at J
    · rename_i z;rw[xZ h ak z];exact J
    · rename_i dq;rw[xZ h ak J];obtain⟨e6,fw,iZ⟩:=r;cases e6 with
      |gv=>rfl
      |bI id=>exact absurd J (dq _ _ _)
      |a7=>rfl
  | .loop c,u,m,r,J=>by simp only[fK]at J⊢;exact RQ (λu m r z=>xZ h ak z) ak J
  | .bI id,_,_,_,J=>J
  | .a7,_,_,_,J=>J
theorem Fs{P:Program}: ∀{n dM:Nat},n<=dM->MN (lS P n) (lS P dM)
  |0,_,_=> λf a m r h=>by simp[lS]at h
  |n+1,0,ak=>by omega
  | n+1,dM+1,ak=> λf a m r h=>by
    simp only[lS]at h⊢;split at h
    · rename_i K de;split at h
      · rename_i fG;rw[if_pos fG];split at h
        · cases h
        · rename_i e ag N dq nC;rw[xZ (Fs (by omega:n<=dM)) (by omega:n<=dM) nC];cases e with
          |gv=>exact h
          |a7=>exact h
          |bI id=>exact absurd rfl (dq id)
        · cases h
      · cases h
    · cases h
end aD
section wp
variable (P:Program)
def bJ(f:Nat)(args:List Value)(m:B)(az:Value->B->Prop):Prop:= ∃n r N,lS P n f args m=some (r,N)/\az r N
def ch(c:U)(u:aL)(m:B)(Q:dr->aL->B->Prop):Prop:= ∃n e ag N,fK (lS P n) n c u m=some (e,ag,N)/\Q e ag N
def gY(base:Nat)(ops:List b6)(u:aL)(m:B)(aV:aL->B->Prop):Prop:= ∃n ag N,mN (lS P n) base ops u m=some (ag,N)/\aV ag N
def s8(b:U)(Q:dr->aL->B->Prop)(e:dr)(u:aL)(m:B):Prop:=match e with| .gv=>ch P b u m Q|e=>Q e u m
def sz(id:Nat)(Q:dr->aL->B->Prop)(e:dr)(u:aL)(m:B):Prop:=match e with| .bI l1=>if l1=id then Q .gv u m else Q (.bI l1) u m|e=>Q e u m
def RY(c:U)(Q:dr->aL->B->Prop)(e:dr)(u:aL)(m:B):Prop:=match e with| .gv=>ch P (.loop c) u m Q|e=>Q e u m
def ey(bb:List nw)(az:Value->B->Prop)(e:dr)(u:aL)(m:B):Prop:=match e with| .bI _=>False|_=>nI m u bb=true/\az (n4 m u bb) m
def zu(base:Nat)(d:Option Nat)(bx:List (Operand×Operand))(b0:List b6)(u:aL)(m:B)(aV:aL->B->Prop)(r:Value)(N:B):Prop:=xt u bx m N/\gY P base b0 (dA u d r) N aV
variable {P} {u:aL} {m:B} {Q:dr->aL->B->Prop}
theorem anv{b:U}:s8 P b Q .gv u m=ch P b u m Q:=rfl
theorem aDh{b:U}{id:Nat}:s8 P b Q (.bI id) u m=Q (.bI id) u m:=rfl
theorem aDi{b:U}:s8 P b Q .a7 u m=Q .a7 u m:=rfl
theorem apv{id:Nat}:sz id Q .gv u m=Q .gv u m:=rfl
theorem Nb{id l1:Nat}:sz id Q (.bI l1) u m=if l1=id then Q .gv u m else Q (.bI l1) u m:=rfl
theorem apw{id:Nat}:sz id Q .a7 u m=Q .a7 u m:=rfl
theorem akZ{c:U}:RY P c Q .gv u m=ch P (.loop c) u m Q:=rfl
theorem ay6{c:U}{id:Nat}:RY P c Q (.bI id) u m=Q (.bI id) u m:=rfl
theorem ay7{c:U}:RY P c Q .a7 u m=Q .a7 u m:=rfl
theorem aBs{K:List nw}{az:Value->B->Prop}:ey K az .gv u m=(nI m u K=true/\az (n4 m u K) m):=rfl
theorem aBt{K:List nw}{az:Value->B->Prop}:ey K az .a7 u m=(nI m u K=true/\az (n4 m u K) m):=rfl
theorem FA{n dM:Nat}(h:n<=dM){c:U}{r:dr×aL×B}(J:fK (lS P n) n c u m=some r):fK (lS P dM) dM c u m=some r:=xZ (Fs h) h J
theorem aoa:ch P .skip u m Q=Q .gv u m:=by refine propext ⟨λ⟨n,e,ag,N,h,q⟩=> ?_,λh=>⟨0,_,_,_,rfl,h⟩⟩;cases h;exact q
theorem an5{id:Nat}:ch P (.bI id) u m Q=Q (.bI id) u m:=by refine propext ⟨λ⟨n,e,ag,N,h,q⟩=> ?_,λh=>⟨0,_,_,_,rfl,h⟩⟩;cases h;exact q
theorem an8:ch P .a7 u m Q=Q .a7 u m:=by refine propext ⟨λ⟨n,e,ag,N,h,q⟩=> ?_,λh=>⟨0,_,_,_,rfl,h⟩⟩;cases h;exact q
theorem an7{ops:List b6}:ch P (.I ops) u m Q=gY P m.next ops u (k2 ops m) (Q .gv):=by
  refine propext ⟨λ⟨n,e,ag,N,h,q⟩=> ?_,λ⟨n,ag,N,h,q⟩=>⟨n,.gv,ag,N,by simp only[fK,h],q⟩⟩;simp only[fK]at h;split at h
  · rename_i aF;cases h;exact⟨n,_,_,aF,q⟩
  · cases h
theorem an9{a b:U}:ch P (.E a b) u m Q=ch P a u m (s8 P b Q):=by
  refine propext ⟨λ⟨n,e,ag,N,h,q⟩=> ?_,λ⟨n,e,ag,N,h,q⟩=> ?_⟩
  · simp only[fK]at h;split at h
    · rename_i c7 bz z;exact⟨n,.gv,c7,bz,z,n,e,ag,N,h,q⟩
    · rename_i dq;refine⟨n,e,ag,N,h,?_⟩;cases e with
      |gv=>exact absurd h (dq _ _)
      |bI id=>exact q
      |a7=>exact q
  · cases e with
    | gv=>obtain⟨dh,a1,fb,b4,D,bU⟩:=q;refine⟨max n dh,a1,fb,b4,?_,bU⟩;simp only[fK,FA (Nat.le_max_left n dh) h];exact FA (Nat.le_max_right n dh) D
    |bI id=>exact⟨n,_,ag,N,by simp only[fK,h],q⟩
    |a7=>exact⟨n,_,ag,N,by simp only[fK,h],q⟩
theorem an4{c:Operand}{a b:U}:ch P (.bj c a b) u m Q=(vT (ab u c)=true/\if xR (ab u c)=true then ch P a u m Q else ch P b u m Q):=by
  refine propext ⟨λ⟨n,e,ag,N,h,q⟩=> ?_,λ⟨z,D⟩=> ?_⟩
  · simp only[fK]at h;split at h
    · rename_i z;refine⟨z,?_⟩;split at h
      · rename_i D;rw[if_pos D];exact⟨n,e,ag,N,h,q⟩
      · rename_i D;rw[if_neg D];exact⟨n,e,ag,N,h,q⟩
    · cases h
  · split at D
    · rename_i Z;obtain⟨n,e,ag,N,h,q⟩:=D;exact⟨n,e,ag,N,by simp only[fK,if_pos z,if_pos Z,h],q⟩
    · rename_i Z;obtain⟨n,e,ag,N,h,q⟩:=D;exact⟨n,e,ag,N,by simp only[fK,if_pos z,if_neg Z,h],q⟩
theorem an3{id:Nat}{c:U}:ch P (.block id c) u m Q=ch P c u m (sz id Q):=by
  refine propext ⟨λ⟨n,e,ag,N,h,q⟩=> ?_,λ⟨n,e,ag,N,h,q⟩=> ?_⟩
  · simp only[fK]at h;split at h
    · rename_i l1 c7 bz z;refine⟨n,.bI l1,c7,bz,z,?_⟩;rw[Nb];split at h
      · rename_i aU;cases h;rw[if_pos aU];exact q
      · rename_i aU;cases h;rw[if_neg aU];exact q
    · rename_i dq;refine⟨n,e,ag,N,h,?_⟩;cases e with
      |gv=>exact q
      |bI l1=>exact absurd h (dq _ _ _)
      |a7=>exact q
  · cases e with
    |gv=>exact⟨n,.gv,ag,N,by simp only[fK,h],q⟩
    |a7=>exact⟨n,.a7,ag,N,by simp only[fK,h],q⟩
    | bI l1=>
      rw[Nb]at q;split at q
      · rename_i aU;exact⟨n,.gv,ag,N,by simp only[fK,h,if_pos aU],q⟩
      · rename_i aU;exact⟨n,.bI l1,ag,N,by simp only[fK,h,if_neg aU],q⟩
theorem an6{c:U}:ch P (.loop c) u m Q=ch P c u m (RY P c Q):=by
  refine propext ⟨λ⟨n,e,ag,N,h,q⟩=> ?_,λ⟨n,e,ag,N,h,q⟩=> ?_⟩
  · simp only[fK]at h;cases n with
    |zero=>simp[lL]at h
    | succ n=>
      rcases Lz h with⟨c7,bz,z,D⟩|⟨z,D⟩
      · refine⟨n+1,.gv,c7,bz,z,n+1,e,ag,N,?_,q⟩;simp only[fK];exact RQ (λ_ _ _ h=>h) (by omega) D
      · refine⟨n+1,e,ag,N,z,?_⟩;cases e with
        |gv=>exact absurd rfl D
        |bI id=>exact q
        |a7=>exact q
  · cases e with
    | gv=>obtain⟨dh,a1,fb,b4,D,bU⟩:=q;refine⟨max n dh+1,a1,fb,b4,?_,bU⟩;simp only[fK]at D⊢;have z:fK (lS P (max n dh+1)) (max n dh+1) c u m=some (.gv,ag,N):=FA (by omega) h;simp only[lL,z];exact RQ (λ_ _ _ h=>FA (by omega) h) (by omega) D
    |bI id=>exact⟨n+1,_,ag,N,by simp only[fK,lL];rw[FA (by omega:n<=n+1) h],q⟩
    |a7=>exact⟨n+1,_,ag,N,by simp only[fK,lL];rw[FA (by omega:n<=n+1) h],q⟩
theorem fD{f:Nat}{args:List Value}{az:Value->B->Prop}{K:dn}(de:dj P f=some K)(aG:args.length<=K.ek):bJ P f args m az=ch P K.body (eu args) m (ey K.qP az):=by
  refine propext ⟨λ⟨n,r,N,h,q⟩=> ?_,λ⟨n,e,ag,N,h,q⟩=> ?_⟩
  · cases n with
    |zero=>simp[lS]at h
    | succ n=>
      simp only[lS,de,if_pos aG]at h;split at h
      · cases h
      · rename_i e ag bz dq nC;split at h
        · rename_i aA;cases h;refine⟨n,e,ag,N,nC,?_⟩;cases e with
          |gv=>exact⟨aA,q⟩
          |a7=>exact⟨aA,q⟩
          |bI id=>exact absurd rfl (dq id)
        · cases h
      · cases h
  · cases e with
    |gv=>exact⟨n+1,_,N,by simp only[lS,de,if_pos aG,h,q.1,if_true],q.2⟩
    |a7=>exact⟨n+1,_,N,by simp only[lS,de,if_pos aG,h,q.1,if_true],q.2⟩
    |bI id=>exact q.elim
def ob(P:Program)(f:Nat)(args:List Value)(m:B)(r:Value)(N:B):Prop:= ∃n,lS P n f args m=some (r,N)
theorem ob.wp{f:Nat}{args:List Value}{r:Value}{N:B}(h:ob P f args m r N){az:Value->B->Prop}:bJ P f args m az=az r N:=by obtain⟨n,ak⟩:=h;refine propext ⟨λ⟨dM,hb,EB,ca,q⟩=> ?_,λq=>⟨n,r,N,ak,q⟩⟩;have z:=Fs (Nat.le_max_left n dM) _ _ _ _ ak;have D:=Fs (Nat.le_max_right n dM) _ _ _ _ ca;rw[z]at D;cases D;exact q
theorem ob.rp{f:Nat}{args:List Value}{r:Value}{N:B}(h:bJ P f args m λhb EB=>hb=r/\EB=N):ob P f args m r N:=by obtain⟨n,hb,EB,z,rfl,rfl⟩:=h;exact⟨n,z⟩
theorem bJ.a7{f:Nat}{args:List Value}{az:Value->B->Prop}(h:bJ P f args m az): ∃r N,ob P f args m r N/\az r N:=by obtain⟨n,r,N,z,q⟩:=h;exact⟨r,N,⟨n,z⟩,q⟩
theorem bJ.aD{f:Nat}{args:List Value}{az km:Value->B->Prop}(h:bJ P f args m az)(bt: ∀r N,az r N->km r N):bJ P f args m km:=by obtain⟨n,r,N,z,q⟩:=h;exact⟨n,r,N,z,bt _ _ q⟩
theorem ch.aD{c:U}{A5:dr->aL->B->Prop}(h:ch P c u m Q)(bt: ∀e ag N,Q e ag N->A5 e ag N):ch P c u m A5:=by obtain⟨n,e,ag,N,z,q⟩:=h;exact⟨n,e,ag,N,z,bt _ _ _ q⟩
variable {aV:aL->B->Prop} {base bc:Nat} {b0:List b6} {d:Option Nat} {g:Option (Nat×Bool)} {bx:List (Operand×Operand)}
theorem aof:gY P base [] u m aV=aV u m:=by refine propext ⟨λ⟨n,ag,N,h,q⟩=> ?_,λh=>⟨0,_,_,rfl,h⟩⟩;cases h;exact q
theorem aB7{n dM:Nat}(h:n<=dM){br:List b6}{r:aL×B}(J:mN (lS P n) base br u m=some r):mN (lS P dM) base br u m=some r:=aa4 (Fs h) J
theorem oC{k:av}(W:k.mu=false):gY P base (⟨bc,d,none,k,bx⟩::b0) u m aV=(k.ok u m=true/\mh u bx=true/\gY P base b0 (dA u d (k.val (base+bc) u m)) (k.kk (base+bc) u m) aV):=by
  have hG:k.gE u m=none:=vU W;refine propext ⟨λ⟨n,ag,N,h,q⟩=> ?_,λ⟨z,D,n,ag,N,Z,q⟩=> ?_⟩
  · obtain⟨c7,bz,z,D,Z⟩:=tW h;obtain⟨aA,e⟩:=abR (o:=⟨bc,d,none,k,bx⟩) rfl hG z;cases e;have aw:=D rfl;simp only[hG]at aw;exact⟨aA,aw,n,ag,N,Z,q⟩
  · refine⟨n,ag,N,AK (aC3 (o:=⟨bc,d,none,k,bx⟩) rfl hG z) (λ_=> ?_) Z,q⟩;simp only[hG];exact D
theorem aoe{k:av}{t:Nat}{b:Bool}:gY P base (⟨bc,d,some (t,b),k,bx⟩::b0) u m aV=if fN u (some (t,b))=true then gY P base (⟨bc,d,none,k,bx⟩::b0) u m aV else gY P base b0 (dA u d undef) m aV:=by
  split
  · rename_i aO;have c1: ∀df:Callee,jb df base ⟨bc,d,some (t,b),k,bx⟩ u m=jb df base ⟨bc,d,none,k,bx⟩ u m:= λdf=>by
      unfold jb;simp only[aO,if_true,show fN u none=true from rfl]
    have FY: ∀N,q1 ⟨bc,d,some (t,b),k,bx⟩ u m N↔q1 ⟨bc,d,none,k,bx⟩ u m N:= λN=>⟨λh _=>h aO,λh _=>h rfl⟩;refine propext ⟨λ⟨n,ag,N,h,q⟩=> ?_,λ⟨n,ag,N,h,q⟩=> ?_⟩
    · obtain⟨c7,bz,z,D,Z⟩:=tW h;exact⟨n,ag,N,AK (by rw[<-c1];exact z) ((FY _).1 D) Z,q⟩
    · obtain⟨c7,bz,z,D,Z⟩:=tW h;exact⟨n,ag,N,AK (by rw[c1];exact z) ((FY _).2 D) Z,q⟩
  · rename_i aO;have uL:fN u (some (t,b))=false:=(by simpa using aO);refine propext ⟨λ⟨n,ag,N,h,q⟩=> ?_,λ⟨n,ag,N,h,q⟩=> ?_⟩
    · obtain⟨c7,bz,z,D,Z⟩:=tW h;rw[CF (o:=⟨bc,d,some (t,b),k,bx⟩) uL]at z;cases z;exact⟨n,ag,N,Z,q⟩
    · exact⟨n,ag,N,AK (CF (o:=⟨bc,d,some (t,b),k,bx⟩) uL) (λh=>absurd h aO) h,q⟩
theorem aoc{k:av}{f:Nat}{args:List Value}(hG:k.gE u m=some (f,args)):gY P base (⟨bc,d,none,k,bx⟩::b0) u m aV=bJ P f args m (zu P base d bx b0 u m aV):=by
  refine propext ⟨λ⟨n,ag,N,h,q⟩=> ?_,λ⟨n,r,bz,h,z,dh,fb,b4,D,q⟩=> ?_⟩
  · obtain⟨c7,bz,z,D,Z⟩:=tW h;obtain⟨v,b4,aC,a2⟩:=HP (o:=⟨bc,d,none,k,bx⟩) rfl hG z;cases a2;have aw:=D rfl;simp only[hG]at aw;exact⟨n,v,_,aC,aw,n,ag,N,Z,q⟩
  · refine⟨max n dh,fb,b4,AK (Mv (o:=⟨bc,d,none,k,bx⟩) rfl hG (Fs (Nat.le_max_left n dh) _ _ _ _ h)) (λ_=> ?_) (aB7 (Nat.le_max_right n dh) D),q⟩;simp only[hG];exact z
theorem aob{f:Nat}{as:List Operand}:gY P base (⟨bc,d,none,.eI f as,bx⟩::b0) u m aV=bJ P f (as.map (ab u)) m (zu P base d bx b0 u m aV):=aoc rfl
theorem aod{x:Operand}{as:List Operand}{f:Nat}{first lT:Array Value}(h:ab u x= .func (.func f) first lT):
    gY P base (⟨bc,d,none,.lZ x as,bx⟩::b0) u m aV=bJ P f (first.toList++as.map (ab u)++lT.toList) m (zu P base d bx b0 u m aV):=aoc (by simp only[av.gE,h])
theorem aqV{r:Value}{N:B}:zu P base d [] b0 u m aV r N=gY P base b0 (dA u d r) N aV:=by simp[zu,xt]
theorem aq1:mh u []=true:=rfl
end wp
theorem fc.empty{bu:Nat}{w:World}:fc bu (λ_=>none) ⟨0,λ_=>none,λ_=>none⟩ w where
  ql:= λ_ _ h=>by cases h
  rf:= λ_ _ h=>by cases h
  rk:= λb x h=>by unfold B.M at h;split at h<;>cases h
  wP:= λb x cQ kC l e5 h=>by unfold B.M at h;split at h<;>cases h
  yI:= λ_ _ h=>by cases h
  kz:= λb bg h=>by simp only[B.c6,B.M,Nat.not_lt_zero,if_false]at h;cases h
end Go.DI
namespace Go.DI
open Go
def wI(s:ByteArray)(i:Nat):Int:=((s.data.toList.getD i 0).toNat:Nat)
def alh(gu:mx)(m:B)(x k:Value):Bool:=match mv m x with
  |some bg=>eh gu k bg
  |none=>false
def ali(zero:Value)(o:Bool)(m:B)(x k:Value):Value:=
  if o then .tuple #[((mv m x).bind (cF k)).getD zero,.bool ((mv m x).bind (cF k)).isSome]else((mv m x).bind (cF k)).getD zero
def aln(gu:mx)(m:B)(x k v:Value):Bool:=match x with
  | .map (some b)=>(match m.c6 b with
    |some bg=>eh gu k bg&&ao v
    |none=>false)
  |_=>false
def alm(m:B)(x k v:Value):B:=m.hq (Cd x) (dW k v ((m.c6 (Cd x)).getD []))
@[simp] theorem aLy{gu:mx}{m:B}{b:Nat}{k:Value}:alh gu m (.map (some b)) k=(match m.c6 b with|some bg=>eh gu k bg|none=>false):=rfl
@[simp] theorem aLz{O:Value}{o:Bool}{m:B}{b:Nat}{k:Value}:ali O o m (.map (some b)) k=if o then .tuple #[((m.c6 b).bind (cF k)).getD O,.bool ((m.c6 b).bind (cF k)).isSome]else((m.c6 b).bind (cF k)).getD O:=rfl
@[simp] theorem aLB{gu:mx}{m:B}{b:Nat}{k v:Value}:aln gu m (.map (some b)) k v=(match m.c6 b with|some bg=>eh gu k bg&&ao v|none=>false):=rfl
@[simp] theorem aLA{m:B}{b:Nat}{k v:Value}:alm m (.map (some b)) k v=m.hq b (dW k v ((m.c6 b).getD [])):=rfl
attribute [simp] aoa an5 an8 an7 an9 an4 an3 anv aDh aDi apv Nb apw akZ ay6 ay7 aBs aBt
  aof aoe aob aqV aq1
section
variable {P:Program} {base bc:Nat} {d:Option Nat} {b0:List b6} {u:aL} {m:B} {aV:aL->B->Prop} {bx:List (Operand×Operand)}
@[simp] theorem aRe(x:Operand):gY P base (⟨bc,d,none,.pk x,bx⟩::b0) u m aV=(mh u bx=true/\gY P base b0 (dA u d (ab u x)) (m) aV):=by rw[oC rfl];simp only[av.ok,true_and];try rfl
@[simp] theorem aRf(c a b:Operand):gY P base (⟨bc,d,none,.s4 c a b,bx⟩::b0) u m aV=(vT (ab u c)=true/\mh u bx=true/\gY P base b0 (dA u d (if xR (ab u c)=true then ab u a else ab u b)) (m) aV):=by rw[oC rfl];rfl
@[simp] theorem aQY(O:List Value):gY P base (⟨bc,d,none,.eR O,bx⟩::b0) u m aV=(mh u bx=true/\gY P base b0 (dA u d (.pointer (some ⟨base+bc,0,none⟩))) (m.au (base+bc) (some ⟨O,true⟩)) aV):=by rw[oC rfl];simp only[av.ok,true_and];try rfl
@[simp] theorem aQ1(x:Operand):gY P base (⟨bc,d,none,.o7 x,bx⟩::b0) u m aV=(ar (ab u x)=true/\mh u bx=true/\gY P base b0 (dA u d (.pointer (some ⟨base+bc,0,none⟩))) (m.au (base+bc) (some ⟨al (ab u x),true⟩)) aV):=by rw[oC rfl];rfl
@[simp] theorem aQ3(O:List Value)(dX:List (Nat×Nat×Operand)):gY P base (⟨bc,d,none,.gT O dX,bx⟩::b0) u m aV=(sh O u dX=true/\mh u bx=true/\gY P base b0 (dA u d (.agg (n3 O u dX).toArray)) (m) aV):=by rw[oC rfl];rfl
@[simp] theorem aQ2(O n:Nat)(cs:List Value)(dX:List (Nat×Nat×Operand)):gY P base (⟨bc,d,none,.iT O n cs dX,bx⟩::b0) u m aV=(sh cs u dX=true/\mh u bx=true/\gY P base b0 (dA u d (.slice (some ⟨base+bc,0,none⟩) n O)) (m.au (base+bc) (some ⟨n3 cs u dX,true⟩)) aV):=by rw[oC rfl];rfl
@[simp] theorem aRc(ep:Bool)(n:Nat)(x:Operand):gY P base (⟨bc,d,none,.fj ep n x,bx⟩::b0) u m aV=((gZ m (ab u x) n&&(ep||decide (n=1)))=true/\mh u bx=true/\gY P base b0 (dA u d (lq m ep n (ab u x))) (m) aV):=by rw[oC rfl];rfl
@[simp] theorem aRi(n:Nat)(x v:Operand):gY P base (⟨bc,d,none,.store n x v,bx⟩::b0) u m aV=((gZ m (ab u x) n&&rH m (ab u x)&&ar (ab u v)&&decide ((al (ab u v)).length=n))=true/\mh u bx=true/\gY P base b0 (dA u d (undef)) (qR m (ab u x) (al (ab u v))) aV):=by rw[oC rfl];rfl
@[simp] theorem aQ0(op:BinOp)(c:wG)(x y:Operand):gY P base (⟨bc,d,none,.gz op c x y,bx⟩::b0) u m aV=(uj op c (ab u x) (ab u y)=true/\mh u bx=true/\gY P base b0 (dA u d (nc op (ab u x) (ab u y))) (m) aV):=by rw[oC rfl];rfl
@[simp] theorem aRj(op:UnOp)(x:Operand):gY P base (⟨bc,d,none,.nv op x,bx⟩::b0) u m aV=(AV op (ab u x)=true/\mh u bx=true/\gY P base b0 (dA u d (E6 op (ab u x))) (m) aV):=by rw[oC rfl];rfl
@[simp] theorem aQ5(k:IntKind)(x:Operand):gY P base (⟨bc,d,none,.xV k x,bx⟩::b0) u m aV=(fU (ab u x)=true/\mh u bx=true/\gY P base b0 (dA u d (.int k (k.wrap (gd (ab u x))))) (m) aV):=by rw[oC rfl];rfl
@[simp] theorem aRh(O:Nat)(x:Operand)(cZ aa:Option Operand):gY P base (⟨bc,d,none,.pv O x cZ aa,bx⟩::b0) u m aV=((av.pv O x cZ aa).ok u m=true/\mh u bx=true/\gY P base b0 (dA u d (n8 (ab u x) O (hJ u cZ 0).toNat (hJ u aa (ic (ab u x))).toNat)) (m) aV):=by rw[oC rfl];try rfl
@[simp] theorem aRd(O bytes:Nat)(mT:List Value)(l c:Operand):gY P base (⟨bc,d,none,.nk O bytes mT l c,bx⟩::b0) u m aV=((av.nk O bytes mT l c).ok u m=true/\mh u bx=true/\gY P base b0 (dA u d (.slice (some ⟨base+bc,0,none⟩) (gd (ab u l)).toNat O)) (m.au (base+bc) (some ⟨(List.replicate (gd (ab u l)).toNat mT).flatten,true⟩)) aV):=by rw[oC rfl];try rfl
@[simp] theorem aQ7(off:Nat)(x:Operand):gY P base (⟨bc,d,none,.ur off x,bx⟩::b0) u m aV=(s5 (ab u x)=true/\mh u bx=true/\gY P base b0 (dA u d (yS (ab u x) off)) (m) aV):=by rw[oC rfl];rfl
@[simp] theorem aQ8(O:Nat)(x i:Operand):gY P base (⟨bc,d,none,.pg O x i,bx⟩::b0) u m aV=((kA O (ab u x)&&fU (ab u i)&&decide (0<=gd (ab u i))&&decide (gd (ab u i)<ic (ab u x)))=true/\mh u bx=true/\gY P base b0 (dA u d (mP (ab u x) O (gd (ab u i)))) (m) aV):=by rw[oC rfl];rfl
@[simp] theorem aQ9(x i:Operand):gY P base (⟨bc,d,none,.xh x i,bx⟩::b0) u m aV=((nh (ab u x)&&fU (ab u i)&&decide (0<=gd (ab u i))&&decide (gd (ab u i)<ic (ab u x)))=true/\mh u bx=true/\gY P base b0 (dA u d (.int .u8 (wI (ui (ab u x)) (gd (ab u i)).toNat))) (m) aV):=by rw[oC rfl];rfl
@[simp] theorem aQ6(i:Nat)(x:Operand):gY P base (⟨bc,d,none,.ext i x,bx⟩::b0) u m aV=(E4 (ab u x) i=true/\mh u bx=true/\gY P base b0 (dA u d (CJ (ab u x) i)) (m) aV):=by rw[oC rfl];rfl
@[simp] theorem aRa(x:Operand):gY P base (⟨bc,d,none,.v8 x,bx⟩::b0) u m aV=(nh (ab u x)=true/\mh u bx=true/\gY P base b0 (dA u d (.int .i64 (ic (ab u x)))) (m) aV):=by rw[oC rfl];rfl
@[simp] theorem aRb(x:Operand):gY P base (⟨bc,d,none,.uX x,bx⟩::b0) u m aV=(yy (ab u x)=true/\mh u bx=true/\gY P base b0 (dA u d (.int .i64 (ic (ab u x)))) (m) aV):=by rw[oC rfl];rfl
@[simp] theorem aQZ(O bytes:Nat)(x y:Operand):gY P base (⟨bc,d,none,.app O bytes x y,bx⟩::b0) u m aV=((av.app O bytes x y).ok u m=true/\mh u bx=true/\gY P base b0 (dA u d ((av.app O bytes x y).val (base+bc) u m)) ((av.app O bytes x y).kk (base+bc) u m) aV):=by rw[oC rfl];try rfl
@[simp] theorem aRg(O:Nat)(x:Operand)(cZ:Option Operand)(aa fC:Operand):gY P base (⟨bc,d,none,.wq O x cZ aa fC,bx⟩::b0) u m aV=((av.wq O x cZ aa fC).ok u m=true/\mh u bx=true/\gY P base b0 (dA u d (n8 (ab u x) O (hJ u cZ 0).toNat (gd (ab u aa)).toNat)) (m) aV):=by rw[oC rfl];try rfl
@[simp] theorem aJy{t aN:TypeId}{v:Value}:JW t (.iface aN v)=decide (aN=t):=rfl
@[simp] theorem aJz{t:TypeId}{v:Value}:afN (.iface t v)=v:=rfl
@[simp] theorem aH5{t:Nat}:ab u (.tmp t)=u t:=rfl
@[simp] theorem aH3{v:Value}:ab u (.const v)=v:=rfl
@[simp] theorem aH4{f:Nat}:ab u (.func f)= .func (.func f) #[] #[]:=rfl
@[simp] theorem aMF{t:Nat}{v:Value}:dA u (some t) v=qc u t v:=rfl
@[simp] theorem aME{v:Value}:dA u none v=u:=rfl
@[simp] theorem aDy{t aJ:Nat}{v:Value}:qc u t v aJ=if aJ=t then v else u aJ:=rfl
@[simp] theorem aJB{dF:Value}{l:List Value}:eu (dF::l) 0=dF:=rfl
@[simp] theorem aJC{dF bn:Value}{l:List Value}:eu (dF::bn::l) 1=bn:=rfl
@[simp] theorem aJD{dF bn bF:Value}{l:List Value}:eu (dF::bn::bF::l) 2=bF:=rfl
@[simp] theorem aJE{dF bn bF dp:Value}{l:List Value}:eu (dF::bn::bF::dp::l) 3=dp:=rfl
@[simp] theorem aJF{dF bn bF dp eH:Value}{l:List Value}:eu (dF::bn::bF::dp::eH::l) 4=eH:=rfl
@[simp] theorem aJG{dF bn bF dp eH fo:Value}{l:List Value}:eu (dF::bn::bF::dp::eH::fo::l) 5=fo:=rfl
@[simp] theorem aJH{dF bn bF dp eH fo fp:Value}{l:List Value}:eu (dF::bn::bF::dp::eH::fo::fp::l) 6=fp:=rfl
@[simp] theorem aJI{dF bn bF dp eH fo fp gp:Value}{l:List Value}:eu (dF::bn::bF::dp::eH::fo::fp::gp::l) 7=gp:=rfl
def acg(v:Value)(b:Bool):Bool:=match v with| .bool c=>c==b|_=>false
@[simp] theorem aQS{c b:Bool}:acg (.bool c) b=(c==b):=rfl
@[simp] theorem aQT{b:Bool}:acg undef b=false:=rfl
@[simp] theorem aQU{t:Nat}{b:Bool}:fN u (some (t,b))=acg (u t) b:=rfl
@[simp] theorem aNl{r:nw}:n4 m u [r]=s6 m u r:=rfl
@[simp] theorem aNk:n4 m u []= .tuple #[]:=rfl
@[simp] theorem aNm{r s:nw}{l:List nw}:n4 m u (r::s::l)= .tuple ((r::s::l).map (s6 m u)).toArray:=rfl
@[simp] theorem aNg{t:Nat}:s6 m u (.bA t)=u t:=rfl
@[simp] theorem aNf{t n:Nat}{ep:Bool}:s6 m u (.h7 t ep n)=lq m ep n (u t):=rfl
@[simp] theorem aNj{l:List nw}:nI m u l=l.all (sk m u):=rfl
@[simp] theorem aNe{t:Nat}:sk m u (.bA t)=true:=rfl
@[simp] theorem aNd{t n:Nat}{ep:Bool}:sk m u (.h7 t ep n)=(gZ m (u t) n&&(ep||decide (n=1))):=rfl
@[simp] theorem aNc{l:List b6}:k2 l m=if l.any (λo=>o.k.gF)=true then m.bs l.length else m:=by unfold k2;rfl
end
attribute [simp] xR vT gd fU ui al kE ai ar Eo s5 yS Ih nh CJ E4 NF IX tK hJ p5 qM qL Hb TQ sh n3
  uj nc Gh ON CG Mx wO q4 sR E6 AV o8 Bc ny kb
attribute [simp] eh pj cF dW ao
@[simp] theorem aJ9:av.oS.gF=true:=rfl
@[simp] theorem aJJ(a:List Value):(av.eR a).gF=true:=rfl
@[simp] theorem aJM(a:Operand):(av.o7 a).gF=true:=rfl
@[simp] theorem aJN(a b:Nat)(c:List Value)(d:List (Nat×Nat×Operand)):(av.iT a b c d).gF=true:=rfl
@[simp] theorem aJU(a:Operand):(av.rN a).gF=true:=rfl
@[simp] theorem aKa(a b:Nat)(c:List Value)(d e:Operand):(av.nk a b c d e).gF=true:=rfl
@[simp] theorem aJK(a b:Nat)(c d:Operand):(av.app a b c d).gF=true:=rfl
@[simp] theorem aKb(a:mx)(b:Value)(c:Bool)(d e:Operand):(av.pY a b c d e).gF=false:=rfl
@[simp] theorem aKd(a:mx)(b c d:Operand):(av.pl a b c d).gF=false:=rfl
@[simp] theorem aKg(a b:Nat)(c:Operand):(av.sq a b c).gF=false:=rfl
@[simp] theorem aKh(a:Nat)(b:Operand)(c:Option Operand)(d e:Operand):(av.wq a b c d e).gF=false:=rfl
@[simp] theorem aJ8(a:TypeId)(b:Operand):(av.Hn a b).gF=false:=rfl
@[simp] theorem aKl(a:TypeId)(b:Operand):(av.HU a b).gF=false:=rfl
@[simp] theorem aJ1(a:List (TypeId×Nat×Option (Bool×Nat)))(b:Operand)(c:List Operand):(av.qB a b c).gF=false:=rfl
@[simp] theorem aKc(a:Operand):(av.pk a).gF=false:=rfl
@[simp] theorem aKf(a b c:Operand):(av.s4 a b c).gF=false:=rfl
@[simp] theorem aKe(a:Operand):(av.Az a).gF=false:=rfl
@[simp] theorem aJO(a:List Value)(b:List (Nat×Nat×Operand)):(av.gT a b).gF=false:=rfl
@[simp] theorem aJ5(a:Bool)(b:Nat)(c:Operand):(av.fj a b c).gF=false:=rfl
@[simp] theorem aKk(a:Nat)(b c:Operand):(av.store a b c).gF=false:=rfl
@[simp] theorem aJL(a:BinOp)(b:wG)(c d:Operand):(av.gz a b c d).gF=false:=rfl
@[simp] theorem aJV(a:Bool)(b:List rE)(c d:Operand):(av.rQ a b c d).gF=false:=rfl
@[simp] theorem aKm(a:UnOp)(b:Operand):(av.nv a b).gF=false:=rfl
@[simp] theorem aJS(a:IntKind)(b:Operand):(av.xV a b).gF=false:=rfl
@[simp] theorem aJT(a:Operand):(av.Ft a).gF=false:=rfl
@[simp] theorem aJR(a:Operand):(av.qk a).gF=false:=rfl
@[simp] theorem aKj(a:Operand)(b c:Option Operand):(av.EZ a b c).gF=false:=rfl
@[simp] theorem aKi(a:Nat)(b:Operand)(c d:Option Operand):(av.pv a b c d).gF=false:=rfl
@[simp] theorem aJX(a:Nat)(b:Operand):(av.ur a b).gF=false:=rfl
@[simp] theorem aJY(a:Bool)(b c:Nat)(d:Operand):(av.field a b c d).gF=false:=rfl
@[simp] theorem aJZ(a:Nat)(b c:Operand):(av.pg a b c).gF=false:=rfl
@[simp] theorem aJ0(a b:Nat)(c d:Operand):(av.ph a b c d).gF=false:=rfl
@[simp] theorem aJ2(a b:Operand):(av.xh a b).gF=false:=rfl
@[simp] theorem aJW(a:Nat)(b:Operand):(av.ext a b).gF=false:=rfl
@[simp] theorem aJ3(a:Operand):(av.v8 a).gF=false:=rfl
@[simp] theorem aJ4(a:Operand):(av.uX a).gF=false:=rfl
@[simp] theorem aJ6(a:Bool)(b:Operand)(c:List Operand):(av.xy a b c).gF=false:=rfl
@[simp] theorem aJ7(a:Fn)(b c:List Operand):(av.tP a b c).gF=false:=rfl
@[simp] theorem aJP(a:Nat)(b:List Operand):(av.eI a b).gF=false:=rfl
@[simp] theorem aJQ(a:Operand)(b:List Operand):(av.lZ a b).gF=false:=rfl
abbrev F(n:Nat):Operand:= .tmp n
abbrev A(i d x:Nat):b6:=⟨i,some d,none,.pk (.tmp x),[]⟩
abbrev bQ(i d:Nat)(n:Int):b6:=⟨i,some d,none,.pk (.const (.int .i64 n)),[]⟩
abbrev dE(i d:Nat)(b:Bool):b6:=⟨i,some d,none,.pk (.const (.bool b)),[]⟩
abbrev aS(i d x:Nat):b6:=⟨i,some d,none,.fj false 1 (.tmp x),[]⟩
abbrev c3(i d n x:Nat):b6:=⟨i,some d,none,.fj true n (.tmp x),[]⟩
abbrev aP(i d n x:Nat):b6:=⟨i,some d,none,.ur n (.tmp x),[]⟩
abbrev eA(i d:Nat)(op:BinOp)(x y:Operand):b6:=⟨i,some d,none,.gz op .hM x y,[]⟩
abbrev cL(i d O x y:Nat):b6:=⟨i,some d,none,.pg O (.tmp x) (.tmp y),[]⟩
abbrev cu(i d x:Nat):b6:=⟨i,some d,none,.uX (.tmp x),[]⟩
abbrev dD(i d n x:Nat):b6:=⟨i,some d,none,.ext n (.tmp x),[]⟩
abbrev cj(i d f:Nat)(as:List Operand):b6:=⟨i,some d,none,.eI f as,[]⟩
abbrev cV(i n x y:Nat):b6:=⟨i,none,none,.store n (.tmp x) (.tmp y),[]⟩
abbrev bP(i d:Nat)(k:av):b6:=⟨i,some d,none,k,[]⟩
abbrev dz(i d j:Nat)(b:Bool)(k:av):b6:=⟨i,some d,some (j,b),k,[]⟩
abbrev lp(i d:Nat)(k:av)(bx:List (Operand×Operand)):b6:=⟨i,some d,none,k,bx⟩
abbrev D1(i:Nat)(k:av):b6:=⟨i,none,none,k,[]⟩
abbrev dL(cl cN di e2:Nat):b6:=bP cl cN (.s4 (F di) (.const (.bool true)) (F e2))
abbrev eB(cl cN di:Nat):b6:=eA cl cN .add (F di) (.const (.int .i64 1))
abbrev eG(cl cN di e2 hV:Nat):b6:=dz cl cN di false (.ur e2 (F hV))
abbrev eX(cl cN di e2:Nat):b6:=eA cl cN .lss (F di) (F e2)
abbrev e7(cl cN di e2:Nat):b6:=bP cl cN (.s4 (F di) (F e2) (.const (.bool false)))
abbrev e8(cl cN di hV:Nat):b6:=dz cl cN di false (.fj false 1 (F hV))
abbrev fi(cl cN di e2:Nat):b6:=dz cl cN di false (.pk (F e2))
abbrev fQ(cl cN:Nat):b6:=bP cl cN (.pk (.const (.slice none 0 0)))
abbrev gj(cl cN di e2 hV:Nat):b6:=cj cl cN di [F e2,F hV]
abbrev hi(cl cN di:Nat):b6:=bP cl cN (.o7 (F di))
abbrev hQ(cl cN di e2:Nat):b6:=dz cl cN di true (.pk (F e2))
abbrev iq(cl cN di e2 hV:Nat):b6:=dz cl cN di true (.ur e2 (F hV))
abbrev iy(cl cN di hV:Nat):b6:=dz cl cN di true (.fj false 1 (F hV))
abbrev iz(cl cN di:Nat):b6:=bP cl cN (.Az (F di))
abbrev iF(cl cN di:Nat):b6:=bP cl cN (.nv .not (F di))
abbrev iK(cl cN di:Nat):b6:=bP cl cN (.xV .u64 (F di))
abbrev ji(cl cN di e2:Nat):b6:=eA cl cN .add (F di) (F e2)
abbrev jR(cl cN di e2:Nat):b6:=dz cl cN di false (.nv .not (F e2))
abbrev kx(cl cN di e2 hV:Nat):b6:=dz cl cN di false (.fj true e2 (F hV))
abbrev ky(cl cN di e2 hV:Nat):b6:=dz cl cN di false (.eI e2 [F hV])
abbrev kL(cl:Nat)(cN:Nat)(di:Nat)(e2:Int):b6:=eA cl cN .eql (F di) (.const (.int .i64 e2))
abbrev kM(cl cN di e2 hV uc:Nat):b6:=bP cl cN (.app di e2 (F hV) (F uc))
abbrev lB(cl cN di e2:Nat):b6:=dz cl cN di false (.uX (F e2))
abbrev lM(cl:Nat)(cN:Nat)(di:Nat)(e2:Int):b6:=eA cl cN .sub (F di) (.const (.int .i64 e2))
abbrev l5(cl cN di:Nat):b6:=bP cl cN (.xV .u32 (F di))
abbrev nZ(cl:Nat)(cN:Nat)(di:Nat)(e2:Nat)(hV:Int):b6:=dz cl cN di true (.gz .leq .hM (F e2) (.const (.int .i64 hV)))
abbrev ou(cl cN di e2 hV:Nat):b6:=dz cl cN di true (.fj true e2 (F hV))
abbrev oO(cl:Nat)(cN:Nat)(di:Nat)(e2:Int):b6:=eA cl cN .lss (F di) (.const (.int .i64 e2))
abbrev oP(cl cN di e2 hV:Nat):b6:=dz cl cN di true (.eI e2 [F hV])
abbrev oQ(cl:Nat)(cN:Nat)(di:Nat)(e2:Nat)(hV:Int):b6:=dz cl cN di false (.gz .gtr .hM (F e2) (.const (.int .i64 hV)))
abbrev pV(cl:Nat)(cN:Nat)(di:Int):b6:=bP cl cN (.pk (.const (.int .u64 di)))
abbrev qH(cl:Nat)(cN:Nat)(di:Nat)(e2:Int):b6:=eA cl cN .gtr (F di) (.const (.int .i64 e2))
abbrev qI(cl cN di e2 hV:Nat):b6:=dz cl cN di false (.gz .neq .hM (F e2) (F hV))
abbrev rh(cl cN e2 hV:Nat):b6:=bP cl cN (.pv 1 (F e2) none (some (F hV)))
abbrev sb(cl cN di e2:Nat):b6:=dz cl cN di true (.uX (F e2))
abbrev sc(cl:Nat)(cN:Nat)(di:Nat)(e2:Int):b6:=eA cl cN .geq (F di) (.const (.int .i64 e2))
abbrev sS(cl:Nat)(cN:Nat)(di:Nat)(e2:Int):b6:=eA cl cN .shr (F di) (.const (.int .u64 e2))
abbrev uS(cl cN di e2 hV uc:Nat):b6:=dz cl cN di false (.eI e2 [F hV,F uc])
abbrev uT(cl:Nat)(cN:Nat)(e2:Nat)(hV:Nat)(uc:Int)(CQ:Nat):b6:=cj cl cN 35 [F e2,F hV,.const (.int .i64 uc),F CQ]
abbrev vW(cl cN di e2:Nat):b6:=dz cl cN di true (.nv .not (F e2))
abbrev vX(cl cN di e2 hV uc:Nat):b6:=dz cl cN di false (.pg e2 (F hV) (F uc))
abbrev vY(cl cN CQ:Nat):b6:=bP cl cN (.iT 1 1 [.string ⟨#[]⟩] [(0,1,F CQ)])
abbrev vZ(cl cN uc CQ:Nat):b6:=bP cl cN (.nk 1 4 [.int .u32 0] (F uc) (F CQ))
abbrev xq(cl cN di:Nat):b6:=eA cl cN .neq (F di) (.const (.int .i64 0))
abbrev xr(cl:Nat)(cN:Nat)(di:Nat)(e2:Nat)(hV:Int)(uc:Int):b6:=cj cl cN di [F e2,.const (.int .i64 hV),.const (.int .i64 uc)]
abbrev B9(cl cN di e2:Nat):b6:=dz cl cN di true (.gz .sub .hM (F e2) (.const (.int .i64 1)))
abbrev Ca(cl:Nat)(cN:Nat)(di:Nat)(e2:Nat)(hV:Int):b6:=bP cl cN (.pg di (F e2) (.const (.int .i64 hV)))
abbrev Cb(cl:Nat)(cN:Nat)(di:Nat)(e2:Nat)(hV:Int):b6:=dz cl cN di true (.gz .eql .hM (F e2) (.const (.int .i64 hV)))
abbrev Es(cl cN di e2:Nat):b6:=dz cl cN di false (.gz .neq .hM (F e2) (.const (.int .i64 0)))
abbrev Et(cl cN di:Nat):b6:=eA cl cN .shl (F di) (.const (.int .u64 32))
abbrev Eu(cl:Nat)(cN:Nat)(di:Nat)(e2:Nat)(hV:Int):b6:=dz cl cN di true (.gz .leq .hM (F e2) (.const (.int .u8 hV)))
abbrev Hc(cl cN di e2 hV:Nat):b6:=dz cl cN di false (.s4 (F e2) (F hV) (.const (.bool false)))
abbrev Hd(cl cN aom:Nat):b6:=bP cl cN (.iT 1 1 [.int .u32 0] [(0,1,F aom)])
abbrev He(cl cN e2 hV:Nat):b6:=bP cl cN (.pY .str (.int .i64 0) true (F e2) (F hV))
abbrev LB(cl:Nat)(cN:Nat)(di:Nat)(e2:Nat)(hV:Nat)(uc:Int)(CQ:Int):b6:=dz cl cN di false (.eI e2 [F hV,.const (.int .i64 uc),.const (.int .i64 CQ)])
abbrev LC(cl cN aok:Nat):b6:=bP cl cN (.iT 7 1 [.string ⟨#[]⟩,.int .i64 0,.int .i64 0,.int .i64 0,.bool false,.slice none 0 0,.slice none 0 0] [(0,7,F aok)])
abbrev LD(cl cN aoi:Nat):b6:=bP cl cN (.iT 3 1 [.bool false,.slice none 0 0,.slice none 0 0] [(0,3,F aoi)])
abbrev ZF(cl cN aoj Te aol aEb aEc:Nat):b6:=bP cl cN (.gT [.string ⟨#[]⟩,.int .i64 0,.int .i64 0,.int .i64 0,.bool false,.slice none 0 0,.slice none 0 0] [(0,1,F aoj),(1,1,F Te),(2,1,F aol),(3,1,F aEb),(4,3,F aEc)])
abbrev ZG(cl cN aEd:Nat):b6:=bP cl cN (.iT 17 1 [.string ⟨#[]⟩,.int .i64 0,.int .i64 0,.int .i64 0,.int .i64 0,.int .i64 0,.int .i64 0,.int .i64 0,.int .i64 0,.slice none 0 0,.slice none 0 0,.bool false,.slice none 0 0,.slice none 0 0,.bool false,.slice none 0 0,.slice none 0 0] [(0,17,F aEd)])
abbrev ZH(cl cN Te:Nat):b6:=bP cl cN (.gT [.string ⟨#[]⟩,.int .i64 0,.int .i64 0,.int .i64 0,.bool false,.slice none 0 0,.slice none 0 0] [(2,1,.const (.int .i64 (-1))),(4,3,F Te)])
attribute [simp] dL eB eG eX e7 e8 fi fQ gj hi hQ iq iy iz iF iK ji jR kx ky kL kM lB lM l5 nZ ou oO oP oQ pV qH qI rh sb sc sS uS uT vW vX vY vZ xq xr B9 Ca Cb Es Et Eu Hc Hd He LB LC LD ZF ZG ZH
attribute [simp] F A bQ dE aS c3 aP eA cL cu dD cj cV bP dz lp D1
section
variable {m:B} {b cQ k:Nat} {x y:Option fO} {O:fO}
@[simp] theorem ae:(m.au b x).next=m.next:=rfl
@[simp] theorem ad:(m.bs k).next=m.next+k:=rfl
theorem aT(h:m.M b=some O):b<m.next:=by
  unfold B.M at h;split at h
  · assumption
  · cases h
theorem bX(h:b<m.next):(m.au b x).M b=x:=by simp[B.M,B.au,h]
theorem dv(h:cQ≠b):(m.au b x).M cQ=m.M cQ:=by simp[B.M,B.au,h]
theorem gr(h:b<m.next):(m.bs k).M b=m.M b:=by
  have:b<m.next+k:=by omega
  simp[B.M,B.bs,h,this]
@[simp] theorem af{bg:List (Value×Value)}:(m.hq b bg).next=m.next:=rfl
theorem Du{bg:List (Value×Value)}(h:b<m.next):(m.hq b bg).M b=some ⟨[],true⟩:=by simp[B.M,B.hq,h]
theorem oI{bg:List (Value×Value)}(h:cQ≠b):(m.hq b bg).M cQ=m.M cQ:=by simp[B.M,B.hq,h]
theorem Je{bg:List (Value×Value)}(h:b<m.next):(m.hq b bg).c6 b=some bg:=by simp[B.c6,Du h];simp[B.hq]
theorem Jd{bg:List (Value×Value)}(h:cQ≠b):(m.hq b bg).c6 cQ=m.c6 cQ:=by simp[B.c6,oI h];simp[B.hq,h]
theorem rX(h:cQ≠b):(m.au b x).c6 cQ=m.c6 cQ:=by simp[B.c6,dv h];rfl
theorem wU(h:b<m.next):(m.bs k).c6 b=m.c6 b:=by simp[B.c6,gr h];rfl
theorem aaB:(m.au b x).au b y=m.au b y:=by simp only[B.au,B.mk.injEq,true_and,and_true];funext i;by_cases h:i=b<;>simp[h]
@[simp] theorem apc{a o n:Nat}:gZ m (.pointer (some ⟨a,o,none⟩)) n=(match m.M a with|some x=>decide (o+n<=x.cells.length)|none=>false):=rfl
@[simp] theorem acy{a o:Nat}:rH m (.pointer (some ⟨a,o,none⟩))=(match m.M a with|some x=>x.own|none=>false):=rfl
@[simp] theorem ay5{a o n:Nat}{ep:Bool}:lq m ep n (.pointer (some ⟨a,o,none⟩))=if ep then .agg (ka m a o n).toArray else(ka m a o 1).headD undef:=rfl
@[simp] theorem ac1{a o n:Nat}:ka m a o n=match m.M a with|some x=>(x.cells.drop o).take n|none=>[]:=rfl
@[simp] theorem aC4{a o:Nat}{cs:List Value}:qR m (.pointer (some ⟨a,o,none⟩)) cs=match m.M a with|some x=>m.au a (some ⟨kE x.cells o cs,x.own⟩)|none=>m:=rfl
@[simp] theorem ane{a o l c n:Nat}:ik m n (.slice (some ⟨a,o,none⟩) l c)=(c==n&&(match m.M a with|some x=>decide (o+l*n<=x.cells.length)|none=>false)):=rfl
@[simp] theorem aPE{n:Nat}:ik m n (.slice none 0 0)=true:=rfl
@[simp] theorem aPG{a o l c:Nat}:nK m (.slice (some ⟨a,o,none⟩) l c)=(match m.M a with|some x=>x.own|none=>false):=rfl
@[simp] theorem aPF{l c:Nat}:nK m (.slice none l c)=true:=rfl
@[simp] theorem aCU{a o l c n:Nat}:hO m n (.slice (some ⟨a,o,none⟩) l c)=ka m a o (l*n):=rfl
@[simp] theorem aPA{l c n:Nat}:hO m n (.slice none l c)=[]:=rfl
@[simp] theorem aKO{a o l c:Nat}:n0 m (.slice (some ⟨a,o,none⟩) l c)=m.au a none:=rfl
@[simp] theorem aKN{l c:Nat}:n0 m (.slice none l c)=m:=rfl
end
theorem ct{n:Int}(z: -9223372036854775808<=n)(D:n<=9223372036854775807):IntKind.i64.wrap n=n:=IntWalk.i64_in n ⟨z,D⟩
section
variable {P:Program} {u:aL} {m:B} {Q:dr->aL->B->Prop}
def xv(b9:aL->B->Prop)(Q:dr->aL->B->Prop)(e:dr)(u:aL)(m:B):Prop:=match e with| .gv=>b9 u m|e=>Q e u m
@[simp] theorem aLk{b9:aL->B->Prop}:xv b9 Q .gv u m=b9 u m:=rfl
@[simp] theorem aLj{b9:aL->B->Prop}{id:Nat}:xv b9 Q (.bI id) u m=Q (.bI id) u m:=rfl
@[simp] theorem aLl{b9:aL->B->Prop}:xv b9 Q .a7 u m=Q .a7 u m:=rfl
theorem eT{c:U}(h: ∀b9:aL->B->Prop,(∀ag N,ch P (.loop c) ag N Q->b9 ag N)->ch P c u m (xv b9 Q)):ch P (.loop c) u m Q:=by rw[an6];refine(h (λag N=>ch P (.loop c) ag N Q) (λ_ _ h=>h)).aD λe ag N h=> ?_;cases e<;>exact h
def Nj(P:Program)(v:Value)(args:List Value)(m:B)(az:Value->B->Prop):Prop:=match v with
  | .func (.func f) first lT=>bJ P f (first.toList++args++lT.toList) m az
  |_=>False
@[simp] theorem aHo{f:Nat}{first lT:Array Value}{args:List Value}{az:Value->B->Prop}:Nj P (.func (.func f) first lT) args m az=bJ P f (first.toList++args++lT.toList) m az:=rfl
@[simp] theorem aQ4{base bc:Nat}{d:Option Nat}{b0:List b6}{aV:aL->B->Prop}{bx:List (Operand×Operand)}{x:Operand}{as:List Operand}:
    gY P base (⟨bc,d,none,.lZ x as,bx⟩::b0) u m aV=Nj P (ab u x) (as.map (ab u)) m (zu P base d bx b0 u m aV):=by
  by_cases H: ∃f first lT,ab u x= .func (.func f) first lT
  · obtain⟨f,first,lT,H⟩:=H;rw[aod H,H];rfl
  · have hG:(av.lZ x as).gE u m=none:=by
      simp only[av.gE];split
      · rename_i f first lT h;exact absurd ⟨f,first,lT,h⟩ H
      · rfl
    have D:Nj P (ab u x) (as.map (ab u)) m (zu P base d bx b0 u m aV)=False:=by
      unfold Nj;split
      · rename_i f first lT h;exact absurd ⟨f,first,lT,h⟩ H
      · rfl
    rw[D];refine propext ⟨λ⟨n,ag,N,h,q⟩=> ?_,False.elim⟩;obtain⟨c7,bz,z,_,_⟩:=tW h;obtain⟨aA,_⟩:=abR (o:=⟨bc,d,none,.lZ x as,bx⟩) rfl hG z;cases aA
end
@[simp] theorem aK5{d dF:Value}{l:List Value}:(dF::l)[0]?.getD d=dF:=rfl
@[simp] theorem aK6{d dF bn:Value}{l:List Value}:(dF::bn::l)[1]?.getD d=bn:=rfl
@[simp] theorem aK7{d dF bn bF:Value}{l:List Value}:(dF::bn::bF::l)[2]?.getD d=bF:=rfl
@[simp] theorem aK8{d dF bn bF dp:Value}{l:List Value}:(dF::bn::bF::dp::l)[3]?.getD d=dp:=rfl
@[simp] theorem aK9{d dF bn bF dp eH:Value}{l:List Value}:(dF::bn::bF::dp::eH::l)[4]?.getD d=eH:=rfl
@[simp] theorem aLa{d dF bn bF dp eH fo:Value}{l:List Value}:(dF::bn::bF::dp::eH::fo::l)[5]?.getD d=fo:=rfl
@[simp] theorem aLb{d dF bn bF dp eH fo fp:Value}{l:List Value}:(dF::bn::bF::dp::eH::fo::fp::l)[6]?.getD d=fp:=rfl
@[simp] theorem aLc{d dF bn bF dp eH fo fp gp:Value}{l:List Value}:(dF::bn::bF::dp::eH::fo::fp::gp::l)[7]?.getD d=gp:=rfl
attribute [simp] av.ok av.val av.kk
section
variable {p:Option Addr} {a:Addr} {l c O i j:Nat}
@[simp] theorem ayV{s:ByteArray}:ic (.string s)=s.size:=rfl
@[simp] theorem aK2:ic (.slice p l c)=l:=rfl
@[simp] theorem aKs:yy (.slice p l c)=true:=rfl
@[simp] theorem aPB:hA (.slice p l c)=l:=rfl
@[simp] theorem aPv{b o:Nat}:kA O (.slice (some ⟨b,o,none⟩) l c)=(c==O):=rfl
@[simp] theorem aPp{b o:Nat}{n:Int}:mP (.slice (some ⟨b,o,none⟩) l c) O n= .pointer (some ⟨b,o+n.toNat*O,none⟩):=rfl
@[simp] theorem AR{b o:Nat}:n8 (.slice (some ⟨b,o,none⟩) l c) O i j= .slice (some ⟨b,o+i*O,none⟩) (j-i) c:=rfl
@[simp] theorem aPu:kA O (.slice none 0 0)=true:=rfl
@[simp] theorem aPz:n8 (.slice none 0 0) O i j= .slice none 0 0:=rfl
end
@[simp] theorem aQz{n:Nat}:min n IntKind.u64.bits=min n 64:=rfl
@[simp] theorem aQy{n:Nat}:min n IntKind.u32.bits=min n 32:=rfl
attribute [simp] bX dv gr aaB
end Go.DI
