/-
  A part of the proof, shortened by tools of ours.
-/
import Derived.Test.YtmmkkggfmigppaaGreatZap
set_option linter.all false
set_option maxRecDepth 8000
set_option maxHeartbeats 16000000
namespace Go.Proofs.YtmmkkggfmigppaaGreat
open Go Go.DI Go.Big
def AB(d:ho):Bool:=decide (d.name=⟨#[]⟩)&&(decide (d.jQ=0)&&(decide (d.parent= -1)&&(decide (d.iu=0)&&(d.pk.bZ.small&& !decide (0<d.pk.bZ.n)))))
def ME(ds:List ho)(d:ho):Bool:=match ds[d.parent.toNat]? with
 |some q=>decide (q.jQ=d.jQ-1)
 |none=>false
def zC(ds:List ho)(i:Nat)(d:ho):Bool:=fH d.parent 0 i&&(ME ds d&&(fH d.jQ 1 4&&(fH d.iu 1 64&&d.pk.bZ.small)))
def uv(ds:List ho):Bool:=match ds with
 |[]=>false
 | r::l=>AB r&&(List.range l.length).all λi=>match l[i]? with
   |some d=>zC ds i d
   |none=>true
theorem Vv{r:ho}{l:List ho}:uv (r::l)=(AB r&&(List.range l.length).all λi=>match l[i]? with
 |some d=>zC (r::l) i d
 |none=>true):=rfl
structure aG.fX(u:aG):Prop where
 eI: ∀x∈u.eI,x.dq
 aP: ∀x∈u.aP,x.pk.dq
 dj: ∀x∈u.dj,hQ.fX x
 Fb:u.eI.length<=1000
 ev:u.cr.length<=1000
 fg:u.aP.length<=1000
 h2:u.aY.length<=1000
 As:u.dj.length<=1000
 j4:u.aZ.length<=1000
theorem att{r:ho}{l:List ho}{i:Nat}{d:ho}(B:l[i]?=some d)(h:zC (r::l) i d=false):uv (r::l)=false:=by rw[Vv];rw[Bool.and_eq_false_iff];refine .inr ?_;rw[IY];exact⟨i,om.2 (cG.1 B).1,by simp[B,h]⟩
theorem afQ{r:ho}{l:List ho}(h:uv (r::l)=true){i:Nat}{d:ho}(B:l[i]?=some d):zC (r::l) i d=true:=by
 cases bo:zC (r::l) i d
 ·rw[att B bo]at h;cases h
 ·rfl
theorem aIf{u:aG}(h:aG.fX u)(M:uv u.aP=true):bP N 111 [.agg (aI u).toArray] (.bool true):=by
 refine du (c2 (ax:=⟨[Iw,TM],[]⟩) axy (by kernel_rfl) (by simp[XF]) ?_);have eW:=h.fg;cases ka:u.aP with
 |nil=>rw[ka]at M;cases M
 |cons R ds=>
 have di:u.aP.length=ds.length+1:=by rw[ka];rfl
 have oE: ¬(u.aP.length:Int)=0:=by omega
 have BL:(0:Int)<u.aP.length:=by omega
 have vD: ¬u.aP.length=0:=by omega
 have P1:0<u.aP.length:=by omega
 have avS:1<=u.aP.length:=by omega
 have Wx:(1:Int)<=u.aP.length:=by omega
 have g3:u.aP[0]?=some R:=by rw[ka];rfl
 have bK:R.pk.dq:=h.aP R (by rw[ka];simp);have Xh:=(cG.1 g3).2;have VA:(List.take u.aP.length (u.aP.map eG)).tail=ds.map eG:=by rw[h7 (by simp),ka];rfl
 have VB:u.aP.length-1=ds.length:=by omega
 have GY:AB R=true:=by rw[ka,Vv,a6]at M;exact M.1
 simp only[AB,a6,ey,r7,I1]at GY;obtain⟨b6,cR,lz,ji,xY,Be⟩:=GY;simp(disch:=first|omega|simp only[bE];omega) [XF,ail,aI,eG,vD,P1,Wx,Xh,b6,cR,lz,ji,xY,Be,-an,-au,-ak,-aq,-List.map_map];rw[VA,VB];refine gR (ax:=⟨[u5,Iw],[]⟩) (λi z t=>t.I 0=some ⟨aI u,true⟩/\z 1=bH 0/\z 45=ad (ds.map eG) 7/\z 46=E ds.length/\z 47=E i) ds.length ?_ ?_ 0 _ _ (gi _) ⟨by simp(disch:=first|omega|simp only[bE];omega) [aI,-an,-au,-ak,-aq,-List.map_map],by simp,by simp,by simp,by simp⟩
 ·rintro i z t W ⟨aL,aU,xA,TK,ab5⟩ bM a1;have B:ds[i]?=some ds[i]:=c1 W;have br:=fz (n:=i) (by omega);have bC:(i:Int)<ds.length:=(by omega);have dD:=aM aL;have rH:ds[i].pk.dq:=h.aP _ (by rw[ka];exact F5 _ (kd W));have lF:=afQ (ka▸M) B;rw[<-ka]at lF;simp only[zC,a6]at lF;obtain⟨fW,vH,iO,zB,Gw⟩:=lF;have atk:=uG.1 fW;have aNK:=uG.1 iO;obtain⟨aR,dz⟩:=jX atk.1;have DS:aR<u.aP.length:=(by omega);have bo:u.aP[aR]?=some u.aP[aR]:=c1 DS;have uy:(aR:Int)<u.aP.length:=(by omega);rw[dz]at fW;have gI:u.aP[aR].jQ=IntKind.i64.wrap (ds[i].jQ-1):=by
   unfold ME at vH;rw[dz,ns,bo]at vH;rw[cY (by omega) (by omega)];simpa using vH
  simp(disch:=first|omega|simp only[bE];omega) [XG,Qo,Qp,Qq,Qr,aI,eG,aU,xA,TK,ab5,aL,bC,br,dz,uy,fW,gI,iO,zB,Gw,-an,-au,-ak,-aq,-List.map_map];exact a1 _ _ ⟨by simp(disch:=first|omega|simp only[bE];omega) [aL,aI,-an,-au,-ak,-aq,-List.map_map],by simp[aU],by simp[xA],by simp[TK],by simp⟩
 ·rintro z t ⟨aL,aU,xA,TK,ab5⟩;simp(disch:=first|omega|simp only[bE];omega) [XG,Qo,Qp,Qq,Qr,TK,ab5,Qr,Qo,Qp,Qq,-an,-au,-ak,-aq,-List.map_map]
noncomputable def acF(u:aG)(h:aG.fX u)(M:uv u.aP=true):bx N:= .cK 111 Unit (λ_=>True) (λ_=>[.agg (aI u).toArray]) (λ_=> .bool true) λ_ _=>aIf h M
@[simp] theorem aVK{u:aG}{h:aG.fX u}{M:uv u.aP=true}:(acF u h M).f=111:=rfl
@[simp] theorem aVL{u:aG}{h:aG.fX u}{M:uv u.aP=true}:(acF u h M).fn [.agg #[E u.ext,ad (u.eI.map gf) 4,ad (u.cr.map gp) 4,ad (u.aP.map eG) 7,ad (u.aY.map fk) 3,ad (u.dj.map dE) 17,ad (u.aZ.map ga) 2]]=some (.bool true):=bx.dx (x:=()) trivial λ_ _=>rfl
def Cm(Fb:Nat)(x:F8):Bool:=fH x.ext 1 16&&(fH x.an9 1 64&&fH x.amP 0 ((Fb:Int)-1))
def MI(ds:List ho)(m:Int):Bool:=match ds[m.toNat]? with
 |some q=>decide (q.jQ=4)
 |none=>false
def Bl(ev:Nat)(ds:List ho)(x:oS):Bool:=fH x.model 0 ((ev:Int)-1)&&(fH x.yD 0 ((ds.length:Int)-1)&&MI ds x.yD)
def FW(As:Nat)(x:s5):Bool:=fH x.p9 0 ((As:Int)-1)
def u9:List Nat:=[1,3,4,5,6,7]
theorem we{z K:aC}{d:Nat}(A:1≠d->K 1=z 1)(ai:3≠d->K 3=z 3)(aT:4≠d->K 4=z 4)(bF:5≠d->K 5=z 5)(cW:6≠d->K 6=z 6)(dU:7≠d->K 7=z 7): ∀k∈u9,k≠d->K k=z k:= λk S aV=>by
 simp only[u9,hi,kJ,or_false]at S;rcases S with rfl|rfl|rfl|rfl|rfl|rfl
 ·exact A aV
 ·exact ai aV
 ·exact aT aV
 ·exact bF aV
 ·exact cW aV
 ·exact dU aV
theorem nK{z K:aC}(A:K 1=z 1)(ai:K 3=z 3)(aT:K 4=z 4)(bF:K 5=z 5)(cW:K 6=z 6)(dU:K 7=z 7): ∀k∈u9,K k=z k:= λk S=>by simp only[u9,hi,kJ,or_false]at S;rcases S with rfl|rfl|rfl|rfl|rfl|rfl<;>assumption
theorem aqi{dF:Type}{f:Nat->dF}{d:Nat}{a b:dF}:h5 (h5 f d a) d b=h5 f d b:=by
 funext k;by_cases h:k=d
 ·subst h;simp
 ·rw[tU h,tU h,tU h]
theorem apB{dF:Type}{l:List dF}{f:dF->ByteArray}{cD:List ByteArray}{i:Nat}{x:dF}(B:l[i]?=some x):(cD++(l.take i).map f)++[f x]=cD++(l.take (i+1)).map f:=by rw[FN B];simp
structure h8(u:aG)(fP:Nat->Nat)(cl:Nat->List ByteArray)(z:aC)(t:H):Prop where
 aU:z 1=bH 0
 bl:z 8= .bool true
 aL:t.I 0=some ⟨aI u,true⟩
 NK: ∀k,3<=k->k<=7->z k= .slice (some ⟨fP k,0,none⟩) (cl k).length 1
 g: ∀k,3<=k->k<=7->t.I (fP k)=some ⟨iH (cl k),true⟩
 inj: ∀i j,3<=i->i<=7->3<=j->j<=7->fP i=fP j->i=j
 yL: ∀k,3<=k->k<=7->fP k≠0
theorem h8.ur{u:aG}{fP:Nat->Nat}{cl:Nat->List ByteArray}{z K:aC}{t:H}(h:h8 u fP cl z t)(g1:K 8=z 8)(F: ∀k∈u9,K k=z k):h8 u fP cl K t:=
 ⟨(F 1 (by decide)).trans h.aU,g1.trans h.bl,h.aL,λk A D=>by have:k=3\/k=4\/k=5\/k=6\/k=7:=(by omega);have ab:k∈u9:=(by rcases this with rfl|rfl|rfl|rfl|rfl<;>decide);exact(F k ab).trans (h.NK k A D),h.g,h.inj,h.yL⟩
theorem h8.step{u:aG}{fP:Nat->Nat}{cl:Nat->List ByteArray}{eo z:aC}{t0 t:H}(h:h8 u fP cl eo t0)(d:Nat)(ai:3<=d)(dU:d<=7){o:Nat}{MP:List ByteArray}{n:Nat}(ae:MP.length=n)
 (gO: ∀k∈u9,k≠d->z k=eo k) (g1:z 8= .bool true) (kW:z d= .slice (some ⟨o,0,none⟩) ((cl d).length+n) 1) (bq:t.I o=some ⟨iH (cl d++MP),true⟩) (m7:o=fP d\/t0.next<=o) (kO:t0.next<=t.next) (kt: ∀b,b<t0.next->b≠fP d->t.I b=t0.I b):
 h8 u (h5 fP d o) (h5 cl d (cl d++MP)) z t:=by
 have cQ: ∀k,3<=k->k<=7->fP k<t0.next:= λk a b=>aM (h.g k a b)
 have dD:=aM h.aL;refine⟨(gO 1 (by decide) (by omega)).trans h.aU,g1,?_,λk a b=> ?_,λk a b=> ?_,λi j a b c e aQ=> ?_,λk a b=> ?_⟩
 ·rw[kt 0 dD (Ne.symm (h.yL d ai dU))];exact h.aL
 ·by_cases e:k=d
  ·subst e;rw[AP,AP,kW,iv,ae]
  ·rw[tU e,tU e];have:k=3\/k=4\/k=5\/k=6\/k=7:=(by omega);have ab:k∈u9:=(by rcases this with rfl|rfl|rfl|rfl|rfl<;>decide);exact(gO k ab e).trans (h.NK k a b)
 ·by_cases e:k=d
  ·subst e;rw[AP,AP];exact bq
  ·rw[tU e,tU e,kt _ (cQ k a b) (λaQ=>e (h.inj k d a b ai dU aQ))];exact h.g k a b
 ·by_cases aD:i=d
  ·by_cases aJ:j=d
   ·omega
   ·rw[aD,AP,tU aJ]at aQ;rcases m7 with cn|cn
    ·rw[cn]at aQ;have:=h.inj d j ai dU c e aQ;omega
    ·have:=cQ j c e;omega
  ·by_cases aJ:j=d
   ·rw[aJ,AP,tU aD]at aQ;rcases m7 with cn|cn
    ·rw[cn]at aQ;have:=h.inj i d a b ai dU aQ;omega
    ·have:=cQ i a b;omega
   ·rw[tU aD,tU aJ]at aQ;exact h.inj i j a b c e aQ
 ·by_cases e:k=d
  ·subst e;rw[AP];rcases m7 with cn|cn
   ·rw[cn];exact h.yL k a b
   ·omega
  ·rw[tU e];exact h.yL k a b
theorem H3{u:aG}{dF:Type}{l:List dF}{ev:dF->ByteArray}{v:Value}{d a b c ij:Nat}{ax:mG N}{rr:aw}(ai:3<=d)(dU:d<=7)(di:l.length<=1000){fP:Nat->Nat}{cl:Nat->List ByteArray}{eo:aC}{t0:H}(WQ:h8 u fP cl eo t0)(gY:(cl d).length<=10000)
 (iI:eo a=v) (cB:eo b=E l.length) (hW:eo c=E 0) {Q:cM->aC->H->Prop}
 (body: ∀(i:Nat) (W:i<l.length) (z:aC) (t:H) (o n:Nat) (wJ:List Value),l[i]?=some l[i]->(i:Int)<l.length->IntKind.i64.wrap ((i:Int)+1)=(i:Int)+1->z 1=bH 0->z 8= .bool true->z d= .slice (some ⟨o,0,none⟩) n 1->t.I 0=some ⟨aI u,true⟩->t.I o=some ⟨wJ,true⟩->0<t.next->o<t.next->o≠0->wJ.length=n->wJ.take n=wJ->(n+1)*16<=140737488355328/\n<=9223372036854775806->z a=v->z b=E l.length->z c=E i-> ∀bM:aC->H->Prop,
  (∀K af o',(∀k∈u9,k≠d->K k=z k)->K 8= .bool true->K d= .slice (some ⟨o',0,none⟩) (n+1) 1->af.I o'=some ⟨wJ++[gD (ev l[i])],true⟩->t.next<=o'->t.next<=af.next->(∀b,b<t.next->b≠o->af.I b=t.I b)->K a=v->K b=E l.length->K c=E ((i:Int)+1)->bM K af)->ix ax rr z t (rM bM Q))
 (done: ∀(z:aC) (t:H),z a=v->z b=E l.length->z c=E l.length->(∀K,(∀k∈u9,K k=z k)->K 8=z 8->Q (.cH ij) K t)->ix ax rr z t (rM (λ_ _=>False) Q))
 (bb: ∀z t jz,h8 u jz (h5 cl d (cl d++l.map ev)) z t->Q (.cH ij) z t):ec N (.loop rr) eo t0 Q:=by
 refine gR (ax:=ax) (λi z t=> ∃jz,h8 u jz (h5 cl d (cl d++(l.take i).map ev)) z t/\z a=v/\z b=E l.length/\z c=E i) l.length ?_ ?_ 0 eo t0 (gi _) ⟨fP,?_,iI,cB,hW⟩
 ·rintro i z t W ⟨jz,Z,iI,cB,hW⟩ bM a1;have B:l[i]?=some l[i]:=c1 W;have bq:=Z.g d ai dU;have kW:=Z.NK d ai dU;have iR:= λ(o':Nat) (K:aC) (af:H)=>h8.step Z d ai dU (o:=o') (z:=K) (t:=af) (MP:=[ev l[i]]) (n:=1) rfl;rw[AP]at bq kW iR;have ae:(cl d++(l.take i).map ev).length<20000:=(by rw[iv,k8,ri];omega);refine body i W z t (jz d) _ _ B (by omega) (cY (by omega) (by omega)) Z.aU Z.bl kW Z.aL bq (aM Z.aL) (aM bq) (Z.yL d ai dU) anC (h7 (by rw[anC];omega)) ⟨by omega,by omega⟩ iI cB hW bM λK af o' aD aJ cg gA jj l0 oB lC ru pA=> ?_;have:=iR o' K af aD aJ (by rw[cg]) (by rw[anD];exact gA) (.inr jj) l0 oB;rw[aqi,apB B]at this;exact a1 _ _ ⟨_,this,lC,ru,pA⟩
 ·rintro z t ⟨jz,Z,iI,cB,hW⟩;rw[mY]at Z;exact done z t iI cB hW λK A D=>bb _ _ jz (Z.ur D A)
 ·have:h5 cl d (cl d++(l.take 0).map ev)=cl:=by
   funext k;by_cases e:k=d
   ·subst e;simp
   ·rw[tU e]
  rw[this];exact WQ
theorem aH7{u:aG}(h:aG.fX u)(M:u.eI.all la.yM=true){fP:Nat->Nat}{cl:Nat->List ByteArray}{eo:aC}{t0:H}(Z:h8 u fP cl eo t0)(gY:(cl 3).length<=10000)(iI:eo 67=ad (u.eI.map gf) 4)(cB:eo 68=E u.eI.length)(hW:eo 69=E 0){Q:cM->aC->H->Prop}
 (bb: ∀z t jz,h8 u jz (h5 cl 3 (cl 3++u.eI.map (·.name))) z t->Q (.cH 0) z t):ec N (.loop RV) eo t0 Q:=by
 refine H3 (ax:=⟨[acG],[]⟩) (by decide) (by decide) h.Fb Z gY iI cB hW ?_ ?_ bb
 ·intro i W z t o n wJ B bC br aU bl kW aL bq dD bk fL aj pS e8 iI cB hW bM a1;have eD:=h.eI _ (kd W);have eS:=dP.1 M _ (kd W);simp(disch:=first|omega|simp only[DI.aK];omega) [RV,aly,gf,bl,kW,iI,cB,hW,bq,bC,br,aj,pS,e8,eS,-an,-au,-ak,-aq,-List.map_map];refine a1 _ _ (t.next+4+4) (we (d:=3) ?_ ?_ ?_ ?_ ?_ ?_) ?_ ?_ ?_ (by omega) ?_ (λb hb nA=> ?_) ?_ ?_ ?_
  all_goals first
   |(intro aV;first|(exact absurd rfl aV)|(simp;done))
   |(simp(disch:=first|omega|simp only[DI.aK];omega) [iI,cB,-an,-au,-ak,-aq,-List.map_map];done)
   |(simp(disch:=first|omega|simp only[DI.aK];omega) [hb,nA,-an,-au,-ak,-aq,-List.map_map];done)
   |(simp(disch:=first|omega|simp only[DI.aK];omega) [-an,-au,-ak,-aq,-List.map_map];omega)
 ·intro z t iI cB hW h9;simp(disch:=first|omega|simp only[DI.aK];omega) [RV,cB,hW,-an,-au,-ak,-aq,-List.map_map];exact h9 _ (nK (by simp) (by simp) (by simp) (by simp) (by simp) (by simp)) (by simp)
theorem aH8{u:aG}(h:aG.fX u)(M:u.cr.all (Cm u.eI.length)=true){fP:Nat->Nat}{cl:Nat->List ByteArray}{eo:aC}{t0:H}(Z:h8 u fP cl eo t0)(gY:(cl 4).length<=10000)(iI:eo 85=ad (u.cr.map gp) 4)(cB:eo 86=E u.cr.length)(hW:eo 87=E 0){Q:cM->aC->H->Prop}
 (bb: ∀z t jz,h8 u jz (h5 cl 4 (cl 4++u.cr.map (·.name))) z t->Q (.cH 2) z t):ec N (.loop RW) eo t0 Q:=by
 refine H3 (ax:=⟨[u5],[]⟩) (by decide) (by decide) h.ev Z gY iI cB hW ?_ ?_ bb
 ·intro i W z t o n wJ B bC br aU bl kW aL bq dD bk fL aj pS e8 iI cB hW bM a1;have sR:IntKind.i64.wrap ((u.eI.length:Int)-1)=(u.eI.length:Int)-1:=cY (by omega) (by have:=h.Fb;omega);have f:=dP.1 M _ (kd W);simp only[Cm,a6]at f;obtain⟨eD,eS,gN⟩:=f;simp(disch:=first|omega|simp only[DI.aK];omega) [RW,alm,aI,gp,aU,bl,kW,iI,cB,hW,aL,bq,bC,br,aj,pS,e8,sR,eD,eS,gN,-an,-au,-ak,-aq,-List.map_map];refine a1 _ _ (t.next+4+4) (we (d:=4) ?_ ?_ ?_ ?_ ?_ ?_) ?_ ?_ ?_ (by omega) ?_ (λb hb nA=> ?_) ?_ ?_ ?_
  all_goals first
   |(intro aV;first|(exact absurd rfl aV)|(simp;done))
   |(simp(disch:=first|omega|simp only[DI.aK];omega) [iI,cB,-an,-au,-ak,-aq,-List.map_map];done)
   |(simp(disch:=first|omega|simp only[DI.aK];omega) [hb,nA,-an,-au,-ak,-aq,-List.map_map];done)
   |(simp(disch:=first|omega|simp only[DI.aK];omega) [-an,-au,-ak,-aq,-List.map_map];omega)
 ·intro z t iI cB hW h9;simp(disch:=first|omega|simp only[DI.aK];omega) [RW,cB,hW,-an,-au,-ak,-aq,-List.map_map];exact h9 _ (nK (by simp) (by simp) (by simp) (by simp) (by simp) (by simp)) (by simp)
theorem aH9{u:aG}(h:aG.fX u){ds:List ho}(BG:ds.length<=1000){fP:Nat->Nat}{cl:Nat->List ByteArray}{eo:aC}{t0:H}(Z:h8 u fP cl eo t0)(gY:(cl 5).length<=10000)(iI:eo 119=ad (ds.map eG) 7)(cB:eo 120=E ds.length)(hW:eo 121=E 0){Q:cM->aC->H->Prop}
 (bb: ∀z t jz,h8 u jz (h5 cl 5 (cl 5++ds.map (·.name))) z t->Q (.cH 4) z t):ec N (.loop RX) eo t0 Q:=by
 refine H3 (ax:=⟨[],[]⟩) (by decide) (by decide) BG Z gY iI cB hW ?_ ?_ bb
 ·intro i W z t o n wJ B bC br aU bl kW aL bq dD bk fL aj pS e8 iI cB hW bM a1;simp(disch:=first|omega|simp only[DI.aK];omega) [RX,alo,eG,kW,iI,cB,hW,bq,bC,br,aj,pS,e8,-an,-au,-ak,-aq,-List.map_map];refine a1 _ _ (t.next+4+4) (we (d:=5) ?_ ?_ ?_ ?_ ?_ ?_) ?_ ?_ ?_ (by omega) ?_ (λb hb nA=> ?_) ?_ ?_ ?_
  all_goals first
   |(intro aV;first|(exact absurd rfl aV)|(simp;done))
   |(simp(disch:=first|omega|simp only[DI.aK];omega) [bl,iI,cB,-an,-au,-ak,-aq,-List.map_map];done)
   |(simp(disch:=first|omega|simp only[DI.aK];omega) [hb,nA,-an,-au,-ak,-aq,-List.map_map];done)
   |(simp(disch:=first|omega|simp only[DI.aK];omega) [-an,-au,-ak,-aq,-List.map_map];omega)
 ·intro z t iI cB hW h9;simp(disch:=first|omega|simp only[DI.aK];omega) [RX,cB,hW,-an,-au,-ak,-aq,-List.map_map];exact h9 _ (nK (by simp) (by simp) (by simp) (by simp) (by simp) (by simp)) (by simp)
theorem aIa{u:aG}(h:aG.fX u)(M:u.aY.all (Bl u.cr.length u.aP)=true){fP:Nat->Nat}{cl:Nat->List ByteArray}{eo:aC}{t0:H}(Z:h8 u fP cl eo t0)(gY:(cl 5).length<=10000)(iI:eo 132=ad (u.aY.map fk) 3)(cB:eo 133=E u.aY.length)(hW:eo 134=E 0){Q:cM->aC->H->Prop}
 (bb: ∀z t jz,h8 u jz (h5 cl 5 (cl 5++u.aY.map (·.name))) z t->Q (.cH 6) z t):ec N (.loop RY) eo t0 Q:=by
 refine H3 (ax:=⟨[u5],[]⟩) (by decide) (by decide) h.h2 Z gY iI cB hW ?_ ?_ bb
 ·intro i W z t o n wJ B bC br aU bl kW aL bq dD bk fL aj pS e8 iI cB hW bM a1;have sR:IntKind.i64.wrap ((u.cr.length:Int)-1)=(u.cr.length:Int)-1:=cY (by omega) (by have:=h.ev;omega);have N7:IntKind.i64.wrap ((u.aP.length:Int)-1)=(u.aP.length:Int)-1:=cY (by omega) (by have:=h.fg;omega);have f:=dP.1 M _ (kd W);simp only[Bl,a6]at f;obtain⟨eD,eS,gN⟩:=f;obtain⟨aR,dz⟩:=jX (uG.1 eS).1;rw[dz]at eS gN;have DS:aR<u.aP.length:=(by have:=uG.1 eS;omega);have uy:(aR:Int)<u.aP.length:=(by omega);have bo:u.aP[aR]?=some u.aP[aR]:=c1 DS;have f4:u.aP[aR].jQ=4:=(by unfold MI at gN;rw[ns,bo]at gN;simpa using gN);simp(disch:=first|omega|simp only[DI.aK];omega) [RY,alq,aI,fk,aU,bl,kW,iI,cB,hW,aL,bq,bC,br,aj,pS,e8,sR,N7,eG,eD,eS,dz,uy,f4,-an,-au,-ak,-aq,-List.map_map];refine a1 _ _ (t.next+4+4) (we (d:=5) ?_ ?_ ?_ ?_ ?_ ?_) ?_ ?_ ?_ (by omega) ?_ (λb hb nA=> ?_) ?_ ?_ ?_
  all_goals first
   |(intro aV;first|(exact absurd rfl aV)|(simp;done))
   |(simp(disch:=first|omega|simp only[DI.aK];omega) [iI,cB,-an,-au,-ak,-aq,-List.map_map];done)
   |(simp(disch:=first|omega|simp only[DI.aK];omega) [hb,nA,-an,-au,-ak,-aq,-List.map_map];done)
   |(simp(disch:=first|omega|simp only[DI.aK];omega) [-an,-au,-ak,-aq,-List.map_map];omega)
 ·intro z t iI cB hW h9;simp(disch:=first|omega|simp only[DI.aK];omega) [RY,cB,hW,-an,-au,-ak,-aq,-List.map_map];exact h9 _ (nK (by simp) (by simp) (by simp) (by simp) (by simp) (by simp)) (by simp)
theorem aIb{u:aG}(h:aG.fX u)(M:u.dj.all (tW · u.cr.length)=true){fP:Nat->Nat}{cl:Nat->List ByteArray}{eo:aC}{t0:H}(Z:h8 u fP cl eo t0)(gY:(cl 6).length<=10000)(iI:eo 174=ad (u.dj.map dE) 17)(cB:eo 175=E u.dj.length)(hW:eo 176=E 0){Q:cM->aC->H->Prop}
 (bb: ∀z t jz,h8 u jz (h5 cl 6 (cl 6++u.dj.map (·.name))) z t->Q (.cH 8) z t):ec N (.loop RZ) eo t0 Q:=by
 refine H3 (ax:=⟨[acH u.cr.length (by have:=h.ev;omega)],[]⟩) (by decide) (by decide) h.As Z gY iI cB hW ?_ ?_ bb
 ·intro i W z t o n wJ B bC br aU bl kW aL bq dD bk fL aj pS e8 iI cB hW bM a1;have eD:hQ.fX u.dj[i]/\tW u.dj[i] u.cr.length=true:=⟨h.dj _ (kd W),dP.1 M _ (kd W)⟩;simp(disch:=first|omega|simp only[DI.aK];omega) [RZ,alu,aI,dE,aU,bl,kW,iI,cB,hW,aL,bq,bC,br,aj,pS,e8,-an,-au,-ak,-aq,-List.map_map];refine a1 _ _ (t.next+4+4) (we (d:=6) ?_ ?_ ?_ ?_ ?_ ?_) ?_ ?_ ?_ (by omega) ?_ (λb hb nA=> ?_) ?_ ?_ ?_
  all_goals first
   |(intro aV;first|(exact absurd rfl aV)|(simp;done))
   |(simp(disch:=first|omega|simp only[DI.aK];omega) [iI,cB,-an,-au,-ak,-aq,-List.map_map];done)
   |(simp(disch:=first|omega|simp only[DI.aK];omega) [hb,nA,-an,-au,-ak,-aq,-List.map_map];done)
   |(simp(disch:=first|omega|simp only[DI.aK];omega) [-an,-au,-ak,-aq,-List.map_map];omega)
 ·intro z t iI cB hW h9;simp(disch:=first|omega|simp only[DI.aK];omega) [RZ,cB,hW,-an,-au,-ak,-aq,-List.map_map];exact h9 _ (nK (by simp) (by simp) (by simp) (by simp) (by simp) (by simp)) (by simp)
theorem aIc{u:aG}(h:aG.fX u)(M:u.aZ.all (FW u.dj.length)=true){fP:Nat->Nat}{cl:Nat->List ByteArray}{eo:aC}{t0:H}(Z:h8 u fP cl eo t0)(gY:(cl 7).length<=10000)(iI:eo 195=ad (u.aZ.map ga) 2)(cB:eo 196=E u.aZ.length)(hW:eo 197=E 0){Q:cM->aC->H->Prop}
 (bb: ∀z t jz,h8 u jz (h5 cl 7 (cl 7++u.aZ.map (·.name))) z t->Q (.cH 10) z t):ec N (.loop R0) eo t0 Q:=by
 refine H3 (ax:=⟨[u5],[]⟩) (by decide) (by decide) h.j4 Z gY iI cB hW ?_ ?_ bb
 ·intro i W z t o n wJ B bC br aU bl kW aL bq dD bk fL aj pS e8 iI cB hW bM a1;have sR:IntKind.i64.wrap ((u.dj.length:Int)-1)=(u.dj.length:Int)-1:=cY (by omega) (by have:=h.As;omega);have eD:=dP.1 M _ (kd W);simp only[FW]at eD;simp(disch:=first|omega|simp only[DI.aK];omega) [R0,alw,aI,ga,aU,bl,kW,iI,cB,hW,aL,bq,bC,br,aj,pS,e8,sR,eD,-an,-au,-ak,-aq,-List.map_map];refine a1 _ _ (t.next+4+4) (we (d:=7) ?_ ?_ ?_ ?_ ?_ ?_) ?_ ?_ ?_ (by omega) ?_ (λb hb nA=> ?_) ?_ ?_ ?_
  all_goals first
   |(intro aV;first|(exact absurd rfl aV)|(simp;done))
   |(simp(disch:=first|omega|simp only[DI.aK];omega) [iI,cB,-an,-au,-ak,-aq,-List.map_map];done)
   |(simp(disch:=first|omega|simp only[DI.aK];omega) [hb,nA,-an,-au,-ak,-aq,-List.map_map];done)
   |(simp(disch:=first|omega|simp only[DI.aK];omega) [-an,-au,-ak,-aq,-List.map_map];omega)
 ·intro z t iI cB hW h9;simp(disch:=first|omega|simp only[DI.aK];omega) [R0,cB,hW,-an,-au,-ak,-aq,-List.map_map];exact h9 _ (nK (by simp) (by simp) (by simp) (by simp) (by simp) (by simp)) (by simp)
theorem aqJ{u:aG}{c:aw}{z:aC}{t:H}{Q:cM->aC->H->Prop}(aU:z 1=bH 0)(bl:z 8= .bool true)(bW:z 3= .slice none 0 0)(dR:z 4= .slice none 0 0)(bz:z 5= .slice none 0 0)(bB:z 6= .slice none 0 0)(ca:z 7= .slice none 0 0)
 (aL:t.I 0=some ⟨aI u,true⟩) (h: ∀K af fP,h8 u fP (λ_=>[]) K af->(∀k,8<k->K k=z k)->ec N c K af Q):ec N c z t Q:=by
 have dD:=aM aL;obtain⟨aA,H6⟩: ∃aA,t.next=aA:=⟨_,rfl⟩
 refine N9 3 1 bW λsP sA jh p6=> ?_;refine N9 4 1 (by simpa using dR) λIM Ar lU xk=> ?_;refine N9 5 1 (by simpa using bz) λNV anr ox Ak=> ?_;refine N9 6 1 (by simpa using bB) λaHB ans Ba SQ=> ?_;refine N9 7 1 (by simpa using ca) λpQ HZ Gh xj=> ?_;have mI:sP.next=aA+1:=by omega
 have vk:IM.next=aA+2:=by omega
 have ae2:NV.next=aA+3:=by omega
 have ae3:aHB.next=aA+4:=by omega
 rw[H6]at jh;rw[mI]at lU;rw[vk]at ox;rw[ae2]at Ba;rw[ae3]at Gh;rw[H6,mI,vk,ae2,ae3];refine h _ _ (λk=>aA+(k-3)) ⟨by simpa using aU,by simpa using bl,?_,λk a b=> ?_,λk a b=> ?_,λi j a b c d e=>by omega,λk a b=>by omega⟩ (λk S=>by simp only[k7,show¬k=3 by omega,show¬k=4 by omega,show¬k=5 by omega,show¬k=6 by omega,show¬k=7 by omega,if_false])
 ·rw[xj 0 (by omega),SQ 0 (by omega),Ak 0 (by omega),xk 0 (by omega),p6 0 (by omega)];exact aL
 ·have:k=3\/k=4\/k=5\/k=6\/k=7:=(by omega);rcases this with rfl|rfl|rfl|rfl|rfl<;>simp
 ·have:k=3\/k=4\/k=5\/k=6\/k=7:=(by omega);rcases this with rfl|rfl|rfl|rfl|rfl
  ·show pQ.I aA=_;rw[xj aA (by omega),SQ aA (by omega),Ak aA (by omega),xk aA (by omega)];exact jh
  ·show pQ.I (aA+1)=_;rw[xj _ (by omega),SQ _ (by omega),Ak _ (by omega)];exact lU
  ·show pQ.I (aA+2)=_;rw[xj _ (by omega),SQ _ (by omega)];exact ox
  ·show pQ.I (aA+3)=_;rw[xj _ (by omega)];exact Ba
  ·exact Gh
noncomputable def oO(u:aG):Bool:=fH u.ext 1 4&&(decide (u.eI.length<=4)&&(decide (u.cr.length<=4)&&(decide (u.aP.length<=40)&&(decide (u.aY.length<=24)&&(decide (u.dj.length<=4)&&(decide (u.aZ.length<=12)&&(uv u.aP&&(u.eI.all la.yM&&(u.cr.all (Cm u.eI.length)&&(u.aY.all (Bl u.cr.length u.aP)&&(u.dj.all (tW · u.cr.length)&&(u.aZ.all (FW u.dj.length)&&(kA (u.eI.map (·.name))&&(kA (u.cr.map (·.name))&&(kA (u.aP.tail.map (·.name)++u.aY.map (·.name))&&(kA (u.dj.map (·.name))&&kA (u.aZ.map (·.name))))))))))))))))))
theorem h8.mv{u:aG}{fP:Nat->Nat}{cl:Nat->List ByteArray}{z:aC}{t:H}(Z:h8 u fP cl z t)(d:Nat)(ai:3<=d)(dU:d<=7){L:List ByteArray}(e:cl d=L)(ae:L.length<1000000)(a9:kA L=true):
 ∃o c,∃l:List ByteArray,z d= .slice (some ⟨o,0,none⟩) l.length 1/\t.I o=some ⟨c,true⟩/\(l.length<1000000/\kA l=true)/\(∀t,fD (fD (DI.dt 8 t)) (ld 1 l.length c)=some (l.map λs=>[gD s]))/\(∀t,c.flatMap (et 8 t)=[])/\c.length=l.length:=
 ⟨fP d,_,L,e▸Z.NK d ai dU,e▸Z.g d ai dU,⟨ae,a9⟩,anE rfl⟩
theorem aqp{u:aG}(h:aG.fX u)(M:oO u=true):bP N 62 [.agg (aI u).toArray] (E 0):=by
 simp only[oO,a6,ey]at M;obtain⟨A,dD,hZ,jw,aac,aad,EW,aV,bt,bR,a3,a4,ft,mz,FR,C1,adr,adt⟩:=M;refine du (c2 (ax:=⟨[u5,acF u h aV,acE],[]⟩) azM (by kernel_rfl) (by simp[Y1]) ?_);have jN: ¬(4:Int)<u.eI.length:=by omega
 have b6: ¬(4:Int)<u.cr.length:=by omega
 have cR: ¬(40:Int)<u.aP.length:=by omega
 have lz: ¬(24:Int)<u.aY.length:=by omega
 have ji: ¬(4:Int)<u.dj.length:=by omega
 have xY: ¬(12:Int)<u.aZ.length:=by omega
 obtain⟨R,ds,ka⟩: ∃R ds,u.aP=R::ds:=by
  cases bo:u.aP with
  |nil=>rw[bo]at aV;cases aV
  |cons R ds=>exact⟨R,ds,rfl⟩
 have BG:ds.length<=39:=by rw[ka]at jw;simp at jw;omega
 have W5:u.aP.tail=ds:=by rw[ka];rfl
 rw[W5]at C1;simp(disch:=first|omega|simp only[DI.aK];omega) [Y1,alk,als,aI,A,jN,b6,cR,lz,ji,xY,-an,-au,-ak,-aq,-List.map_map];refine aqJ (u:=u) (by simp) (by simp) (by simp) (by simp) (by simp) (by simp) (by simp) (by simp(disch:=first|omega|simp only[DI.aK];omega) [aI,-an,-au,-ak,-aq,-List.map_map]) λz t fP Z S=> ?_;refine aH7 h bt Z (by simp) (by rw[S 67 (by decide)];simp) (by rw[S 68 (by decide)];simp) (by rw[S 69 (by decide)];simp) λz t fP Z=> ?_;simp(disch:=first|omega|simp only[DI.aK];omega) [alz,aI,Z.aU,Z.aL,-an,-au,-ak,-aq,-List.map_map];refine aH8 h bR (Z.ur (by simp) (nK (by simp) (by simp) (by simp) (by simp) (by simp) (by simp))) (by simp[h5]<;>omega) (by simp) (by simp) (by simp) λz t fP Z=> ?_;have VA:(List.take u.aP.length (u.aP.map eG)).tail=ds.map eG:=by rw[h7 (by simp),ka];rfl
 have VB:u.aP.length-1=ds.length:=by rw[ka];rfl
 have avS:1<=u.aP.length:=by rw[ka];simp
 have Wx:(1:Int)<=u.aP.length:=by omega
 simp(disch:=first|omega|simp only[DI.aK];omega) [aln,aI,Z.aU,Z.aL,Wx,-an,-au,-ak,-aq,-List.map_map];rw[VA,VB];refine aH9 h (ds:=ds) (by omega) (Z.ur (by simp) (nK (by simp) (by simp) (by simp) (by simp) (by simp) (by simp))) (by simp[h5]<;>omega) (by simp) (by simp) (by simp) λz t fP Z=> ?_;simp(disch:=first|omega|simp only[DI.aK];omega) [alp,aI,Z.aU,Z.aL,-an,-au,-ak,-aq,-List.map_map];refine aIa h a3 (Z.ur (by simp) (nK (by simp) (by simp) (by simp) (by simp) (by simp) (by simp))) (by simp[h5]<;>omega) (by simp) (by simp) (by simp) λz t fP Z=> ?_;simp(disch:=first|omega|simp only[DI.aK];omega) [alr,aI,Z.aU,Z.aL,-an,-au,-ak,-aq,-List.map_map];refine aIb h a4 (Z.ur (by simp) (nK (by simp) (by simp) (by simp) (by simp) (by simp) (by simp))) (by simp[h5]<;>omega) (by simp) (by simp) (by simp) λz t fP Z=> ?_;simp(disch:=first|omega|simp only[DI.aK];omega) [alv,aI,Z.aU,Z.aL,-an,-au,-ak,-aq,-List.map_map];refine aIc h ft (Z.ur (by simp) (nK (by simp) (by simp) (by simp) (by simp) (by simp) (by simp))) (by simp[h5]<;>omega) (by simp) (by simp) (by simp) λz t fP Z=> ?_;obtain⟨hF,aNa,aJK,qV,cj,cv,auA,auB,auC⟩:=Z.mv 3 (by decide) (by decide) (by simp[h5]) (by simp<;>omega) mz;obtain⟨j5,aNb,aJL,amZ,dy,fQ,auD,auE,auF⟩:=Z.mv 4 (by decide) (by decide) (by simp[h5]) (by simp<;>omega) FR;obtain⟨yP,aNc,aJM,am0,fB,g0,auG,auH,auI⟩:=Z.mv 5 (by decide) (by decide) (by simp[h5]) (by simp<;>omega) C1;obtain⟨M5,aNd,aJN,MG,fb,mS,auJ,auK,auL⟩:=Z.mv 6 (by decide) (by decide) (by simp[h5]) (by simp<;>omega) adr;obtain⟨aSv,aNe,aJO,aCL,ja,Tx,auM,auN,auO⟩:=Z.mv 7 (by decide) (by decide) (by simp[h5]) (by simp<;>omega) adt;simp(disch:=first|omega|simp only[DI.aK];omega) [alx,Z.bl,qV,cj,auA,auB,auC,amZ,dy,auD,auE,auF,am0,fB,auG,auH,auI,MG,fb,auJ,auK,auL,aCL,ja,auM,auN,auO,Br,yX,-an,-au,-ak,-aq,-List.map_map]
end Go.Proofs.YtmmkkggfmigppaaGreat
namespace Go.DI
open Go
section
variable {P:Program} {u:fU} {J:eU} {t m U:H}
theorem eb.aax(F:eb J u t m)(ae:m.next<=U.next)(h: ∀b,(∃o,J o=some b)\/u b≠none->U.I b=m.I b/\U.mp b=m.mp b):eb J u t U where
 iU o x B:=by
  rcases F.iU o x B with⟨b,cs,w,A,D,ai,aT⟩|A
  ·exact .inl ⟨b,cs,w,A,by rw[(h b (.inl ⟨o,A⟩)).1];exact D,ai,aT⟩
  ·exact .inr A
 maps o es aQ:=by obtain⟨b,db,A,D,ai⟩:=F.maps o es aQ;obtain⟨aE,a2⟩:=h b (.inl ⟨o,A⟩);obtain⟨bK,cz⟩:=jb D;exact⟨b,db,A,kB (by rw[aE];exact bK) (by rw[a2];exact cz),ai⟩
 jo:=F.jo
 inj:=F.inj
 cQ o b hb:=⟨(F.cQ o b hb).1,ql (F.cQ o b hb).2 ae⟩
 bZ b cs hb:=by obtain⟨⟨w,A⟩,D⟩:=F.bZ b cs hb;exact⟨⟨w,by rw[(h b (.inr (by rw[hb];simp))).1];exact A⟩,D⟩
theorem eQ.aax{cU:eU}{cy:fU}{af bn cI:H}{hn hE:Nat}(h:eQ hn hE J u t m cU cy af bn)(ae:bn.next<=cI.next)(aH: ∀b,b<hE->cI.I b=bn.I b):eQ hn hE J u t m cU cy af cI:=
 ⟨h.e,h.f,h.kZ,h.fn,h.k5,mD h.lJ ae,λb hb aS=>by rw[aH b hb];exact h.dK b hb aS,h.r5,h.s9⟩
end
end Go.DI
namespace Go.Proofs.YtmmkkggfmigppaaGreat
open Go Go.DI Go.Big
noncomputable def wP(l:List ByteArray)(s:ByteArray):Bool:=rN s&&(o3 s l).isNone
theorem Pv{l:List ByteArray}{s:ByteArray}:wP l s=if rN s then decide (BW s l<0)else false:=by unfold wP BW;cases rN s<;>cases h:o3 s l<;>simp
def arc(m:H)(bf:Value)(l:List ByteArray):Prop:=(∃b,bf= .slice (some ⟨b,0,none⟩) l.length 1/\m.I b=some ⟨iH l,true⟩)\/(bf= .slice none 0 0/\l=[])
theorem Cs{l:List ByteArray}:iH l=l.map gD:=by
 unfold iH;induction l with
 |nil=>rfl
 |cons x l cf=>rw[lO,sX,cf];rfl
theorem aaS{l:List ByteArray}:(iH l).length=l.length:=by rw[Cs,k8]
theorem aDp{l:List ByteArray}{i:Nat}{s:ByteArray}(h:l[i]?=some s):(iH l)[i]?=some (gD s):=by rw[Cs,rh,h];rfl
theorem ah7{m:H}{bf:Value}{l:List ByteArray}{s:ByteArray}(a9:(∃b w,bf= .slice (some ⟨b,0,none⟩) l.length 1/\m.I b=some ⟨iH l,w⟩)\/(bf= .slice none 0 0/\l=[]))(ae:l.length<1000000):
 ep N 189 [bf,gD s] m λr _=>r=E (BW s l):=by
 rcases a9 with⟨b,w,rfl,hb⟩|⟨rfl,rfl⟩
 ·have M:cm (λx=>if x=b then some (iH l)else none) kS (DF l) (.slice (some ⟨b,0,none⟩) l.length 1):=by
   have:=cm.jG (u:= λx=>if x=b then some (iH l)else none) (J:=kS) (v:=DF l) (b:=b) (off:=0) (G:=1) (cs:=iH l) (bI:=l.map λs=>[gD s]) rfl (by simp) (by simp[aaS]) (λi r h=>by
    simp only[rh,ve]at h;obtain⟨_,_,rfl⟩:=h;rfl) (λi j r x y A D ai=>by
    simp only[rh,ve]at A;obtain⟨q,bo,rfl⟩:=A;have aX:j=0:=(by have:=(cG.1 D).1;simpa using this);subst aX;simp at D;subst D;rw[show 0+i*1+0=i by omega,aDp bo]at ai;cases ai;exact .c7 rfl)
   simpa using this
  refine(ah8 ae _ m _ (λc cs ar=> ?_) (bL.cons M (bL.cons (.c7 rfl) bL.nil))).bD λr U h=> ?_
  ·split at ar
   ·next e=>cases ar;subst e;exact⟨w,hb⟩
   ·cases ar
  ·obtain⟨_,_,cy,_,_,M⟩:=h;exact M.tE
 ·refine(ah8 ae (λ_=>none) m [.slice none 0 0,gD s] (λc cs ar=>by cases ar) (bL.cons (.jH rfl) (bL.cons (.c7 rfl) bL.nil))).bD λr U h=> ?_;obtain⟨_,_,cy,_,_,M⟩:=h;exact M.tE
theorem agl{m:H}{bf:Value}{l:List ByteArray}{s:ByteArray}(a9:arc m bf l)(ae:l.length<1000000):ep N 136 [bf,gD s] m λr U=>r= .tuple #[.slice (some ⟨m.next+3,0,none⟩) (l.length+1) 1,.bool (wP l s)]/\
 ∃k,U=((hC ((m.b0 14).aO (m.next+2) (some ⟨[gD s],true⟩)) bf).aO (m.next+3) (some ⟨iH l++[gD s],true⟩)).b0 k:=by
 rw[asE (by simp)];rcases a9 with⟨b,rfl,hb⟩|⟨rfl,rfl⟩
 ·have EX:=aM hb;have mN:List.take l.length (iH l)=iH l:=h7 (by rw[aaS];omega);simp[QR];rw[aqF];simp(disch:=first|omega|simp only[bE];omega) [o5,DI.sQ,hb,aaS];refine⟨⟨by omega,by omega⟩,?_⟩;rw[aoQ,Jy];cases l3:rN s
  ·simp(disch:=first|omega|simp only[bE];omega) [Mz,l3,Pv,hb,mN,gM];exact⟨_,rfl⟩
  ·simp[];refine(ah7 (.inl ⟨b,false,rfl,by simp(disch:=omega) [G8,hb,G7]⟩) ae).bD λr U al=> ?_;subst al;rw[Jy];simp(disch:=first|omega|simp only[bE];omega) [Mz,Pv,l3,hb,mN,gM];exact⟨_,rfl⟩
 ·simp[QR];rw[aqF];simp[o5,DI.sQ];rw[aoQ,Jy];cases l3:rN s
  ·simp(disch:=first|omega|simp only[bE];omega) [Mz,l3,Pv,Cs];exact⟨_,rfl⟩
  ·simp(disch:=first|omega|simp only[bE];omega) [];refine(ah7 (l:=[]) (.inr ⟨rfl,rfl⟩) ae).bD λr U al=> ?_;subst al;rw[Jy];simp(disch:=first|omega|simp only[bE];omega) [Mz,Pv,l3,Cs];exact⟨_,rfl⟩
theorem agd{u:fU}{J:eU}: ∀{xs ys:List Value},bL u J xs ys->(∀x∈xs,∃s,x=gD s)->ys=xs
 |[],ys,h,_=>r6.1 h.1.symm
 |x::xs,[],h,_=>by have:=h.1;simp at this
 | x::xs,y::ys,h,B=>by obtain⟨s,rfl⟩:=B x (by simp);have bY:=(h.2 0 (gD s) y rfl rfl).Ab;rw[bY,agd (xs:=xs) (ys:=ys) ⟨by simpa using h.1,λi a b p q=>h.2 (i+1) a b (by simpa using p) (by simpa using q)⟩ λG bw=>B G (by simp[bw])]
theorem aDr{l:List ByteArray}: ∀x∈iH l,∃s,x=gD s:=by rw[Cs];intro x B;obtain⟨s,_,rfl⟩:=gG.1 B;exact⟨s,rfl⟩
def wQ(o:Nat)(l:List ByteArray)(s:ByteArray)(t:H):H:=((t.b0 14).aO o none).aO t.next (some ⟨iH (l++[s]),true⟩)
theorem aur{J:eU}{u:fU}{t m bj bn:H}(F:eb J u t m)(A:bj.next=t.next+14)(D:bn.next=m.next+14):DI.s6 J u bj bn t.next (m.next+3) where
 e :=by
  cases h:J t.next with
  |none=>rfl
  |some b=>have:=(F.cQ _ _ h).1;omega
 b o h:=by have:=(F.cQ _ _ h).2;omega
 f :=by
  cases h:u (m.next+3)with
  |none=>rfl
  |some cs=>obtain⟨⟨w,g⟩,_⟩:=F.bZ _ _ h;have:=aM g;omega
 r2:=by omega
 tL:=by omega
theorem aus{o:Nat}{l:List ByteArray}{s:ByteArray}{t:H}(ae:l.length<1000000)(aB:t.I o=some ⟨iH l,true⟩){bA:Value->H->Prop}
 (iA:bA (.tuple #[.slice (some ⟨t.next,0,none⟩) (l.length+1) 1,.bool (wP l s)]) (wQ o l s t)):fc N 136 [.slice (some ⟨o,0,none⟩) l.length 1,gD s] t bA:=by
 intro J u dp m F aa;obtain⟨bf,w,rfl,A,D⟩:=aa.aHT;have aJ:=D.Ab;subst aJ;have bk:=aM aB;have uD:=OR F 14;have P4:(t.b0 14).I o=some ⟨iH l,true⟩:=by rw[DI.cJ bk];exact aB
 have PM:iH (l++[s])=iH l++[gD s]:=anD;have dJ: ∀{J:eU},bL u J (iH (l++[s])) (iH l++[gD s]):=by rw[PM,<-PM,Cs];exact bL.c7 (by simp[ei])
 have ck: ∀c,((∃p,gv J t.next (m.next+3) p=some c)\/u c≠none)->c=m.next+3\/(c<m.next/\((∃p,J p=some c)\/u c≠none)):=by
  rintro c (⟨p,Z⟩|ar)
  ·unfold gv at Z;split at Z
   ·cases Z;exact .inl rfl
   ·exact .inr ⟨(F.cQ _ _ Z).2,.inl ⟨p,Z⟩⟩
  ·obtain⟨cs,dh⟩:=Option.ne_none_iff_exists'.1 ar;obtain⟨⟨w,g⟩,_⟩:=F.bZ _ _ dh;exact .inr ⟨aM g,.inr ar⟩
 have kM: ∀(X:H) (k:Nat) (cF:H),X.next=m.next+14->X.mp=m.mp->(∀c,c<m.next->cF.I c=X.I c)->cF.next=X.next+k->cF.mp=X.mp->cF.I (m.next+3)=some ⟨iH l++[gD s],true⟩->
  eb J u ((t.b0 14).aO o none) X->DI.eQ t.next m.next J u t m J u ((t.b0 14).aO o none) X->
  ∃cU cy r af,bA r af/\eb cU cy af cF/\cm cy cU r (.tuple #[.slice (some ⟨m.next+3,0,none⟩) (l.length+1) 1,.bool (wP l s)])/\DI.eQ t.next m.next J u t m cU cy af cF:=by
  intro X k cF aE a2 cj dy fB fb ja qC;have qN:=aur (bj:=(t.b0 14).aO o none) (bn:=X) F rfl aE;have a8:=Th ja qN dJ;have bV:DI.eQ t.next m.next J u t m (gv J t.next (m.next+3)) u (wQ o l s t) (X.aO (m.next+3) (some ⟨iH l++[gD s],true⟩)):=qC.trans (anA qN (c8 _) (by omega))
  refine⟨_,u,_,wQ o l s t,iA,a8.aax (by rw[eJ];omega) (λc ar=> ?_),bL.tuple (bL.cons (.slice (by simp[gv])) (bL.cons (.c7 rfl) bL.nil)),bV.aax (by rw[eJ];omega) (λc ar=> ?_)⟩
  ·rcases ck c ar with rfl|⟨ar,_⟩
   ·rw[cx (by omega),fb];exact⟨rfl,by rw[fB];rfl⟩
   ·rw[a7 (by omega),cj c ar,fB];exact⟨rfl,rfl⟩
  ·rw[a7 (by omega),cj c ar]
 rcases A.l6 with⟨b,hb,_,rfl⟩|⟨_,_,bY,rfl⟩
 ·have ab:m.I b=some ⟨iH l,true⟩:=by
   rcases F.iU o _ aB with⟨cw,cs,w,ai,aT,bF,cW⟩|⟨ai,_⟩
   ·rw[hb]at ai;cases ai;rw[aT,bF rfl,agd cW aDr]
   ·rw[hb]at ai;cases ai
  have EX:=aM ab;refine(agl (.inl ⟨b,rfl,ab⟩) ae).bD λdZ U ⟨al,k,qM⟩=> ?_;subst al;subst qM;refine kM ((m.b0 14).aO b none) k _ rfl rfl (λc ar=> ?_) rfl rfl ?_ (Z8 uD hb P4 rfl) ((Ju F 14).trans (N1 uD hb P4 rfl))
  ·rw[H.cJ,a7 (by omega)];by_cases e:c=b
   ·subst e;show(((m.b0 14).aO (m.next+2) _).aO c none).I c=_;rw[cx (by simp;omega),cx (by simp;omega)]
   ·show(((m.b0 14).aO (m.next+2) _).aO b none).I c=_;rw[a7 e,a7 e,a7 (by omega)]
  ·rw[H.cJ,cx];show m.next+3<m.next+14
   omega
 ·obtain rfl:l=[]:=r6.1 bY;refine(agl (.inr ⟨rfl,rfl⟩) ae).bD λdZ U ⟨al,k,qM⟩=> ?_;subst al;subst qM;refine kM (m.b0 14) k _ rfl rfl (λc ar=> ?_) rfl rfl ?_ (Vx uD) ((Ju F 14).trans Vw)
  ·rw[H.cJ,a7 (by omega)];show((m.b0 14).aO (m.next+2) _).I c=_;rw[a7 (by omega)]
  ·rw[H.cJ,cx];show m.next+3<m.next+14
   omega
theorem aDq{l c5:List ByteArray}:iH l=iH c5↔l=c5:=by rw[Cs,Cs];exact Cj λa b h=>by cases h;rfl
open Classical in
noncomputable def JV(o n:Nat)(s:ByteArray)(t:H)(x:Option eM):Option (Value×H):=
 if h: ∃l:List ByteArray,l.length=n/\n<1000000/\x=some ⟨iH l,true⟩then some (.tuple #[.slice (some ⟨t.next,0,none⟩) (n+1) 1,.bool (wP h.choose s)],wQ o h.choose s t)else none
@[simp] theorem aN7{o:Nat}{s:ByteArray}{t:H}{l:List ByteArray}(h:l.length<1000000):
 JV o l.length s t (some ⟨iH l,true⟩)=some (.tuple #[.slice (some ⟨t.next,0,none⟩) (l.length+1) 1,.bool (wP l s)],wQ o l s t):=by
  have B: ∃c5:List ByteArray,c5.length=l.length/\l.length<1000000/\some (⟨iH l,true⟩:eM)=some ⟨iH c5,true⟩:=⟨l,rfl,h,rfl⟩;have ar:B.choose=l:=by have:=congrArg (λx:Option eM=>(x.map eM.cells).getD []) B.choose_spec.2.2;exact(aDq.1 this).symm
  simp only[JV,dif_pos B,ar]
noncomputable def BV:jg N:= .cK 136 (Nat×Nat×ByteArray) (λ⟨o,n,s⟩=>[.slice (some ⟨o,0,none⟩) n 1,gD s])
 (λ⟨o,n,s⟩ t=>JV o n s t (t.I o))
 λ⟨o,n,s⟩ t r af h bA iA=>by
   simp only[JV]at h;split at h
   ·next B=>cases h;obtain⟨A,D,ai⟩:=B.choose_spec;generalize B.choose=l at A ai iA;subst A;exact aus D ai iA
   ·cases h
@[simp] theorem aPu:BV.f=136:=rfl
@[simp] theorem aPv{o n:Nat}{s:ByteArray}{t:H}:BV.fn [.slice (some ⟨o,0,none⟩) n 1,gD s] t=JV o n s t (t.I o):=
  jg.dx (x:=(o,n,s)) (t:=t) λ⟨h6,mA,vd⟩ Y=>by simp at Y;obtain⟨⟨rfl,rfl⟩,rfl⟩:=Y;rfl
theorem aHZ{l:List ByteArray}{s:ByteArray}:kA (l++[s])=(kA l&&wP l s):=by
 rw[Bool.eq_iff_iff];unfold kA wP;have A:(o3 s l).isNone=true↔s∉l:=by
  constructor
  ·intro h ab;have:=am4 ab;rw[Da]at h;exact this h
  ·intro h;rw[Xt h];rfl
 simp only[a6,ey,F3,AY,A,mZ,List.all_nil,and_true];constructor
 ·rintro⟨⟨a,b⟩,c,_,d⟩;exact⟨⟨a,c⟩,b,λab=>d s ab s (by simp) rfl⟩
 ·rintro⟨⟨a,c⟩,b,d⟩;exact⟨⟨a,b⟩,c,by simp,λx B y Y=>by simp at Y;subst Y;exact λe=>d (e▸B)⟩
theorem aqh{l c5:List ByteArray}(h:kA (l++c5)=true):kA l=true:=by unfold kA at*;simp only[a6,ey,F3,AY]at*;exact⟨h.1.1,h.2.1⟩
def AM:List Nat:=[1,3,4,5,6,7,17,18]
theorem NP{z K:aC}(A:K 1=z 1)(ai:K 3=z 3)(aT:K 4=z 4)(bF:K 5=z 5)(cW:K 6=z 6)(dU:K 7=z 7)(g1:K 17=z 17)(iQ:K 18=z 18): ∀k∈AM,K k=z k:= λk S=>by simp only[AM,hi,kJ,or_false]at S;rcases S with rfl|rfl|rfl|rfl|rfl|rfl|rfl|rfl<;>assumption
theorem IE{z K k9:aC}(h: ∀k∈AM,K k=z k)(cn: ∀k∈AM,k9 k=K k): ∀k∈AM,k9 k=z k:= λk S=>(cn k S).trans (h k S)
theorem aFZ{x:hQ}{q j:Nat}{v:Int}{eo:aC}{t0:H}(M:x.cr[j]?=some v)(pF:v∉x.cr.take j)(di:x.cr.length<1000000)(jE:t0.I q=some ⟨dE x,true⟩)(kV:eo 18=bH q)(lM:eo 19=E j)(pP:eo 20=E 0)(bl:eo 8= .bool true)
 {Q:cM->aC->H->Prop} (bb: ∀z,(∀k∈AM,z k=eo k)->z 19=eo 19->z 8= .bool true->Q (.cH 12) z t0):ec N (.loop Sp) eo t0 Q:=by
 have aX:j<x.cr.length:=(cG.1 M).1;have a8:(j:Int)<x.cr.length:=by omega
 have awE:=(cG.1 M).2;refine gR (ax:=⟨[],[]⟩) (λk z t=>t=t0/\(∀k∈AM,z k=eo k)/\z 19=E j/\z 20=E k/\z 8= .bool true) j ?_ ?_ 0 eo t0 (gi _) ⟨rfl,λ_ _=>rfl,lM,pP,bl⟩
 ·rintro k z t S ⟨rfl,F,xz,ab1,xB⟩ bM a1;have B:x.cr[k]?=some x.cr[k]:=c1 (by omega);have br:=fz (n:=k) (by omega);have bC:(k:Int)<j:=(by omega);have bV:(k:Int)<x.cr.length:=(by omega);have Fv:z 18=bH q:=(F 18 (by decide)).trans kV;have e: ¬x.cr[k]=v:= λe=>pF (List.mem_iff_getElem.2 ⟨k,by rw[ri];omega,by rw[List.getElem_take];exact e⟩);simp(disch:=first|omega|simp only[bE];omega) [Sp,dE,Fv,xz,ab1,xB,jE,bC,a8,bV,br,awE,e,-an,-au,-ak,-aq,-List.map_map];exact a1 _ _ ⟨rfl,IE F (NP (by simp) (by simp) (by simp) (by simp) (by simp) (by simp) (by simp) (by simp)),by simp[xz],by simp,by simp⟩
 ·rintro z t ⟨rfl,F,xz,ab1,xB⟩;have Fv:z 18=bH q:=(F 18 (by decide)).trans kV;simp(disch:=first|omega|simp only[bE];omega) [Sp,xz,ab1,-an,-au,-ak,-aq,-List.map_map];exact bb _ (IE F (NP (by simp) (by simp) (by simp) (by simp) (by simp) (by simp) (by simp) (by simp))) (by simp[xz,lM]) (by simp[xB])
def aau(h0:List Int)(n:Nat):Bool:=(h0.all λm=>fH m 0 ((n:Int)-1))&&decide h0.Nodup
theorem aF0{u:aG}(al:aG.fX u){x:hQ}{q:Nat}{eo:aC}{t0:H}(ab:aau x.cr u.cr.length=true)(di:x.cr.length<1000000)(aL:t0.I 0=some ⟨aI u,true⟩)(jE:t0.I q=some ⟨dE x,true⟩)(aU:eo 1=bH 0)(kV:eo 18=bH q)(lM:eo 19=E 0)(bl:eo 8= .bool true)
 {Q:cM->aC->H->Prop} (bb: ∀z,(∀k∈AM,z k=eo k)->z 8= .bool true->Q (.cH 10) z t0):ec N (.loop Sq) eo t0 Q:=by
 have sR:IntKind.i64.wrap ((u.cr.length:Int)-1)=(u.cr.length:Int)-1:=cY (by omega) (by have:=al.ev;omega);simp only[aau,a6,dP,ey]at ab;refine gR (ax:=⟨[wa],[]⟩) (λj z t=>t=t0/\(∀k∈AM,z k=eo k)/\z 19=E j/\z 8= .bool true) x.cr.length ?_ ?_ 0 eo t0 (gi _) ⟨rfl,λ_ _=>rfl,lM,bl⟩
 ·rintro j z t aX ⟨rfl,F,xz,xB⟩ bM a1;have B:x.cr[j]?=some x.cr[j]:=c1 aX;have br:=fz (n:=j) (by omega);have bC:(j:Int)<x.cr.length:=(by omega);have Fv:z 18=bH q:=(F 18 (by decide)).trans kV;have aGa:z 1=bH 0:=(F 1 (by decide)).trans aU;have eD:=ab.1 _ (kd aX);simp(disch:=first|omega|simp only[bE];omega) [Sq,dE,aI,aGa,Fv,xz,xB,jE,aL,bC,sR,eD,-an,-au,-ak,-aq,-List.map_map];refine aFZ B (anJ ab.2 aX) di jE (by simp[Fv]) (by simp[xz]) (by simp) (by simp) λc6 ie atO lC=> ?_;simp(disch:=first|omega|simp only[bE];omega) [atO,xz,br,-an,-au,-ak,-aq,-List.map_map];refine a1 _ _ ⟨rfl,IE (IE (IE F (NP ?_ ?_ ?_ ?_ ?_ ?_ ?_ ?_)) ie) (NP ?_ ?_ ?_ ?_ ?_ ?_ ?_ ?_),?_,?_⟩;all_goals simp[lC]
 ·rintro z t ⟨rfl,F,xz,xB⟩;have Fv:z 18=bH q:=(F 18 (by decide)).trans kV;simp(disch:=first|omega|simp only[bE];omega) [Sq,dE,Fv,xz,jE,-an,-au,-ak,-aq,-List.map_map];exact bb _ (IE F (NP (by simp) (by simp) (by simp) (by simp) (by simp) (by simp) (by simp) (by simp))) (by simp[xB])
end Go.Proofs.YtmmkkggfmigppaaGreat
