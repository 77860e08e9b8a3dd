/-
  A part of the proof, shortened by tools of ours.
-/
import Derived.Test.YtmmkkggfmigppaaGreatZas
set_option linter.all false
set_option maxRecDepth 8000
set_option maxHeartbeats 16000000
namespace Go.Proofs.YtmmkkggfmigppaaGreat
open Go Go.DI Go.Big
def iS(x n:Int):Int:=if n<1 then 0 else if x.tmod n<0 then x.tmod n+n else x.tmod n
theorem HX{x n:Int}(h:1<=n):0<=iS x n/\iS x n<n:=by have A:=Int.tmod_lt_of_pos x (show 0<n by omega);have D:=Int.lt_tmod_of_pos x (show 0<n by omega);unfold iS;rw[if_neg (by omega)];split<;>omega
theorem aaC{x n:Int}(h:n<1):iS x n=0:=by unfold iS;rw[if_pos h]
def Uq(l:List Int)(i:Nat):Int:=match l[i]? with|some x=>x|none=>(i:Int)%3
def fM(l:List Int)(i:Nat)(n:Int):Int:=iS (Uq l i) n
theorem mu{l:List Int}{i:Nat}{n:Int}(h:1<=n):0<=fM l i n/\fM l i n<n:=HX h
theorem aDl{o i:Nat}{l:List Int}{n:Int}{t:H}(W:i<1000000)(az:l.length<=140737488355328)(ae:n<=1000000)(aB:t.I o=some ⟨[bm l,E i],true⟩){bA:Value->H->Prop}
 (iA:bA (E (fM l i n)) (t.aO o (some ⟨[bm l,E (i+1:Nat)],true⟩))):fc N 49 [.pointer (some ⟨o,0,none⟩),E n] t bA:=by
 refine c2 (ax:=⟨[],[]⟩) azH (by kernel_rfl) (by simp[B5]) ?_;have bk:=aM aB;have br:=fz (n:=i) (by omega);have cg:(i:Int).tmod 3=(i:Int)%3:=by rw[Int.tmod_eq_emod_of_nonneg (by omega)]
 have WV:(some (eM.mk [bm l,E ((i:Int)+1)] true))=some ⟨[bm l,E (i+1:Nat)],true⟩:=by simp
 have kM: ∀x:Int,Uq l i=x-> ∀uc:Prop,(n<1->fM l i n=0->uc)->(1<=n-> ¬n<1-> ¬n=0->x.tmod n<0->IntKind.i64.wrap (x.tmod n+n)=fM l i n->uc)->(1<=n-> ¬n<1-> ¬n=0-> ¬x.tmod n<0->x.tmod n=fM l i n->uc)->uc:= λx B uc eD eS gN=>by
  by_cases c:n<1
  ·exact eD c (by unfold fM;exact aaC c)
  ·have A:=Int.tmod_lt_of_pos x (show 0<n by omega);have D:=Int.lt_tmod_of_pos x (show 0<n by omega);by_cases cR:x.tmod n<0
   ·exact eS (by omega) c (by omega) cR (by rw[cY (by omega) (by omega)];unfold fM iS;rw[B,if_neg c,if_pos cR])
   ·exact gN (by omega) c (by omega) cR (by unfold fM iS;rw[B,if_neg c,if_neg cR])
 by_cases q:i<l.length
 ·have a8:(i:Int)<l.length:=(by omega);obtain⟨x,B⟩:=gk q;have cS:=(cG.1 B).2;refine kM x (by unfold Uq;rw[B]) _ (λc e=> ?_) (λb6 c jN cR e=> ?_) λb6 c jN cR e=> ?_
  ·rw[e]at iA;simp(disch:=omega) [B5,ED,aB,br,cg,a8,cS,c];simpa using iA
  ·rw[<-e]at iA;simp(disch:=omega) [B5,ED,aB,br,cg,a8,cS,c,jN,cR];simpa using iA
  ·rw[<-e]at iA;simp(disch:=omega) [B5,ED,aB,br,cg,a8,cS,c,jN,cR];simpa using iA
 ·have a8: ¬(i:Int)<l.length:=(by omega);refine kM ((i:Int)%3) (by unfold Uq;rw[re (by omega)]) _ (λc e=> ?_) (λb6 c jN cR e=> ?_) λb6 c jN cR e=> ?_
  ·rw[e]at iA;simp[B5,ED,aB,br,cg,a8,c];simpa using iA
  ·rw[<-e]at iA;simp[B5,ED,aB,br,cg,a8,c,jN,cR];simpa using iA
  ·rw[<-e]at iA;simp[B5,ED,aB,br,cg,a8,c,jN,cR];simpa using iA
open Classical in
noncomputable def H0(o:Nat)(n:Int)(t:H)(b:Option eM):Option (Value×H):=
 if h: ∃p:List Int×Nat,b=some ⟨[bm p.1,E p.2],true⟩/\p.2<1000000/\p.1.length<=140737488355328/\n<=1000000 then some (E (fM h.choose.1 h.choose.2 n),t.aO o (some ⟨[bm h.choose.1,E (h.choose.2+1:Nat)],true⟩))else none
@[simp] theorem aDk{o i:Nat}{n:Int}{t:H}{l:List Int}(h:i<1000000/\l.length<=140737488355328/\n<=1000000):H0 o n t (some ⟨[ad (l.map λx=>[E x]) 1,.int .i64 i],true⟩)=some (E (fM l i n),t.aO o (some ⟨[bm l,E (i+1:Nat)],true⟩)):=by
  have g2: ∃p:List Int×Nat,(some (eM.mk [bm l,E i] true))=some ⟨[bm p.1,E p.2],true⟩/\p.2<1000000/\p.1.length<=140737488355328/\n<=1000000:=⟨(l,i),rfl,h⟩;unfold H0;rw[dif_pos g2];have this:=g2.choose_spec.1;generalize g2.choose=p at this⊢;obtain⟨ef,e2⟩:=p;simp only[mB,eM.mk.injEq,ub,and_true,ah5,amy,Value.int.injEq,true_and]at this;obtain⟨rfl,D⟩:=this;have:i=e2:=by omega
  rw[this]
noncomputable def kG:jg N:= .cK 49 (Nat×Int) (λx=>[.pointer (some ⟨x.1,0,none⟩),E x.2]) (λx t=>H0 x.1 x.2 t (t.I x.1)) λ⟨o,n⟩ t r af h bA iA=>by
 simp only[H0]at h;split at h
 ·next B=>obtain⟨a,b,c,d⟩:=B.choose_spec;cases h;exact aDl b c d a iA
 ·cases h
@[simp] theorem aPx:kG.f=49:=rfl
@[simp] theorem aPy{o:Nat}{n:Int}{t:H}:kG.fn [.pointer (some ⟨o,0,none⟩),.int .i64 n] t=H0 o n t (t.I o):=jg.dx (x:=(o,n)) λ⟨h6,mA⟩ Y=>by simp at Y⊢;omega
theorem aIv{x n:Int}(ae:n<=1000000):bP N 19 [E x,E n] (E (iS x n)):=by
 refine du (c2 (ax:=⟨[],[]⟩) ayj (by kernel_rfl) (by simp[Lh]) ?_);by_cases c:n<1
 ·rw[aaC c];simp[Lh,Rf,c]
 ·have A:=Int.tmod_lt_of_pos x (show 0<n by omega);have D:=Int.lt_tmod_of_pos x (show 0<n by omega);have jN: ¬n=0:=(by omega);have b6:1<=n:=(by omega);have w:IntKind.i64.wrap (x.tmod n+n)=x.tmod n+n:=cY (by omega) (by omega);by_cases cR:x.tmod n<0
  ·have e:iS x n=x.tmod n+n:=(by unfold iS;rw[if_neg c,if_pos cR]);rw[e];simp[Lh,Rf,c,jN,cR,w]
  ·have e:iS x n=x.tmod n:=(by unfold iS;rw[if_neg c,if_neg cR]);rw[e];simp[Lh,Rf,c,jN,cR]
noncomputable def FC:bx N:= .cK 19 (Int×Int) (λx=>x.2<=1000000) (λx=>[E x.1,E x.2]) (λx=>E (iS x.1 x.2)) λ_ h=>aIv h
@[simp] theorem aVU:FC.f=19:=rfl
@[simp] theorem aVV{x n:Int}(h:n<=1000000):FC.fn [E x,E n]=some (E (iS x n)):=bx.dx (x:=(x,n)) h λ⟨ko,h6⟩ Y=>by simpa using Y
theorem atv{l:List ho}:(l.map eG).flatten.length=l.length*7:=by rw[wO (G:=7) λr al=>by obtain⟨x,_,rfl⟩:=gG.1 al;rfl,k8]
def iT(n:Nat)(gl ni iu:Int):ho:=⟨lL 110 n,gl,ni,iu,gb 0 1⟩
theorem apA:ow 0 1:=by unfold ow;omega
theorem ats{ej jS:Nat}{ds:List ho}{jN b6 cR ji xY Be:Value}{t:H}(eZ:t.I ej=some ⟨[jN,b6,cR,b7 jS ds.length 7,ji,xY,Be],true⟩)(vv:t.I jS=some ⟨(ds.map eG).flatten,true⟩)(bG:jS≠ej)(ae:ds.length<1000){gl ni iu:Int}{bA:Value->H->Prop}
 (iA: ∀af MS,t.next<=MS->t.next<=af.next->af.I ej=some ⟨[jN,b6,cR,b7 MS (ds++[iT ds.length gl ni iu]).length 7,ji,xY,Be],true⟩->af.I MS=some ⟨((ds++[iT ds.length gl ni iu]).map eG).flatten,true⟩->(∀b,b<t.next->b≠ej->b≠jS->af.I b=t.I b)->bA (E ds.length) af):
 fc N 108 [.pointer (some ⟨ej,0,none⟩),E gl,E ni,E iu] t bA:=by
 refine c2 (ax:=⟨[oh,AI],[]⟩) axv (by kernel_rfl) (by simp[XC]) ?_;have lG:=aM eZ;have aCj:=aM vv;have l3:oh.fn [.int .u8 110,E ds.length]=some (.string (lL 110 ds.length)):=TP (C:=110) rfl ⟨by decide,by omega⟩;have aHi:=apA;have dJ:=atv (l:=ds);have GQ:ej≠jS:=bG.symm;have e8:(ds.length+1)*96<=140737488355328/\ds.length<=9223372036854775806:=by omega
 simp(disch:=first|omega|simp only[bE];omega) [XC,aii,eZ,vv,l3,dJ,e8,ew];refine iA _ (t.next+13) (by omega) (by simp) ?_ ?_ ?_
 ·rw[cx (by simp;omega)];simp
 ·rw[a7 (by omega),cx (by simp),h7 (by omega)];simp[eG,iT]
 ·intro b hb A D;rw[a7 A,a7 (by omega),a7 D,a7 (by omega),H.cJ]
def lR(ds:List ho)(k:Nat)(v:Int):Prop:= ∃q,ds[k]?=some q/\q.jQ=v
theorem lR.app{ds:List ho}{k:Nat}{v:Int}{x:ho}(h:lR ds k v):lR (ds++[x]) k v:=by obtain⟨q,A,D⟩:=h;exact⟨q,by rw[AV (cG.1 A).1];exact A,D⟩
theorem lR.cQ{ds:List ho}{k:Nat}{v:Int}(h:lR ds k v):k<ds.length:=by obtain⟨q,A,_⟩:=h;exact(cG.1 A).1
structure s4(ds:List ho):Prop where
 q2:ds[0]?=some ⟨⟨#[]⟩,0,-1,0,gb 0 1⟩
 lf: ∀(i:Nat) (d:ho),0<i->ds[i]?=some d->d.name=lL 110 i/\0<=d.parent/\d.parent<i/\lR ds d.parent.toNat (d.jQ-1)/\1<=d.jQ/\d.jQ<=4/\1<=d.iu/\d.iu<=64/\d.pk=gb 0 1
theorem s4.vX{ds:List ho}(h:s4 ds):0<ds.length:=(cG.1 h.q2).1
theorem s4.add{ds:List ho}(h:s4 ds){gl iu:Int}{p:Nat}(Z:lR ds p (gl-1))(A:1<=gl)(D:gl<=4)(ai:1<=iu)(aT:iu<=64):s4 (ds++[iT ds.length gl p iu]) where
 q2:=by rw[AV h.vX];exact h.q2
 lf i d W B:=by
  by_cases c:i<ds.length
  ·rw[AV c]at B;obtain⟨bt,bR,a3,a4,ft⟩:=h.lf i d W B;exact⟨bt,bR,a3,a4.app,ft⟩
  ·have az:=(cG.1 B).1;simp only[iv,mC,xN]at az;have e:i=ds.length:=(by omega);subst e;rw[AU (c8 _)]at B;simp at B;subst B;have:=Z.cQ;exact⟨rfl,by simp[iT],by simp[iT];omega,by simpa[iT]using Z.app,A,D,ai,aT,rfl⟩
theorem yI{ds:List ho}{gl iu:Int}{p:Int}:lR (ds++[iT ds.length gl p iu]) ds.length gl:=⟨iT ds.length gl p iu,by simp,rfl⟩
def se(ds:List ho)(cC:List oS):Prop:= ∀(i:Nat) (x:oS),cC[i]?=some x->x.name=lL 100 i/\0<=x.model/\x.model<2/\ ∃m:Nat,x.yD=m/\lR ds m 4
theorem se.app{ds:List ho}{cC:List oS}(h:se ds cC){d:ho}:se (ds++[d]) cC:= λi x B=>by obtain⟨a,b,c,m,e,f⟩:=h i x B;exact⟨a,b,c,m,e,f.app⟩
theorem se.add{ds:List ho}{cC:List oS}(h:se ds cC){m:Nat}(ab:lR ds m 4){y:Int}(bY:0<=y)(A:y<2):se ds (cC++[⟨lL 100 cC.length,y,m⟩]):= λi x B=>by
 by_cases c:i<cC.length
 ·rw[AV c]at B;exact h i x B
 ·have az:=(cG.1 B).1;simp only[iv,mC,xN]at az;have e:i=cC.length:=(by omega);subst e;rw[AU (c8 _)]at B;simp at B;subst B;exact⟨rfl,bY,A,m,rfl,ab⟩
def Cq:List Value:=[E 0,.slice none 0 0,.slice none 0 0,.slice none 0 0,.slice none 0 0,.slice none 0 0,.slice none 0 0]
structure ard(l:List Int)(i:Nat)(J:Int)(gw gx jB hH:Value)(ds:List ho)(cC:List oS)(jS or:Nat)(t:H):Prop where
 aL:t.I 0=some ⟨[bm l,E i],true⟩
 aE:t.I 1=some ⟨Cq,true⟩
 fb:t.I 6=some ⟨[E J,gw,gx,b7 jS ds.length 7,b7 or cC.length 3,jB,hH],true⟩
 vv:t.I jS=some ⟨(ds.map eG).flatten,true⟩
 e1:t.I or=some ⟨(cC.map fk).flatten,true⟩
 dY:jS≠0/\jS≠1/\jS≠6
 ee:or≠0/\or≠1/\or≠6
 l9:jS≠or
def mf(l:List Int)(i:Nat)(J:Int)(gw gx jB hH:Value)(ds:List ho)(cC:List oS)(t:H):Prop:= ∃jS or,ard l i J gw gx jB hH ds cC jS or t
theorem atH{l:List oS}:(l.map fk).flatten.length=l.length*3:=by rw[wO (G:=3) λr al=>by obtain⟨x,_,rfl⟩:=gG.1 al;rfl,k8]
def NL:List Nat:=[0,1,4,5,6,7,8,9,10,11]
theorem Ub{z K:aC}(bY:K 0=z 0)(A:K 1=z 1)(aT:K 4=z 4)(bF:K 5=z 5)(cW:K 6=z 6)(dU:K 7=z 7)(g1:K 8=z 8)(iQ:K 9=z 9)(DQ:K 10=z 10)(PD:K 11=z 11): ∀k∈NL,K k=z k:= λk S=>by simp only[NL,hi,kJ,or_false]at S;rcases S with rfl|rfl|rfl|rfl|rfl|rfl|rfl|rfl|rfl|rfl<;>assumption
theorem atE{l:List Int}(az:l.length<=140737488355328){J:Int}{gw gx jB hH:Value}{ds:List ho}{m:Nat}(ab:lR ds m 4): ∀(k i:Nat) (cC:List oS),se ds cC->cC.length<=9->i+k<1000000->
 ∃ kU dn,se ds kU/\kU.length<=9/\min (cC.length+min k 1) 9<=kU.length/\dn<=i+k/\ ∀(z:aC) (t:H) (Q:cM->aC->H->Prop),z 0=bH 0->z 5=bH 6->z 11=E m->z 12=E k->mf l i J gw gx jB hH ds cC t->
   (∀K af,(∀s∈NL,K s=z s)->mf l dn J gw gx jB hH ds kU af->Q (.cH 2) K af)->ec N (.loop EE) z t Q:=by
 intro k;induction k with
 | zero=>intro i cC al iQ W;refine⟨cC,i,al,iQ,by omega,by omega,λz t Q bO bz gn g6 kN bb=> ?_⟩;refine eF (ax:=⟨[oh],[kG]⟩) λbM a1=> ?_;simp(disch:=first|omega|simp only[bE];omega) [EE,g6,-an,-au,-ak,-aq,-List.map_map];exact bb _ _ (Ub (by simp) (by simp) (by simp) (by simp) (by simp) (by simp) (by simp) (by simp) (by simp) (by simp)) kN
 | succ k cf=>
   intro i cC al iQ W;have br:IntKind.i64.wrap (k:Int)=(k:Int):=cY (by omega) (by omega);have bC:(0:Int)<(k:Int)+1:=(by omega);by_cases aNf:cC.length<9
   case neg=>refine⟨cC,i,al,iQ,by omega,by omega,λz t Q bO bz gn g6 kN bb=> ?_⟩;refine eF (ax:=⟨[oh],[kG]⟩) λbM a1=> ?_;obtain⟨jS,or,l2⟩:=kN;have fb:=l2.fb;have xl:=aM fb;have OS: ¬(cC.length:Int)<9:=(by omega);simp(disch:=first|omega|simp only[bE];omega) [EE,bz,g6,bC,OS,fb,-an,-au,-ak,-aq,-List.map_map];exact bb _ _ (Ub (by simp) (by simp) (by simp) (by simp) (by simp) (by simp) (by simp) (by simp) (by simp) (by simp)) ⟨jS,or,l2⟩
   obtain⟨y,Y⟩: ∃y:Int,y=if fM l i 4=0 then 1 else 0:=⟨_,rfl⟩
   have KJ:0<=y/\y<2:=(by rw[Y];split<;>omega);obtain⟨kU,dn,bt,bR,a3,a4,ft⟩:=cf (i+1) (cC++[⟨lL 100 cC.length,y,m⟩]) (al.add ab KJ.1 KJ.2) (by simp;omega) (by omega);refine⟨kU,dn,bt,bR,by simp only[iv,mC,xN]at a3;omega,by omega,λz t Q bO bz gn g6 kN bb=> ?_⟩;obtain⟨jS,or,⟨aL,aE,fb,vv,e1,dY,ee,l9⟩⟩:=kN;refine eF (ax:=⟨[oh],[kG]⟩) λbM a1=> ?_;have OS:(cC.length:Int)<9:=(by omega);have dD:=aM aL;have hZ:=aM aE;have xl:=aM fb;have aCj:=aM vv;have kR:=aM e1;obtain⟨aaG,n21,Tf⟩:=ee;obtain⟨HZ,aaE,aaF⟩:=dY;have aRM:0≠or:= λe=>aaG e.symm;have aRN:6≠or:= λe=>Tf e.symm;have kO:i<1000000/\l.length<=140737488355328/\(4:Int)<=1000000:=⟨by omega,az,by decide⟩;have l3:oh.fn [.int .u8 100,E cC.length]=some (.string (lL 100 cC.length)):=TP (C:=100) rfl ⟨by decide,by omega⟩;have dJ:=atH (l:=cC);have e8:(cC.length+1)*32<=140737488355328/\cC.length<=9223372036854775806:=by omega
   have kM: ∀(bQ:aC) (bj:H),(∀s∈NL,bQ s=z s)->bQ 12=E k->bj.I 0=some ⟨[bm l,E (i+1:Nat)],true⟩->bj.I 1=t.I 1->bj.I 6=some ⟨[E J,gw,gx,b7 jS ds.length 7,b7 (t.next+10) (cC.length+1) 3,jB,hH],true⟩->bj.I jS=t.I jS->
    bj.I (t.next+10)=some ⟨(cC.map fk).flatten++[gD (lL 100 cC.length),E y,E m],true⟩->ec N (.loop EE) bQ bj Q:= λbQ bj F J5 hc aD l0 rv rz=>by
    refine ft bQ bj Q ((F 0 (by decide)).trans bO) ((F 5 (by decide)).trans bz) ((F 11 (by decide)).trans gn) J5 ⟨jS,t.next+10,⟨hc,aD.trans aE,?_,rv.trans vv,?_,⟨HZ,aaE,aaF⟩,⟨by omega,by omega,by omega⟩,by omega⟩⟩ λK af mM=>bb K af λs fT=>(mM s fT).trans (F s fT)
    ·rw[l0];simp
    ·rw[rz];simp[fk]
   by_cases te:fM l i 4=0
   ·rw[if_pos te]at Y;subst Y;simp(disch:=first|omega|simp only[bE];omega) [EE,bO,bz,gn,g6,bC,OS,aL,fb,e1,l3,dJ,e8,te,br,-an,-au,-ak,-aq,-List.map_map];refine a1 _ _ (kM _ _ (Ub (by simp) (by simp) (by simp) (by simp) (by simp) (by simp) (by simp) (by simp) (by simp) (by simp)) (by simp[]) ?_ ?_ ?_ ?_ ?_)
    ·simp(disch:=first|omega|simp only[bE];omega) [-an,-au,-ak,-aq,-List.map_map]
    ·simp(disch:=first|omega|simp only[bE];omega) [-an,-au,-ak,-aq,-List.map_map]
    ·simp(disch:=first|omega|simp only[bE];omega) [-an,-au,-ak,-aq,-List.map_map]
    ·simp(disch:=first|omega|simp only[bE];omega) [-an,-au,-ak,-aq,-List.map_map]
    ·simp(disch:=first|omega|simp only[bE];omega) [-an,-au,-ak,-aq,-List.map_map];exact h7 (by omega)
   ·rw[if_neg te]at Y;subst Y;simp(disch:=first|omega|simp only[bE];omega) [EE,bO,bz,gn,g6,bC,OS,aL,fb,e1,l3,dJ,e8,te,br,-an,-au,-ak,-aq,-List.map_map];refine a1 _ _ (kM _ _ (Ub (by simp) (by simp) (by simp) (by simp) (by simp) (by simp) (by simp) (by simp) (by simp) (by simp)) (by simp[]) ?_ ?_ ?_ ?_ ?_)
    ·simp(disch:=first|omega|simp only[bE];omega) [-an,-au,-ak,-aq,-List.map_map]
    ·simp(disch:=first|omega|simp only[bE];omega) [-an,-au,-ak,-aq,-List.map_map]
    ·simp(disch:=first|omega|simp only[bE];omega) [-an,-au,-ak,-aq,-List.map_map]
    ·simp(disch:=first|omega|simp only[bE];omega) [-an,-au,-ak,-aq,-List.map_map]
    ·simp(disch:=first|omega|simp only[bE];omega) [-an,-au,-ak,-aq,-List.map_map];exact h7 (by omega)
theorem nf{o:Nat}{n G:Int}{t:H}{l:List Int}(h:0<=G/\G<1000000/\l.length<=140737488355328/\n<=1000000):H0 o n t (some ⟨[ad (l.map λx=>[E x]) 1,.int .i64 G],true⟩)=some (E (fM l G.toNat n),t.aO o (some ⟨[bm l,E (G+1)],true⟩)):=by obtain⟨i,rfl⟩:=jX h.1;rw[ns];exact aDk (i:=i) ⟨by omega,h.2.2⟩
section
variable {l:List Int} {i:Nat} {J:Int} {gw gx jB hH:Value} {ds:List ho} {cC:List oS} {t:H}
theorem mf.at(h:mf l i J gw gx jB hH ds cC t){G:Int}{dn:Nat}(bw:G=dn):mf l dn J gw gx jB hH ds cC (t.aO 0 (some ⟨[bm l,E G],true⟩)):=by subst bw;obtain⟨jS,or,⟨aL,aE,fb,vv,e1,dY,ee,l9⟩⟩:=h;exact⟨jS,or,cx (aM aL),by rw[a7 (by decide)];exact aE,by rw[a7 (by decide)];exact fb,by rw[a7 dY.1];exact vv,by rw[a7 ee.1];exact e1,dY,ee,l9⟩
theorem Bk(h:mf l i J gw gx jB hH ds cC t)(ae:ds.length<1000){gl ni iu:Int}{bA:Value->H->Prop}(iA: ∀af,mf l i J gw gx jB hH (ds++[iT ds.length gl ni iu]) cC af->bA (E ds.length) af):fc N 108 [bH 6,E gl,E ni,E iu] t bA:=by
 obtain⟨jS,or,⟨aL,aE,fb,vv,e1,dY,ee,l9⟩⟩:=h;refine ats fb vv dY.2.2 ae λaf MS aB B l0 rv zF=>iA af ⟨MS,or,?_,?_,l0,rv,?_,?_,ee,?_⟩
 ·rw[zF 0 (aM aL) (by decide) (λe=>dY.1 e.symm)];exact aL
 ·rw[zF 1 (aM aE) (by decide) (λe=>dY.2.1 e.symm)];exact aE
 ·rw[zF or (aM e1) ee.2.2 (λe=>l9 e.symm)];exact e1
 ·have:=aM fb;exact⟨by omega,by omega,by omega⟩
 ·have:=aM e1;omega
end
def ac2:List Nat:=[0,1,4,5,6,7,8,9,10]
theorem aHf: ∀k∈ac2,k∈NL:=by decide
theorem S8{l:List Int}(az:l.length<=140737488355328){J:Int}{gw gx jB hH:Value}{ds:List ho}{cC:List oS}{i uX:Nat}(aV:s4 ds)(al:se ds cC)(iQ:cC.length<=9)(W:i+10<1000000)(S:lR ds uX 3)(ae:ds.length<900):
 ∃ gz kU dn,s4 gz/\se gz kU/\(kU.length<=9/\1<=kU.length)/\gz.length=ds.length+1/\dn<=i+4/\(∀a v,lR ds a v->lR gz a v)/\ ∀(z:aC) (t:H) (Q:cM->aC->H->Prop),z 0=bH 0->z 5=bH 6->z 9=E uX->mf l i J gw gx jB hH ds cC t->
   (∀K af,(∀s∈ac2,K s=z s)->mf l dn J gw gx jB hH gz kU af->Q .eB K af)->ix (P:=N) ⟨[oh],[kG]⟩ YX z t Q:=by
 have ek:=mu (l:=l) (i:=i) (n:=9) (by decide);have gm:=mu (l:=l) (i:=i+1) (n:=2) (by decide);obtain⟨bf,a9⟩: ∃bf,bf=8+fM l i 9:=⟨_,rfl⟩;obtain⟨k,zX⟩:=jX (show 0<=1+fM l (i+1) 2 by omega);have avz:=aV.add (gl:=4) (iu:=bf) (p:=uX) S (by decide) (by decide) (by omega) (by omega);obtain⟨kU,dn,bt,bR,a3,a4,ft⟩:=atE (l:=l) az (J:=J) (gw:=gw) (gx:=gx) (jB:=jB) (hH:=hH) (ds:=ds++[iT ds.length 4 uX bf]) (m:=ds.length) yI k (i+2) cC al.app iQ (by omega);refine⟨_,kU,dn,avz,bt,⟨bR,by omega⟩,by simp,by omega,λa v h=>h.app,λz t Q bO bz cP kN bb=> ?_⟩;obtain⟨jS,or,ab⟩:=kN;have aL:=ab.aL;have dD:=aM aL;have aIo:IntKind.i64.wrap (8+fM l i 9)=8+fM l i 9:=cY (by omega) (by omega);simp(disch:=first|omega|simp only[bE];omega) [YX,bO,bz,cP,aL,nf,aIo,-an,-au,-ak,-aq,-List.map_map];rw[<-a9];refine Bk (mf.at ⟨jS,or,ab⟩ (dn:=i+1) (by omega)) (by omega) λbj A=> ?_;obtain⟨MT,M1,l2⟩:=A;obtain⟨kF,qK⟩: ∃kF,kF=i+1:=⟨_,rfl⟩;have aE:=l2.aL;rw[<-qK]at aE l2 zX gm;have hZ:=aM aE;have ct:IntKind.i64.wrap (1+fM l kF 2)=(k:Int):=by rw[zX];exact cY (by omega) (by omega)
 simp(disch:=first|omega|simp only[bE];omega) [bO,aE,nf,ct,-an,-au,-ak,-aq,-List.map_map];refine ft _ _ _ (by simp[bO]) (by simp[bz]) (by simp) (by simp) (mf.at ⟨MT,M1,l2⟩ (dn:=i+2) (by omega)) λK af F qM=> ?_;simp;exact bb _ _ (λs fT=>(F s (aHf s fT)).trans (by simp only[ac2,hi,kJ,or_false]at fT;rcases fT with rfl|rfl|rfl|rfl|rfl|rfl|rfl|rfl|rfl<;>simp)) qM
theorem awV:IntKind.i64.wrap 1=1:=cY (by decide) (by decide)
def AL:List Nat:=[0,1,4,5,6]
theorem aCN{l:List Int}(az:l.length<=140737488355328){J:Int}{gw gx jB hH:Value}{ds:List ho}{cC:List oS}{i j cN uX:Nat}(aV:s4 ds)(al:se ds cC)(iQ:cC.length<=9)(aX:j<1000)(W:i+30<1000000)(ae:ds.length<800)(S:j=0\/(lR ds cN 2/\lR ds uX 3)):
 ∃ (gz:List ho) (kU:List oS) (dn aoR aoA:Nat),s4 gz/\se gz kU/\(kU.length<=9/\1<=kU.length)/\gz.length<=ds.length+4/\dn<=i+9/\lR gz aoR 2/\lR gz aoA 3/\ ∀(z:aC) (t:H) (Q:cM->aC->H->Prop),z 0=bH 0->z 5=bH 6->z 8=E cN->z 9=E uX->z 10=E j->mf l i J gw gx jB hH ds cC t->
   (∀K af,(∀s∈AL,K s=z s)->K 8=E aoR->K 9=E aoA->K 10=E (j+1:Nat)->mf l dn J gw gx jB hH gz kU af->Q .eB K af)->ix (P:=N) ⟨[oh],[kG]⟩ HF z t Q:=by
 have br:=fz (n:=j) (by omega);by_cases Gq:j=0
 ·subst Gq;have Gq:(0:Int)=0:=rfl;have j:Nat:=0;have bt:=mu (l:=l) (i:=i) (n:=17) (by decide);have bR:=mu (l:=l) (i:=i+1) (n:=17) (by decide);have a3:=mu (l:=l) (i:=i+2) (n:=9) (by decide);obtain⟨k6,A⟩: ∃bf,bf=16+fM l i 17:=⟨_,rfl⟩;obtain⟨oi,D⟩: ∃bf,bf=16+fM l (i+1) 17:=⟨_,rfl⟩;obtain⟨mz,ai⟩: ∃bf,bf=8+fM l (i+2) 9:=⟨_,rfl⟩;have q2:lR ds 0 (1-1):=⟨_,aV.q2,rfl⟩;have fW:=aV.add (gl:=1) (iu:=k6) (p:=0) q2 (by decide) (by decide) (by omega) (by omega);have gI:=fW.add (gl:=2) (iu:=oi) (p:=ds.length) yI (by decide) (by decide) (by omega) (by omega);have iO:=gI.add (gl:=3) (iu:=mz) (p:=(ds++[iT ds.length 1 (0:Nat) k6]).length) yI (by decide) (by decide) (by omega) (by omega);have aD:(ds++[iT ds.length 1 ((0:Nat):Int) k6]).length=ds.length+1:=(by simp);have aJ:(ds++[iT ds.length 1 ((0:Nat):Int) k6]++[iT (ds.length+1) 2 (ds.length:Int) oi]).length=ds.length+2:=(by simp);rw[aD]at gI iO;rw[aJ]at iO;have cz:lR (ds++[iT ds.length 1 ((0:Nat):Int) k6]++[iT (ds.length+1) 2 (ds.length:Int) oi]) (ds.length+1) 2:=by
   have:=yI (ds:=ds++[iT ds.length 1 ((0:Nat):Int) k6]) (gl:=2) (iu:=oi) (p:=ds.length);rw[aD]at this;exact this
  have dV:lR (ds++[iT ds.length 1 ((0:Nat):Int) k6]++[iT (ds.length+1) 2 (ds.length:Int) oi]++[iT (ds.length+2) 3 ((ds.length+1:Nat):Int) mz]) (ds.length+2) 3:=(by have:=yI (ds:=ds++[iT ds.length 1 ((0:Nat):Int) k6]++[iT (ds.length+1) 2 (ds.length:Int) oi]) (gl:=3) (iu:=mz) (p:=(ds.length+1:Nat));rw[aJ]at this;exact this);obtain⟨gz,kU,dn,er,eO,g8,g9,nv,mI,vk⟩:=S8 (l:=l) az (J:=J) (gw:=gw) (gx:=gx) (jB:=jB) (hH:=hH) (i:=i+3) iO al.app.app.app iQ (by omega) dV (by simp;omega);refine⟨gz,kU,dn,ds.length+1,ds.length+2,er,eO,g8,by simp at g9;omega,by omega,mI _ _ (cz.app),mI _ _ dV,λz t Q bO bz bl cP e4 kN bb=> ?_⟩;obtain⟨jS,or,ab⟩:=kN;have aL:=ab.aL;have dD:=aM aL;have ct:IntKind.i64.wrap (16+fM l i 17)=k6:=(by rw[A];exact cY (by omega) (by omega));simp(disch:=omega) [HF,bO,bz,e4,aL,nf,ct];refine Bk (mf.at ⟨jS,or,ab⟩ (dn:=i+1) (by omega)) (by omega) λbj jP=> ?_;obtain⟨MT,M1,l2⟩:=jP;obtain⟨kF,qK⟩: ∃kF,kF=i+1:=⟨_,rfl⟩;have aE:=l2.aL;have hZ:=aM aE;rw[<-qK]at aE l2 D bR;have dW:IntKind.i64.wrap (16+fM l kF 17)=oi:=(by rw[D];exact cY (by omega) (by omega));simp(disch:=omega) [LD,bO,bz,aE,nf,dW];refine Bk (ds:=ds++[iT ds.length 1 ((0:Nat):Int) k6]) (mf.at ⟨MT,M1,l2⟩ (dn:=i+2) (by omega)) (by omega) λeC zM=> ?_;obtain⟨aaZ,Av,rC⟩:=zM;obtain⟨nG,lh⟩: ∃nG,nG=i+2:=⟨_,rfl⟩;have a2:=rC.aL;have jw:=aM a2;rw[<-lh]at a2 rC ai a3;rw[aD]at rC⊢;have kn:IntKind.i64.wrap (8+fM l nG 9)=mz:=(by rw[ai];exact cY (by omega) (by omega));simp(disch:=omega) [bO,bz,a2,nf,kn];refine Bk (ds:=ds++[iT ds.length 1 ((0:Nat):Int) k6]++[iT (ds.length+1) 2 (ds.length:Int) oi]) (mf.at ⟨aaZ,Av,rC⟩ (dn:=i+3) (by omega)) (by omega) λt3 ux=> ?_;rw[aJ]at ux⊢;simp;refine vk _ _ _ (by simp[bO]) (by simp[bz]) (by simp) ux λK af F qM=> ?_;have Ef:=(F 10 (by decide)).trans (show _=E (0:Nat) by simp[e4]);simp[Ef];exact bb _ _ (λs fT=>by
   simp only[AL,hi,kJ,or_false]at fT;rcases fT with rfl|rfl|rfl|rfl|rfl
   ·simpa using F 0 (by decide)
   ·simpa using F 1 (by decide)
   ·simpa using F 4 (by decide)
   ·simpa using F 5 (by decide)
   ·simpa using F 6 (by decide)) (by simpa using F 8 (by decide)) (by simpa using F 9 (by decide)) (by simp[awV]) qM
 obtain⟨cz,dV⟩:=S.resolve_left Gq;by_cases te:fM l i 4=0
 ·skip
  have bt:=mu (l:=l) (i:=(i+1)) (n:=17) (by decide);have bR:=mu (l:=l) (i:=(i+1)+1) (n:=17) (by decide);have a3:=mu (l:=l) (i:=(i+1)+2) (n:=9) (by decide);obtain⟨k6,A⟩: ∃bf,bf=16+fM l (i+1) 17:=⟨_,rfl⟩;obtain⟨oi,D⟩: ∃bf,bf=16+fM l ((i+1)+1) 17:=⟨_,rfl⟩;obtain⟨mz,ai⟩: ∃bf,bf=8+fM l ((i+1)+2) 9:=⟨_,rfl⟩;have q2:lR ds 0 (1-1):=⟨_,aV.q2,rfl⟩;have fW:=aV.add (gl:=1) (iu:=k6) (p:=0) q2 (by decide) (by decide) (by omega) (by omega);have gI:=fW.add (gl:=2) (iu:=oi) (p:=ds.length) yI (by decide) (by decide) (by omega) (by omega);have iO:=gI.add (gl:=3) (iu:=mz) (p:=(ds++[iT ds.length 1 (0:Nat) k6]).length) yI (by decide) (by decide) (by omega) (by omega);have aD:(ds++[iT ds.length 1 ((0:Nat):Int) k6]).length=ds.length+1:=(by simp);have aJ:(ds++[iT ds.length 1 ((0:Nat):Int) k6]++[iT (ds.length+1) 2 (ds.length:Int) oi]).length=ds.length+2:=(by simp);rw[aD]at gI iO;rw[aJ]at iO;have cz:lR (ds++[iT ds.length 1 ((0:Nat):Int) k6]++[iT (ds.length+1) 2 (ds.length:Int) oi]) (ds.length+1) 2:=(by have:=yI (ds:=ds++[iT ds.length 1 ((0:Nat):Int) k6]) (gl:=2) (iu:=oi) (p:=ds.length);rw[aD]at this;exact this);have dV:lR (ds++[iT ds.length 1 ((0:Nat):Int) k6]++[iT (ds.length+1) 2 (ds.length:Int) oi]++[iT (ds.length+2) 3 ((ds.length+1:Nat):Int) mz]) (ds.length+2) 3:=(by have:=yI (ds:=ds++[iT ds.length 1 ((0:Nat):Int) k6]++[iT (ds.length+1) 2 (ds.length:Int) oi]) (gl:=3) (iu:=mz) (p:=(ds.length+1:Nat));rw[aJ]at this;exact this);obtain⟨gz,kU,dn,er,eO,g8,g9,nv,mI,vk⟩:=S8 (l:=l) az (J:=J) (gw:=gw) (gx:=gx) (jB:=jB) (hH:=hH) (i:=(i+1)+3) iO al.app.app.app iQ (by omega) dV (by simp;omega);refine⟨gz,kU,dn,ds.length+1,ds.length+2,er,eO,g8,by simp at g9;omega,by omega,mI _ _ (cz.app),mI _ _ dV,λz t Q bO bz bl cP e4 kN bb=> ?_⟩;obtain⟨jS,or,ab⟩:=kN;have aL:=ab.aL;have dD:=aM aL;have ct:IntKind.i64.wrap (16+fM l (i+1) 17)=k6:=(by rw[A];exact cY (by omega) (by omega));simp(disch:=omega) [HF,bO,bz,e4,aL,nf,Gq,te,ct];refine Bk (mf.at ⟨jS,or,ab⟩ (dn:=(i+1)+1) (by omega)) (by omega) λbj jP=> ?_;obtain⟨MT,M1,l2⟩:=jP;obtain⟨kF,qK⟩: ∃kF,kF=(i+1)+1:=⟨_,rfl⟩;have aE:=l2.aL;have hZ:=aM aE;rw[<-qK]at aE l2 D bR;have dW:IntKind.i64.wrap (16+fM l kF 17)=oi:=(by rw[D];exact cY (by omega) (by omega));simp(disch:=omega) [LD,bO,bz,aE,nf,dW];refine Bk (ds:=ds++[iT ds.length 1 ((0:Nat):Int) k6]) (mf.at ⟨MT,M1,l2⟩ (dn:=(i+1)+2) (by omega)) (by omega) λeC zM=> ?_;obtain⟨aaZ,Av,rC⟩:=zM;obtain⟨nG,lh⟩: ∃nG,nG=(i+1)+2:=⟨_,rfl⟩;have a2:=rC.aL;have jw:=aM a2;rw[<-lh]at a2 rC ai a3;rw[aD]at rC⊢;have kn:IntKind.i64.wrap (8+fM l nG 9)=mz:=(by rw[ai];exact cY (by omega) (by omega));simp(disch:=omega) [bO,bz,a2,nf,kn];refine Bk (ds:=ds++[iT ds.length 1 ((0:Nat):Int) k6]++[iT (ds.length+1) 2 (ds.length:Int) oi]) (mf.at ⟨aaZ,Av,rC⟩ (dn:=(i+1)+3) (by omega)) (by omega) λt3 ux=> ?_;rw[aJ]at ux⊢;simp;refine vk _ _ _ (by simp[bO]) (by simp[bz]) (by simp) ux λK af F qM=> ?_;have Ef:=(F 10 (by decide)).trans (show _=E j by simp[e4]);simp[Ef,br];exact bb _ _ (λs fT=>by
   simp only[AL,hi,kJ,or_false]at fT;rcases fT with rfl|rfl|rfl|rfl|rfl
   ·simpa using F 0 (by decide)
   ·simpa using F 1 (by decide)
   ·simpa using F 4 (by decide)
   ·simpa using F 5 (by decide)
   ·simpa using F 6 (by decide)) (by simpa using F 8 (by decide)) (by simpa using F 9 (by decide)) (by simp[]) qM
 by_cases zA:fM l (i+1) 2=0
 ·skip
  have a3:=mu (l:=l) (i:=i+2) (n:=9) (by decide);obtain⟨mz,ai⟩: ∃bf,bf=8+fM l (i+2) 9:=⟨_,rfl⟩;have iO:=aV.add (gl:=3) (iu:=mz) (p:=cN) cz (by decide) (by decide) (by omega) (by omega);have amD:lR (ds++[iT ds.length 3 (cN:Int) mz]) ds.length 3:=yI;obtain⟨gz,kU,dn,er,eO,g8,g9,nv,mI,vk⟩:=S8 (l:=l) az (J:=J) (gw:=gw) (gx:=gx) (jB:=jB) (hH:=hH) (i:=i+3) iO al.app iQ (by omega) amD (by simp;omega);refine⟨gz,kU,dn,cN,ds.length,er,eO,g8,by simp at g9;omega,by omega,mI _ _ cz.app,mI _ _ amD,λz t Q bO bz bl cP e4 kN bb=> ?_⟩;obtain⟨jS,or,ab⟩:=kN;have aL:=ab.aL;have dD:=aM aL;have kn:IntKind.i64.wrap (8+fM l (i+2) 9)=mz:=(by rw[ai];exact cY (by omega) (by omega));have Ut:((i:Int)+1+1).toNat=i+2:=(by omega);have aYw:IntKind.i64.wrap (8+fM l (i+1+1) 9)=mz:=kn;simp(disch:=omega) [HF,LD,bO,bz,bl,e4,aL,nf,Gq,te,zA,kn,Ut];refine Bk (mf.at ⟨jS,or,ab⟩ (dn:=i+3) (by omega)) (by omega) λbj jP=> ?_;simp;refine vk _ _ _ (by simp[bO]) (by simp[bz]) (by simp) jP λK af F qM=> ?_;have Ef:=(F 10 (by decide)).trans (show _=E j by simp[e4]);simp(disch:=omega) [Ef,br];exact bb _ _ (λs fT=>by
   simp only[AL,hi,kJ,or_false]at fT;rcases fT with rfl|rfl|rfl|rfl|rfl
   ·simpa using F 0 (by decide)
   ·simpa using F 1 (by decide)
   ·simpa using F 4 (by decide)
   ·simpa using F 5 (by decide)
   ·simpa using F 6 (by decide)) (by simpa[bl]using F 8 (by decide)) (by simpa[cP]using F 9 (by decide)) (by simp[]) qM
 ·skip
  obtain⟨gz,kU,dn,er,eO,g8,g9,nv,mI,vk⟩:=S8 (l:=l) az (J:=J) (gw:=gw) (gx:=gx) (jB:=jB) (hH:=hH) (i:=i+2) aV al iQ (by omega) dV (by omega);refine⟨gz,kU,dn,cN,uX,er,eO,g8,by omega,by omega,mI _ _ cz,mI _ _ dV,λz t Q bO bz bl cP e4 kN bb=> ?_⟩;obtain⟨jS,or,ab⟩:=kN;have aL:=ab.aL;have dD:=aM aL;simp(disch:=first|omega|simp only[bE];omega) [HF,LD,bO,e4,aL,nf,Gq,te,zA,-an,-au,-ak,-aq,-List.map_map];refine vk _ _ _ (by simp[bO]) (by simp[bz]) (by simp[cP]) (mf.at ⟨jS,or,ab⟩ (dn:=i+2) (by omega)) λK af F qM=> ?_;have Ef:=(F 10 (by decide)).trans (show _=E j by simp[e4]);simp[Ef,br];exact bb _ _ (λs fT=>by
   simp only[AL,hi,kJ,or_false]at fT;rcases fT with rfl|rfl|rfl|rfl|rfl
   ·simpa using F 0 (by decide)
   ·simpa using F 1 (by decide)
   ·simpa using F 4 (by decide)
   ·simpa using F 5 (by decide)
   ·simpa using F 6 (by decide)) (by simpa[bl]using F 8 (by decide)) (by simpa[cP]using F 9 (by decide)) (by simp[]) qM
theorem aCO{l:List Int}(az:l.length<=140737488355328){J:Int}{gw gx jB hH:Value}{X:Nat}(eE:X<=100): ∀(r j i:Nat) (ds:List ho) (cC:List oS) (cN uX:Nat),j+r=X->s4 ds->se ds cC->cC.length<=9->ds.length<=1+4*j->i+10*r+100<1000000->(j=0\/(lR ds cN 2/\lR ds uX 3))->
 ∃ (gz:List ho) (kU:List oS) (dn:Nat),s4 gz/\se gz kU/\(kU.length<=9/\(1<=r+cC.length->1<=kU.length))/\gz.length<=1+4*X/\dn<=i+10*r/\ ∀(z:aC) (t:H) (Q:cM->aC->H->Prop),z 0=bH 0->z 5=bH 6->z 6=E X->z 8=E cN->z 9=E uX->z 10=E j->mf l i J gw gx jB hH ds cC t->
   (∀K af,(∀s∈AL,K s=z s)->mf l dn J gw gx jB hH gz kU af->Q (.cH 0) K af)->ec N (.loop RT) z t Q:=by
 intro r;induction r with
 | zero=>intro j i ds cC cN uX aX aV al iQ ae W S;refine⟨ds,cC,i,aV,al,⟨iQ,by omega⟩,by omega,by omega,λz t Q bO bz bB bl cP e4 kN bb=> ?_⟩;refine eF (ax:=⟨[oh],[kG]⟩) λbM a1=> ?_;have c: ¬(j:Int)<X:=(by omega);have b6: ¬j<X:=(by omega);simp[RT,bB,e4,c];exact bb _ _ (λs F=>by simp only[AL,hi,kJ,or_false]at F;rcases F with rfl|rfl|rfl|rfl|rfl<;>simp) kN
 | succ r cf=>intro j i ds cC cN uX aX aV al iQ ae W S;obtain⟨zE,aFy,kF,aFg,aEF,bt,bR,a3,a4,ft,jh,lU,ox⟩:=aCN (l:=l) az (J:=J) (gw:=gw) (gx:=gx) (jB:=jB) (hH:=hH) (i:=i) (j:=j) aV al iQ (by omega) (by omega) (by omega) S;obtain⟨Vy,aFz,nG,er,eO,g8,g9,nv,mI⟩:=cf (j+1) kF zE aFy aFg aEF (by omega) bt bR a3.1 (by omega) (by omega) (.inr ⟨jh,lU⟩);refine⟨Vy,aFz,nG,er,eO,⟨g8.1,λ_=>g8.2 (by have:=a3.2;omega)⟩,g9,by omega,λz t Q bO bz bB bl cP e4 kN bb=> ?_⟩;refine eF (ax:=⟨[oh],[kG]⟩) λbM a1=> ?_;have c:(j:Int)<X:=(by omega);have b6:j<X:=(by omega);simp[RT,bB,e4,c];refine ox _ _ _ (by simp[bO]) (by simp[bz]) (by simp[bl]) (by simp[cP]) (by simp[e4]) kN λK af F g1 au6 DQ ab=> ?_;have e: ∀s∈AL,K s=z s:= λs fT=>(F s fT).trans (by simp only[AL,hi,kJ,or_false]at fT;rcases fT with rfl|rfl|rfl|rfl|rfl<;>simp);simp;exact a1 _ _ (mI K af Q ((e 0 (by decide)).trans bO) ((e 5 (by decide)).trans bz) ((e 6 (by decide)).trans bB) g1 au6 DQ ab λk9 FM Ee=>bb k9 FM λs fT=>(Ee s fT).trans (e s fT))
theorem aHj:ow 1 2:=by unfold ow;omega
theorem aEN{n:Nat}:(((List.replicate n (gb 1 2)).map ew).flatten).length=n*3:=by rw[aEM,I3]
def NN:List Nat:=[0,1,4,5,14,15,16,17]
theorem aHe{z K:aC}(bY:K 0=z 0)(A:K 1=z 1)(aT:K 4=z 4)(bF:K 5=z 5)(Bv:K 14=z 14)(V2:K 15=z 15)(V3:K 16=z 16)(V4:K 17=z 17): ∀k∈NN,K k=z k:= λk S=>by simp only[NN,hi,kJ,or_false]at S;rcases S with rfl|rfl|rfl|rfl|rfl|rfl|rfl|rfl<;>assumption
theorem aEX{P rO:Nat}{aR:List Nat}{a0 bt bR a3 a4 ft jh lU ox px er eO g8 g9 nv:Value}{h0:List Int}{m:Int}{R:Nat}(c0:(R:Int)=if m<1 then 1 else m)(x9:R<=100)(agO: ∀b∈aR,b≠P/\b≠rO)(PJ:rO≠P){Q:cM->aC->H->Prop}:
 ∀ (r n:Nat) (xv:Nat) (z:aC) (t:H),n+r=R->z 16=E m->z 17=bH P->z 18=E n->t.I P=some ⟨[a0,bt,bR,a3,a4,ft,jh,lU,ox,b7 rO h0.length 1,b7 xv n 3,px,er,eO,g8,g9,nv],true⟩->t.I rO=some ⟨h0.map E,true⟩->t.I xv=some ⟨((List.replicate n (gb 1 2)).map ew).flatten,true⟩->
   xv≠P->xv≠rO->(∀b∈aR,b≠xv/\b<t.next)->
   (∀K af,(∀s∈NN,K s=z s)->t.next<=af.next->(∀b∈aR,af.I b=t.I b)->af.I P=some ⟨[a0,bt,bR,a3,a4,ft,jh,lU,ox,bm h0,iP (List.replicate R (gb 1 2)),px,er,eO,g8,g9,nv],true⟩->Q (.cH 6) K af)->ec N (.loop LF) z t Q:=by
 intro r;induction r with
 | zero=>
   intro n xv z t ae u2 v8 kV Bu bq e1 rF oF dz bb;have kZ:n=R:=(by omega);subst kZ;have SY:=aM Bu;have bk:=aM bq;have kR:=aM e1;refine vc (o:=rO) (p:=P) (j:=9) (G:=1) (bI:=h0.map λx=>[E x]) (by rw[l5];exact bq) su Bu (by simp) PJ ?_;refine vc (o:=xv) (p:=P) (j:=10) (G:=3) (bI:=(List.replicate n (gb 1 2)).map ew) (cells:=[a0,bt,bR,a3,a4,ft,jh,lU,ox,bm h0,b7 xv n 3,px,er,eO,g8,g9,nv]) ?_ aoB ?_ (by simp) rF ?_
   ·rw[a7 rF,a7 oF];exact e1
   ·rw[cx (by simpa using SY)];simp
   refine eF (ax:=⟨[oh,AI],[kG]⟩) λbM a1=> ?_;have c: ¬((n:Int)<if m<1 then 1 else m):=(by omega);simp(disch:=omega) [LF,YZ,u2,kV,c];refine bb _ _ (aHe (by simp) (by simp) (by simp) (by simp) (by simp) (by simp) (by simp) (by simp)) (by simp) (λb hb=> ?_) ?_
   ·obtain⟨a8,bV⟩:=agO b hb;obtain⟨cv,fQ⟩:=dz b hb;rw[a7 a8,a7 cv,a7 a8,a7 bV]
   ·rw[cx (by simpa using SY)];simp
 | succ r cf=>
   intro n xv z t ae u2 v8 kV Bu bq e1 rF oF dz bb;refine eF (ax:=⟨[oh,AI],[kG]⟩) λbM a1=> ?_;have SY:=aM Bu;have bk:=aM bq;have kR:=aM e1;have c:(n:Int)<if m<1 then 1 else m:=by omega
   have aHi:=aHj;have br:=fz (n:=n) (by omega);have dJ:=aEN (n:=n);have aOT:(List.replicate n [Value.bool (gb 1 2).ku,b5 (gb 1 2).a,b5 (gb 1 2).b]).flatten.length=n*3:=(by simpa[ew]using dJ);have e8:(n+1)*56<=140737488355328/\n<=9223372036854775806:=(by omega);have aPi:P≠xv:= λe=>rF e.symm;have awh:rO≠xv:= λe=>oF e.symm;simp(disch:=first|omega|simp only[bE];omega) [LF,YZ,u2,v8,kV,c,Bu,e1,ew,e8,br,-an,-au,-ak,-aq,-List.map_map];refine a1 _ _ (cf (n+1) (t.next+4) _ _ (by omega) (by simp[u2]) (by simp[v8]) (by simp) ?_ ?_ ?_ (by omega) (by omega) (λb hb=> ?_) λK af F B avd avj=>bb K af (λs fT=>(F s fT).trans ?_) (by simp at B;omega) (λb hb=>(avd b hb).trans ?_) avj)
   ·rw[cx (by simp;omega)]
   ·rw[a7 (by omega),a7 (by omega),a7 awh,a7 (by omega),cJ bk];exact bq
   ·rw[a7 (by omega),cx (by simp),h7 (by omega),List.replicate_succ'];simp[ew]
   ·have:=(dz b hb).2;exact⟨by omega,by simp;omega⟩
   ·simp only[NN,hi,kJ,or_false]at fT;rcases fT with rfl|rfl|rfl|rfl|rfl|rfl|rfl|rfl<;>simp
   ·obtain⟨a8,bV⟩:=agO b hb;obtain⟨cv,fQ⟩:=dz b hb;rw[a7 a8,a7 (by omega),a7 cv,a7 (by omega),H.cJ]
theorem aoJ{P rO:Nat}{aR:List Nat}{a0 bt bR a3 a4 ft jh lU ox px er eO g8 g9 nv:Value}{h0:List Int}{m:Int}{R:Nat}(c0:(R:Int)=if m<1 then 1 else m)(x9:R<=100){z:aC}{t:H}{Q:cM->aC->H->Prop}(u2:z 16=E m)(v8:z 17=bH P)(kV:z 18=E 0)
 (Bu:t.I P=some ⟨[a0,bt,bR,a3,a4,ft,jh,lU,ox,b7 rO h0.length 1,.slice none 0 0,px,er,eO,g8,g9,nv],true⟩) (bq:t.I rO=some ⟨h0.map E,true⟩) (PJ:rO≠P) (dz: ∀b∈aR,b≠P/\b≠rO/\b<t.next)
 (bb: ∀K af,(∀s∈NN,K s=z s)->t.next<=af.next->(∀b∈aR,af.I b=t.I b)->af.I P=some ⟨[a0,bt,bR,a3,a4,ft,jh,lU,ox,bm h0,iP (List.replicate R (gb 1 2)),px,er,eO,g8,g9,nv],true⟩->Q (.cH 6) K af):ec N (.loop LF) z t Q:=by
 have SY:=aM Bu;have bk:=aM bq;refine FY (o:=P) (j:=10) (G:=3) Bu rfl ?_;refine aEX (P:=P) (rO:=rO) (aR:=aR) (a0:=a0) (bt:=bt) (bR:=bR) (a3:=a3) (a4:=a4) (ft:=ft) (jh:=jh) (lU:=lU) (ox:=ox) (px:=px) (er:=er) (eO:=eO) (g8:=g8) (g9:=g9) (nv:=nv) (h0:=h0) c0 x9 (λb hb=>⟨(dz b hb).1,(dz b hb).2.1⟩) PJ R 0 t.next _ _ (by omega) u2 v8 (by simpa using kV) ?_ ?_ ?_ (by omega) (by omega) (λb hb=> ?_) λK af F B S Z=>bb K af F (by simp at B;omega) (λb hb=>(S b hb).trans ?_) Z
 ·rw[cx (by simp;omega)];rfl
 ·rw[a7 PJ,a7 (by omega),cJ bk];exact bq
 ·rw[a7 (by omega),cx (by simp)];simp
 ·have:=(dz b hb).2.2;exact⟨by omega,by simp;omega⟩
 ·obtain⟨a8,bV,cv⟩:=dz b hb;rw[a7 a8,a7 (by omega),cJ cv]
structure OA(x:hQ)(n:Nat):Prop where
 ev:x.name=lL 112 n
 k:1<=x.k/\x.k<=2
 m:0<=x.m/\x.m<=2
 q:x.k<=x.q/\x.q<=x.k+x.m
 ax:x.ax.a=0/\x.ax.b=0/\x.ax.c=0/\0<=x.ax.d/\x.ax.d<=3/\0<=x.ax.e/\x.ax.e<=2
 h0:x.cr=[0,1]\/x.cr=[0]
 pe: ∃R:Nat,(R:Int)=(if x.m<1 then 1 else x.m)/\x.pe=List.replicate R (gb 1 2)
 qi:x.qi=gb 1 1000
 m7:x.m7=gb 30 1
theorem an6{n R:Nat}{k m q bW dR:Int}{h0:List Int}(A:1<=k/\k<=2)(D:0<=m/\m<=2)(ai:k<=q/\q<=k+m)(aT:0<=bW/\bW<=3)(bF:0<=dR/\dR<=2)(cW:h0=[0,1]\/h0=[0])(c0:(R:Int)=if m<1 then 1 else m):OA ⟨lL 112 n,k,m,q,⟨0,0,0,bW,dR⟩,h0,List.replicate R (gb 1 2),gb 1 1000,gb 30 1⟩ n:=
 ⟨rfl,A,D,ai,⟨rfl,rfl,rfl,aT.1,aT.2,bF.1,bF.2⟩,cW,⟨R,c0,rfl⟩,rfl,rfl⟩
def Gc(ps:List hQ)(aA:Nat):Prop:= ∀(i:Nat) (x:hQ),ps[i]?=some x->OA x (aA-i)
theorem Gc.add{ps:List hQ}{aA:Nat}{x:hQ}(h:Gc ps aA)(B:OA x (aA-ps.length)):Gc (ps++[x]) aA:= λi y Y=>by
 by_cases c:i<ps.length
 ·rw[AV c]at Y;exact h i y Y
 ·have az:=(cG.1 Y).1;simp only[iv,mC,xN]at az;have e:i=ps.length:=(by omega);subst e;rw[AU (c8 _)]at Y;simp at Y;subst Y;exact B
structure arh(l:List Int)(i:Nat)(J:Int)(gw gx nU nV hH:Value)(ps:List hQ)(op:Nat)(t:H):Prop where
 aL:t.I 0=some ⟨[bm l,E i],true⟩
 aE:t.I 1=some ⟨Cq,true⟩
 fb:t.I 6=some ⟨[E J,gw,gx,nU,nV,b7 op ps.length 17,hH],true⟩
 iy:t.I op=some ⟨(ps.map dE).flatten,true⟩
 h1:op≠0
 dY:op≠1
 sA:op≠6
def Oz(l:List Int)(i:Nat)(J:Int)(gw gx nU nV hH:Value)(ps:List hQ)(t:H):Prop:= ∃op,arh l i J gw gx nU nV hH ps op t
def FI:List Nat:=[0,1,4,5]
theorem an7{l:List hQ}:(l.map dE).flatten.length=l.length*17:=by rw[wO (G:=17) λr al=>by obtain⟨x,_,rfl⟩:=gG.1 al;rfl,k8]
theorem aDZ{l:List Int}(az:l.length<=140737488355328){J:Int}{gw gx nU nV hH:Value}{aA:Nat}(eH:aA<=100): ∀(r i:Nat) (ps:List hQ),ps.length+r=aA->Gc ps aA->i+10*r+100<1000000->
 ∃ (kv:List hQ) (dn:Nat),Gc kv aA/\kv.length=aA/\dn<=i+10*r/\ ∀(z:aC) (t:H) (Q:cM->aC->H->Prop),z 0=bH 0->z 5=bH 6->z 14=E r->Oz l i J gw gx nU nV hH ps t->
   (∀K af,(∀s∈FI,K s=z s)->Oz l dn J gw gx nU nV hH kv af->Q (.cH 4) K af)->ec N (.loop LG) z t Q:=by
 intro r;induction r with
 | zero=>intro i ps ae Z W;refine⟨ps,i,Z,by omega,by omega,λz t Q bO bz v7 kN bb=> ?_⟩;refine eF (ax:=⟨[oh,AI],[kG]⟩) λbM a1=> ?_;simp[LG,v7];exact bb _ _ (λs F=>by simp only[FI,hi,kJ,or_false]at F;rcases F with rfl|rfl|rfl|rfl<;>simp) kN
 | succ r cf=>
   intro i ps ae Z W;have mT:=mu (l:=l) (i:=i) (n:=2) (by decide);have ek:=mu (l:=l) (i:=i+1) (n:=3) (by decide);obtain⟨k,S⟩: ∃k,1+fM l i 2=k:=⟨_,rfl⟩;obtain⟨m,ab⟩: ∃m,fM l (i+1) 3=m:=⟨_,rfl⟩;rw[ab]at ek;have gm:=mu (l:=l) (i:=i+2) (n:=m+1) (by omega);obtain⟨yV,bo⟩: ∃q,fM l (i+2) (m+1)=q:=⟨_,rfl⟩;rw[bo]at gm;obtain⟨q,awq⟩: ∃q,k+yV=q:=⟨_,rfl⟩;have kT:=mu (l:=l) (i:=i+3) (n:=4) (by decide);obtain⟨bW,ai⟩: ∃m,fM l (i+3) 4=m:=⟨_,rfl⟩;rw[ai]at kT;have rV:=mu (l:=l) (i:=i+4) (n:=3) (by decide);obtain⟨dR,aT⟩: ∃m,fM l (i+4) 3=m:=⟨_,rfl⟩;rw[aT]at rV;obtain⟨R,c0⟩: ∃R:Nat,(R:Int)=if m<1 then 1 else m:=⟨(if m<1 then 1 else m).toNat,by split<;>omega⟩
   have x9:R<=2:=(by split at c0<;>omega);have dq:IntKind.i64.wrap (1+fM l i 2)=k:=(by rw[cY (by omega) (by omega)];exact S);have r5:IntKind.i64.wrap (m+1)=m+1:=cY (by omega) (by omega);have aqK:IntKind.i64.wrap (k+yV)=q:=(by rw[cY (by omega) (by omega)];exact awq);have gW:IntKind.i64.wrap (r:Int)=(r:Int):=cY (by omega) (by omega);have Tw:(0:Int)<(r:Int)+1:=(by omega);have FO:((i:Int)+1).toNat=i+1:=(by omega);have Ut:((i:Int)+1+1).toNat=i+2:=(by omega);have ap5:((i:Int)+1+1+1).toNat=i+3:=(by omega);have ap6:((i:Int)+1+1+1+1).toNat=i+4:=(by omega);have ap7:((i:Int)+1+1+1+1+1).toNat=i+5:=(by omega);have l3:oh.fn [.int .u8 112,.int .i64 ((r:Int)+1)]=some (.string (lL 112 (r+1))):=TP (n:=r+1) (C:=112) rfl ⟨by decide,by omega⟩;have aXb:ow 1 1000:=(by unfold ow;omega);have aXc:ow 30 1:=(by unfold ow;omega);by_cases JH:fM l (i+5) 5=0
   ·skip
    obtain⟨kv,dn,er,eO,g8,g9⟩:=cf (i+6) (ps++[⟨lL 112 (r+1),k,m,q,⟨0,0,0,bW,dR⟩,[0],List.replicate R (gb 1 2),gb 1 1000,gb 30 1⟩]) (by simp;omega) (Z.add (by have:aA-ps.length=r+1:=(by omega);rw[this];exact an6 ⟨by omega,by omega⟩ ⟨by omega,by omega⟩ ⟨by omega,by omega⟩ ⟨by omega,by omega⟩ ⟨by omega,by omega⟩ (.inr rfl) c0)) (by omega);refine⟨kv,dn,er,eO,by omega,λz t Q bO bz v7 kN bb=> ?_⟩;obtain⟨op,⟨aL,aE,fb,iy,h1,dY,sA⟩⟩:=kN;refine eF (ax:=⟨[oh,AI],[kG]⟩) λbM a1=> ?_;have dD:=aM aL;have hZ:=aM aE;have xl:=aM fb;have E2:=aM iy;simp(disch:=first|omega|simp only[bE];omega) [LG,YY,bO,v7,Tw,aL,nf,l3,ew,dq,r5,aqK,ab,bo,ai,aT,FO,Ut,ap5,ap6,ap7,JH];refine aoJ (P:=t.next+14) (rO:=t.next+16) (aR:=[0,1,6,op]) (a0:=gD (lL 112 (r+1))) (bt:=E k) (bR:=E m) (a3:=E q) (a4:=E 0) (ft:=E 0) (jh:=E 0) (lU:=E bW) (ox:=E dR) (px:= .bool (gb 1 1000).ku) (er:=b5 (gb 1 1000).a) (eO:=b5 (gb 1 1000).b) (g8:= .bool (gb 30 1).ku) (g9:=b5 (gb 30 1).a) (nv:=b5 (gb 30 1).b) (h0:=[0]) (m:=m) (R:=R) c0 (by omega) (by simp) (by simp) (by simp) (by simp(disch:=first|omega|simp only[bE];omega) [-an,-au,-ak,-aq,-List.map_map]) (by simp(disch:=first|omega|simp only[bE];omega) [-an,-au,-ak,-aq,-List.map_map]) (by omega) (λb hb=> ?_) λK af F B dz gq=> ?_
    ·simp only[hi,kJ,or_false]at hb;simp only[eJ,fp];omega
    have xp: ¬0=op:= λe=>h1 e.symm;have HY: ¬1=op:= λe=>dY e.symm;have anq: ¬6=op:= λe=>sA e.symm;have hc:af.I 0=some ⟨[bm l,E (i+6:Nat)],true⟩:=(dz 0 (by simp)).trans (by simp(disch:=first|omega|simp only[bE];omega) [-an,-au,-ak,-aq,-List.map_map];omega);have aD:af.I 1=some ⟨Cq,true⟩:=(dz 1 (by simp)).trans (by simp(disch:=first|omega|simp only[bE];omega) [aE,-an,-au,-ak,-aq,-List.map_map]);have l0:af.I 6=some ⟨[E J,gw,gx,nU,nV,b7 op ps.length 17,hH],true⟩:=(dz 6 (by simp)).trans (by simp(disch:=first|omega|simp only[bE];omega) [fb,-an,-au,-ak,-aq,-List.map_map]);have JM:af.I op=some ⟨(ps.map dE).flatten,true⟩:=(dz op (by simp)).trans (by simp(disch:=first|omega|simp only[bE];omega) [iy,-an,-au,-ak,-aq,-List.map_map]);have z0:K 0=bH 0:=(F 0 (by decide)).trans (by simp[bO]);have hY:K 1=z 1:=(F 1 (by decide)).trans (by simp);have z4:K 4=z 4:=(F 4 (by decide)).trans (by simp);have ra:K 5=bH 6:=(F 5 (by decide)).trans (by simp[bz]);have aee:K 14=E ((r:Int)+1):=(F 14 (by decide)).trans (by simp[v7]);have Of:K 17=bH (t.next+14):=(F 17 (by decide)).trans (by simp);clear F dz B;obtain⟨P,Wb⟩: ∃P,P=t.next+14:=⟨_,rfl⟩
    have pb:P≠0/\P≠1/\P≠6/\P≠op:=(by omega);rw[<-Wb]at gq Of;obtain⟨pb,ef,M5,pp⟩:=pb;have eA:=aM hc;have MG:=aM l0;have mp:=aM JM;have aCM:=aM gq;have dJ:=an7 (l:=ps);have e8:(ps.length+1)*240<=140737488355328/\ps.length<=9223372036854775806:=(by omega);simp(disch:=first|omega|simp only[bE];omega) [ra,aee,Of,l0,JM,gq,dJ,e8,gW,-an,-au,-ak,-aq,-List.map_map];refine a1 _ _ (g9 _ _ _ (by simp[z0]) (by simp[ra]) (by simp) ⟨af.next+4,?_,?_,?_,?_,by omega,by omega,by omega⟩ λk9 FM Ee Kw=>bb k9 FM (λs fT=>(Ee s fT).trans ?_) Kw)
    ·simp(disch:=omega) [hc]
    ·simp(disch:=omega) [aD]
    ·simp(disch:=first|omega|simp only[bE];omega) [-an,-au,-ak,-aq,-List.map_map]
    ·simp(disch:=first|omega|simp only[bE];omega) [-an,-au,-ak,-aq,-List.map_map];rw[h7 (by omega)];simp[dE]
    ·simp only[FI,hi,kJ,or_false]at fT;rcases fT with rfl|rfl|rfl|rfl<;>simp[z0,hY,z4,ra,bO,bz]
   ·skip
    obtain⟨kv,dn,er,eO,g8,g9⟩:=cf (i+6) (ps++[⟨lL 112 (r+1),k,m,q,⟨0,0,0,bW,dR⟩,[0,1],List.replicate R (gb 1 2),gb 1 1000,gb 30 1⟩]) (by simp;omega) (Z.add (by have:aA-ps.length=r+1:=(by omega);rw[this];exact an6 ⟨by omega,by omega⟩ ⟨by omega,by omega⟩ ⟨by omega,by omega⟩ ⟨by omega,by omega⟩ ⟨by omega,by omega⟩ (.inl rfl) c0)) (by omega);refine⟨kv,dn,er,eO,by omega,λz t Q bO bz v7 kN bb=> ?_⟩;obtain⟨op,⟨aL,aE,fb,iy,h1,dY,sA⟩⟩:=kN;refine eF (ax:=⟨[oh,AI],[kG]⟩) λbM a1=> ?_;have dD:=aM aL;have hZ:=aM aE;have xl:=aM fb;have E2:=aM iy;simp(disch:=first|omega|simp only[bE];omega) [LG,YY,bO,v7,Tw,aL,nf,l3,ew,dq,r5,aqK,ab,bo,ai,aT,FO,Ut,ap5,ap6,ap7,JH];refine aoJ (P:=t.next+14) (rO:=t.next+10) (aR:=[0,1,6,op]) (a0:=gD (lL 112 (r+1))) (bt:=E k) (bR:=E m) (a3:=E q) (a4:=E 0) (ft:=E 0) (jh:=E 0) (lU:=E bW) (ox:=E dR) (px:= .bool (gb 1 1000).ku) (er:=b5 (gb 1 1000).a) (eO:=b5 (gb 1 1000).b) (g8:= .bool (gb 30 1).ku) (g9:=b5 (gb 30 1).a) (nv:=b5 (gb 30 1).b) (h0:=[0,1]) (m:=m) (R:=R) c0 (by omega) (by simp) (by simp) (by simp) (by simp(disch:=first|omega|simp only[bE];omega) [-an,-au,-ak,-aq,-List.map_map]) (by simp(disch:=first|omega|simp only[bE];omega) [-an,-au,-ak,-aq,-List.map_map]) (by omega) (λb hb=> ?_) λK af F B dz gq=> ?_
    ·simp only[hi,kJ,or_false]at hb;simp only[eJ,fp];omega
    have xp: ¬0=op:= λe=>h1 e.symm;have HY: ¬1=op:= λe=>dY e.symm;have anq: ¬6=op:= λe=>sA e.symm;have hc:af.I 0=some ⟨[bm l,E (i+6:Nat)],true⟩:=(dz 0 (by simp)).trans (by simp(disch:=first|omega|simp only[bE];omega) [-an,-au,-ak,-aq,-List.map_map];omega);have aD:af.I 1=some ⟨Cq,true⟩:=(dz 1 (by simp)).trans (by simp(disch:=first|omega|simp only[bE];omega) [aE,-an,-au,-ak,-aq,-List.map_map]);have l0:af.I 6=some ⟨[E J,gw,gx,nU,nV,b7 op ps.length 17,hH],true⟩:=(dz 6 (by simp)).trans (by simp(disch:=first|omega|simp only[bE];omega) [fb,-an,-au,-ak,-aq,-List.map_map]);have JM:af.I op=some ⟨(ps.map dE).flatten,true⟩:=(dz op (by simp)).trans (by simp(disch:=first|omega|simp only[bE];omega) [iy,-an,-au,-ak,-aq,-List.map_map]);have z0:K 0=bH 0:=(F 0 (by decide)).trans (by simp[bO]);have hY:K 1=z 1:=(F 1 (by decide)).trans (by simp);have z4:K 4=z 4:=(F 4 (by decide)).trans (by simp);have ra:K 5=bH 6:=(F 5 (by decide)).trans (by simp[bz]);have aee:K 14=E ((r:Int)+1):=(F 14 (by decide)).trans (by simp[v7]);have Of:K 17=bH (t.next+14):=(F 17 (by decide)).trans (by simp);clear F dz B;obtain⟨P,Wb⟩: ∃P,P=t.next+14:=⟨_,rfl⟩
    have pb:P≠0/\P≠1/\P≠6/\P≠op:=(by omega);rw[<-Wb]at gq Of;obtain⟨pb,ef,M5,pp⟩:=pb;have eA:=aM hc;have MG:=aM l0;have mp:=aM JM;have aCM:=aM gq;have dJ:=an7 (l:=ps);have e8:(ps.length+1)*240<=140737488355328/\ps.length<=9223372036854775806:=(by omega);simp(disch:=first|omega|simp only[bE];omega) [ra,aee,Of,l0,JM,gq,dJ,e8,gW,-an,-au,-ak,-aq,-List.map_map];refine a1 _ _ (g9 _ _ _ (by simp[z0]) (by simp[ra]) (by simp) ⟨af.next+4,?_,?_,?_,?_,by omega,by omega,by omega⟩ λk9 FM Ee Kw=>bb k9 FM (λs fT=>(Ee s fT).trans ?_) Kw)
    ·simp(disch:=omega) [hc]
    ·simp(disch:=omega) [aD]
    ·simp(disch:=first|omega|simp only[bE];omega) [-an,-au,-ak,-aq,-List.map_map]
    ·simp(disch:=first|omega|simp only[bE];omega) [-an,-au,-ak,-aq,-List.map_map];rw[h7 (by omega)];simp[dE]
    ·simp only[FI,hi,kJ,or_false]at fT;rcases fT with rfl|rfl|rfl|rfl<;>simp[z0,hY,z4,ra,bO,bz]
def Gg(vs:List s5)(aA zm:Nat):Prop:= ∀(i:Nat) (x:s5),vs[i]?=some x->x.name=lL 118 (aA-i)/\0<=x.p9/\x.p9<zm
theorem Gg.add{vs:List s5}{aA zm:Nat}{x:s5}(h:Gg vs aA zm)(B:x.name=lL 118 (aA-vs.length)/\0<=x.p9/\x.p9<zm):Gg (vs++[x]) aA zm:= λi y Y=>by
 by_cases c:i<vs.length
 ·rw[AV c]at Y;exact h i y Y
 ·have az:=(cG.1 Y).1;simp only[iv,mC,xN]at az;have e:i=vs.length:=(by omega);subst e;rw[AU (c8 _)]at Y;simp at Y;subst Y;exact B
structure ars(l:List Int)(i:Nat)(J:Int)(gw gx nU nV jB:Value)(vs:List s5)(tM:Nat)(t:H):Prop where
 aL:t.I 0=some ⟨[bm l,E i],true⟩
 aE:t.I 1=some ⟨Cq,true⟩
 fb:t.I 6=some ⟨[E J,gw,gx,nU,nV,jB,b7 tM vs.length 2],true⟩
 DP:t.I tM=some ⟨(vs.map ga).flatten,true⟩
 h1:tM≠0
 dY:tM≠1
 sA:tM≠6
def UT(l:List Int)(i:Nat)(J:Int)(gw gx nU nV jB:Value)(vs:List s5)(t:H):Prop:= ∃tM,ars l i J gw gx nU nV jB vs tM t
theorem aIk{l:List s5}:(l.map ga).flatten.length=l.length*2:=by rw[wO (G:=2) λr al=>by obtain⟨x,_,rfl⟩:=gG.1 al;rfl,k8]
theorem aIi{l:List Int}(az:l.length<=140737488355328){J:Int}{gw gx nU nV:Value}{ps:List hQ}(o1:1<=ps.length/\ps.length<=1000){aA:Nat}(eH:aA<=1000): ∀(r i:Nat) (vs:List s5),vs.length+r=aA->Gg vs aA ps.length->i+r+100<1000000->
 ∃ (y7:List s5) (dn:Nat),Gg y7 aA ps.length/\y7.length=aA/\dn<=i+r/\ ∀(z:aC) (t:H) (Q:cM->aC->H->Prop),z 0=bH 0->z 5=bH 6->z 19=E r->UT l i J gw gx nU nV (ad (ps.map dE) 17) vs t->
   (∀K af,(∀s∈FI,K s=z s)->UT l dn J gw gx nU nV (ad (ps.map dE) 17) y7 af->Q (.cH 8) K af)->ec N (.loop RU) z t Q:=by
 intro r;induction r with
 | zero=>intro i vs ae Z W;refine⟨vs,i,Z,by omega,by omega,λz t Q bO bz lM kN bb=> ?_⟩;refine eF (ax:=⟨[oh],[kG]⟩) λbM a1=> ?_;simp[RU,lM];exact bb _ _ (λs F=>by simp only[FI,hi,kJ,or_false]at F;rcases F with rfl|rfl|rfl|rfl<;>simp) kN
 | succ r cf=>
   intro i vs ae Z W;have mT:=mu (l:=l) (i:=i) (n:=(ps.length:Int)) (by omega);obtain⟨y,Y⟩: ∃y,fM l i (ps.length:Int)=y:=⟨_,rfl⟩;rw[Y]at mT;have gW:IntKind.i64.wrap (r:Int)=(r:Int):=cY (by omega) (by omega);have Tw:(0:Int)<(r:Int)+1:=(by omega);have l3:oh.fn [.int .u8 118,.int .i64 ((r:Int)+1)]=some (.string (lL 118 (r+1))):=TP (n:=r+1) (C:=118) rfl ⟨by decide,by omega⟩;obtain⟨y7,dn,er,eO,g8,g9⟩:=cf (i+1) (vs++[⟨lL 118 (r+1),y⟩]) (by simp;omega) (Z.add (by have:aA-vs.length=r+1:=(by omega);rw[this];exact⟨rfl,mT⟩)) (by omega);refine⟨y7,dn,er,eO,by omega,λz t Q bO bz lM kN bb=> ?_⟩;obtain⟨tM,⟨aL,aE,fb,DP,h1,dY,sA⟩⟩:=kN;refine eF (ax:=⟨[oh],[kG]⟩) λbM a1=> ?_;have dD:=aM aL;have hZ:=aM aE;have xl:=aM fb;have gl:=aM DP;have xp: ¬0=tM:= λe=>h1 e.symm;have HY: ¬1=tM:= λe=>dY e.symm;have anq: ¬6=tM:= λe=>sA e.symm;have dJ:=aIk (l:=vs);have e8:(vs.length+1)*24<=140737488355328/\vs.length<=9223372036854775806:=(by omega);simp(disch:=first|omega|simp only[bE];omega) [RU,bO,bz,lM,Tw,aL,fb,DP,nf,l3,Y,dJ,e8,gW,afI,amC,-an,-au,-ak,-aq,-List.map_map];refine a1 _ _ (g9 _ _ _ (by simp[bO]) (by simp[bz]) (by simp) ⟨t.next+11,?_,?_,?_,?_,by omega,by omega,by omega⟩ λk9 FM Ee Kw=>bb k9 FM (λs fT=>(Ee s fT).trans ?_) Kw)
   ·simp(disch:=first|omega|simp only[bE];omega) [-an,-au,-ak,-aq,-List.map_map]
   ·simp(disch:=omega) [aE]
   ·simp(disch:=first|omega|simp only[bE];omega) [-an,-au,-ak,-aq,-List.map_map]
   ·simp(disch:=first|omega|simp only[bE];omega) [-an,-au,-ak,-aq,-List.map_map];rw[h7 (by omega)];simp[ga]
   ·simp only[FI,hi,kJ,or_false]at fT;rcases fT with rfl|rfl|rfl|rfl<;>simp
end Go.Proofs.YtmmkkggfmigppaaGreat
