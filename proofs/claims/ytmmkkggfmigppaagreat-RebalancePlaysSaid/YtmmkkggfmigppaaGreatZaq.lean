/-
  A part of the proof of the statement, in texts that tools of ours (wip/shrink.py, irpack.py, relax.py, minify.py, join.py, lay.py) have shortened.
-/
import Derived.Test.YtmmkkggfmigppaaGreatZap
set_option linter.all false
set_option maxRecDepth 8000
set_option maxHeartbeats 16000000
namespace Go.Proofs.YtmmkkggfmigppaaGreat
open Go Go.DI Go.Big
open Classical in
noncomputable def uP(L:List (List Int))(t:W):Option (Value×W):=if hu L/\ ∀r∈L,1<=r.length then some (dm t.next L.length 1,hD t.next (lj L t.next) (t.cf (L.length+1)))else none
theorem PO{L:List (List Int)}{t:W}(h:hu L)(E: ∀r∈L,1<=r.length):uP L t=some (dm t.next L.length 1,hD t.next (lj L t.next) (t.cf (L.length+1))):=if_pos ⟨h,E⟩
noncomputable def RE:ie al:= .dN 146 (List (List Int)) (λL=>[dW L]) uP λL t r aI h cj iB=>by
  unfold uP at h;split at h
  · next G=>cases h;exact(XT (aCs G.1) t).b8 λr aI ⟨a,b⟩=>by rw[a,b];exact iB
  · cases h
@[simp] theorem aKK:RE.f=146:=rfl
@[simp] theorem aKL{L:List (List Int)}{t:W}:RE.fn [aj (L.map fA) 1] t=uP L t:=ie.eh (x:=L) (t:=t) λy af=>by
  have:y=L:=by simpa using af
  rw[this]
noncomputable def K8:ie al:= .dN 46 (List (List Int)) (λL=>[dW L]) uP λL t r aI h cj iB=>by
  unfold uP at h;split at h
  · next G=>cases h;exact(XT (akz G.1 G.2) t).b8 λr aI ⟨a,b⟩=>by rw[a,b];exact iB
  · cases h
@[simp] theorem aKx:K8.f=46:=rfl
@[simp] theorem aKy{L:List (List Int)}{t:W}:K8.fn [aj (L.map fA) 1] t=uP L t:=ie.eh (x:=L) (t:=t) λy af=>by
  have:y=L:=by simpa using af
  rw[this]
theorem ahb: ∀{aV:List (List Value)} {n i:Nat} {t:W},i<n->(hD n aV t).gV i=t.gV i
  |[],_,_,_,_=>rfl
  | c::aV,n,i,t,h=>by rw[xh,ahb (by omega)];show(if i=n then _ else t.gV i)=t.gV i;rw[if_neg (by omega)]
theorem aha: ∀{aV:List (List Value)} {n i:Nat} {bD iW:W},bD.gV i=iW.gV i->(hD n aV bD).gV i=(hD n aV iW).gV i
  |[],_,_,_,_,h=>h
  | c::aV,n,i,bD,iW,h=>by rw[xh,xh];refine aha ?_;show(if i=n then _ else bD.gV i)=(if i=n then _ else iW.gV i);rw[h]
theorem af0{t:W}{l:List Nat}{aV:List (List Value)}{k:Nat}(h: ∀o∈l,o<t.next):kK t (hD t.next aV ((iY t l).cf k)) l=hD t.next aV (t.cf k):=by
  have aJ:(kK t (hD t.next aV ((iY t l).cf k)) l).gV=(hD t.next aV (t.cf k)).gV:=by
    funext i;show(if i∈l then t.gV i else(hD t.next aV ((iY t l).cf k)).gV i)=_;by_cases ai:i∈l
    · rw[if_pos ai,ahb (h i ai)];show t.gV i=if i<t.next then t.gV i else none
      rw[if_pos (h i ai)]
    · rw[if_neg ai];refine aha ?_;show(if i<t.next then(if i∈l then none else t.gV i)else none)=if i<t.next then t.gV i else none
      rw[if_neg ai]
  have aU:(kK t (hD t.next aV ((iY t l).cf k)) l).next=(hD t.next aV (t.cf k)).next:=by
    show(hD t.next aV ((iY t l).cf k)).next=_
    rw[BB,BB];rfl
  have cu:(kK t (hD t.next aV ((iY t l).cf k)) l).mp=(hD t.next aV (t.cf k)).mp:=by show(hD t.next aV ((iY t l).cf k)).mp=_;rw[IB,IB];rfl
  generalize kK t (hD t.next aV ((iY t l).cf k)) l=x at aJ aU cu;generalize hD t.next aV (t.cf k)=y at aJ aU cu
  cases x;cases y;simp only at aJ aU cu;rw[aJ,aU,cu]
def uN(t:W)(u:bg)(L:List (List Int)):W:=hD (t.next+2+11) (lj L (t.next+2+11)) ((((t.cf 2).a0 t.next (some ⟨aL u,true⟩)).cf 11).cf (L.length+1))
def tg(t:W)(u:bg)(L:List (List Int))(R:List Int):W:=
  (((uN t u L).cf 1).a0 (t.next+2+11+(L.length+1)) (some ⟨(hf u L).map Y,true⟩)).a0 (t.next+2+9) (some ⟨[dm (t.next+2+11) L.length 1,dm (t.next+2+11+(L.length+1)) u.aZ.length 1,cp (g8 u R)],true⟩)
theorem aj3{u:bg}(h:eF u){L:List (List Int)}(ck:hu L)(E: ∀r∈L,1<=r.length){R:List Int}{t:W}:fi al 92 [.agg (aL u).toArray,dW L,cp R] t λv aI=>v=cw (t.next+2+9)/\aI=tg t u L R:=by
  refine dD (aC:=⟨[Vg u h],[RE,RB u h]⟩) afG (by kernel_rfl) (by simp[Nh]) ?_;have ar: ∀t:W,uP L t=some (dm t.next L.length 1,hD t.next (lj L t.next) (t.cf (L.length+1))):= λt=>PO ck E;have bj:=af0 (t:=((t.cf 2).a0 t.next (some ⟨aL u,true⟩)).cf 11) (l:=[t.next,t.next]) (aV:=lj L (t.next+2+11)) (k:=L.length+1) (λo aE=>by simp at aE;subst aE;simp;omega);have kZ:(uN t u L).next=t.next+2+11+(L.length+1):=by unfold uN;rw[BB];rfl
  have Q3:=af0 (t:=uN t u L) (l:=[t.next]) (aV:=[(hf u L).map Y]) (k:=1) (λo aE=>by simp at aE;subst aE;rw[kZ];omega);rw[kZ]at Q3;unfold tg;simp only[mr,y3,aL,uN,xh,aBN]at bj Q3⊢;have aP: ∀(aV:List (List Value)) (n:Nat) (aI:W),t.next<n->(hD n aV aI).X t.next=aI.X t.next:= λaV n aI h=>BC h
  have az: ∀(aV:List (List Value)) (n:Nat) (aI:W),(hD n aV aI).next=aI.next:= λaV n aI=>BB
  simp(disch:=first|omega|simp only[DI.ae];omega) [Nh,afF,afH,ar,bj,Q3,aP,az,-O,-U,-N,-S,-List.map_map]
theorem my.jx{t aI:W}{s o q:Nat}{ps:List Nat}{L:List (List Int)}{dE fz:List Int}(h:my t s o q ps L dE fz)(aa: ∀b,b<t.next->aI.X b=t.X b):my aI s o q ps L dE fz:=by
  refine⟨by rw[aa s (a6 h.zn)];exact h.zn,h.lp.b8 (aa o (a6 h.lp.ky)) λp ab=> ?_,by rw[aa q (a6 h.Bb)];exact h.Bb,h.I7,h.qo,h.Ei,h.OI,h.IC⟩;obtain⟨j,bj,e⟩:=j4 ab;have oF:j<L.length:=by rw[<-h.lp.len];exact bj
  exact aa p (a6 (h.lp.ct j p _ (by rw[<-e];exact cD bj) (cD oF)))
theorem Fy{L:List (List Int)}{k p:Nat}(h:p∈nY L k):k<p/\p<k+(L.length+1):=by simp only[nY,hn,ou]at h;obtain⟨j,bj,rfl⟩:=h;omega
theorem aj2{t:W}{u:bg}{L:List (List Int)}{R:List Int}:my (tg t u L R) (t.next+2+9) (t.next+2+11) (t.next+2+11+(L.length+1)) (nY L (t.next+2+11)) L (hf u L) (g8 u R):=by
  have kZ:(uN t u L).next=t.next+2+11+(L.length+1):=by unfold uN;rw[BB];rfl
  have az:lA (uN t u L) (t.next+2+11) (nY L (t.next+2+11)) L:=PQ (t:=((t.cf 2).a0 t.next (some ⟨aL u,true⟩)).cf 11);have aa: ∀b,b<(uN t u L).next->b≠t.next+2+9->(tg t u L R).X b=(uN t u L).X b:= λb hb cJ=>by unfold tg;rw[bR cJ,bR (by omega),e0 hb]
  refine⟨?_,az.b8 (aa _ (by omega) (by omega)) λp ab=> ?_,?_,by omega,by omega,by omega,λh=> ?_,λh=> ?_⟩
  · unfold tg;rw[eD (by simp;omega),Bd]
  · have:=Fy ab;exact aa p (by omega) (by omega)
  · unfold tg;rw[bR (by omega),eD (by simp;omega)]
  · have:=Fy h;omega
  · have:=Fy h;omega
noncomputable def RA(u:bg)(h:eF u)(L:List (List Int))(ck:hu L)(E: ∀r∈L,1<=r.length)(R:List Int):ie al:= .dN 92 Unit (λ_=>[.agg (aL u).toArray,dW L,cp R]) (λ_ t=>some (cw (t.next+2+9),tg t u L R)) λ_ t r aI aQ cj iB=>by cases aQ;exact(aj3 h ck E).b8 λr aI ⟨a,b⟩=>by rw[a,b];exact iB
@[simp] theorem aKt{u:bg}{h:eF u}{L:List (List Int)}{ck:hu L}{E: ∀r∈L,1<=r.length}{R:List Int}:(RA u h L ck E R).f=92:=rfl
@[simp] theorem aKu{u:bg}{h:eF u}{L:List (List Int)}{ck:hu L}{E: ∀r∈L,1<=r.length}{R:List Int}{t:W}:(RA u h L ck E R).fn [.agg #[Y u.ext,aj (u.cN.map gZ) 4,aj (u.bf.map gE) 4,aj (u.bP.map ez) 7,aj (u.aZ.map gr) 3,aj (u.cK.map e5) 17,aj (u.cm.map hx) 2],aj (L.map fA) 1,aj (R.map λx=>[Y x]) 1] t=some (cw (t.next+2+9),tg t u L R):=ie.eh (x:=()) (t:=t) λ_ _=>rfl
theorem aBP{u:bg}(h:eF u){L:List (List Int)}(ck:hu L):bH al 91 [.agg (aL u).toArray,dW L] (.bool (kP u L)):=by have ad:gk u=true:=h.ok.vR;refine ei (dD (aC:=⟨[On u h.fO,Vh u h],[]⟩) TJ (by kernel_rfl) (by simp[DY]) ?_);simp(disch:=first|omega|simp only[DI.ae];omega) [DY,TI,TK,aL,ad,-O,-U,-N,-S,-List.map_map]
theorem aBV{u:bg}(h:eF u){L:List (List Int)}(ck:hu L):bH al 95 [.agg (aL u).toArray,dW L] (.bool (kP u L)):=by have ad:gk u=true:=h.ok.vR;refine ei (dD (aC:=⟨[Vu u h.fO,Vm u h],[]⟩) ayE (by kernel_rfl) (by simp[TP]) ?_);simp(disch:=first|omega|simp only[DI.ae];omega) [TP,afK,afL,aL,ad,-O,-U,-N,-S,-List.map_map]
theorem akw{L:List (List Int)}{bl:Nat}{r dL:List Int}{d:Nat}(e6:L[bl]?=some r):ko (L.set bl dL) d+r.count (d:Int)=ko L d+dL.count (d:Int):=by
  unfold ko;induction L generalizing bl with
  |nil=>cases e6
  | cons x L cx=>
    cases bl with
    | zero=>simp at e6;subst e6;simp only[List.set_cons_zero,oY,List.count_append];omega
    | succ bl=>have:=cx (bl:=bl) (by simpa using e6);simp only[List.set_cons_succ,oY,List.count_append];omega
theorem aCr{r:List Int}{f:Nat}{x y:Int}(aT:r[f]?=some y)(d:Int):(r.set f x).count d+(if y=d then 1 else 0)=r.count d+(if x=d then 1 else 0):=by
  induction r generalizing f with
  |nil=>cases aT
  | cons J r cx=>
    cases f with
    | zero=>simp at aT;subst aT;simp only[List.set_cons_zero,List.count_cons];by_cases E:x=d<;>by_cases I:J=d<;>simp[E,I]<;>omega
    | succ f=>have:=cx (f:=f) (by simpa using aT);simp only[List.set_cons_succ,List.count_cons];omega
theorem XR{L:List (List Int)}{bl f:Nat}{x y:Int}{r:List Int}(e6:L[bl]?=some r)(aT:r[f]?=some y)(d:Nat):ko (lT L bl f x) d+(if y=(d:Int)then 1 else 0)=ko L d+(if x=(d:Int)then 1 else 0):=by
  have e:L.getD bl []=r:=by simp[e6]
  have a:=akw (dL:=r.set f x) (d:=d) e6;have b:=aCr (x:=x) aT (d:Int);unfold lT;rw[e];omega
theorem aAj{u:bg}{L:List (List Int)}{bl f d:Nat}{dT:Int}{r:List Int}(e6:L[bl]?=some r)(aT:r[f]?=some dT)(aD:d<u.aZ.length)(eX:dT<u.aZ.length)(cJ:dT≠(d:Int)):vL (hf u L) d dT=hf u (lT L bl f d):=by
  have FC: ∀j,j<u.aZ.length->(hf u L)[j]?=some ((ko L j:Nat):Int):= λj bj=>by rw[tY,na bj]
  have qL:(hf u L).getD d 0=((ko L d:Nat):Int):=by rw[la,FC d aD];rfl
  unfold vL;simp only;rw[qL];by_cases c:0<=dT
  · obtain⟨g,rfl⟩:=jS c;have aP:g<u.aZ.length:=(by omega);have QY:g≠d:= λe=>cJ (by rw[e]);have aU:((hf u L).set d (((ko L d:Nat):Int)+1)).getD g 0=((ko L g:Nat):Int):=by
      rw[la,s5,if_neg (λe=>QY e.symm),FC g aP];rfl
    rw[if_pos c,ot,aU,tY,tY,zc,zc];refine oO λj bj=> ?_;have:=XR (x:=(d:Int)) e6 aT j;by_cases bO:j=g
    · subst bO;simp only[if_true];split at this<;>split at this<;>omega
    · simp only[if_neg bO];by_cases cA:j=d
      · subst cA;simp only[if_true];split at this<;>split at this<;>omega
      · simp only[if_neg cA];split at this<;>split at this<;>omega
  · rw[if_neg c,tY,tY,zc];refine oO λj bj=> ?_;have:=XR (x:=(d:Int)) e6 aT j;by_cases cA:j=d
    · subst cA;simp only[if_true];split at this<;>split at this<;>omega
    · simp only[if_neg cA];split at this<;>split at this<;>omega
def nc(u:bg)(L:List (List Int)):Prop:=hu L/\(∀r∈L,1<=r.length)/\ ∀r∈L,∀x∈r,x<u.aZ.length
theorem OA{u:bg}{L:List (List Int)}{bl f d:Nat}(h:nc u L)(aD:d<u.aZ.length):nc u (lT L bl f d):=by
  by_cases e6:bl<L.length
  · have ax:=jQ e6;have e:L.getD bl []=L[bl]:=(by simp[e6]);have aw: ∀r∈lT L bl f d,r∈L\/r=L[bl].set f (d:Int):= λr aw=>by
      have:=Ju aw;rw[e]at this;exact this
    refine⟨⟨by rw[BQ];exact h.1.1,λr yo=> ?_⟩,λr yo=> ?_,λr yo x G=> ?_⟩
    · rcases aw r yo with a|rfl
      · exact h.1.2 r a
      · rw[List.length_set];exact h.1.2 _ ax
    · rcases aw r yo with a|rfl
      · exact h.2.1 r a
      · rw[List.length_set];exact h.2.1 _ ax
    · rcases aw r yo with a|rfl
      · exact h.2.2 r a x G
      · rcases Ju G with a|rfl
        · exact h.2.2 _ ax x a
        · omega
  · have:lT L bl f d=L:=(by unfold lT;rw[List.set_eq_of_length_le (by omega)]);rw[this];exact h
def hC(u:bg)(R:List Int):List h3->List (List Int)->List (List Int)×Nat
  |[],L=>(L,0)
  |s::l,L=>if hk u.aZ.length (hf u L) (g8 u R) L s then((hC u R l (lT L s.nh.toNat s.lF.toNat s.hT)).1,(hC u R l (lT L s.nh.toNat s.lF.toNat s.hT)).2+1)else(L,0)
theorem UA{u:bg}{R:List Int}{L:List (List Int)}{s:h3}(h:hk u.aZ.length (hf u L) (g8 u R) L s=true): ∃bl f d:Nat,∃r,s.nh=bl/\s.lF=f/\s.hT=d/\L[bl]?=some r/\r[f]?=some s.dT/\d<u.aZ.length/\s.dT≠(d:Int):=by
  unfold hk at h;simp only[a1,e2,uE,List.contains_eq_mem,decide_eq_false_iff_not]at h;obtain⟨E,I,av,aH,br,cW,fu,hK,iZ⟩:=h;obtain⟨bl,e6⟩:=jS E;obtain⟨f,aT⟩:=jS av;obtain⟨d,aD⟩:=jS cW;have lG:bl<L.length:=by omega
  have G:L[bl]?=some L[bl]:=cD lG;have mh:xm L s=L[bl]:=by unfold xm;rw[e6];simp[G]
  rw[mh]at aH br hK;have e1:f<L[bl].length:=by omega
  have af:L[bl][f]?=some s.dT:=by rw[aT]at br;simp[e1]at br;rw[cD e1,br]
  exact⟨bl,f,d,L[bl],e6,aT,aD,G,af,by omega,λe=>hK (by rw[aD,<-e];exact gJ af)⟩
noncomputable def IW(fz:List Int):bC al:= .dN 93 (List (List Int)×List Int×h3) (λx=>hu x.1/\fz.length<=x.2.1.length) (λx=>[ek [dW x.1,cp x.2.1,cp fz] 0,.agg (fC x.2.2).toArray]) (λx=> .bool (hk fz.length x.2.1 fz x.1 x.2.2)) λx G=>aBE G.1 G.2
@[simp] theorem aPj{fz:List Int}:(IW fz).f=93:=rfl
theorem aC8{fz:List Int}{L:List (List Int)}{dE:List Int}{a b c d:Int}(h:hu L/\fz.length<=dE.length):(IW fz).fn [ek [dW L,cp dE,cp fz] 0,.agg #[Y a,Y b,Y c,Y d]]=some (.bool (hk fz.length dE fz L ⟨a,b,c,d⟩)):=
  bC.eh (x:=((L,dE,h3.mk a b c d):List (List Int)×List Int×h3)) h λ⟨rm,NA,ki⟩ af=>by obtain⟨dG,cd,km,ns⟩:=ki;simp[fC]at af;obtain⟨⟨E,I⟩,aH,br,cW,fu⟩:=af;subst E I aH br cW fu;rfl
theorem akC{u:bg}{R:List Int}{t:W}{s o q:Nat}{ps:List Nat}{L:List (List Int)}{dE fz:List Int}(ej:my t s o q ps L dE fz)(K:nc u L){bl f d:Nat}{dT:Int}{r:List Int}(e6:L[bl]?=some r)(aT:r[f]?=some dT)(aD:d<u.aZ.length)(cJ:dT≠(d:Int)): ∃p,Jz ps L (hf u L) bl f d dT p:=by
  obtain⟨lG,e⟩:=dO.1 e6;have ab:bl<ps.length:=by rw[ej.lp.len];exact lG
  have e1:=(dO.1 aT).1;have aU:L.getD bl []=r:=by simp[e6]
  have Re:r∈L:=gJ e6;have QW:dT∈r:=gJ aT;refine⟨ps[bl],lG,by rw[aU];exact e1,by rw[Bd];exact aD,by rw[Bd];exact K.2.2 r Re _ QW,cD ab,λx G=> ?_,λg aP=> ?_⟩
  · rw[tY]at G;obtain⟨j,bj,rfl⟩:=aCi G;have:=PN (d:=j) K.1.2;have:=K.1.1;omega
  · subst aP;have al1:g<u.aZ.length:=(by have:=K.2.2 r Re _ QW;omega);have QY:g≠d:= λe=>cJ (by rw[e]);have ar:0<ko L g:=List.count_pos_iff.2 (List.mem_flatten.2 ⟨r,Re,QW⟩);rw[la,s5,if_neg (λe=>QY e.symm),tY,na al1];show 1<=((ko L g:Nat):Int);omega
theorem aBw{u:bg}(h:eF u){R:List Int}{s o q:Nat}{ps:List Nat}{l:List h3}(aB:l.length<=1000000): ∀(ga:List h3) (i:Nat) (L:List (List Int)),l.drop i=ga->i<=l.length->nc u L-> ∀(A:aR) (t:W) (Q:dA->aR->W->Prop),
    A 10=cw s->A 3=lE l->A 21=lE l->A 22=Y l.length->A 23=Y i->my t s o q ps L (hf u L) (g8 u R)->
    (∀ak aI,my aI s o q ps (hC u R ga L).1 (hf u (hC u R ga L).1) (g8 u R)->(ak 8=dm o (hC u R ga L).1.length 1->ak 9=Y ((i+(hC u R ga L).2:Nat):Int)->Q .aF ak aI)/\(i+(hC u R ga L).2=l.length->ak 10=cw s->ak 3=lE l->Q (.a7 0) ak aI))->
    fZ al (.loop HE) A t Q:=by
  intro ga;induction ga with
  | nil=>intro i L aD ai K A t Q hE eL nN um IL ej b2;have gW:l.length<=i:=(by simpa using aD);refine eE (aC:=⟨[IW (g8 u R)],[Gu s o q ps]⟩) λcS bm=> ?_;have c: ¬(i:Int)<l.length:=(by omega);simp(disch:=first|omega|simp only[DI.ae];omega) [HE,Mw,Mx,My,um,IL,c,-O,-U,-N,-S,-List.map_map];exact(b2 _ _ ej).2 (by simp[hC];omega) (by simp[hE]) (by simp[eL])
  | cons x ga cx=>
    intro i L aD ai K A t Q hE eL nN um IL ej b2;have Q0:i<l.length:=by
      rcases Nat.lt_or_ge i l.length with c|c
      · exact c
      · rw[List.drop_eq_nil_of_le c]at aD;cases aD
    have G:l[i]?=some l[i]:=cD Q0;obtain rfl:x=l[i]:=(by have:=congrArg (λk=>k[0]?) aD;simp[G]at this;exact this.symm);have pZ:l.drop (i+1)=ga:=(by have:=congrArg (List.drop 1) aD;simpa using this);refine eE (aC:=⟨[IW (g8 u R)],[Gu s o q ps]⟩) λcS bm=> ?_;have c:(i:Int)<l.length:=(by omega);have cg:=gY (n:=i) (by omega);have CO:my ((t.cf 6).a0 (t.next+3) (some ⟨[Y l[i].nh,Y l[i].lF,Y l[i].dT,Y l[i].hT],true⟩)) s o q ps L (hf u L) (g8 u R):=ej.jx λb hb=>by rw[bR (by omega),e0 hb]
    have qO:=alj CO;have ym:(IW (g8 u R)).fn [ek [dW L,cp (hf u L),cp (g8 u R)] 0,.agg #[Y l[i].nh,Y l[i].lF,Y l[i].dT,Y l[i].hT]]=some (.bool (hk u.aZ.length (hf u L) (g8 u R) L l[i])):=(by have:=aC8 (fz:=g8 u R) (L:=L) (dE:=hf u L) (a:=l[i].nh) (b:=l[i].lF) (c:=l[i].dT) (d:=l[i].hT) ⟨K.1,by rw[N7,Bd];exact ey _⟩;rw[N7]at this;exact this);cases ab:hk u.aZ.length (hf u L) (g8 u R) L l[i]
    · rw[ab]at ym;have aK:=ej.zn;have cc:=a6 aK;simp(disch:=first|omega|simp only[DI.ae];omega) [HE,Mw,Mx,My,hE,nN,um,IL,c,fC,qO,ym,aK,-O,-U,-N,-S,-List.map_map];refine(b2 _ _ ?_).1 ?_ ?_
      · simp only[hC,ab];exact CO.jx λb hb=>rfl
      · simp[hC,ab]
      · simp[hC,ab]
    · rw[ab]at ym;simp(disch:=first|omega|simp only[DI.ae];omega) [HE,Mw,Mx,My,hE,nN,um,IL,c,fC,qO,ym,-O,-U,-N,-S,-List.map_map];obtain⟨bl,f,d,r,aJ,aU,cu,e6,aT,tE,cJ⟩:=UA ab;obtain⟨p,au⟩:=akC (R:=R) ej K e6 aT tE cJ;rw[aJ,aU,cu]at CO⊢;generalize rE:(t.cf 6).a0 (t.next+3) (some ⟨[Y bl,Y f,Y l[i].dT,Y d],true⟩)=ah at CO⊢;refine aEz (CO.jx (aI:=hv ah (ed 9 ah (cw s))) λb hb=>rfl) au ?_;have Ri:=my.step (f:=f) (d:=d) (dT:=l[i].dT) (CO.jx (aI:=hv ah (ed 9 ah (cw s))) λb hb=>rfl) au.e6 au.ab;have eX:l[i].dT<u.aZ.length:=(by have:=au.eX;rw[Bd]at this;exact this);rw[aAj e6 aT tE eX cJ]at Ri;generalize tq (hv ah (ed 9 ah (cw s))) p q bl f d l[i].dT L (hf u L)=fe at Ri⊢;simp(disch:=first|omega|simp only[DI.ae];omega) [IL,cg,-O,-U,-N,-S,-List.map_map];refine bm _ _ (cx (i+1) (lT L bl f d) pZ (by omega) (OA K tE) _ _ _ (by simp[hE]) (by simp[eL]) (by simp[nN]) (by simp[um]) (by simp) Ri λak aI E=> ?_);have wx:hC u R (l[i]::ga) L=((hC u R ga (lT L bl f d)).1,(hC u R ga (lT L bl f d)).2+1):=by
        simp only[hC,ab,if_true,aJ,aU,cu,ot]
      rw[wx]at b2;obtain⟨en,hd⟩:=b2 ak aI E;refine⟨λa b=>en a (by rw[b];congr 1;omega),λa b km=>hd (by omega) b km⟩
noncomputable def Vd(u:bg)(h:eF u):bC al:= .dN 91 (List (List Int)) hu (λL=>[.agg (aL u).toArray,dW L]) (λL=> .bool (kP u L)) λL ck=>aBP h ck
@[simp] theorem aO6{u:bg}{h:eF u}:(Vd u h).f=91:=rfl
@[simp] theorem aO7{u:bg}{h:eF u}{L:List (List Int)}(ck:hu L):(Vd u h).fn [.agg #[Y u.ext,aj (u.cN.map gZ) 4,aj (u.bf.map gE) 4,aj (u.bP.map ez) 7,aj (u.aZ.map gr) 3,aj (u.cK.map e5) 17,aj (u.cm.map hx) 2],aj (L.map fA) 1]=some (.bool (kP u L)):=bC.eh (x:=L) ck λy af=>by simpa using af
noncomputable def Vi(u:bg)(h:eF u):bC al:= .dN 95 (List (List Int)) hu (λL=>[.agg (aL u).toArray,dW L]) (λL=> .bool (kP u L)) λL ck=>aBV h ck
@[simp] theorem aPk{u:bg}{h:eF u}:(Vi u h).f=95:=rfl
@[simp] theorem aPl{u:bg}{h:eF u}{L:List (List Int)}(ck:hu L):(Vi u h).fn [.agg #[Y u.ext,aj (u.cN.map gZ) 4,aj (u.bf.map gE) 4,aj (u.bP.map ez) 7,aj (u.aZ.map gr) 3,aj (u.cK.map e5) 17,aj (u.cm.map hx) 2],aj (L.map fA) 1]=some (.bool (kP u L)):=bC.eh (x:=L) ck λy af=>by simpa using af
theorem aBx{u:bg}(h:eF u){L:List (List Int)}(K:nc u L)(ad:kP u L=true){R:List Int}{l:List h3}(aB:l.length<=1000000):bH al 41 [.agg (aL u).toArray,dW L,cp R,lE l] (.tuple #[dW (hC u R l L).1,Y (hC u R l L).2]):=by
  refine ei (dD (aC:=⟨[Vd u h],[RA u h L K.1 K.2.1 R]⟩) S4 (by kernel_rfl) (by simp[Dv]) ?_);have ck:=K.1;simp(disch:=first|omega|simp only[DI.ae];omega) [Dv,S3,S5,S6,aL,ad,-O,-U,-N,-S,-List.map_map];have ej:my (tg ((g0.cf 3).a0 0 (some ⟨aL u,true⟩)) u L R) 14 16 (16+(L.length+1)) (nY L 16) L (hf u L) (g8 u R):=aj2 (t:=(g0.cf 3).a0 0 (some ⟨aL u,true⟩));simp only[aL]at ej;generalize tg _ u L R=ah at ej⊢;simp(disch:=first|omega|simp only[DI.ae];omega) [S7,-O,-U,-N,-S,-List.map_map];refine aBw h aB l 0 L rfl (ht _) K _ _ _ (by simp) (by simp) (by simp) (by simp) (by simp) ej λak aI E=>⟨λa b=> ?_,λa b c=> ?_⟩
  · have aT:=zY (n:=6) E.lp;simp(disch:=first|omega|simp only[DI.ae];omega) [a,b,aT,-O,-U,-N,-S,-List.map_map]
  · have aT:=zY (n:=6) E.lp;have aK:=E.zn;have bb:(hC u R l L).2=l.length:=(by omega);simp(disch:=first|omega|simp only[DI.ae];omega) [S8,b,c,aK,aT,bb,-O,-U,-N,-S,-List.map_map]
theorem lA.jx{t aI:W}{o:Nat}{ps:List Nat}{L:List (List Int)}(h:lA t o ps L)(aa: ∀b,b<t.next->aI.X b=t.X b):lA aI o ps L:=
  h.b8 (aa o (a6 h.ky)) λp ab=>by obtain⟨j,bj,e⟩:=j4 ab;have oF:j<L.length:=(by rw[<-h.len];exact bj);exact aa p (a6 (h.ct j p _ (by rw[<-e];exact cD bj) (cD oF)))
theorem aCt{u:bg}(h:eF u){R:List Int}{o:Nat}{ps:List Nat}(dk:0≠o/\0∉ps){l:List h3}(aB:l.length<=1000000): ∀(ga:List h3) (i:Nat) (L:List (List Int)),l.drop i=ga->i<=l.length->nc u L-> ∀(A:aR) (t:W) (Q:dA->aR->W->Prop),
    A 10=dm o L.length 1->A 2=cp R->A 3=lE l->A 4=cw 0->A 11=Y i->t.X 0=some ⟨aL u,true⟩->lA t o ps L->
    (∀ak aI,lA aI o ps (hC u R ga L).1->(ak 8=dm o (hC u R ga L).1.length 1->ak 9=Y ((i+(hC u R ga L).2:Nat):Int)->Q .aF ak aI)/\(i+(hC u R ga L).2=l.length->ak 10=dm o (hC u R ga L).1.length 1->ak 3=lE l->Q (.a7 0) ak aI))->
    fZ al (.loop HF) A t Q:=by
  intro ga;induction ga with
  | nil=>intro i L aD ai K A t Q hE eP eL hs q7 aN ej b2;have gW:l.length<=i:=(by simpa using aD);refine eE (aC:=⟨[zg u h R],[]⟩) λcS bm=> ?_;have c: ¬(i:Int)<l.length:=(by omega);simp(disch:=first|omega|simp only[DI.ae];omega) [HF,Mz,eL,q7,c,-O,-U,-N,-S,-List.map_map];exact(b2 _ _ ej).2 (by simp[hC];omega) (by simp[hE,hC]) (by simp[eL])
  | cons x ga cx=>
    intro i L aD ai K A t Q hE eP eL hs q7 aN ej b2;have Q0:i<l.length:=by
      rcases Nat.lt_or_ge i l.length with c|c
      · exact c
      · rw[List.drop_eq_nil_of_le c]at aD;cases aD
    have G:l[i]?=some l[i]:=cD Q0;obtain rfl:x=l[i]:=(by have:=congrArg (λk=>k[0]?) aD;simp[G]at this;exact this.symm);have pZ:l.drop (i+1)=ga:=(by have:=congrArg (List.drop 1) aD;simpa using this);refine eE (aC:=⟨[zg u h R],[]⟩) λcS bm=> ?_;have c:(i:Int)<l.length:=(by omega);have cg:=gY (n:=i) (by omega);have qO:=zY (n:=7) ej;have ck:=K.1;have fl:=a6 aN;cases ab:hk u.aZ.length (hf u L) (g8 u R) L l[i]
    · simp(disch:=first|omega|simp only[DI.ae];omega) [HF,Mz,hE,eP,eL,hs,q7,c,fC,qO,ab,aN,aL,-O,-U,-N,-S,-List.map_map];refine(b2 _ _ ?_).1 ?_ ?_
      · simp only[hC,ab];exact ej.jx λb hb=>rfl
      · simp[hC,ab]
      · simp[hC,ab]
    · obtain⟨bl,f,d,r,aJ,aU,cu,e6,aT,tE,cJ⟩:=UA ab;simp(disch:=first|omega|simp only[DI.ae];omega) [HF,Mz,hE,eP,eL,hs,q7,c,cg,fC,qO,ab,aN,aL,-O,-U,-N,-S,-List.map_map];obtain⟨lG,aJb⟩:=dO.1 e6;have e1:=(dO.1 aT).1;have jH:ps[bl]?=some (ps[bl]'(by rw[ej.len];exact lG)):=cD _;generalize ps[bl]'(by rw[ej.len];exact lG)=p at jH;have jb:=gJ jH;have aE:=ej.ky;have aw:=ej.ct bl p _ jH e6;have cB:=a6 aE;have w8:=a6 aw;have az:List.take 1 (List.drop bl (hA ps L))=[dm p r.length 1]:=vN (by rw[hA,na lG,ur jH e6]);have u2:bl+1<=(hA ps L).length:=(by simp[hA];omega);have nG: ¬p=o:= λe=>ej.hg (e▸jb);rw[aJ,aU,cu];simp(disch:=first|omega|simp only[DI.ae];omega) [aE,aw,az,u2,lG,e1,-O,-U,-N,-S,-List.map_map];have gO:L.getD bl []=r:=(by simp[e6]);have fs:((L.getD bl []).set f (d:Int)).map Y=(r.map Y).set f (Y d):=(by rw[gO,List.map_set]);have alu: ¬0=p:= λe=>dk.2 (e▸jb);refine⟨by omega,bm _ _ (cx (i+1) (lT L bl f d) pZ (by omega) (OA K tE) _ _ _ (by simp[hE,BQ]) (by simp[eP]) (by simp[eL]) (by simp[hs]) (by simp) ?_ ?_ λak aI E=> ?_)⟩
      · rw[bR alu];exact aN
      · refine ej.set lG jH ?_ (λb hb Zc=> ?_) ?_
        · rw[bR (λe=>nG e.symm)];rfl
        · rw[bR Zc];rfl
        · rw[fs];exact eD w8
      · have wx:hC u R (l[i]::ga) L=((hC u R ga (lT L bl f d)).1,(hC u R ga (lT L bl f d)).2+1):=by
          simp only[hC,ab,if_true,aJ,aU,cu,ot]
        rw[wx]at b2;obtain⟨en,hd⟩:=b2 ak aI E;refine⟨λa b=>en a (by rw[b];congr 1;omega),λa b km=>hd (by omega) b km⟩
theorem aCu{u:bg}(h:eF u){L:List (List Int)}(K:nc u L)(ad:kP u L=true){R:List Int}{l:List h3}(aB:l.length<=1000000):bH al 42 [.agg (aL u).toArray,dW L,cp R,lE l] (.tuple #[dW (hC u R l L).1,Y (hC u R l L).2]):=by
  refine ei (dD (aC:=⟨[Vi u h],[K8]⟩) axR (by kernel_rfl) (by simp[S9]) ?_);have ck:=K.1;have ar: ∀t:W,uP L t=some (dm t.next L.length 1,hD t.next (lj L t.next) (t.cf (L.length+1))):= λt=>PO ck K.2.1;simp(disch:=first|omega|simp only[DI.ae];omega) [S9,aeH,aeI,aeJ,aL,ad,ar,-O,-U,-N,-S,-List.map_map];have ej:lA (hD 3 (lj L 3) (((g0.cf 3).a0 0 (some ⟨aL u,true⟩)).cf (L.length+1))) 3 (nY L 3) L:=PQ (t:=(g0.cf 3).a0 0 (some ⟨aL u,true⟩));have aN:(hD 3 (lj L 3) (((g0.cf 3).a0 0 (some ⟨aL u,true⟩)).cf (L.length+1))).X 0=some ⟨aL u,true⟩:=by rw[BC (by omega)];simp(disch:=first|omega|simp only[DI.ae];omega) [-O,-U,-N,-S,-List.map_map]
  have dk:0≠3/\0∉nY L 3:=⟨by decide,λax=>by have:=Fy ax;omega⟩;simp only[aL]at ej aN;generalize hD 3 (lj L 3) _=ah at ej aN⊢;simp(disch:=first|omega|simp only[DI.ae];omega) [aeK,-O,-U,-N,-S,-List.map_map];refine aCt (R:=R) h dk aB l 0 L rfl (ht _) K _ _ _ (by simp) (by simp) (by simp) (by simp) (by simp) aN ej λak aI E=>⟨λa b=> ?_,λa b c=> ?_⟩
  · have aT:=zY (n:=6) E;simp(disch:=first|omega|simp only[DI.ae];omega) [a,b,aT,-O,-U,-N,-S,-List.map_map]
  · have aT:=zY (n:=6) E;have bb:(hC u R l L).2=l.length:=(by omega);simp(disch:=first|omega|simp only[DI.ae];omega) [aeL,b,c,aT,bb,-O,-U,-N,-S,-List.map_map]
theorem aDK{L:List (List Int)}(ck:hu L):bH al 43 [dW L,dW L] (.bool true):=by
  refine ei (dD (aC:=⟨[],[]⟩) axS (by kernel_rfl) (by simp[Ta]) ?_);have eA:=ck.1;simp(disch:=first|omega|simp only[DI.ae];omega) [Ta,aeM,aeN,aeO,-O,-U,-N,-S,-List.map_map];refine h9 (aC:=⟨[],[]⟩) (λi A t=>A 0=dW L/\A 1=dW L/\A 5=Y i) L.length ?_ ?_ 0 _ _ (ht _) ⟨by simp,by simp,by simp⟩
  · rintro i A t ai ⟨cE,ba,cq⟩ cS bm;have G:L[i]?=some L[i]:=cD ai;have u4:L[i].length<=1000:=ck.2 _ (jQ ai);have cg:=gY (n:=i) (by omega);have b6:(i:Int)<L.length:=(by omega);simp(disch:=first|omega|simp only[DI.ae];omega) [Td,MA,MB,MC,cE,ba,cq,b6,fA,-O,-U,-N,-S,-List.map_map];refine h9 (aC:=⟨[],[]⟩) (λk A t=>A 0=dW L/\A 1=dW L/\A 5=Y i/\A 6=Y k) L[i].length ?_ ?_ 0 _ _ (ht _) ⟨by simp[cE],by simp[ba],by simp[cq],by simp⟩
    · rintro k A t aa ⟨cE,ba,cq,ft⟩ ai0 QF;have af:L[i][k]?=some L[i][k]:=cD aa;have c8:=gY (n:=k) (by omega);have a8:(k:Int)<L[i].length:=(by omega);simp(disch:=first|omega|simp only[DI.ae];omega) [Tc,Tb,cE,ba,cq,ft,a8,c8,ai,fA,-O,-U,-N,-S,-List.map_map];exact QF _ _ ⟨by simp[cE],by simp[ba],by simp[cq],by simp⟩
    · rintro A t ⟨cE,ba,cq,ft⟩;simp(disch:=first|omega|simp only[DI.ae];omega) [Tc,Tb,cE,cq,ft,ai,cg,fA,-O,-U,-N,-S,-List.map_map];exact bm _ _ ⟨by simp[cE],by simp[ba],by simp⟩
  · rintro A t ⟨cE,ba,cq⟩;simp(disch:=first|omega|simp only[DI.ae];omega) [Td,MA,MB,MC,MC,MA,MB,cE,cq,-O,-U,-N,-S,-List.map_map]
def EP(x:b1):Bool:=decide (x∈I6)
theorem OX{x:b1}(h:EP x=true):x.c7:=by unfold EP at h;rw[e2]at h;exact h
def T0(x:ik):Bool:=match x.e with
  |[⟨false,[1],[J]⟩]=>decide (2<=J)&&decide (J<200)&&decide (x.s=[⟨false,[1],[1]⟩])&&decide (x.cy=[[⟨false,[],[1]⟩]])
  |_=>false
theorem az1{x:ik}(h:T0 x=true):x.c7:=by
  obtain⟨eO,s,cy,e⟩:=x;unfold T0 at h;split at h
  · rename_i J bn;simp only[a1,e2]at h;exact⟨J,h.1.1.1,h.1.1.2,h.1.2,h.2,bn⟩
  · cases h
def Uy(x:iL):Bool:=x.j2.all EP&&decide (x.j2.length<=20)&&EP x.pE&&EP x.fw&&decide (x.bf.length<=20)
theorem aBA{x:iL}(h:Uy x=true):iL.fO x:=by simp only[Uy,a1,eQ,e2]at h;obtain⟨⟨⟨⟨E,I⟩,av⟩,aH⟩,br⟩:=h;exact⟨⟨λr aw=>OX (E r aw),by omega⟩,OX av,OX aH,by omega⟩
def En(u:bg):Bool:=u.cN.all T0&&(u.bP.all λd=>EP d.oj)&&u.cK.all Uy&&decide (u.cN.length<=100)&&decide (u.bf.length<=100)&&decide (u.bP.length<=100)&&decide (u.aZ.length<=100)&&decide (u.cK.length<=100)&&decide (u.cm.length<=100)
theorem UK{u:bg}(h:En u=true):bg.fO u:=by simp only[En,a1,eQ,e2]at h;obtain⟨⟨⟨⟨⟨⟨⟨⟨E,I⟩,av⟩,aH⟩,br⟩,cW⟩,fu⟩,hK⟩,iZ⟩:=h;exact⟨λx G=>az1 (E x G),λx G=>OX (I x G),λx G=>aBA (av x G),by omega,by omega,by omega,by omega,by omega,by omega⟩
def Uj(T:ByteArray):Bool:=decide (0<T.size/\T.size<=16/\oI (sh T 0)=true/\r3 mj T T.size 0=T.size)
theorem aA3{T:ByteArray}(h:Uj T=true):nH T=true:=Bu (by unfold Uj at h;unfold eO;exact of_decide_eq_true h)
def BZ(l:List ByteArray):Bool:=l.all Uj&&decide l.Nodup
theorem Jf{l:List ByteArray}(h:BZ l=true):er l=true:=by unfold BZ at h;unfold er;simp only[a1,eQ]at h⊢;exact⟨λx G=>aA3 (h.1 x G),h.2⟩
def EN(u:bg):Bool:=dK u.ext 1 4&&(decide (u.cN.length<=4)&&(decide (u.bf.length<=4)&&(decide (u.bP.length<=40)&&(decide (u.aZ.length<=24)&&(decide (u.cK.length<=4)&&(decide (u.cm.length<=12)&&(nZ u.bP&&(u.cN.all ik.mJ&&(u.bf.all (k6 u.cN.length)&&(u.aZ.all (kV u.bf.length u.bP)&&(u.cK.all (iK · u.bf.length)&&(u.cm.all (nS u.cK.length)&&(BZ (u.cN.map (·.name))&&(BZ (u.bf.map (·.name))&&(BZ (u.bP.tail.map (·.name)++u.aZ.map (·.name))&&(BZ (u.cK.map (·.name))&&BZ (u.cm.map (·.name))))))))))))))))))
theorem ain{u:bg}(h:EN u=true):gk u=true:=by unfold EN at h;unfold gk;simp only[a1]at h⊢;obtain⟨bu,bN,cn,eW,fU,h4,j8,lW,uL,JN,ajw,ajx,ajy,lx,nQ,oW,OS,aih⟩:=h;exact⟨bu,bN,cn,eW,fU,h4,j8,lW,uL,JN,ajw,ajx,ajy,Jf lx,Jf nQ,Jf oW,Jf OS,Jf aih⟩
theorem azV{u:bg}(h:En u=true)(ad:EN u=true):bH al 62 [.agg (aL u).toArray] (.int .i64 0):=by have:=V6 (UK h);rw[ain ad]at this;exact this
theorem af9{u:bg}(h:En u=true)(ad:EN u=true):bH al 87 [.agg (aL u).toArray] (.bool true):=by have:=ahA (UK h);rw[ain ad]at this;exact this
theorem D5{n d:Int}{x:b1}(h:lB n d)(G:fx n d=x):bH al 59 [Y n,Y d] (dy x):=by rw[<-G];exact Yk h
def qf:Value:= .agg #[.int .i64 0,.slice none 0 0,.slice none 0 0,.slice none 0 0,.slice none 0 0,.slice none 0 0,.slice none 0 0]
theorem aA1{u:fQ}{M:eM}{args cz:List Value}(h:bo u M (qf::args) cz):bo u M (.agg (aL bg.nil).toArray::args) cz:=by
  refine⟨h.1,λi x y G af=> ?_⟩;cases i with
  |succ i=>exact h.2 (i+1) x y G af
  | zero=>
    simp at G;subst G;have dk:=h.2 0 qf y rfl af;obtain⟨ys,rfl,aB⟩:=dk.rN;have aT:ys.toList=[.int .i64 0,.slice none 0 0,.slice none 0 0,.slice none 0 0,.slice none 0 0,.slice none 0 0,.slice none 0 0]:=by
      have iZ: ∀{xs ys:List Value},bo u M xs ys->xs.all dZ=true->ys=xs:= λ{xs}=>by
        induction xs with
        |nil=>intro ys h _;exact qu.1 h.1.symm
        | cons x xs cx=>
          intro ys h aT;cases ys with
          |nil=>have:=h.1;simp at this
          | cons y ys=>simp only[nm,a1]at aT;have hV:=(h.2 0 x y rfl rfl).h7 aT.1;rw[hV,cx (ys:=ys) ⟨by simpa using h.1,λi a b p q=>h.2 (i+1) a b (by simpa using p) (by simpa using q)⟩ aT.2]
      exact iZ aB (by decide)
    have e:ys= #[.int .i64 0,.slice none 0 0,.slice none 0 0,.slice none 0 0,.slice none 0 0,.slice none 0 0,.slice none 0 0]:=B6.1 aT;subst e;exact bo.agg (bo.cons (.cH rfl) (bo.cons (.hR rfl) (bo.cons (.hR rfl) (bo.cons (.hR rfl) (bo.cons (.hR rfl) (bo.cons (.hR rfl) (bo.cons (.hR rfl) bo.nil)))))))
theorem aEq{f:Nat}{args:List Value}{r:Value}(h:bH al f (.agg (aL bg.nil).toArray::args) r):bH al f (qf::args) r:= λu m cz dx aA=>h u m cz dx (aA1 aA)
theorem aEG:gk bg.nil=false:=by simp[gk,bg.nil,dK]
noncomputable def Vt:bC al:= .dN 62 Unit (λ_=>True) (λ_=>[qf]) (λ_=>Y 1) λ_ _=>aEq (by have:=V6 (UK (u:=bg.nil) (by decide));rw[aEG]at this;exact this)
@[simp] theorem aP5:Vt.f=62:=rfl
@[simp] theorem aP6:Vt.fn [.agg #[.int .i64 0,.slice none 0 0,.slice none 0 0,.slice none 0 0,.slice none 0 0,.slice none 0 0,.slice none 0 0]]=some (Y 1):=bC.eh (x:=()) trivial λ_ _=>rfl
theorem ajz{L:List (List Int)}:bH al 91 [qf,dW L] (.bool false):=by refine ei (dD (aC:=⟨[Vt],[]⟩) TJ (by kernel_rfl) (by simp[DY]) ?_);simp(disch:=first|omega|simp only[DI.ae];omega) [DY,TI,TK,qf,-O,-U,-N,-S,-List.map_map]
noncomputable def UZ:bC al:= .dN 91 (List (List Int)) (λ_=>True) (λL=>[qf,dW L]) (λ_=> .bool false) λ_ _=>ajz
@[simp] theorem aOq:UZ.f=91:=rfl
@[simp] theorem aOr{L:List (List Int)}:UZ.fn [.agg #[.int .i64 0,.slice none 0 0,.slice none 0 0,.slice none 0 0,.slice none 0 0,.slice none 0 0,.slice none 0 0],aj (L.map fA) 1]=some (.bool false):=bC.eh (x:=L) trivial λy af=>by simpa[qf]using af
theorem aBv{L:List (List Int)}{R:List Int}{l:List h3}:bH al 41 [qf,dW L,cp R,lE l] (.tuple #[.slice none 0 0,Y 0]):=by refine ei (dD (aC:=⟨[UZ],[]⟩) S4 (by kernel_rfl) (by simp[Dv]) ?_);simp(disch:=first|omega|simp only[DI.ae];omega) [Dv,S3,S5,S6,S7,S8,qf,-O,-U,-N,-S,-List.map_map]
abbrev V5(u:bg)(L:List (List Int))(R:List Int):Value:= .agg (aL u++[dW L,cp R]).toArray
theorem Qi{t:W}{o:Nat}{ps:List Nat}{L:List (List Int)}(h:lA t o ps L):DI.dI 9 t (dm o L.length 1)=some (dW L):=zY (n:=7) h
theorem VO{bV:List h3}:(bV.map fC).flatten.length=bV.length*4:=by rw[sq (J:=4) λr aw=>by obtain⟨x,_,rfl⟩:=hn.1 aw;rfl,j5]
theorem ahK{bV:List h3}{x:h3}:((bV++[x]).map fC).flatten=(bV.map fC).flatten++fC x:=by simp
theorem lA.cV{t:W}{o p:Nat}{ps:List Nat}{L:List (List Int)}(h:lA t o ps L)(ab:p∈ps):p<t.next:=by
  obtain⟨j,bj,e⟩:=j4 ab;have oF:j<L.length:=by rw[<-h.len];exact bj
  exact a6 (h.ct j p _ (by rw[<-e];exact cD bj) (cD oF))
structure Po(l:List Int)(u:bg)(v5:List (List Int))(R:List Int)(o hB:Nat)(ps:List Nat)(L:List (List Int))(bV:List h3)(i:Nat)(A:aR)(t:W):Prop where
  cE:A 0=cw 0
  hs:A 4=cw 1
  fa:A 7=dm o L.length 1
  b9:A 8=dm hB bV.length 4
  aN:t.X 0=some ⟨[cp l,Y i],true⟩
  aK:t.X 1=some ⟨aL u++[dW v5,cp R],true⟩
  lp:lA t o ps L
  n0:t.X hB=some ⟨(bV.map fC).flatten,true⟩
  d:0≠o/\1≠o/\hB≠0/\hB≠1/\hB≠o/\0∉ps/\1∉ps/\hB∉ps
theorem aDP{l:List Int}(aB:l.length<=140737488355328){u:bg}(h:eF u){v5:List (List Int)}{R:List Int}{L:List (List Int)}{bV:List h3}{i bl f d:Nat}{dT:Int}{r:List Int}(K:nc u L)(aw:L[bl]?=some r)(KU:r[f]?=some dT)(tE:d<u.aZ.length)(ai:i+100<1000000)(pd:bV.length<=1000):
    ∃ (E4:List (List Int)) (mb:List h3) (ks:Nat),nc u E4/\E4.length=L.length/\mb.length<=bV.length+1/\ks<=i+1/\ ∀(o hB q:Nat) (ps:List Nat) (A:aR) (t:W) (aW:dA->aR->W->Prop),Po l u v5 R o hB ps L bV i A t->A 10=cw q->t.X q=some ⟨[Y bl,Y f,Y dT,Y d],true⟩->q≠0/\q≠1/\q≠o/\q≠hB/\q∉ps->
      (∀e ak aI rW,e= .ew\/e= .a7 1->Po l u v5 R o rW ps E4 mb ks ak aI->ak 2=A 2->ak 9=A 9->aW e ak aI)->DI.jn (P:=al) ⟨[zg u h R],[iQ]⟩ Du A t aW:=by
  have lG:=(dO.1 aw).1;have e1:=(dO.1 KU).1;have ck:=K.1;cases ab:hk u.aZ.length (hf u L) (g8 u R) L ⟨bl,f,dT,d⟩
  case true=>
    refine⟨lT L bl f d,bV++[⟨bl,f,dT,d⟩],i,OA K tE,BQ,by simp,by omega,λo hB q ps A t aW kZ hE mg ⟨b6,a8,bE,b7,eH⟩ dU=> ?_⟩;obtain⟨cE,hs,fa,b9,aN,aK,ej,n0,g5,gN,jo,tm,tn,qH,tp,qI⟩:=kZ;have qO:=Qi ej;have fl:=a6 aN;have gu:=a6 aK;have bU:=ej.ky;have cB:=a6 bU;have T4:=a6 n0;have NF:=a6 mg;have z8:bl<ps.length:=(by rw[ej.len];exact lG);have jH:ps[bl]?=some ps[bl]:=cD z8;generalize ps[bl]=p at jH;have jb:=gJ jH;have hW:=ej.ct bl p _ jH aw;have w8:=a6 hW;have jf:List.take 1 (List.drop bl (hA ps L))=[dm p r.length 1]:=vN (by rw[hA,na lG,ur jH aw]);have u2:bl+1<=(hA ps L).length:=(by simp[hA];omega);have hV: ¬p=0:= λe=>qH (e▸jb);have aJ: ¬p=1:= λe=>tp (e▸jb);have aU: ¬p=hB:= λe=>qI (e▸jb);have cu: ¬p=o:= λe=>ej.hg (e▸jb);have gO: ¬p=q:= λe=>eH (e▸jb);have lD: ¬q=p:= λe=>eH (e▸jb);have ka: ¬hB=p:= λe=>qI (e▸jb);have fp:=VO (bV:=bV);have As:List.take (bV.length*4) (bV.map fC).flatten=(bV.map fC).flatten:=jT (by omega);simp(disch:=first|omega|simp only[DI.ae];omega) [Du,hs,fa,b9,hE,aK,mg,bU,hW,n0,aL,qO,ab,jf,u2,lG,e1,fp,As,-O,-U,-N,-S,-List.map_map];have qJ: ¬0=p:= λe=>hV e.symm;have Ko: ¬1=p:= λe=>aJ e.symm;have aJa: ¬o=p:= λe=>cu e.symm;have cy:((L.getD bl []).set f (d:Int)).map Y=(r.map Y).set f (Y d):=by have e:L.getD bl []=r:=(by simp[aw]);rw[e,List.map_set]
    refine⟨by omega,by omega,dU _ _ _ (t.next+3) (.inl rfl) ⟨by simp[cE],by simp[hs],by simp[fa,BQ],by simp,?_,?_,ej.set lG jH ?_ (λb hb cJ=> ?_) ?_,?_,g5,gN,by omega,by omega,by omega,qH,tp,λax=> ?_⟩ (by simp) (by simp)⟩
    · simp(disch:=first|omega|simp only[DI.ae];omega) [aN,-O,-U,-N,-S,-List.map_map]
    · simp(disch:=first|omega|simp only[DI.ae];omega) [aK,aL,-O,-U,-N,-S,-List.map_map]
    · simp(disch:=first|omega|simp only[DI.ae];omega) [-O,-U,-N,-S,-List.map_map]
    · have Nz:=ej.cV hb;have Bq: ¬b=hB:= λe=>qI (e▸hb);simp(disch:=first|omega|simp only[DI.ae];omega) [-O,-U,-N,-S,-List.map_map]
    · rw[cy];simp(disch:=first|omega|simp only[DI.ae];omega) [-O,-U,-N,-S,-List.map_map]
    · rw[ahK];simp(disch:=first|omega|simp only[DI.ae];omega) [fC,-O,-U,-N,-S,-List.map_map]
    · have:=ej.cV ax;omega
  case false=>
    have K5:=j0 (l:=l) (i:=i) (n:=3) (by decide);by_cases a3:eU l i 3>0
    · refine⟨L,bV,i+1,K,rfl,by omega,by omega,λo hB q ps A t aW kZ hE mg ⟨b6,a8,bE,b7,eH⟩ dU=> ?_⟩;obtain⟨cE,hs,fa,b9,aN,aK,ej,n0,g5,gN,jo,tm,tn,qH,tp,qI⟩:=kZ;have qO:=Qi ej;have fl:=a6 aN;have gu:=a6 aK;have bU:=ej.ky;have cB:=a6 bU;have T4:=a6 n0;have NF:=a6 mg;have z8:bl<ps.length:=(by rw[ej.len];exact lG);have jH:ps[bl]?=some ps[bl]:=cD z8;generalize ps[bl]=p at jH;have jb:=gJ jH;have hW:=ej.ct bl p _ jH aw;have w8:=a6 hW;have jf:List.take 1 (List.drop bl (hA ps L))=[dm p r.length 1]:=vN (by rw[hA,na lG,ur jH aw]);have u2:bl+1<=(hA ps L).length:=(by simp[hA];omega);have hV: ¬p=0:= λe=>qH (e▸jb);have aJ: ¬p=1:= λe=>tp (e▸jb);have aU: ¬p=hB:= λe=>qI (e▸jb);have cu: ¬p=o:= λe=>ej.hg (e▸jb);have gO: ¬p=q:= λe=>eH (e▸jb);have lD: ¬q=p:= λe=>eH (e▸jb);have ka: ¬hB=p:= λe=>qI (e▸jb);have fp:=VO (bV:=bV);have As:List.take (bV.length*4) (bV.map fC).flatten=(bV.map fC).flatten:=jT (by omega);simp(disch:=first|omega|simp only[DI.ae];omega) [Du,cE,hs,fa,hE,aN,aK,mg,aL,qO,ab,kO,a3,-O,-U,-N,-S,-List.map_map];have dj: ¬o=0:= λe=>g5 e.symm;refine dU _ _ _ hB (.inr rfl) ⟨by simp[cE],by simp[hs],by simp[fa],by simp[b9],?_,?_,ej.b8 ?_ (λb hb=> ?_),?_,g5,gN,jo,tm,tn,qH,tp,qI⟩ (by simp) (by simp)
      · simp(disch:=first|omega|simp only[DI.ae];omega) [-O,-U,-N,-S,-List.map_map]
      · simp(disch:=first|omega|simp only[DI.ae];omega) [aK,aL,-O,-U,-N,-S,-List.map_map]
      · simp(disch:=first|omega|simp only[DI.ae];omega) [-O,-U,-N,-S,-List.map_map]
      · have Bq: ¬b=0:= λe=>qH (e▸hb);simp(disch:=first|omega|simp only[DI.ae];omega) [-O,-U,-N,-S,-List.map_map]
      · simp(disch:=first|omega|simp only[DI.ae];omega) [n0,-O,-U,-N,-S,-List.map_map]
    · refine⟨L,bV++[⟨bl,f,dT,d⟩],i+1,K,rfl,by simp,by omega,λo hB q ps A t aW kZ hE mg ⟨b6,a8,bE,b7,eH⟩ dU=> ?_⟩;obtain⟨cE,hs,fa,b9,aN,aK,ej,n0,g5,gN,jo,tm,tn,qH,tp,qI⟩:=kZ;have qO:=Qi ej;have fl:=a6 aN;have gu:=a6 aK;have bU:=ej.ky;have cB:=a6 bU;have T4:=a6 n0;have NF:=a6 mg;have z8:bl<ps.length:=(by rw[ej.len];exact lG);have jH:ps[bl]?=some ps[bl]:=cD z8;generalize ps[bl]=p at jH;have jb:=gJ jH;have hW:=ej.ct bl p _ jH aw;have w8:=a6 hW;have jf:List.take 1 (List.drop bl (hA ps L))=[dm p r.length 1]:=vN (by rw[hA,na lG,ur jH aw]);have u2:bl+1<=(hA ps L).length:=(by simp[hA];omega);have hV: ¬p=0:= λe=>qH (e▸jb);have aJ: ¬p=1:= λe=>tp (e▸jb);have aU: ¬p=hB:= λe=>qI (e▸jb);have cu: ¬p=o:= λe=>ej.hg (e▸jb);have gO: ¬p=q:= λe=>eH (e▸jb);have lD: ¬q=p:= λe=>eH (e▸jb);have ka: ¬hB=p:= λe=>qI (e▸jb);have fp:=VO (bV:=bV);have As:List.take (bV.length*4) (bV.map fC).flatten=(bV.map fC).flatten:=jT (by omega);simp(disch:=first|omega|simp only[DI.ae];omega) [Du,cE,hs,fa,b9,hE,aN,aK,mg,n0,aL,qO,ab,fp,As,kO,a3,-O,-U,-N,-S,-List.map_map];have dj: ¬o=0:= λe=>g5 e.symm;have dw: ¬o=hB:= λe=>tn e.symm;refine⟨by omega,dU _ _ _ (t.next+3) (.inl rfl) ⟨by simp[cE],by simp[hs],by simp[fa],by simp,?_,?_,ej.b8 ?_ (λb hb=> ?_),?_,g5,gN,by omega,by omega,by omega,qH,tp,λax=> ?_⟩ (by simp) (by simp)⟩
      · simp(disch:=first|omega|simp only[DI.ae];omega) [-O,-U,-N,-S,-List.map_map]
      · simp(disch:=first|omega|simp only[DI.ae];omega) [aK,aL,-O,-U,-N,-S,-List.map_map]
      · simp(disch:=first|omega|simp only[DI.ae];omega) [-O,-U,-N,-S,-List.map_map]
      · have Nz:=ej.cV hb;have Bq: ¬b=0:= λe=>qH (e▸hb);have aMJ: ¬b=hB:= λe=>qI (e▸hb);simp(disch:=first|omega|simp only[DI.ae];omega) [-O,-U,-N,-S,-List.map_map]
      · rw[ahK];simp(disch:=first|omega|simp only[DI.ae];omega) [fC,-O,-U,-N,-S,-List.map_map]
      · have:=ej.cV ax;omega
theorem aDQ{l:List Int}(aB:l.length<=140737488355328){u:bg}(h:eF u)(k1:1<=u.aZ.length){v5:List (List Int)}{R:List Int}{n:Nat}(az:n<=100): ∀(k j:Nat) (L:List (List Int)) (bV:List h3) (i:Nat),j+k=n->nc u L->1<=L.length->i+4*k+100<1000000->bV.length+k<=1000->
    ∃ (jC:List h3) (cU:Nat),jC.length<=bV.length+k/\cU<=i+4*k/\ ∀(o hB:Nat) (ps:List Nat) (A:aR) (t:W) (Q:dA->aR->W->Prop),Po l u v5 R o hB ps L bV i A t->A 2=Y n->A 9=Y j->
      (∀ak aI rW,ak 8=dm rW jC.length 4->aI.X 0=some ⟨[cp l,Y cU],true⟩->aI.X rW=some ⟨(jC.map fC).flatten,true⟩->rW≠0->Q (.a7 0) ak aI)->fZ al (.loop Mv) A t Q:=by
  have aKj:=h.ok.pr;intro k;induction k with
  | zero=>intro j L bV i bj K alC ai pd;refine⟨bV,i,by omega,by omega,λo hB ps A t Q kZ eP gT b2=> ?_⟩;refine eE (aC:=⟨[zg u h R],[iQ]⟩) λcS bm=> ?_;have c: ¬(j:Int)<n:=(by omega);simp(disch:=first|omega|simp only[DI.ae];omega) [Mv,SZ,S0,S1,S2,Du,eP,gT,c,-O,-U,-N,-S,-List.map_map];exact b2 _ _ hB (by simp[kZ.b9]) kZ.aN kZ.n0 kZ.d.2.2.1
  | succ k cx=>
    intro j L bV i bj K alC ai pd;have alH:=j0 (l:=l) (i:=i) (n:=(L.length:Int)) (by omega);obtain⟨bl,e6⟩: ∃bl:Nat,eU l i L.length=bl:=⟨(eU l i L.length).toNat,by omega⟩;rw[e6]at alH;have lG:bl<L.length:=(by omega);obtain⟨r,aw⟩:=kp lG;have p7:1<=r.length:=K.2.1 r (gJ aw);have u4:r.length<=1000:=K.1.2 r (gJ aw);have aJV:L.length<=1000:=K.1.1;have alY:=j0 (l:=l) (i:=i+1) (n:=(r.length:Int)) (by omega);obtain⟨f,aT⟩: ∃f:Nat,eU l (i+1) r.length=f:=⟨(eU l (i+1) r.length).toNat,by omega⟩;rw[aT]at alY;have e1:f<r.length:=(by omega);obtain⟨dT,KU⟩:=kp e1;have af:List.take 1 (List.drop f (r.map Y))=[Y dT]:=vN (by simp[KU]);have QV:f+1<=r.length:=e1;have EJ:((i:Int)+1+1).toNat=i+2:=(by omega);have VX:((i:Int)+1+1+1).toNat=i+3:=(by omega);have QR:=j0 (l:=l) (i:=i+2) (n:=(u.aZ.length:Int)) (by omega);obtain⟨d,aD⟩: ∃d:Nat,eU l (i+2) u.aZ.length=d:=⟨(eU l (i+2) u.aZ.length).toNat,by omega⟩;rw[aD]at QR;have tE:d<u.aZ.length:=(by omega);obtain⟨E4,mb,ks,dd,ee,gm,gq,lf⟩:=aDP (l:=l) aB h (v5:=v5) (R:=R) (bV:=bV) (i:=i+3) K aw KU tE (by omega) (by omega);obtain⟨jC,cU,bu,bN,cn⟩:=cx (j+1) E4 mb ks (by omega) dd (by omega) (by omega) (by omega);refine⟨jC,cU,by omega,by omega,λo hB ps A t Q kZ eP gT b2=> ?_⟩;obtain⟨cE,hs,fa,b9,aN,aK,ej,n0,g5,gN,jo,tm,tn,qH,tp,qI⟩:=kZ;refine eE (aC:=⟨[zg u h R],[iQ]⟩) λcS bm=> ?_;have c:(j:Int)<n:=(by omega);have fl:=a6 aN;have gu:=a6 aK;have bU:=ej.ky;have cB:=a6 bU;have T4:=a6 n0;have z8:bl<ps.length:=(by rw[ej.len];exact lG);have jH:ps[bl]?=some ps[bl]:=cD z8;generalize ps[bl]=p at jH;have jb:=gJ jH;have hW:=ej.ct bl p _ jH aw;have w8:=a6 hW;have jf:List.take 1 (List.drop bl (hA ps L))=[dm p r.length 1]:=vN (by rw[hA,na lG,ur jH aw]);have u2:bl+1<=(hA ps L).length:=(by simp[hA];omega);have hV: ¬p=0:= λe=>qH (e▸jb);have aJ: ¬p=1:= λe=>tp (e▸jb);have aU: ¬p=hB:= λe=>qI (e▸jb);have cu: ¬p=o:= λe=>ej.hg (e▸jb);have gO: ¬o=0:= λe=>g5 e.symm;have lD: ¬o=1:= λe=>gN e.symm;have cg:=gY (n:=j) (by omega);simp(disch:=first|omega|simp only[DI.ae];omega) [Mv,SZ,S0,S1,S2,cE,eP,hs,fa,gT,c,aN,aK,bU,hW,kO,e6,aT,aD,jf,u2,af,QV,lG,e1,EJ,aL,-O,-U,-N,-S,-List.map_map];refine lf o hB (t.next+5) ps _ _ _ ⟨by simp[cE],by simp[hs],by simp[fa],by simp[b9],?_,?_,ej.b8 ?_ (λb hb=> ?_),?_,g5,gN,jo,tm,tn,qH,tp,qI⟩ (by simp) ?_ ⟨by omega,by omega,by omega,by omega,λax=>by have:=ej.cV ax;omega⟩ λe ak aI rW bn n1 bE aBS=> ?_
    · simp(disch:=first|omega|simp only[DI.ae];omega) [-O,-U,-N,-S,-List.map_map];omega
    · simp(disch:=first|omega|simp only[DI.ae];omega) [aK,aL,-O,-U,-N,-S,-List.map_map]
    · simp(disch:=first|omega|simp only[DI.ae];omega) [-O,-U,-N,-S,-List.map_map]
    · have Nz:=ej.cV hb;have Bq: ¬b=0:= λe=>qH (e▸hb);simp(disch:=first|omega|simp only[DI.ae];omega) [-O,-U,-N,-S,-List.map_map]
    · simp(disch:=first|omega|simp only[DI.ae];omega) [n0,-O,-U,-N,-S,-List.map_map]
    · simp(disch:=first|omega|simp only[DI.ae];omega) [-O,-U,-N,-S,-List.map_map]
    have ahh:ak 9=Y j:=(by rw[aBS];simp[gT]);have ahg:ak 2=Y n:=(by rw[bE];simp[eP]);rcases bn with rfl|rfl
    · simp(disch:=first|omega|simp only[DI.ae];omega) [ahh,cg,-O,-U,-N,-S,-List.map_map];refine bm _ _ (cn o rW ps _ _ _ ⟨by simp[n1.cE],by simp[n1.hs],by simp[n1.fa],by simp[n1.b9],n1.aN,n1.aK,n1.lp,n1.n0,n1.d⟩ (by simp[ahg]) (by simp) b2)
    · simp(disch:=first|omega|simp only[DI.ae];omega) [ahh,cg,-O,-U,-N,-S,-List.map_map];refine bm _ _ (cn o rW ps _ _ _ ⟨by simp[n1.cE],by simp[n1.hs],by simp[n1.fa],by simp[n1.b9],n1.aN,n1.aK,n1.lp,n1.n0,n1.d⟩ (by simp[ahg]) (by simp) b2)
theorem aDS{l:List Int}(aB:l.length<=140737488355328){i:Nat}(ai:i<600000){u:bg}(h:eF u)(k1:1<=u.aZ.length){L:List (List Int)}(K:nc u L)(QG:1<=L.length){R:List Int}{n:Nat}(az:n<=100): ∃bV cU,bV.length<=n/\cU<=i+4*n/\fi al 40 [cw 0,V5 u L R,Y n] (mo l i) λv aI=>DI.dI 9 aI v=some (lE bV)/\aI.X 0=some ⟨[cp l,Y cU],true⟩/\0∉ed 9 aI v:=by
  obtain⟨bV,cU,bu,bN,cn⟩:=aDQ (l:=l) aB h k1 (v5:=L) (R:=R) az n 0 L [] i (by omega) K QG (by omega) (by simp;omega);refine⟨bV,cU,by simpa using bu,by omega,?_⟩;refine dD (aC:=⟨[zg u h R],[K8,iQ]⟩) axQ (by kernel_rfl) (by simp[SY]) ?_;have ck:=K.1;have ar: ∀t:W,uP L t=some (dm t.next L.length 1,hD t.next (lj L t.next) (t.cf (L.length+1))):= λt=>PO K.1 K.2.1;simp(disch:=first|omega|simp only[DI.ae];omega) [SY,aeC,aeD,aeE,aeF,mo,ar,aL,-O,-U,-N,-S,-List.map_map];have ej:lA (hD 3 (lj L 3) (((((g0.cf 1).a0 0 (some ⟨[cp l,Y i],true⟩)).cf 2).a0 1 (some ⟨aL u++[dW L,cp R],true⟩)).cf (L.length+1))) 3 (nY L 3) L:=PQ (t:=(((g0.cf 1).a0 0 (some ⟨[cp l,Y i],true⟩)).cf 2).a0 1 (some ⟨aL u++[dW L,cp R],true⟩));have aN:(hD 3 (lj L 3) (((((g0.cf 1).a0 0 (some ⟨[cp l,Y i],true⟩)).cf 2).a0 1 (some ⟨aL u++[dW L,cp R],true⟩)).cf (L.length+1))).X 0=some ⟨[cp l,Y i],true⟩:=by rw[BC (by omega)];simp(disch:=first|omega|simp only[DI.ae];omega) [-O,-U,-N,-S,-List.map_map]
  have aK:(hD 3 (lj L 3) (((((g0.cf 1).a0 0 (some ⟨[cp l,Y i],true⟩)).cf 2).a0 1 (some ⟨aL u++[dW L,cp R],true⟩)).cf (L.length+1))).X 1=some ⟨aL u++[dW L,cp R],true⟩:=by rw[BC (by omega)];simp(disch:=first|omega|simp only[DI.ae];omega) [-O,-U,-N,-S,-List.map_map]
  simp only[aL,xK,uH]at ej aN aK;generalize hD 3 (lj L 3) _=ah at ej aN aK⊢;have ab: ∀p,p∈nY L 3->3<p:= λp ab=>(Fy ab).1;have fl:=a6 aN;have gu:=a6 aK;have TZ:=a6 ej.ky;refine ES (d:=8) (J:=4) (by simp) ?_;refine cn 3 ah.next (nY L 3) _ _ _ ⟨by simp,by simp,by simp,by simp,?_,?_,ej.jx λb hb=> ?_,?_,by decide,by decide,by omega,by omega,by omega,λax=> ?_,λax=> ?_,λax=> ?_⟩ (by simp) (by simp) λak aI rW b9 KC YD hS=> ?_
  · simp(disch:=first|omega|simp only[DI.ae];omega) [aN,-O,-U,-N,-S,-List.map_map]
  · simp(disch:=first|omega|simp only[DI.ae];omega) [aK,aL,-O,-U,-N,-S,-List.map_map]
  · rw[bR (by omega),e0 hb]
  · simp(disch:=first|omega|simp only[DI.ae];omega) [-O,-U,-N,-S,-List.map_map]
  · have:=ab _ ax;omega
  · have:=ab _ ax;omega
  · have:=ej.cV ax;omega
  have YN: ∀r∈bV.map fC,r.length=4/\ ∀v∈r,ha v=true:= λr aw=>by obtain⟨x,_,rfl⟩:=hn.1 aw;exact⟨rfl,λv ad=>by simp[fC]at ad;rcases ad with rfl|rfl|rfl|rfl<;>rfl⟩
  simp(disch:=first|omega|simp only[DI.ae];omega) [aeG,b9,-O,-U,-N,-S,-List.map_map];exact⟨ss (n:=8) YD (by simp) YN,KC,IE YD YN hS⟩
theorem aDR{l:List Int}(aB:l.length<=140737488355328){i:Nat}(ai:i<600000){u:bg}(h:eF u)(k1:1<=u.aZ.length){L:List (List Int)}(K:nc u L)(QG:1<=L.length){R:List Int}{n:Nat}(az:n<=100): ∃bV cU,bV.length<=n/\cU<=i+4*n/\ ∀(t:W) (o:Nat),t.X o=some ⟨[cp l,Y i],true⟩->fi al 40 [cw o,V5 u L R,Y n] t λv aI=>v=lE bV/\aI=t.a0 o (some ⟨[cp l,Y cU],true⟩):=by obtain⟨bV,cU,a,b,c⟩:=aDS aB ai h k1 K QG (R:=R) az;exact⟨bV,cU,a,b,λt o aE=>O3 (by simp) (by simp) zq zq (λv ad=>by simp at ad;rcases ad with rfl|rfl<;>rfl) c aE⟩
open Go Go.DI
def ayT:H:= .B (.D [z 0 51 13,z 1 52 51,dg 2 53 52 12,eB 3 54 52 1 7,dQ 4 55 52 54,cQ 5 56 52 true (.e8 .eql .fW (F 53) (F 55)),cR 6 57 52 56,z 7 58 57,kJ 8 59 58 4 9,dg 9 60 58 1,dg 11 62 58 11,eB 12 63 58 2 7,dQ 13 64 58 63,⟨10,some 61,some (58,true),.dY 157 [F 60],[(F 63,F 63),(F 9,F 9)]⟩,cQ 14 65 58 true (.dY 156 [F 59,F 61,F 62,F 64]),cR 15 66 58 65,z 16 8 66]) (.aF)
def ayS:H:= .B (.D [bL 0 46 4 9,z 1 47 11,db 2 48 155 46 47,z 3 45 48,b3 4 49 0 45,b3 5 50 1 45,z 6 12 49,z 7 13 50]) ayT
def ayR:H:= .B (.D [bL 0 40 7 4,bL 1 41 4 9,ay 2 42 0 7,ao 3 43 42,b0 4 44 154 [F 40,F 41,F 43],z 5 11 44]) ayS
def ayQ:H:= .B (.B (.D [z 0 21 10,tU 1 22 21,z 2 23 22,mI 3 24 23 7 4,eg 4 25 23 0 7,dM 5 26 23 25,du 6 27 23 2,cQ 7 28 23 false (.dY 153 [F 24,F 26,F 27]),jh 8 29 23 28,c6 9 30 23 29,z 10 31 30,eg 11 32 31 1 7,dM 12 33 31 32,du 13 34 31 1,eg 14 35 31 0 7,dM 15 36 31 35,⟨16,some 37,some (31,false),.dY 99 [F 34,F 36],[(F 32,F 32)]⟩,qW 17 38 31 33 37,c6 18 39 31 38]) (.aM (F 39) (.B (.D [cr 0 8 false]) (.aF)) (.skip))) ayR
def ayP:H:= .B (.D [bL 0 15 7 4,z 1 16 1,z 2 17 2,b0 3 18 152 [F 15,F 16,F 17],z 4 14 18,b3 5 19 0 14,b3 6 20 1 14,a4 7 9 (.c9 [aG,aG,aG,aX]),bz 8 4 9 19,z 9 10 20]) ayQ
def ayN:H:=
  .B (
  .D [
 dJ 0 4 0,
 dJ 1 7 3,
 cr 2 8 false]) ayP
def afN:bM:=⟨67,[.bw 8],ayN⟩
theorem ayO:bW al 98=some afN:=by kernel_rfl
def ayX:H:= .B (.D [z 0 37 0,z 1 38 6,aY 2 39 1 37 38,ao 3 40 39,z 4 41 7,aY 5 42 1 40 41,ao 6 43 42,z 7 44 1,z 8 45 6,aY 9 46 1 44 45,ao 10 47 46,z 11 48 7,aY 12 49 1 47 48,ao 13 50 49,nF 14 51 43 50]) (.aM (F 51) (.D [z 0 52 5,cI 1 53 52,z 2 5 53]) (.skip))
def ay6:H:= .B (.block 3 (.B (.D [z 0 36 34,z 1 7 36]) ayX)) (.D [cI 0 54 34,z 1 34 54])
def ay5:H:= .B (.aM (F 35) (.skip) (.a7 2)) ay6
def ay7:H:= .B (.D [cY 0 35 34 33]) ay5
def ay4:H:= .B (.D [z 0 29 0,z 1 30 6,aY 2 31 1 29 30,ao 3 32 31,bq 4 33 32,a5 5 34 0]) (.block 2 (.loop ay7))
def ay3:H:= .B (.B (.D [z 0 18 0,z 1 19 6,aY 2 20 1 18 19,ao 3 21 20,bq 4 22 21,z 5 23 1,z 6 24 6,aY 7 25 1 23 24,ao 8 26 25,bq 9 27 26,nF 10 28 22 27]) (.aM (F 28) (.B (.D [a5 0 4 (-1)]) (.aF)) (.skip))) ay4
def ay2:H:= .B (.block 1 (.B (.D [z 0 17 15,z 1 6 17]) ay3)) (.D [cI 0 55 15,z 1 15 55])
def ay1:H:= .B (.aM (F 16) (.skip) (.a7 0)) ay2
def ay8:H:= .B (.D [cY 0 16 15 14]) ay1
def ayY:H:= .B (.D [z 0 56 5,z 1 4 56]) (.aF)
def ay0:H:= .B (.B (.D [z 0 13 0,bq 1 14 13,a5 2 15 0]) (.block 0 (.loop ay8))) ayY
def ayZ:H:= .B (.D [a5 0 5 0]) ay0
def ayW:H:= .B (.B (.D [z 0 8 0,bq 1 9 8,z 2 10 1,bq 3 11 10,nF 4 12 9 11]) (.aM (F 12) (.B (.D [a5 0 4 (-1)]) (.aF)) (.skip))) ayZ
def ayU:H:=
  .B (
  .D [
 a5 0 4 0]) ayW
def afO:bM:=⟨57,[.bw 4],ayU⟩
theorem ayV:bW al 99=some afO:=by kernel_rfl
def aos:H:= .B (.D [z 0 67 17,lL 1 68 67 0,z 2 69 68,dg 3 70 69 10,dg 4 71 69 15,ml 5 72 69 1 70 71,dQ 6 73 69 72,yW 7 74 69 73,cR 8 75 69 74]) (.aM (F 75) (.D [z 0 76 14,bL 1 77 2 13,ay 2 78 0 16,ao 3 79 78,z 5 81 14,bL 6 82 2 13,ay 7 83 0 16,ao 8 84 83,z 12 88 17,iS 4 80 (.dY 203 [F 77,F 79]) [(F 83,F 83),(F 13,F 13)],db 9 85 203 82 84,aY 10 86 1 81 85,ao 11 87 86,vl 13 89 88,iC 14 90 1 8 87 89,aY 15 91 1 76 80,bz 16 1 91 90]) (.skip))
def aor:H:= .B (.D [bL 0 63 2 13,ay 1 64 1 16,ao 2 65 64,db 3 66 202 63 65,z 4 17 66]) aos
def aoG:H:= .B (.block 1 (.B (.D [z 0 60 58,aY 1 61 4 56 58,bL 2 62 4 61,a4 3 16 (.c9 [aG,aG,aG,aG]),z 4 15 60,bz 5 4 16 62]) aor)) (.D [cI 0 92 58,z 1 58 92])
def aoF:H:= .B (.aM (F 59) (.skip) (.a7 0)) aoG
def aoH:H:= .B (.D [cY 0 59 58 57]) aoF
def aow:H:= .B (.block 3 (.B (.D [z 0 99 97,aY 1 100 1 95 97,ao 2 101 100,z 3 19 99,z 4 20 101]) (.D [ay 0 102 0 18,ao 1 103 102,z 2 104 20,z 3 105 14,z 4 106 19,aY 5 107 1 105 106,ao 6 108 107,iS 7 109 (.dY 204 [F 104,F 108]) [(F 102,F 102)],A0 8 110 109,iC 9 111 1 24 103 110,ay 10 112 0 18,bz 11 1 112 111]))) (.D [cI 0 113 97,z 1 97 113])
def aov:H:= .B (.aM (F 98) (.skip) (.a7 2)) aow
def aoI:H:= .B (.D [cY 0 98 97 96]) aov
def aoy:H:= .B (.D [bL 0 119 3 18,bz 1 3 6 119,a5 2 7 0]) (.aF)
def aox:H:= .B (.D [z 0 114 1,ay 1 115 0 18,ao 2 116 115,db 3 117 99 114 116,ay 4 118 1 18,bz 5 1 118 117]) aoy
def aou:H:= .B (.B (.D [z 0 95 1,bq 1 96 95,a5 2 97 0]) (.block 2 (.loop aoI))) aox
def aot:H:= .B (.D [z 0 93 12,a4 1 94 (.fF [aX,aG,aX] [(2,1,F 93)]),a4 2 18 (.c9 [aX,aG,aX]),bz 3 3 18 94]) aou
def aoE:H:= .B (.B (.D [ay 0 55 3 8,ao 1 56 55,bq 2 57 56,a5 3 58 0]) (.block 0 (.loop aoH))) aot
def aoD:H:= .B (.D [z 0 52 1,bq 1 53 52,a4 2 54 (.kN 1 24 [aX] (F 53) (F 53)),z 3 14 54]) aoE
def aoC:H:= .B (.D [ay 0 45 6 3,ao 1 46 45,bq 2 47 46,ay 3 48 3 3,ao 4 49 48,bq 5 50 49,A4 6 51 47 50,a4 7 13 (.c9 [aG,aG]),bz 8 2 13 51]) aoD
def aoB:H:= .B (.B (.D [z 0 41 9,tU 1 42 41]) (.aM (F 42) (.B (.D [a4 0 43 (.fF [aX,aG,aX] []),z 1 44 9,bz 2 3 6 43,z 3 7 44]) (.aF)) (.skip))) aoC
def aoA:H:= .B (.D [bL 0 33 4 8,z 1 34 1,iS 2 35 (.dY 157 [F 34]) [(F 8,F 8)],db 3 36 201 33 35,z 4 32 36,b3 5 37 0 32,b3 6 38 1 32,b3 7 39 2 32,b3 8 40 3 32,z 9 10 37,z 10 11 38,z 11 12 39,z 12 9 40]) aoB
def aoz:H:= .B (.B (.D [z 0 28 9,tU 1 29 28]) (.aM (F 29) (.B (.D [a4 0 30 (.fF [aX,aG,aX] []),z 1 31 9,bz 2 3 6 30,z 3 7 31]) (.aF)) (.skip))) aoA
def aoq:H:= .B (.D [bL 0 22 7 3,z 1 23 1,z 2 24 2,b0 3 25 152 [F 22,F 23,F 24],z 4 21 25,b3 5 26 0 21,b3 6 27 1 21,a4 7 8 (.c9 [aG,aG,aG,aX]),bz 8 4 8 26,z 9 9 27]) aoz
def aoo:H:=
  .B (
  .D [
 dJ 0 3 0,
 a4 1 6 (.c9 [aX,aG,aX]),
 a5 2 7 0]) aoq
def aa6:bM:=⟨120,[.im 6 true 3,.bw 7],aoo⟩
theorem aop:bW al 148=some aa6:=by kernel_rfl
def ao0:H:= .B (.D [z 0 44 13,lL 1 45 44 0,z 2 46 45,dg 3 47 46 1,kJ 4 48 46 2 10,eB 5 49 46 0 12,dQ 6 50 46 49,qX 7 51 46 203 48 50,ml 8 52 46 1 47 51,dQ 9 53 46 52,dg 10 54 46 13,qX 11 55 46 206 53 54,rR 12 56 46 55,cR 13 57 46 56]) (.aM (F 57) (.D [ay 0 58 3 8,ao 1 59 58,z 2 60 11,aY 3 61 4 59 60,ay 4 62 3 61,A1 5 1 62 1]) (.skip))
def aoZ:H:= .B (.D [bL 0 40 2 10,ay 1 41 1 12,ao 2 42 41,db 3 43 202 40 42,z 4 13 43]) ao0
def aoY:H:= .B (.block 1 (.B (.D [z 0 37 35,aY 1 38 4 33 35,bL 2 39 4 38,a4 3 12 (.c9 [aG,aG,aG,aG]),z 4 11 37,bz 5 4 12 39]) aoZ)) (.D [cI 0 63 35,z 1 35 63])
def aoX:H:= .B (.aM (F 36) (.skip) (.a7 0)) aoY
def ao2:H:= .B (.D [cY 0 36 35 34]) aoX
def ao1:H:= .B (.D [bL 0 64 4 8,z 1 65 9,bz 2 4 6 64,z 3 7 65]) (.aF)
def aoW:H:= .B (.B (.D [ay 0 32 3 8,ao 1 33 32,bq 2 34 33,a5 3 35 0]) (.block 0 (.loop ao2))) ao1
def aoV:H:= .B (.D [ay 0 25 6 3,ao 1 26 25,bq 2 27 26,ay 3 28 3 3,ao 4 29 28,bq 5 30 29,A4 6 31 27 30,a4 7 10 (.c9 [aG,aG]),bz 8 2 10 31]) aoW
def aoU:H:= .B (.D [bL 0 20 7 3,z 1 21 2,db 2 22 124 20 21,z 3 19 22,b3 4 23 0 19,b3 5 24 1 19,a4 6 8 (.c9 [aG,aG,aG,aX]),bz 7 4 8 23,z 8 9 24]) aoV
def aoT:H:= .B (.B (.D [bL 0 14 7 3,z 1 15 1,db 2 16 86 14 15,g6 3 17 16]) (.aM (F 17) (.B (.D [a4 0 18 (.fF [aG,aG,aG,aX] []),bz 1 4 6 18,a5 2 7 1]) (.aF)) (.skip))) aoU
def aoR:H:=
  .B (
  .D [
 dJ 0 3 0,
 a4 1 6 (.c9 [aG,aG,aG,aX]),
 a5 2 7 0]) aoT
def aa8:bM:=⟨66,[.im 6 true 4,.bw 7],aoR⟩
theorem aoS:bW al 152=some aa8:=by kernel_rfl
def aph:H:= .B (.D [bL 0 48 7 3,z 1 49 13,bL 2 50 2 7,ay 3 51 1 11,ao 4 52 51,iS 5 53 (.dY 209 [F 50,F 52]) [(F 3,F 3)],b0 6 54 208 [F 48,F 49,F 53]]) (.aM (F 54) (.D [z 0 55 9,z 1 56 10,aY 2 57 1 55 56,ao 3 58 57,cI 4 59 58,aY 5 60 1 55 56,bz 6 1 60 59]) (.skip))
def apg:H:= .B (.block 4 (.B (.D [aY 0 46 1 42 44,ao 1 47 46,z 2 13 47]) aph)) (.D [cI 0 61 44,z 1 44 61])
def apf:H:= .B (.aM (F 45) (.skip) (.a7 3)) apg
def api:H:= .B (.D [cY 0 45 44 43]) apf
def ape:H:= .B (.block 1 (.B (.D [z 0 33 31,aY 1 34 4 29 31,bL 2 35 4 34,a4 3 11 (.c9 [aG,aG,aG,aG]),z 4 10 33,bz 5 4 11 35]) (.block 2 (.B (.D [ay 0 63 1 11,ao 1 64 63,ay 2 65 2 4,ao 3 66 65,df 4 67 .eql (F 64) (F 66),z 5 62 67]) (.aM (F 62) (.D [z 0 68 9,z 1 69 10,z 2 70 8,bL 3 71 2 7,ay 4 72 0 11,ao 5 73 72,db 6 74 202 71 73,aY 7 75 1 70 74,ao 8 76 75,aY 9 77 1 68 69,bz 10 1 77 76]) (.B (.D [ay 0 79 0 11,ao 1 80 79,ay 2 81 1 4,ao 3 82 81,df 4 83 .eql (F 80) (F 82),z 5 78 83]) (.aM (F 78) (.D [z 0 84 9,z 1 85 10,ay 2 86 2 11,ao 3 87 86,aY 4 88 1 84 85,bz 5 1 88 87]) (.B (.D [bL 0 90 2 7,ay 1 91 1 11,ao 2 92 91,db 3 93 202 90 92,lL 4 94 93 0,z 5 89 94]) (.aM (F 89) (.B (.D [z 0 95 2,bL 1 96 2 7,ay 2 97 0 11,ao 3 98 97,bL 7 102 2 7,ay 8 103 1 11,ao 9 104 103,iS 4 99 (.dY 203 [F 96,F 98]) [(F 103,F 103),(F 7,F 7)],aY 5 100 1 95 99,ao 6 101 100,iS 10 105 (.dY 202 [F 102,F 104]) [(F 100,F 100)],db 11 106 206 101 105]) (.aM (F 106) (.D [z 0 107 9,z 1 108 10,aY 2 109 1 107 108,A1 3 1 109 1]) (.skip))) (.B (.D [z 0 36 2,bL 1 37 2 7,ay 2 38 1 11,ao 3 39 38,db 4 40 203 37 39,aY 5 41 1 36 40,ao 6 42 41,bq 7 43 42,a5 8 44 0]) (.block 3 (.loop api)))))))))))) (.D [cI 0 110 31,z 1 31 110])
def apd:H:= .B (.aM (F 32) (.skip) (.a7 0)) ape
def apj:H:= .B (.D [cY 0 32 31 30]) apd
def ao9:H:= .B (.D [z 0 111 9,z 1 6 111]) (.aF)
def apc:H:= .B (.B (.D [ay 0 28 3 4,ao 1 29 28,bq 2 30 29,a5 3 31 0]) (.block 0 (.loop apj))) ao9
def apb:H:= .B (.D [ay 0 24 3 4,ao 1 25 24,bq 2 26 25,qc 3 27 26 26,z 4 9 27]) apc
def apa:H:= .B (.D [bL 0 21 7 3,z 1 22 2,db 2 23 147 21 22,z 3 8 23]) apb
def ao8:H:= .B (.D [ay 0 14 6 3,ao 1 15 14,bq 2 16 15,ay 3 17 3 3,ao 4 18 17,bq 5 19 18,A4 6 20 16 19,a4 7 7 (.c9 [aG,aG]),bz 8 2 7 20]) apa
def ao6:H:=
  .B (
  .D [
 dJ 0 3 0,
 dJ 1 4 1,
 dV 2 6]) ao8
def aba:bM:=⟨112,[.bw 6],ao6⟩
theorem ao7:bW al 154=some aba:=by kernel_rfl
def apQ:H:= .B (.block 1 (.B (.D [aY 0 10 1 6 8,ao 1 11 10,z 2 5 11]) (.D [z 0 12 3,z 1 13 5,bq 2 14 13,hc 3 15 12 14,z 4 3 15]))) (.D [cI 0 16 8,z 1 8 16])
def apP:H:= .B (.aM (F 9) (.skip) (.a7 0)) apQ
def apS:H:= .B (.D [cY 0 9 8 7]) apP
def apR:H:= .B (.D [z 0 17 3,z 1 2 17]) (.aF)
def apO:H:= .B (.B (.D [z 0 6 0,bq 1 7 6,a5 2 8 0]) (.block 0 (.loop apS))) apR
def apN:H:= .B (.D [a5 0 3 0]) apO
def apL:H:=
  .B (
  .D [
 a5 0 2 0]) apN
def abd:bM:=⟨18,[.bw 2],apL⟩
theorem apM:bW al 157=some abd:=by kernel_rfl
def arI:H:= .B (.D [z 0 5 1,h0 1 6 5 2,ay 2 7 0 2,ao 3 8 7,ay 4 9 1 2,ao 5 10 9,df 6 11 .mul (F 8) (F 10),df 7 12 .sub (F 6) (F 11),a4 8 13 (.pq true (F 12) [.const (.int .i64 (-1))]),z 9 4 13]) (.aF)
def arG:H:=
  .B (
  .D [
 dJ 0 2 0,
 a5 1 4 0]) arI
def acj:bM:=⟨14,[.bw 4],arG⟩
theorem arH:bW al 202=some acj:=by kernel_rfl
def arM:H:= .B (.D [z 0 12 1,h0 1 13 12 2,ay 2 14 0 2,ao 3 15 14,df 4 16 .sub (F 13) (F 15),ay 5 17 1 2,ao 6 18 17,h0 7 19 18 1,df 8 20 .quo (F 16) (F 19),z 9 4 20]) (.aF)
def arL:H:= .B (.B (.D [z 0 5 1,ay 1 6 0 2,ao 2 7 6,l2 3 8 2 7,cY 4 9 5 8]) (.aM (F 9) (.B (.D [z 0 10 1,h0 1 11 10 2,z 2 4 11]) (.aF)) (.skip))) arM
def arJ:H:=
  .B (
  .D [
 dJ 0 2 0,
 a5 1 4 0]) arL
def ack:bM:=⟨21,[.bw 4],arJ⟩
theorem arK:bW al 203=some ack:=by kernel_rfl
def ar1:H:= .B (.D [z 0 26 8,lL 1 27 26 0,z 2 28 27,dg 3 29 28 1,dg 4 30 28 8,qX 5 31 28 206 29 30,cR 6 32 28 31,z 7 33 32,dg 8 34 33 6,dg 9 35 33 8,cQ 10 36 33 true (.m7 (.int .i64) (.bool false) false (F 34) (F 35)),rR 11 37 33 36,cR 12 38 33 37]) (.aM (F 38) (.D [z 0 39 5,z 1 40 7,z 2 41 6,z 3 42 8,z 4 43 8,aY 5 44 1 39 40,bz 6 1 44 43,rM 7 (.l3 (.int .i64) (F 41) (F 42) (.const (.bool true)))]) (.skip))
def ar0:H:= .B (.D [z 0 23 5,z 1 24 7,aY 2 25 1 23 24,rM 3 (.store 1 (F 25) (.const (.int .i64 (-1))))]) ar1
def arZ:H:= .B (.block 1 (.B (.D [z 0 20 18,aY 1 21 1 16 18,ao 2 22 21,z 3 7 20,z 4 8 22]) ar0)) (.D [cI 0 45 18,z 1 18 45])
def arY:H:= .B (.aM (F 19) (.skip) (.a7 0)) arZ
def ar4:H:= .B (.D [cY 0 19 18 17]) arY
def arU:H:= .B (.D [z 0 57 5,z 1 58 9,aY 2 59 1 57 58,ao 3 60 59,kt 4 61 60 0,z 5 62 61,dg 6 63 62 6,dg 7 64 62 11,cQ 8 65 62 true (.m7 (.int .i64) (.bool false) false (F 63) (F 64)),rR 9 66 62 65,cR 10 67 62 66]) (.aM (F 67) (.D [z 0 68 5,z 1 69 9,z 2 70 6,z 3 71 11,z 4 72 11,aY 5 73 1 68 69,bz 6 1 73 72,rM 7 (.l3 (.int .i64) (F 70) (F 71) (.const (.bool true)))]) (.skip))
def arT:H:= .B (.block 5 (.B (.D [aY 0 55 1 51 53,ao 1 56 55,z 2 11 56]) arU)) (.D [cI 0 74 53,z 1 53 74])
def arS:H:= .B (.aM (F 54) (.skip) (.a7 4)) arT
def ar5:H:= .B (.D [cY 0 54 53 52]) arS
def arR:H:= .B (.D [z 0 51 1,bq 1 52 51,a5 2 53 0]) (.block 4 (.loop ar5))
def arQ:H:= .B (.block 3 (.B (.D [z 0 50 48,z 1 9 50]) arR)) (.D [cI 0 75 48,z 1 48 75])
def ar3:H:= .B (.aM (F 49) (.skip) (.a7 2)) arQ
def ar6:H:= .B (.D [cY 0 49 48 47]) ar3
def arV:H:= .B (.D [z 0 76 5,z 1 4 76]) (.aF)
def ar2:H:= .B (.B (.D [z 0 46 5,bq 1 47 46,a5 2 48 0]) (.block 2 (.loop ar6))) arV
def arX:H:= .B (.B (.D [z 0 16 0,bq 1 17 16,a5 2 18 0]) (.block 0 (.loop ar4))) ar2
def arW:H:= .B (.D [a4 0 15 (.m6),z 1 6 15]) arX
def arP:H:= .B (.D [z 0 12 0,bq 1 13 12,qc 2 14 13 13,z 3 5 14]) arW
def arN:H:=
  .B (
  .D [
 dV 0 4]) arP
def acm:bM:=⟨77,[.bw 4],arN⟩
theorem arO:bW al 204=some acm:=by kernel_rfl
def asc:H:= .B (.D [z 0 13 6,z 1 14 1,df 2 15 .eql (F 13) (F 14)]) (.aM (F 15) (.B (.D [cr 0 4 true]) (.aF)) (.skip))
def asb:H:= .B (.block 1 (.B (.D [aY 0 11 1 7 9,ao 1 12 11,z 2 6 12]) asc)) (.D [cI 0 16 9,z 1 9 16])
def asa:H:= .B (.aM (F 10) (.skip) (.a7 0)) asb
def ase:H:= .B (.D [cY 0 10 9 8]) asa
def asd:H:= .B (.D [cr 0 4 false]) (.aF)
def ar9:H:= .B (.B (.D [z 0 7 0,bq 1 8 7,a5 2 9 0]) (.block 0 (.loop ase))) asd
def ar7:H:=
  .B (
  .D [
 cr 0 4 false]) ar9
def acn:bM:=⟨17,[.bw 4],ar7⟩
theorem ar8:bW al 206=some acn:=by kernel_rfl
def asC:H:= .B (.B (.D [z 0 14 7,z 1 15 2,df 2 16 .gtr (F 14) (F 15)]) (.aM (F 16) (.skip) (.a7 0))) (.block 1 (.D [ay 0 17 3 3,ao 1 18 17,z 2 19 7,aY 3 20 7 18 19,ay 4 21 2 20,ao 5 22 21,z 6 7 22]))
def asB:H:= .B (.D [z 0 23 7,z 1 24 2,df 2 25 .eql (F 23) (F 24),z 3 6 25]) (.aF)
def asA:H:= .B (.block 0 (.loop asC)) asB
def asz:H:= .B (.D [ay 0 8 4 3,ao 1 9 8,z 2 10 1,aY 3 11 3 9 10,ay 4 12 2 11,ao 5 13 12,z 6 7 13]) asA
def asx:H:=
  .B (
  .D [
 dJ 0 3 0,
 cr 1 6 false]) asz
def acp:bM:=⟨26,[.bw 6],asx⟩
theorem asy:bW al 208=some acp:=by kernel_rfl
def asF:H:= .B (.D [z 0 5 1,h0 1 6 5 2,ay 2 7 0 2,ao 3 8 7,df 4 9 .sub (F 6) (F 8),ay 5 10 1 2,ao 6 11 10,h0 7 12 11 1,df 8 13 .rem (F 9) (F 12),cI 9 14 13,z 10 4 14]) (.aF)
def asD:H:=
  .B (
  .D [
 dJ 0 2 0,
 a5 1 4 0]) asF
def acq:bM:=⟨15,[.bw 4],asD⟩
theorem asE:bW al 209=some acq:=by kernel_rfl
def anp:H:= .B (.block 3 (.B (.D [aY 0 63 1 59 61,ao 1 64 63,z 2 14 64]) (.D [z 0 65 12,z 1 66 14,aY 2 67 1 65 66,rM 3 (.store 1 (F 67) (.const (.bool true)))]))) (.D [cI 0 68 61,z 1 61 68])
def ano:H:= .B (.aM (F 62) (.skip) (.a7 2)) anp
def anO:H:= .B (.D [cY 0 62 61 60]) ano
def anw:H:= .B (.B (.D [z 0 94 17,kI 1 95 94 0]) (.aM (F 95) (.D [ay 0 96 1 11,ao 1 97 96,ay 2 98 2 11,ao 3 99 98,hc 4 100 97 99,z 5 17 100]) (.skip))) (.D [z 0 101 8,bL 1 102 2 6,z 2 103 9,ay 3 104 2 16,ao 4 105 104,bL 6 107 2 6,z 7 108 9,z 8 109 15,z 10 111 17,iS 5 106 (.dY 128 [F 102,F 103,F 105]) [(F 6,F 6)],b0 9 110 128 [F 107,F 108,F 109],a4 11 112 (.iN (F 101) [F 106,F 110,F 111])])
def anv:H:= .B (.D [ay 0 89 1 16,ao 1 90 89,ay 2 91 4 11,a4 3 92 (.ph 1 5 (F 91) (F 90)),ao 4 93 92,z 5 17 93]) anw
def anu:H:= .B (.B (.D [z 0 87 15,kI 1 88 87 0]) (.aM (F 88) (.a7 5) (.skip))) anv
def ant:H:= .B (.block 5 (.B (.D [z 0 84 82,aY 1 85 7 80 82,bL 2 86 7 85,a4 3 16 (.c9 [.string ⟨#[]⟩,aG,aG,aG,.bool false,aX,aX]),z 4 15 84,bz 5 7 16 86]) anu)) (.D [cI 0 113 82,z 1 82 113])
def ans:H:= .B (.aM (F 83) (.skip) (.a7 4)) ant
def anP:H:= .B (.D [cY 0 83 82 81]) ans
def anC:H:= .B (.D [z 0 122 12,ay 1 123 1 19,ao 2 124 123,aY 3 125 1 122 124,ao 4 126 125]) (.aM (F 126) (.D [z 0 127 8,bL 1 128 2 6,z 2 129 9,ay 3 130 2 19,ao 4 131 130,bL 6 133 2 6,z 7 134 18,iS 5 132 (.dY 128 [F 128,F 129,F 131]) [(F 6,F 6)],db 8 135 129 133 134,a4 9 136 (.iN (F 127) [F 132,F 135,.const (.int .i64 1)])]) (.skip))
def anB:H:= .B (.block 7 (.B (.D [z 0 119 117,aY 1 120 3 115 117,bL 2 121 3 120,a4 3 19 (.c9 [.string ⟨#[]⟩,aG,aG]),z 4 18 119,bz 5 3 19 121]) anC)) (.D [cI 0 137 117,z 1 117 137])
def anA:H:= .B (.aM (F 118) (.skip) (.a7 6)) anB
def anQ:H:= .B (.D [cY 0 118 117 116]) anA
def anz:H:= .B (.D [ay 0 114 4 2,ao 1 115 114,bq 2 116 115,a5 3 117 0]) (.block 6 (.loop anQ))
def anr:H:= .B (.B (.D [ay 0 79 3 2,ao 1 80 79,bq 2 81 80,a5 3 82 0]) (.block 4 (.loop anP))) anz
def anq:H:= .B (.D [z 0 69 8,bL 1 70 2 6,z 2 71 9,ay 4 73 1 11,ao 5 74 73,ay 6 75 2 11,ao 7 76 75,hc 8 77 74 76,iS 3 72 (.dY 127 [F 70,F 71]) [(F 75,F 75),(F 73,F 73)],a4 9 78 (.iN (F 69) [.const aG,F 72,F 77])]) anr
def ann:H:= .B (.B (.D [ay 0 58 9 11,ao 1 59 58,bq 2 60 59,a5 3 61 0]) (.block 2 (.loop anO))) anq
def anN:H:= .B (.D [ay 0 54 2 2,ao 1 55 54,bq 2 56 55,AZ 3 57 56 56,z 4 12 57]) ann
def anM:H:= .B (.D [ay 0 48 5 2,ao 1 49 48,ay 2 50 1 10,ao 3 51 50,aY 4 52 17 49 51,bL 5 53 17 52,a4 6 11 (.c9 [.string ⟨#[]⟩,aG,aG,aG,aG,aG,aG,aG,aG,aX,aX,.bool false,aX,aX,.bool false,aX,aX]),bz 7 17 11 53]) anN
def anL:H:= .B (.block 1 (.B (.D [z 0 45 43,aY 1 46 2 41 43,bL 2 47 2 46,a4 3 10 (.c9 [.string ⟨#[]⟩,aG]),z 4 9 45,bz 5 2 10 47]) anM)) (.D [cI 0 138 43,z 1 43 138])
def anK:H:= .B (.aM (F 44) (.skip) (.a7 0)) anL
def anR:H:= .B (.D [cY 0 44 43 42]) anK
def anF:H:= .B (.block 9 (.B (.D [z 0 145 143,aY 1 146 1 141 143,ao 2 147 146,z 3 20 145,z 4 21 147]) (.D [z 0 148 8,bL 1 149 2 6,z 2 150 20,db 3 151 129 149 150,z 4 152 21,a4 5 153 (.iN (F 148) [F 151,.const (.int .i64 1),F 152])]))) (.D [cI 0 154 143,z 1 143 154])
def anE:H:= .B (.aM (F 144) (.skip) (.a7 8)) anF
def anS:H:= .B (.D [cY 0 144 143 142]) anE
def anG:H:= .B (.D [bL 0 155 4 7,bz 1 4 4 155,a5 2 5 0]) (.aF)
def anD:H:= .B (.B (.D [bL 0 139 7 2,z 1 140 1,db 2 141 63 139 140,bq 3 142 141,a5 4 143 0]) (.block 8 (.loop anS))) anG
def anJ:H:= .B (.B (.D [ay 0 40 6 2,ao 1 41 40,bq 2 42 41,a5 3 43 0]) (.block 0 (.loop anR))) anD
def anI:H:= .B (.D [a4 0 39 (.ub (.func 183) [] [F 7]),z 1 8 39]) anJ
def anH:H:= .B (.D [bL 0 33 2 6,ay 1 34 4 2,ao 2 35 34,bq 3 36 35,db 4 37 129 33 36,a4 5 38 (.fF [aG,aG,aG,aX] [(0,1,F 37),(1,1,.const aG),(2,1,.const (.int .i64 1))]),a4 6 7 (.c9 [aG,aG,aG,aX]),bz 7 4 7 38]) anI
def anx:H:= .B (.D [ay 0 26 6 2,ao 1 27 26,bq 2 28 27,ay 3 29 3 2,ao 4 30 29,bq 5 31 30,A4 6 32 28 31,a4 7 6 (.c9 [aG,aG]),bz 8 2 6 32]) anH
def anm:H:= .B (.B (.D [bL 0 22 7 2,b0 1 23 62 [F 22],tU 2 24 23]) (.aM (F 24) (.B (.D [a4 0 25 (.fF [aG,aG,aG,aX] []),bz 1 4 4 25,a5 2 5 1]) (.aF)) (.skip))) anx
def ank:H:=
  .B (
  .D [
 dJ 0 2 0,
 a4 1 4 (.c9 [aG,aG,aG,aX]),
 a5 2 5 0]) anm
def aas:bM:=⟨156,[.im 4 true 4,.bw 5],ank⟩
theorem anl:bW al 124=some aas:=by kernel_rfl
def an7:H:= .B (.D [z 0 5 1,l2 1 6 2 5,z 2 4 6]) (.aF)
def an5:H:=
  .B (
  .D [
 dJ 0 2 0,
 a5 1 4 0]) an7
def aau:bM:=⟨7,[.bw 4],an5⟩
theorem an6:bW al 127=some aau:=by kernel_rfl
def aob:H:= .B (.D [ay 0 12 0 3,ao 1 13 12,l2 2 14 2 13,z 3 15 1,ay 4 16 1 3,ao 5 17 16,h0 6 18 17 1,df 7 19 .mul (F 15) (F 18),hc 8 20 14 19,z 9 21 2,hc 10 22 20 21,h0 11 23 22 1,z 12 6 23]) (.aF)
def aoa:H:= .B (.B (.D [z 0 7 2,kI 1 8 7 0]) (.aM (F 8) (.B (.D [bL 0 9 2 3,z 1 10 1,db 2 11 127 9 10,z 3 6 11]) (.aF)) (.skip))) aob
def an8:H:=
  .B (
  .D [
 dJ 0 3 0,
 a5 1 6 0]) aoa
def aav:bM:=⟨24,[.bw 6],an8⟩
theorem an9:bW al 128=some aav:=by kernel_rfl
def aoe:H:= .B (.D [ay 0 5 0 2,ao 1 6 5,ay 2 7 1 2,ao 3 8 7,df 4 9 .mul (F 6) (F 8),l2 5 10 2 9,z 6 11 1,hc 7 12 10 11,z 8 4 12]) (.aF)
def aoc:H:=
  .B (
  .D [
 dJ 0 2 0,
 a5 1 4 0]) aoe
def aaw:bM:=⟨13,[.bw 4],aoc⟩
theorem aod:bW al 129=some aaw:=by kernel_rfl
def aqk:H:=
  .D [
 ay 0 7 3 3,
 ao 1 8 7,
 z 2 9 0,
 z 3 10 1,
 z 4 11 2,
 a4 5 12 (.fF [aG,aG,aG,aG] [(0,1,F 9),(1,1,F 10),(2,1,F 11)]),
 A7 6 13 12,
 iC 7 14 4 32 8 13,
 ay 8 15 3 3,
 bz 9 1 15 14]
def abI:bM:=⟨16,[],aqk⟩
theorem aql:bW al 183=some abI:=by kernel_rfl
end Go.Proofs.YtmmkkggfmigppaaGreat
