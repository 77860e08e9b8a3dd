/-
  A part of the proof of the statement, in texts that tools of ours (wip/shrink.py, irpack.py, relax.py, minify.py, join.py, lay.py) have shortened.
-/
import Derived.Test.YtkpifdkccdndcaaGreatZaq
set_option linter.all false
set_option maxRecDepth 8000
set_option maxHeartbeats 16000000
namespace Go.Proofs.YtkpifdkccdndcaaGreat
open Go Go.DI Go.Big
def tN(br:Int)(l:List k4):Option Int:=(l.reverse.find? λx=>decide (x.cR<br)).map (·.cR)
theorem akM{br:Int}:tN br []=none:=rfl
theorem Ao{br:Int}{l:List k4}{x:k4}:tN br (l++[x])=if x.cR<br then some x.cR else tN br l:=by simp only[tN,List.reverse_append,List.reverse_cons,List.reverse_nil,List.nil_append,List.singleton_append,List.find?_cons];by_cases h:x.cR<br<;>simp[h]
def si(l:List k4)(i:Nat)(br:Int):Bool:=cU br 1 5&&(decide (br=1)||decide (tN br (l.take i)=some (br-1)))
structure te(cD:List k4)(cc lr:dY):Prop where
  a:cc.a=0
  lC: ∀x∈cD,cU x.cR 1 5=true
  b:0<=cc.b↔tN 2 cD=some 1
  c:0<=cc.c↔tN 3 cD=some 2
  d:0<=cc.d↔tN 4 cD=some 3
  e:0<=cc.e↔tN 5 cD=some 4
  EO:lr.a=0
  ga:0<=cc.b->lr.b=cc.b
  EP:0<=cc.c->lr.c=cc.c
  ma:0<=cc.d->lr.d=cc.d
  aaR:0<=cc.e->lr.e=cc.e
theorem te.init:te [] ⟨0,-1,-1,-1,-1⟩ ⟨0,0,0,0,0⟩:=by refine⟨rfl,λ_ h=>(by cases h),?_,?_,?_,?_,rfl,?_,?_,?_,?_⟩<;>simp[akM]
theorem yp{a b c:Int}:cU a b c=true↔b<=a/\a<=c:=by simp[cU]
theorem adP{br:Int}(h:cU br 1 5=true):br=1\/br=2\/br=3\/br=4\/br=5:=by rw[yp]at h;omega
theorem te.al5{l:List k4}{i:Nat}{br:Int}{cc lr:dY}(h:te (l.take i) cc lr)(kq:cU br 1 5=true):si l i br=true↔0<=cc.at (br-1):=by
  have aE:=h.a;rcases adP kq with rfl|rfl|rfl|rfl|rfl
  · simp[si,kq,dY.at,aE]
  · simp[si,kq,dY.at,h.b]
  · simp[si,kq,dY.at,h.c]
  · simp[si,kq,dY.at,h.d]
  · simp[si,kq,dY.at,h.e]
theorem te.parent{cD:List k4}{cc lr:dY}(h:te cD cc lr){br:Int}(kq:cU br 1 5=true)(bB:0<=cc.at (br-1)):lr.at (br-1)=cc.at (br-1):=by
  rcases adP kq with rfl|rfl|rfl|rfl|rfl<;>simp[dY.at,h.a,h.EO]at bB⊢
  · exact h.ga bB
  · exact h.EP bB
  · exact h.ma bB
  · exact h.aaR bB
theorem te.Fw{cD:List k4}{cc lr:dY}(h:te cD cc lr){x:k4}(H:x.cR=5):te (cD++[x]) cc lr where
  a:=h.a
  lC y ah:=by
    rcases List.mem_append.1 ah with ah|ah
    · exact h.lC y ah
    · simp at ah;subst ah;rw[H];rfl
  b:=by rw[Ao,H];exact h.b
  c:=by rw[Ao,H];exact h.c
  d:=by rw[Ao,H];exact h.d
  e:=by rw[Ao,H];exact h.e
  EO:=h.EO
  ga:=h.ga
  EP:=h.EP
  ma:=h.ma
  aaR:=h.aaR
def _root_.Go.Big.dY.AQ(s:dY)(i v:Int):dY:=if i=0 then{s with a:=v}else if i=1 then{s with b:=v}else if i=2 then{s with c:=v}else if i=3 then{s with d:=v}else{s with e:=v}
theorem te.ql{cD:List k4}{cc lr:dY}(h:te cD cc lr){x:k4}{n:Int}(ak:0<=n)(H:cU x.cR 1 4=true):te (cD++[x]) (cc.au x.cR n) (lr.AQ x.cR n):=by
  have kt: ∀y∈cD++[x],cU y.cR 1 5=true:= λy ah=>by
    rcases List.mem_append.1 ah with ah|ah
    · exact h.lC y ah
    · simp at ah;subst ah;rw[yp]at H⊢;omega
  have aw:x.cR=1\/x.cR=2\/x.cR=3\/x.cR=4:=by rw[yp]at H;omega
  rcases aw with e|e|e|e
  · refine⟨?_,kt,?_,?_,?_,?_,?_,?_,?_,?_,?_⟩<;>simp[dY.au,dY.AQ,e,Ao,h.a,h.EO,ak]
  · refine⟨?_,kt,?_,?_,?_,?_,?_,?_,?_,?_,?_⟩<;>simp[dY.au,dY.AQ,e,Ao,h.a,h.EO,ak,h.b];intro q;exact h.ga (h.b.2 q)
  · refine⟨?_,kt,?_,?_,?_,?_,?_,?_,?_,?_,?_⟩<;>simp[dY.au,dY.AQ,e,Ao,h.a,h.EO,ak,h.b,h.c]
    · intro q;exact h.ga (h.b.2 q)
    · intro q;exact h.EP (h.c.2 q)
  · refine⟨?_,kt,?_,?_,?_,?_,?_,?_,?_,?_,?_⟩<;>simp[dY.au,dY.AQ,e,Ao,h.a,h.EO,ak,h.b,h.c,h.d]
    · intro q;exact h.ga (h.b.2 q)
    · intro q;exact h.EP (h.c.2 q)
    · intro q;exact h.ma (h.d.2 q)
theorem aAG{l:List k4}{i:Nat}{x:k4}(H:l[i]?=some x)(ak:l.length<1000000):eg Tryz.prog 52 [bE (l.map fl) 9,S i] (.bool (si l i x.cR)):=by
  have aa:=(List.getElem?_eq_some_iff.1 H).1;have oL:l[i]=x:=(List.getElem?_eq_some_iff.1 H).2;refine iA (g0 (aY:=⟨[],[]⟩) axC (by kernel_rfl) (by simp[GZ]) ?_);have bK:(i:Int)<l.length:=by omega
  by_cases z:x.cR<1
  · have e:cU x.cR 1 5=false:=(by simp[cU];omega);simp(disch:=omega) [GZ,La,Lb,Lc,Ld,Le,Lf,oL,bK,z,fl,si,e]
  · by_cases D:5<x.cR
    · have e:cU x.cR 1 5=false:=(by simp[cU];omega);simp(disch:=omega) [GZ,La,Lb,Lc,Ld,Le,Lf,oL,bK,z,D,fl,si,e]
    · have e:cU x.cR 1 5=true:=(by simp[cU];omega);by_cases Z:x.cR=1
      · simp(disch:=omega) [GZ,La,Lb,Lc,Ld,Le,Lf,oL,bK,Z,fl,si];simp[cU]
      · have bo:IntKind.i64.wrap ((i:Int)-1)=(i:Int)-1:=ct (by omega) (by omega);have cS:IntKind.i64.wrap (x.cR-1)=x.cR-1:=ct (by omega) (by omega);have eq:si l i x.cR=decide (tN x.cR (l.take i)=some (x.cR-1)):=(by simp[si,e,Z]);rw[eq]
        have key: ∀{Q:dr->aL->B->Prop} (n:Nat) (u:aL) (t:B),n<=i->tN x.cR (l.take n)=tN x.cR (l.take i)->u 0=bE (l.map fl) 9->u 5=S x.cR->u 6=S ((n:Int)-1)->
            (∀ag aN,ag 4= .bool (decide (tN x.cR (l.take i)=some (x.cR-1)))->Q .a7 ag aN)->(tN x.cR (l.take i)=none-> ∀ag aN,Q (.bI 0) ag aN)->hs Tryz.prog (.loop Lg) u t Q:=by
          intro Q n;induction n with
          | zero=>intro u t uF aU bl cv db pJ jY;refine su (aY:=⟨[],[]⟩) λb9 a9=> ?_;rw[List.take_zero,akM]at aU;simp[Lg,QX,db];exact jY aU.symm _ _
          | succ n cb=>
            intro u t uF aU bl cv db pJ jY;refine su (aY:=⟨[],[]⟩) λb9 a9=> ?_;have ah:l[n]?=some l[n]:=List.getElem?_eq_getElem (by omega);have amZ:u 6=S n:=(by rw[db];congr 1;omega);have a4:(0:Int)<=n:=(by omega);have aC:(n:Int)<l.length:=(by omega);have fz:IntKind.i64.wrap ((n:Int)-1)=(n:Int)-1:=ct (by omega) (by omega);rw[kB ah,Ao]at aU;by_cases cM:l[n].cR<x.cR
            · rw[if_pos cM]at aU;simp(disch:=omega) [Lg,QX,bl,cv,amZ,a4,aC,cS,cM,fl];exact pJ _ _ (by rw[<-aU];simp)
            · rw[if_neg cM]at aU;simp(disch:=first|omega|(simp only[ae,ad,af];omega)) [Lg,QX,bl,cv,amZ,a4,aC,fz,cM,fl,-al,-ar,-ai,-ao,-List.map_map];exact a9 _ _ (cb _ _ (by omega) aU (by simp[bl]) (by simp[cv]) (by simp) pJ jY)
        simp(disch:=first|omega|(simp only[ae,ad,af];omega)) [GZ,La,Lb,Lc,Ld,Le,oL,bK,z,D,Z,bo,fl,-al,-ar,-ai,-ao,-List.map_map];refine key i _ _ (Nat.le_refl _) rfl (by simp) (by simp) (by simp) (λag aN h=> ?_) (λh ag aN=> ?_)
        · simp[h]
        · simp[Lf,h]
def c9{cK:Type}(f:Nat->cK)(i:Nat)(v:cK):Nat->cK:= λk=>if k=i then v else f k
@[simp] theorem AW{cK:Type}{f:Nat->cK}{i:Nat}{v:cK}:c9 f i v i=v:=by simp[c9]
theorem s9{cK:Type}{f:Nat->cK}{i k:Nat}{v:cK}(h:k≠i):c9 f i v k=f k:=by simp[c9,h]
def fI(l:List ByteArray):List Value:=(l.map λs=>[cz s]).flatten
def hL(s:gg)(G:dm)(aQ:Nat->Nat):Nat->List Value
  |0=>dT s
  |1=>fk
  |2=>[S 0,S 0]
  |3=>[S s.ext,.slice (some ⟨aQ 4,0,none⟩) G.ck.length 4,.slice (some ⟨aQ 5,0,none⟩) G.a5.length 4,.slice (some ⟨aQ 6,0,none⟩) G.dG.length 7,.slice (some ⟨aQ 7,0,none⟩) G.gq.length 3,.slice (some ⟨aQ 8,0,none⟩) G.cG.length 17,.slice (some ⟨aQ 9,0,none⟩) G.dH.length 2]
  |4=>(G.ck.map j3).flatten
  |5=>(G.a5.map qq).flatten
  |6=>(G.dG.map iC).flatten
  |7=>(G.gq.map qp).flatten
  |8=>(G.cG.map mX).flatten
  |9=>(G.dH.map qs).flatten
  |10=>fI G.lN
  |11=>fI G.gJ
  |12=>fI G.a3
  |13=>fI G.lv
  |_=>fI G.qd
structure kT(s:gg)(G:dm)(aQ:Nat->Nat)(u:aL)(t:B):Prop where
  g: ∀k,k<15->t.M (aQ k)=some ⟨hL s G aQ k,true⟩
  inj: ∀i j,i<15->j<15->aQ i=aQ j->i=j
  aH:u 1=bZ (aQ 0)
  bD:u 2=bZ (aQ 1)
  bL:u 4=bZ (aQ 2)
  b3:u 8=bZ (aQ 3)
  cg:u 9= .slice (some ⟨aQ 10,0,none⟩) G.ck.length 1
  dP:u 10= .slice (some ⟨aQ 11,0,none⟩) G.a5.length 1
  fx:u 11= .slice (some ⟨aQ 12,0,none⟩) G.a3.length 1
  hg:u 12= .slice (some ⟨aQ 13,0,none⟩) G.cG.length 1
  gw:u 13= .slice (some ⟨aQ 14,0,none⟩) G.dH.length 1
def Fq(e:Int)(p:mf)(u:aL)(t:B):Prop:= ∃r q,u 2=bZ r/\t.M r=some ⟨fk,true⟩/\u 3=S e/\u 4=bZ q/\t.M q=some ⟨[S p.l,S p.c],true⟩
theorem kT.cW{s:gg}{G:dm}{aQ:Nat->Nat}{u:aL}{t:B}(h:kT s G aQ u t){k:Nat}(W:k<15):aQ k<t.next:=aT (h.g k W)
theorem kT.eZ{s:gg}{G:dm}{aQ:Nat->Nat}{u:aL}{t:B}(h:kT s G aQ u t)(i j:Nat)(aa:i<15)(cp:j<15)(sG:i≠j):aQ i≠aQ j:= λe=>sG (h.inj i j aa cp e)
theorem kT.step{s:gg}{G eP:dm}{aQ:Nat->Nat}{u ag:aL}{t aN:B}(h:kT s G aQ u t)(x y:Nat){dt dJ:Nat}(H:4<=x/\x<10)(ah:10<=y/\y<15)(nS:t.next<=dt)(c5:t.next<=dJ)(L:dt≠dJ)
    (bw: ∀k,k<15->k≠3->k≠x->k≠y->aN.M (aQ k)=t.M (aQ k))
    (aB: ∀k,k<15->k≠3->k≠x->k≠y->hL s eP (c9 (c9 aQ x dt) y dJ) k=hL s G aQ k)
    (bS:aN.M (aQ 3)=some ⟨hL s eP (c9 (c9 aQ x dt) y dJ) 3,true⟩) (q9:aN.M dt=some ⟨hL s eP (c9 (c9 aQ x dt) y dJ) x,true⟩) (asN:aN.M dJ=some ⟨hL s eP (c9 (c9 aQ x dt) y dJ) y,true⟩)
    (aH:ag 1=bZ (aQ 0)) (bD:ag 2=bZ (aQ 1)) (bL:ag 4=bZ (aQ 2)) (b3:ag 8=bZ (aQ 3)) (cg:ag 9= .slice (some ⟨c9 aQ y dJ 10,0,none⟩) eP.ck.length 1) (dP:ag 10= .slice (some ⟨c9 aQ y dJ 11,0,none⟩) eP.a5.length 1)
    (fx:ag 11= .slice (some ⟨c9 aQ y dJ 12,0,none⟩) eP.a3.length 1) (hg:ag 12= .slice (some ⟨c9 aQ y dJ 13,0,none⟩) eP.cG.length 1) (gw:ag 13= .slice (some ⟨c9 aQ y dJ 14,0,none⟩) eP.dH.length 1):kT s eP (c9 (c9 aQ x dt) y dJ) ag aN:=by
  have gi: ∀k,k≠x->k≠y->c9 (c9 aQ x dt) y dJ k=aQ k:= λk z D=>by rw[s9 D,s9 z]
  have lj:c9 (c9 aQ x dt) y dJ x=dt:=by rw[s9 (by omega),AW]
  have qm:c9 (c9 aQ x dt) y dJ y=dJ:=AW;have aM: ∀k,10<=k->c9 (c9 aQ x dt) y dJ k=c9 aQ y dJ k:= λk W=>by
    by_cases Vq:k=y
    · subst Vq;simp
    · rw[s9 Vq,s9 Vq,s9 (by omega)]
  refine⟨λk W=> ?_,λi j aa cp sG=> ?_,?_,?_,?_,?_,?_,?_,?_,?_,?_⟩
  · by_cases Z:k=3
    · subst Z;rw[gi 3 (by omega) (by omega)];exact bS
    · by_cases z:k=x
      · subst z;rw[lj];exact q9
      · by_cases D:k=y
        · subst D;rw[qm];exact asN
        · rw[gi k z D,aB k W Z z D,bw k W Z z D];exact h.g k W
  · have cW: ∀k,k<15->k≠x->k≠y->c9 (c9 aQ x dt) y dJ k<t.next:= λk W z D=>by rw[gi k z D];exact h.cW W
    by_cases re:i=x
    · by_cases Ah:j=x
      · omega
      · by_cases Ai:j=y
        · rw[re,Ai,lj,qm]at sG;exact absurd sG L
        · have:=cW j cp Ah Ai;rw[<-sG,re,lj]at this;omega
    · by_cases sQ:i=y
      · by_cases Ah:j=x
        · rw[sQ,Ah,lj,qm]at sG;exact absurd sG.symm L
        · by_cases Ai:j=y
          · omega
          · have:=cW j cp Ah Ai;rw[<-sG,sQ,qm]at this;omega
      · by_cases Ah:j=x
        · have:=cW i aa re sQ;rw[sG,Ah,lj]at this;omega
        · by_cases Ai:j=y
          · have:=cW i aa re sQ;rw[sG,Ai,qm]at this;omega
          · rw[gi i re sQ,gi j Ah Ai]at sG;exact h.inj i j aa cp sG
  · rw[gi 0 (by omega) (by omega)];exact aH
  · rw[gi 1 (by omega) (by omega)];exact bD
  · rw[gi 2 (by omega) (by omega)];exact bL
  · rw[gi 3 (by omega) (by omega)];exact b3
  · rw[aM 10 (by omega)];exact cg
  · rw[aM 11 (by omega)];exact dP
  · rw[aM 12 (by omega)];exact fx
  · rw[aM 13 (by omega)];exact hg
  · rw[aM 14 (by omega)];exact gw
def abM:List Nat:=[1,2,4,8,9,10,11,12,13]
theorem kT.rM{s:gg}{G:dm}{aQ:Nat->Nat}{u ag:aL}{t aN:B}(h:kT s G aQ u t)(J: ∀k∈abM,ag k=u k)(bH: ∀b,b<t.next->aN.M b=t.M b):kT s G aQ ag aN:=
  ⟨λk W=>by rw[bH _ (h.cW W)];exact h.g k W,h.inj,(J 1 (by decide)).trans h.aH,(J 2 (by decide)).trans h.bD,(J 4 (by decide)).trans h.bL,(J 8 (by decide)).trans h.b3,(J 9 (by decide)).trans h.cg,(J 10 (by decide)).trans h.dP,(J 11 (by decide)).trans h.fx,(J 12 (by decide)).trans h.hg,(J 13 (by decide)).trans h.gw⟩
theorem y2{u ag:aL}(z:ag 1=u 1)(D:ag 2=u 2)(aw:ag 4=u 4)(iP:ag 8=u 8)(ml:ag 9=u 9)(Jh:ag 10=u 10)(US:ag 11=u 11)(UT:ag 12=u 12)(UU:ag 13=u 13): ∀k∈abM,ag k=u k:= λk W=>by simp only[abM,List.mem_cons,List.not_mem_nil,or_false]at W;rcases W with rfl|rfl|rfl|rfl|rfl|rfl|rfl|rfl|rfl<;>assumption
theorem aaa{l:List ByteArray}: ∀r∈l.map (λs=>[cz s]),r.length=1/\ ∀v∈r,j9 v=true:= λr aF=>by obtain⟨x,_,rfl⟩:=List.mem_map.1 aF;exact⟨rfl,λv X=>by simp at X;subst X;rfl⟩
theorem sY{l:List ByteArray}{n:Nat}(ak:l.length=n):(∀t,ih (ih (DI.eJ 8 t)) (oe 1 n (fI l))=some (l.map λs=>[cz s]))/\(∀t,(fI l).flatMap (fR 8 t)=[])/\(fI l).length=n:=by
  have bY: ∀r∈l.map (λs=>[cz s]),r.length=1:= λr h=>(aaa r h).1;have Z:(fI l).length=n:=by rw[fI,tn bY,List.length_map,ak,Nat.mul_one]
  refine⟨λt=> ?_,λt=>aBi λv X=> ?_,Z⟩
  · have:=T4 bY;rw[List.length_map,ak]at this;rw[fI,this];exact L5 λr h=>L5 λv X=>Di ((aaa r h).2 v X)
  · obtain⟨r,aF,sO⟩:=List.mem_flatten.1 X;exact(aaa r aF).2 v sO
theorem v3{k:Nat}(h:k<15):k=0\/k=1\/k=2\/k=3\/k=4\/k=5\/k=6\/k=7\/k=8\/k=9\/k=10\/k=11\/k=12\/k=13\/k=14:=by omega
theorem mj{cK:Type}{f:dm->cK->iN}{s:iN}{l:List cK}{i:Nat}{e:Int×mf}(h:fr f s (l.take i)= .inr e):fr f s l= .inr e:=by rw[<-List.take_append_drop i l,fr,List.foldl_append];show fr f (fr f s (l.take i)) (l.drop i)=_;rw[h,tp]
theorem Hv{l:List ByteArray}{s:ByteArray}:fI (l++[s])=fI l++[cz s]:=by simp[fI]
noncomputable def EY:c8 Tryz.prog:= .fJ 49 (ByteArray) (λT=>True) (λT=>[.string T]) (λT=> .bool (gP T)) (λT h=>aBQ)
@[simp] theorem aOz:EY.f=49:=rfl
@[simp] theorem aOA{T:ByteArray}:EY.fn ([.string T])=some (.bool (gP T)):=c8.gX (x:=T) trivial λy ah=>by simpa using ah
noncomputable def aby:c8 Tryz.prog:= .fJ 10 hk hk.bM (λx=>[px x]) (λx=> .bool x.ox) λ_ h=>aCo h
@[simp] theorem aOP:aby.f=10:=rfl
@[simp] theorem aOQ{n:ByteArray}{s e:List bh}{bb:List (List bh)}(h:(hk.mk n s bb e).bM):aby.fn [.agg #[cz n,bE (s.map eS) 3,bE (bb.map λr=>[fT r]) 1,bE (e.map eS) 3]]=some (.bool (hk.mk n s bb e).ox):=c8.gX (x:=hk.mk n s bb e) h λy ah=>ab8 ah
theorem BQ{s:ByteArray}{l:List ByteArray}(h:(dR s l).isSome=false):kv s l= -1:=by unfold kv;rw[v9 h]
theorem JV{s:ByteArray}{l:List ByteArray}(h:(dR s l).isSome=true): ∃i:Nat,kv s l=i:=by
  cases aa:dR s l with
  |none=>rw[aa]at h;cases h
  |some i=>exact⟨i,D0 aa⟩
theorem aBF{s:gg}(W:s.bM){s0:Nat->Nat}{cO:aL}{cd:B}(bB:kT s lG s0 cO cd)(hz:cO 14=S 0){Q:dr->aL->B->Prop}
    (pJ: ∀G aQ u t,wQ s= .inl G->kT s G aQ u t->Q (.bI 2) u t) (jY: ∀e p u t,wQ s= .inr (e,p)->Fq e p u t->Q .a7 u t):hs Tryz.prog (.loop Ea) cO cd Q:=by
  have aG:=W.rm;refine jn (aY:=⟨[EY,AP,aby,abw],[]⟩) (λi u t=> ∃G aQ,fr kQ (.inl lG) (s.ck.take i)= .inl G/\kT s G aQ u t/\u 14=S i) s.ck.length ?_ ?_ 0 cO cd (Nat.zero_le _) ⟨lG,s0,by simp[fr],bB,hz⟩
  · rintro i u t aa ⟨G,aQ,dB,h,hz⟩ b9 a9;have H:s.ck[i]?=some s.ck[i]:=List.getElem?_eq_getElem aa;have JT:s.ck[i].eV.bM:=W.ck _ (List.getElem_mem aa);have fH:=(y8 UN (n:=1) (λG h=>by cases h;exact TB) aa aG (by decide) dB);have bo:IntKind.i64.wrap ((i:Int)+1)=(i:Int)+1:=ct (by omega) (by omega);have bK:(i:Int)<s.ck.length:=(by omega);have aI:fr kQ (.inl lG) (s.ck.take (i+1))=kQ G s.ck[i]:=(by rw[kB H,x1,dB];rfl);have a4:t.M (aQ 0)=some ⟨dT s,true⟩:=h.g 0 (by decide);have aC:t.M (aQ 1)=some ⟨fk,true⟩:=h.g 1 (by decide);have a2:t.M (aQ 2)=some ⟨[S 0,S 0],true⟩:=h.g 2 (by decide);have bS:t.M (aQ 3)=some ⟨hL s G aQ 3,true⟩:=h.g 3 (by decide);simp only[hL]at bS;obtain⟨iO,mY⟩: ∃c,c=(G.ck.map j3).flatten:=⟨_,rfl⟩;obtain⟨gU,ia⟩: ∃c,c=fI G.lN:=⟨_,rfl⟩;have q9:t.M (aQ 4)=some ⟨iO,true⟩:=(by rw[mY];exact h.g 4 (by decide));have kJ:t.M (aQ 10)=some ⟨gU,true⟩:=(by rw[ia];exact h.g 10 (by decide));have cY:=h.cW (k:=0) (by decide);have fM:=h.cW (k:=1) (by decide);have dg:=h.cW (k:=2) (by decide);have pW:=h.cW (k:=3) (by decide);have uY:=h.cW (k:=4) (by decide);have RX:=h.cW (k:=10) (by decide);have IG:=h.eZ 1 2 (by decide) (by decide) (by decide);have IH:=h.eZ 3 4 (by decide) (by decide) (by decide);have Nv:=h.eZ 3 10 (by decide) (by decide) (by decide);have IN:=h.eZ 4 10 (by decide) (by decide) (by decide);have Nu:=h.eZ 0 4 (by decide) (by decide) (by decide);have Ua:=h.eZ 0 10 (by decide) (by decide) (by decide);have nn: ∀k,¬t.next+k=aQ 1:= λk=>by omega
    have Sa: ∀k,¬t.next+k=aQ 2:= λk=>by omega
    have aH:=h.aH;have bD:=h.bD;have bL:=h.bL;have b3:=h.b3;have cg:=h.cg;obtain⟨Dj,Dk,Dl⟩:=sY (l:=G.lN) (n:=G.ck.length) (by simp[dm.lN]);rw[<-ia]at Dj Dk Dl;have aud:G.lN.length<1000000:=(by have:=fH.1;simp[dm.lN];omega);cases bO:gP s.ck[i].eV.name
    · have c1:kQ G s.ck[i]= .inr (1,s.ck[i].p):=(by simp[kQ,bO]);simp(disch:=first|omega|(simp only[ae,ad,af,DI.ba];omega)) [Ea,Km,Kn,Ko,pt,dT,aH,bD,bL,hz,bK,bO,a4,aC,a2,fk,nn];refine jY 1 s.ck[i].p _ _ (mj (aI.trans c1)) ?_;exact⟨aQ 1,aQ 2,by simp(disch:=first|omega|(simp only[ae,ad,af,DI.ba];omega)) [bD,-al,-ar,-ai,-ao,-List.map_map],by simp(disch:=first|omega|(simp only[ae,ad,af,DI.ba];omega)) [fk,-al,-ar,-ai,-ao,-List.map_map],by simp,by simp(disch:=first|omega|(simp only[ae,ad,af,DI.ba];omega)) [bL,-al,-ar,-ai,-ao,-List.map_map],by simp(disch:=first|omega|(simp only[ae,ad,af,DI.ba];omega)) [-al,-ar,-ai,-ao,-List.map_map]⟩
    · cases aR:(dR s.ck[i].eV.name G.lN).isSome
      · have ix:=BQ aR;cases aA:s.ck[i].eV.ox
        · have c1:kQ G s.ck[i]= .inr (1,s.ck[i].p):=(by simp[kQ,bO,aA,v9 aR]);simp(disch:=first|omega|(simp only[ae,ad,af,DI.ba];omega)) [Ea,Km,Kn,Ko,pt,dT,aH,bD,bL,cg,hz,bK,bO,ix,aA,a4,aC,a2,kJ,Dj,Dk,Dl,jq,jw,fk,nn];refine jY 1 s.ck[i].p _ _ (mj (aI.trans c1)) ?_;exact⟨aQ 1,aQ 2,by simp(disch:=first|omega|(simp only[ae,ad,af,DI.ba];omega)) [bD,-al,-ar,-ai,-ao,-List.map_map],by simp(disch:=first|omega|(simp only[ae,ad,af,DI.ba];omega)) [fk,-al,-ar,-ai,-ao,-List.map_map],by simp,by simp(disch:=first|omega|(simp only[ae,ad,af,DI.ba];omega)) [bL,-al,-ar,-ai,-ao,-List.map_map],by simp(disch:=first|omega|(simp only[ae,ad,af,DI.ba];omega)) [-al,-ar,-ai,-ao,-List.map_map]⟩
        · have c1:kQ G s.ck[i]= .inl {G with ck:=G.ck++[m5 s.ck[i].eV]}:=(by simp[kQ,bO,v9 aR,aA]);have atL:s.ck[i].eV.bM/\ ∀l∈s.ck[i].eV.bb,l.length<1000000:=⟨JT,hk.Sg JT aA⟩;have h9:iO.length=G.ck.length*4:=(by rw[mY,akO]);have hB:iO.take (G.ck.length*4)=iO:=List.take_of_length_le (by omega);have iH:gU.take G.ck.length=gU:=List.take_of_length_le (by omega);have fV:(G.ck.length+1)*88<=140737488355328/\G.ck.length<=9223372036854775806/\(G.ck.length+1)*16<=140737488355328:=(by have:=fH.1;omega);simp(disch:=first|omega|(simp only[ae,ad,af,DI.ba];omega)) [Ea,Km,Kn,Ko,agk,pt,dT,aH,b3,cg,hz,bK,bo,bO,ix,aA,a4,bS,q9,kJ,Dj,Dk,Dl,h9,hB,iH,fV,jq,jw,j3];refine a9 _ _ ⟨_,_,aI.trans c1,h.step 4 10 (dt:=t.next+8+7+6) (dJ:=t.next+8+5) (by decide) (by decide) (by omega) (by omega) (by omega) (λk W Z H ak=> ?_) (λk W Z H ak=> ?_) ?_ ?_ ?_ ?_ ?_ ?_ ?_ ?_ ?_ ?_ ?_ ?_,?_⟩
          · have L:=h.cW W;have cI:=h.eZ k 3 W (by decide) Z;have lj:=h.eZ k 4 W (by decide) H;have qm:=h.eZ k 10 W (by decide) ak;simp(disch:=first|omega|(simp only[ae,ad,af,DI.ba];omega)) [-al,-ar,-ai,-ao,-List.map_map]
          · rcases v3 W with rfl|rfl|rfl|rfl|rfl|rfl|rfl|rfl|rfl|rfl|rfl|rfl|rfl|rfl|rfl<;>first|rfl|exact absurd rfl Z|exact absurd rfl H|exact absurd rfl ak
          · simp(disch:=first|omega|(simp only[ae,ad,af,DI.ba];omega)) [hL,c9,-al,-ar,-ai,-ao,-List.map_map]
          · rw[show hL s {G with ck:=G.ck++[m5 s.ck[i].eV]} (c9 (c9 aQ 4 (t.next+8+7+6)) 10 (t.next+8+5)) 4=iO++j3 (m5 s.ck[i].eV) by rw[mY];exact sC.symm];simp(disch:=first|omega|(simp only[ae,ad,af,DI.ba];omega)) [j3,-al,-ar,-ai,-ao,-List.map_map]
          · rw[show hL s {G with ck:=G.ck++[m5 s.ck[i].eV]} (c9 (c9 aQ 4 (t.next+8+7+6)) 10 (t.next+8+5)) 10=gU++[cz s.ck[i].eV.name] by rw[ia];simp[hL,dm.lN,fI,m5]];simp(disch:=first|omega|(simp only[ae,ad,af,DI.ba];omega)) [-al,-ar,-ai,-ao,-List.map_map]
          · simp[aH]
          · simp[bD]
          · simp[bL]
          · simp[b3]
          · simp[c9]
          · simp[c9,h.dP]
          · simp[c9,h.fx]
          · simp[c9,h.hg]
          · simp[c9,h.gw]
          · simp
      · obtain⟨j,ix⟩:=JV aR;have c1:kQ G s.ck[i]= .inr (8,s.ck[i].p):=(by simp[kQ,bO,aR]);have uU:(0:Int)<=(j:Int):=(by omega);simp(disch:=first|omega|(simp only[ae,ad,af,DI.ba];omega)) [Ea,Km,Kn,Ko,pt,dT,aH,bD,bL,cg,hz,bK,bO,ix,uU,a4,aC,a2,kJ,Dj,Dk,Dl,jq,jw,fk,nn];refine jY 8 s.ck[i].p _ _ (mj (aI.trans c1)) ?_;exact⟨aQ 1,aQ 2,by simp(disch:=first|omega|(simp only[ae,ad,af,DI.ba];omega)) [bD,-al,-ar,-ai,-ao,-List.map_map],by simp(disch:=first|omega|(simp only[ae,ad,af,DI.ba];omega)) [fk,-al,-ar,-ai,-ao,-List.map_map],by simp,by simp(disch:=first|omega|(simp only[ae,ad,af,DI.ba];omega)) [bL,-al,-ar,-ai,-ao,-List.map_map],by simp(disch:=first|omega|(simp only[ae,ad,af,DI.ba];omega)) [-al,-ar,-ai,-ao,-List.map_map]⟩
  · rintro u t ⟨G,aQ,dB,h,hz⟩;rw[List.take_length]at dB;have a4:t.M (aQ 0)=some ⟨dT s,true⟩:=h.g 0 (by decide);have cY:=h.cW (k:=0) (by decide);have aH:=h.aH;simp[Ea,aH,hz,a4,dT];exact pJ G aQ _ _ dB (h.rM (y2 (by simp) (by simp) (by simp) (by simp) (by simp) (by simp) (by simp) (by simp) (by simp)) λb L=>by simp)
theorem asf{l:List H9}:(l.map qq).flatten.length=l.length*4:=by rw[tn (O:=4) λr aF=>by obtain⟨x,_,rfl⟩:=List.mem_map.1 aF;rfl,List.length_map]
theorem aBM{s:gg}(W:s.bM){hD:dm}(z:wQ s= .inl hD){s0:Nat->Nat}{cO:aL}{cd:B}(bB:kT s hD s0 cO cd)(j4:cO 17=S 0){Q:dr->aL->B->Prop}
    (pJ: ∀G aQ u t,pa s= .inl G->kT s G aQ u t->Q (.bI 5) u t) (jY: ∀e p u t,pa s= .inr (e,p)->Fq e p u t->Q .a7 u t):hs Tryz.prog (.loop z5) cO cd Q:=by
  have aG:=W.dS;have de:pa s=fr ja (.inl hD) s.a5:=by rw[pa,z]
  rw[de]at pJ jY;refine jn (aY:=⟨[EY,AP,u9],[]⟩) (λi u t=> ∃G aQ,fr ja (.inl hD) (s.a5.take i)= .inl G/\kT s G aQ u t/\u 17=S i) s.a5.length ?_ ?_ 0 cO cd (Nat.zero_le _) ⟨hD,s0,by simp[fr],bB,j4⟩
  · rintro i u t aa ⟨G,aQ,dB,h,j4⟩ b9 a9;have fH:=(y8 UO (n:=1000) (λG h=>by cases h;exact Us W z) aa aG (by decide) dB);obtain⟨nY,mE,xc,tE,uK,VO⟩:=fH;have aI:fr ja (.inl hD) (s.a5.take (i+1))=ja G s.a5[i]:=(by rw[kB (List.getElem?_eq_getElem aa),x1,dB];rfl);have H:s.a5[i]?=some s.a5[i]:=List.getElem?_eq_getElem aa;have bo:IntKind.i64.wrap ((i:Int)+1)=(i:Int)+1:=ct (by omega) (by omega);have bK:(i:Int)<s.a5.length:=(by omega);have a4:t.M (aQ 0)=some ⟨dT s,true⟩:=h.g 0 (by decide);have aC:t.M (aQ 1)=some ⟨fk,true⟩:=h.g 1 (by decide);have a2:t.M (aQ 2)=some ⟨[S 0,S 0],true⟩:=h.g 2 (by decide);have bS:t.M (aQ 3)=some ⟨hL s G aQ 3,true⟩:=h.g 3 (by decide);simp only[hL]at bS;have cY:=h.cW (k:=0) (by decide);have fM:=h.cW (k:=1) (by decide);have dg:=h.cW (k:=2) (by decide);have pW:=h.cW (k:=3) (by decide);have IG:=h.eZ 1 2 (by decide) (by decide) (by decide);have nn: ∀k,¬t.next+k=aQ 1:= λk=>by omega
    have Sa: ∀k,¬t.next+k=aQ 2:= λk=>by omega
    have aH:=h.aH;have bD:=h.bD;have bL:=h.bL;have b3:=h.b3;have cg:=h.cg;have dP:=h.dP;have fx:=h.fx;have hg:=h.hg;have gw:=h.gw;obtain⟨gU,ia⟩: ∃c,c=fI G.gJ:=⟨_,rfl⟩;have kJ:t.M (aQ 11)=some ⟨gU,true⟩:=(by rw[ia];exact h.g 11 (by decide));have RX:=h.cW (k:=11) (by decide);obtain⟨kG,kH,kI⟩:=sY (l:=G.gJ) (n:=G.a5.length) (by simp[dm.gJ]);rw[<-ia]at kG kH kI;have Ok:G.gJ.length<1000000:=(by first|omega|(simp[dm.gJ]<;>omega));obtain⟨Dc,By⟩: ∃c,c=fI G.lN:=⟨_,rfl⟩;have uv:t.M (aQ 10)=some ⟨Dc,true⟩:=(by rw[By];exact h.g 10 (by decide));have iW:=h.cW (k:=10) (by decide);obtain⟨rS,rT,rU⟩:=sY (l:=G.lN) (n:=G.ck.length) (by simp[dm.lN]);rw[<-By]at rS rT rU;have Ol:G.lN.length<1000000:=(by first|omega|(simp[dm.lN]<;>omega));obtain⟨iO,mY⟩: ∃c,c=(G.a5.map qq).flatten:=⟨_,rfl⟩;have q9:t.M (aQ 5)=some ⟨iO,true⟩:=(by rw[mY];exact h.g 5 (by decide));have uY:=h.cW (k:=5) (by decide);have IH:=h.eZ 3 5 (by decide) (by decide) (by decide);have Nv:=h.eZ 3 11 (by decide) (by decide) (by decide);have IN:=h.eZ 5 11 (by decide) (by decide) (by decide);have Nu:=h.eZ 0 5 (by decide) (by decide) (by decide);have Ua:=h.eZ 0 11 (by decide) (by decide) (by decide);have Uf:=h.eZ 10 5 (by decide) (by decide) (by decide);have adu:=h.eZ 10 11 (by decide) (by decide) (by decide);cases bO:gP s.a5[i].name
    · have c1:ja G s.a5[i]= .inr (1,s.a5[i].p):=(by simp[ja,bO]);simp(disch:=first|omega|(simp only[ae,ad,af,DI.ba];omega)) [z5,D7,D8,D9,nL,dT,aH,bD,bL,bK,a4,aC,a2,fk,nn,j4,bO];refine jY 1 _ _ _ (mj (aI.trans c1)) ?_;exact⟨aQ 1,aQ 2,by simp(disch:=first|omega|(simp only[ae,ad,af,DI.ba];omega)) [bD,-al,-ar,-ai,-ao,-List.map_map],by simp(disch:=first|omega|(simp only[ae,ad,af,DI.ba];omega)) [fk,-al,-ar,-ai,-ao,-List.map_map],by simp,by simp(disch:=first|omega|(simp only[ae,ad,af,DI.ba];omega)) [bL,-al,-ar,-ai,-ao,-List.map_map],by simp(disch:=first|omega|(simp only[ae,ad,af,DI.ba];omega)) [-al,-ar,-ai,-ao,-List.map_map]⟩
    · cases aR:(dR s.a5[i].name G.gJ).isSome
      · have ix:=BQ aR;cases pQ:dR s.a5[i].eV G.lN with
        | none=>have c1:ja G s.a5[i]= .inr (7,s.a5[i].p):=(by simp[ja,bO,v9 aR,pQ]);have r1:kv s.a5[i].eV G.lN= -1:=BQ (by rw[pQ];rfl);simp(disch:=first|omega|(simp only[ae,ad,af,DI.ba];omega)) [z5,D7,D8,D9,nL,dT,aH,bD,bL,cg,dP,bK,a4,aC,a2,fk,nn,j4,bO,ix,r1,kJ,kG,kH,kI,uv,rS,rT,rU,jq,jw];refine jY 7 _ _ _ (mj (aI.trans c1)) ?_;exact⟨aQ 1,aQ 2,by simp(disch:=first|omega|(simp only[ae,ad,af,DI.ba];omega)) [bD,-al,-ar,-ai,-ao,-List.map_map],by simp(disch:=first|omega|(simp only[ae,ad,af,DI.ba];omega)) [fk,-al,-ar,-ai,-ao,-List.map_map],by simp,by simp(disch:=first|omega|(simp only[ae,ad,af,DI.ba];omega)) [bL,-al,-ar,-ai,-ao,-List.map_map],by simp(disch:=first|omega|(simp only[ae,ad,af,DI.ba];omega)) [-al,-ar,-ai,-ao,-List.map_map]⟩
        | some hx=>
          have r1:kv s.a5[i].eV G.lN=hx:=D0 pQ;have yf: ¬((hx:Int)<0):=(by omega);cases nS:cU s.a5[i].ext 1 16
          · have c1:ja G s.a5[i]= .inr (5,s.a5[i].p):=(by simp[ja,bO,v9 aR,pQ,nS]);simp(disch:=first|omega|(simp only[ae,ad,af,DI.ba];omega)) [z5,D7,D8,D9,nL,dT,aH,bD,bL,cg,dP,bK,a4,aC,a2,fk,nn,j4,bO,ix,r1,yf,nS,kJ,kG,kH,kI,uv,rS,rT,rU,jq,jw];refine jY 5 _ _ _ (mj (aI.trans c1)) ?_;exact⟨aQ 1,aQ 2,by simp(disch:=first|omega|(simp only[ae,ad,af,DI.ba];omega)) [bD,-al,-ar,-ai,-ao,-List.map_map],by simp(disch:=first|omega|(simp only[ae,ad,af,DI.ba];omega)) [fk,-al,-ar,-ai,-ao,-List.map_map],by simp,by simp(disch:=first|omega|(simp only[ae,ad,af,DI.ba];omega)) [bL,-al,-ar,-ai,-ao,-List.map_map],by simp(disch:=first|omega|(simp only[ae,ad,af,DI.ba];omega)) [-al,-ar,-ai,-ao,-List.map_map]⟩
          · cases c5:cU s.a5[i].pn 1 64
            · have c1:ja G s.a5[i]= .inr (5,s.a5[i].p):=(by simp[ja,bO,v9 aR,pQ,nS,c5]);simp(disch:=first|omega|(simp only[ae,ad,af,DI.ba];omega)) [z5,D7,D8,D9,nL,dT,aH,bD,bL,cg,dP,bK,a4,aC,a2,fk,nn,j4,bO,ix,r1,yf,nS,c5,kJ,kG,kH,kI,uv,rS,rT,rU,jq,jw];refine jY 5 _ _ _ (mj (aI.trans c1)) ?_;exact⟨aQ 1,aQ 2,by simp(disch:=first|omega|(simp only[ae,ad,af,DI.ba];omega)) [bD,-al,-ar,-ai,-ao,-List.map_map],by simp(disch:=first|omega|(simp only[ae,ad,af,DI.ba];omega)) [fk,-al,-ar,-ai,-ao,-List.map_map],by simp,by simp(disch:=first|omega|(simp only[ae,ad,af,DI.ba];omega)) [bL,-al,-ar,-ai,-ao,-List.map_map],by simp(disch:=first|omega|(simp only[ae,ad,af,DI.ba];omega)) [-al,-ar,-ai,-ao,-List.map_map]⟩
            · have c1:ja G s.a5[i]= .inl {G with a5:=G.a5++[⟨s.a5[i].name,s.a5[i].ext,s.a5[i].pn,hx⟩]}:=(by simp[ja,bO,v9 aR,pQ,nS,c5]);have h9:iO.length=G.a5.length*4:=(by rw[mY,asf]);have hB:iO.take (G.a5.length*4)=iO:=List.take_of_length_le (by omega);have iH:gU.take G.a5.length=gU:=List.take_of_length_le (by omega);have fV:(G.a5.length+1)*40<=140737488355328/\G.a5.length<=9223372036854775806/\(G.a5.length+1)*16<=140737488355328:=(by omega);simp(disch:=first|omega|(simp only[ae,ad,af,DI.ba];omega)) [z5,D7,D8,D9,agl,nL,dT,aH,b3,cg,dP,bK,bo,a4,j4,bO,ix,r1,yf,nS,c5,bS,q9,kJ,kG,kH,kI,uv,rS,rT,rU,h9,hB,iH,fV,jq,jw];refine a9 _ _ ⟨_,_,aI.trans c1,h.step 5 11 (dt:=t.next+8+6+14) (dJ:=t.next+8+4) (by decide) (by decide) (by omega) (by omega) (by omega) (λk W Z H ak=> ?_) (λk W Z H ak=> ?_) ?_ ?_ ?_ ?_ ?_ ?_ ?_ ?_ ?_ ?_ ?_ ?_,?_⟩
              · have L:=h.cW W;have cI:=h.eZ k 3 W (by decide) Z;have lj:=h.eZ k 5 W (by decide) H;have qm:=h.eZ k 11 W (by decide) ak;simp(disch:=first|omega|(simp only[ae,ad,af,DI.ba];omega)) [-al,-ar,-ai,-ao,-List.map_map]
              · rcases v3 W with rfl|rfl|rfl|rfl|rfl|rfl|rfl|rfl|rfl|rfl|rfl|rfl|rfl|rfl|rfl<;>first|rfl|exact absurd rfl Z|exact absurd rfl H|exact absurd rfl ak
              · simp(disch:=first|omega|(simp only[ae,ad,af,DI.ba];omega)) [hL,c9,-al,-ar,-ai,-ao,-List.map_map]
              · rw[show hL s {G with a5:=G.a5++[⟨s.a5[i].name,s.a5[i].ext,s.a5[i].pn,(hx:Int)⟩]} (c9 (c9 aQ 5 (t.next+8+6+14)) 11 (t.next+8+4)) 5=iO++qq ⟨s.a5[i].name,s.a5[i].ext,s.a5[i].pn,(hx:Int)⟩ by rw[mY];exact sC.symm];simp(disch:=first|omega|(simp only[ae,ad,af,DI.ba];omega)) [qq,-al,-ar,-ai,-ao,-List.map_map]
              · rw[show hL s {G with a5:=G.a5++[⟨s.a5[i].name,s.a5[i].ext,s.a5[i].pn,(hx:Int)⟩]} (c9 (c9 aQ 5 (t.next+8+6+14)) 11 (t.next+8+4)) 11=gU++[cz s.a5[i].name] by rw[ia];simp[hL,dm.gJ,fI]];simp(disch:=first|omega|(simp only[ae,ad,af,DI.ba];omega)) [-al,-ar,-ai,-ao,-List.map_map]
              · simp[aH]
              · simp[bD]
              · simp[bL]
              · simp[b3]
              · simp[c9,h.cg]
              · simp[c9]
              · simp[c9,h.fx]
              · simp[c9,h.hg]
              · simp[c9,h.gw]
              · simp
      · obtain⟨j,ix⟩:=JV aR;have c1:ja G s.a5[i]= .inr (8,s.a5[i].p):=(by simp[ja,bO,aR]);have uU:(0:Int)<=(j:Int):=(by omega);simp(disch:=first|omega|(simp only[ae,ad,af,DI.ba];omega)) [z5,D7,D8,D9,nL,dT,aH,bD,bL,dP,bK,a4,aC,a2,fk,nn,j4,bO,ix,uU,kJ,kG,kH,kI,jq,jw];refine jY 8 _ _ _ (mj (aI.trans c1)) ?_;exact⟨aQ 1,aQ 2,by simp(disch:=first|omega|(simp only[ae,ad,af,DI.ba];omega)) [bD,-al,-ar,-ai,-ao,-List.map_map],by simp(disch:=first|omega|(simp only[ae,ad,af,DI.ba];omega)) [fk,-al,-ar,-ai,-ao,-List.map_map],by simp,by simp(disch:=first|omega|(simp only[ae,ad,af,DI.ba];omega)) [bL,-al,-ar,-ai,-ao,-List.map_map],by simp(disch:=first|omega|(simp only[ae,ad,af,DI.ba];omega)) [-al,-ar,-ai,-ao,-List.map_map]⟩
  · rintro u t ⟨G,aQ,dB,h,j4⟩;rw[List.take_length]at dB;have a4:t.M (aQ 0)=some ⟨dT s,true⟩:=h.g 0 (by decide);have cY:=h.cW (k:=0) (by decide);have aH:=h.aH;simp[z5,aH,j4,a4,dT];exact pJ G aQ _ _ dB (h.rM (y2 (by simp) (by simp) (by simp) (by simp) (by simp) (by simp) (by simp) (by simp) (by simp)) λb L=>by simp)
theorem aso{l:List Ia}:(l.map qs).flatten.length=l.length*2:=by rw[tn (O:=2) λr aF=>by obtain⟨x,_,rfl⟩:=List.mem_map.1 aF;rfl,List.length_map]
theorem aCq{s:gg}(W:s.bM){hD:dm}(z:q6 s= .inl hD){s0:Nat->Nat}{cO:aL}{cd:B}(bB:kT s hD s0 cO cd)(ru:cO 34=S 0){Q:dr->aL->B->Prop}
    (pJ: ∀G aQ u t,mC s= .inl G->kT s G aQ u t->Q (.bI 16) u t) (jY: ∀e p u t,mC s= .inr (e,p)->Fq e p u t->Q .a7 u t):hs Tryz.prog (.loop Eb) cO cd Q:=by
  have aG:=W.yL;have de:mC s=fr kR (.inl hD) s.dH:=by rw[mC,z]
  rw[de]at pJ jY;refine jn (aY:=⟨[EY,AP],[]⟩) (λi u t=> ∃G aQ,fr kR (.inl hD) (s.dH.take i)= .inl G/\kT s G aQ u t/\u 34=S i) s.dH.length ?_ ?_ 0 cO cd (Nat.zero_le _) ⟨hD,s0,by simp[fr],bB,ru⟩
  · rintro i u t aa ⟨G,aQ,dB,h,ru⟩ b9 a9;have fH:=(y8 aex (n:=4000) (λG h=>by cases h;exact adJ W z) aa aG (by decide) dB);obtain⟨nY,mE,xc,tE,uK,VO⟩:=fH;have aI:fr kR (.inl hD) (s.dH.take (i+1))=kR G s.dH[i]:=(by rw[kB (List.getElem?_eq_getElem aa),x1,dB];rfl);have H:s.dH[i]?=some s.dH[i]:=List.getElem?_eq_getElem aa;have bo:IntKind.i64.wrap ((i:Int)+1)=(i:Int)+1:=ct (by omega) (by omega);have bK:(i:Int)<s.dH.length:=(by omega);have a4:t.M (aQ 0)=some ⟨dT s,true⟩:=h.g 0 (by decide);have aC:t.M (aQ 1)=some ⟨fk,true⟩:=h.g 1 (by decide);have a2:t.M (aQ 2)=some ⟨[S 0,S 0],true⟩:=h.g 2 (by decide);have bS:t.M (aQ 3)=some ⟨hL s G aQ 3,true⟩:=h.g 3 (by decide);simp only[hL]at bS;have cY:=h.cW (k:=0) (by decide);have fM:=h.cW (k:=1) (by decide);have dg:=h.cW (k:=2) (by decide);have pW:=h.cW (k:=3) (by decide);have IG:=h.eZ 1 2 (by decide) (by decide) (by decide);have nn: ∀k,¬t.next+k=aQ 1:= λk=>by omega
    have Sa: ∀k,¬t.next+k=aQ 2:= λk=>by omega
    have aH:=h.aH;have bD:=h.bD;have bL:=h.bL;have b3:=h.b3;have cg:=h.cg;have dP:=h.dP;have fx:=h.fx;have hg:=h.hg;have gw:=h.gw;obtain⟨gU,ia⟩: ∃c,c=fI G.qd:=⟨_,rfl⟩;have kJ:t.M (aQ 14)=some ⟨gU,true⟩:=(by rw[ia];exact h.g 14 (by decide));have RX:=h.cW (k:=14) (by decide);obtain⟨kG,kH,kI⟩:=sY (l:=G.qd) (n:=G.dH.length) (by simp[dm.qd]);rw[<-ia]at kG kH kI;have Ok:G.qd.length<1000000:=(by first|omega|(simp[dm.qd]<;>omega));obtain⟨Dc,By⟩: ∃c,c=fI G.lv:=⟨_,rfl⟩;have uv:t.M (aQ 13)=some ⟨Dc,true⟩:=(by rw[By];exact h.g 13 (by decide));have iW:=h.cW (k:=13) (by decide);obtain⟨rS,rT,rU⟩:=sY (l:=G.lv) (n:=G.cG.length) (by simp[dm.lv]);rw[<-By]at rS rT rU;have Ol:G.lv.length<1000000:=(by first|omega|(simp[dm.lv]<;>omega));obtain⟨iO,mY⟩: ∃c,c=(G.dH.map qs).flatten:=⟨_,rfl⟩;have q9:t.M (aQ 9)=some ⟨iO,true⟩:=(by rw[mY];exact h.g 9 (by decide));have uY:=h.cW (k:=9) (by decide);have IH:=h.eZ 3 9 (by decide) (by decide) (by decide);have Nv:=h.eZ 3 14 (by decide) (by decide) (by decide);have IN:=h.eZ 9 14 (by decide) (by decide) (by decide);have Nu:=h.eZ 0 9 (by decide) (by decide) (by decide);have Ua:=h.eZ 0 14 (by decide) (by decide) (by decide);have Uf:=h.eZ 13 9 (by decide) (by decide) (by decide);have adu:=h.eZ 13 14 (by decide) (by decide) (by decide);cases bO:gP s.dH[i].name
    · have c1:kR G s.dH[i]= .inr (1,s.dH[i].p):=(by simp[kR,bO]);simp(disch:=first|omega|(simp only[ae,ad,af,DI.ba];omega)) [Eb,Ku,Kv,Kw,qS,dT,aH,bD,bL,bK,a4,aC,a2,fk,nn,ru,bO];refine jY 1 _ _ _ (mj (aI.trans c1)) ?_;exact⟨aQ 1,aQ 2,by simp(disch:=first|omega|(simp only[ae,ad,af,DI.ba];omega)) [bD,-al,-ar,-ai,-ao,-List.map_map],by simp(disch:=first|omega|(simp only[ae,ad,af,DI.ba];omega)) [fk,-al,-ar,-ai,-ao,-List.map_map],by simp,by simp(disch:=first|omega|(simp only[ae,ad,af,DI.ba];omega)) [bL,-al,-ar,-ai,-ao,-List.map_map],by simp(disch:=first|omega|(simp only[ae,ad,af,DI.ba];omega)) [-al,-ar,-ai,-ao,-List.map_map]⟩
    · cases aR:(dR s.dH[i].name G.qd).isSome
      · have ix:=BQ aR;cases pQ:dR s.dH[i].qO G.lv with
        | none=>have c1:kR G s.dH[i]= .inr (7,s.dH[i].p):=(by simp[kR,bO,v9 aR,pQ]);have r1:kv s.dH[i].qO G.lv= -1:=BQ (by rw[pQ];rfl);simp(disch:=first|omega|(simp only[ae,ad,af,DI.ba];omega)) [Eb,Ku,Kv,Kw,qS,dT,aH,bD,bL,hg,gw,bK,a4,aC,a2,fk,nn,ru,bO,ix,r1,kJ,kG,kH,kI,uv,rS,rT,rU,jq,jw];refine jY 7 _ _ _ (mj (aI.trans c1)) ?_;exact⟨aQ 1,aQ 2,by simp(disch:=first|omega|(simp only[ae,ad,af,DI.ba];omega)) [bD,-al,-ar,-ai,-ao,-List.map_map],by simp(disch:=first|omega|(simp only[ae,ad,af,DI.ba];omega)) [fk,-al,-ar,-ai,-ao,-List.map_map],by simp,by simp(disch:=first|omega|(simp only[ae,ad,af,DI.ba];omega)) [bL,-al,-ar,-ai,-ao,-List.map_map],by simp(disch:=first|omega|(simp only[ae,ad,af,DI.ba];omega)) [-al,-ar,-ai,-ao,-List.map_map]⟩
        | some hx=>
          have r1:kv s.dH[i].qO G.lv=hx:=D0 pQ;have yf: ¬((hx:Int)<0):=(by omega);have c1:kR G s.dH[i]= .inl {G with dH:=G.dH++[⟨s.dH[i].name,hx⟩]}:=(by simp[kR,bO,v9 aR,pQ]);have h9:iO.length=G.dH.length*2:=(by rw[mY,aso]);have hB:iO.take (G.dH.length*2)=iO:=List.take_of_length_le (by omega);have iH:gU.take G.dH.length=gU:=List.take_of_length_le (by omega);have fV:(G.dH.length+1)*24<=140737488355328/\G.dH.length<=9223372036854775806/\(G.dH.length+1)*16<=140737488355328:=(by omega);simp(disch:=first|omega|(simp only[ae,ad,af,DI.ba];omega)) [Eb,Ku,Kv,Kw,agy,qS,dT,aH,b3,hg,gw,bK,bo,a4,ru,bO,ix,r1,yf,bS,q9,kJ,kG,kH,kI,uv,rS,rT,rU,h9,hB,iH,fV,jq,jw];refine a9 _ _ ⟨_,_,aI.trans c1,h.step 9 14 (dt:=t.next+8+6+10) (dJ:=t.next+8+4) (by decide) (by decide) (by omega) (by omega) (by omega) (λk W Z H ak=> ?_) (λk W Z H ak=> ?_) ?_ ?_ ?_ ?_ ?_ ?_ ?_ ?_ ?_ ?_ ?_ ?_,?_⟩
          · have L:=h.cW W;have cI:=h.eZ k 3 W (by decide) Z;have lj:=h.eZ k 9 W (by decide) H;have qm:=h.eZ k 14 W (by decide) ak;simp(disch:=first|omega|(simp only[ae,ad,af,DI.ba];omega)) [-al,-ar,-ai,-ao,-List.map_map]
          · rcases v3 W with rfl|rfl|rfl|rfl|rfl|rfl|rfl|rfl|rfl|rfl|rfl|rfl|rfl|rfl|rfl<;>first|rfl|exact absurd rfl Z|exact absurd rfl H|exact absurd rfl ak
          · simp(disch:=first|omega|(simp only[ae,ad,af,DI.ba];omega)) [hL,c9,-al,-ar,-ai,-ao,-List.map_map]
          · rw[show hL s {G with dH:=G.dH++[⟨s.dH[i].name,(hx:Int)⟩]} (c9 (c9 aQ 9 (t.next+8+6+10)) 14 (t.next+8+4)) 9=iO++qs ⟨s.dH[i].name,(hx:Int)⟩ by rw[mY];exact sC.symm];simp(disch:=first|omega|(simp only[ae,ad,af,DI.ba];omega)) [qs,-al,-ar,-ai,-ao,-List.map_map]
          · rw[show hL s {G with dH:=G.dH++[⟨s.dH[i].name,(hx:Int)⟩]} (c9 (c9 aQ 9 (t.next+8+6+10)) 14 (t.next+8+4)) 14=gU++[cz s.dH[i].name] by rw[ia];simp[hL,dm.qd,fI]];simp(disch:=first|omega|(simp only[ae,ad,af,DI.ba];omega)) [-al,-ar,-ai,-ao,-List.map_map]
          · simp[aH]
          · simp[bD]
          · simp[bL]
          · simp[b3]
          · simp[c9,h.cg]
          · simp[c9,h.dP]
          · simp[c9,h.fx]
          · simp[c9,h.hg]
          · simp[c9]
          · simp
      · obtain⟨j,ix⟩:=JV aR;have c1:kR G s.dH[i]= .inr (8,s.dH[i].p):=(by simp[kR,bO,aR]);have uU:(0:Int)<=(j:Int):=(by omega);simp(disch:=first|omega|(simp only[ae,ad,af,DI.ba];omega)) [Eb,Ku,Kv,Kw,qS,dT,aH,bD,bL,gw,bK,a4,aC,a2,fk,nn,ru,bO,ix,uU,kJ,kG,kH,kI,jq,jw];refine jY 8 _ _ _ (mj (aI.trans c1)) ?_;exact⟨aQ 1,aQ 2,by simp(disch:=first|omega|(simp only[ae,ad,af,DI.ba];omega)) [bD,-al,-ar,-ai,-ao,-List.map_map],by simp(disch:=first|omega|(simp only[ae,ad,af,DI.ba];omega)) [fk,-al,-ar,-ai,-ao,-List.map_map],by simp,by simp(disch:=first|omega|(simp only[ae,ad,af,DI.ba];omega)) [bL,-al,-ar,-ai,-ao,-List.map_map],by simp(disch:=first|omega|(simp only[ae,ad,af,DI.ba];omega)) [-al,-ar,-ai,-ao,-List.map_map]⟩
  · rintro u t ⟨G,aQ,dB,h,ru⟩;rw[List.take_length]at dB;have a4:t.M (aQ 0)=some ⟨dT s,true⟩:=h.g 0 (by decide);have cY:=h.cW (k:=0) (by decide);have aH:=h.aH;simp[Eb,aH,ru,a4,dT];exact pJ G aQ _ _ dB (h.rM (y2 (by simp) (by simp) (by simp) (by simp) (by simp) (by simp) (by simp) (by simp) (by simp)) λb L=>by simp)
theorem adU{cK:Type}{f:dm->cK->iN}{P:dm->Prop}(aI: ∀G x eP,f G x= .inl eP->P G->P eP): ∀{l:List cK} {s:iN} {eP:dm},fr f s l= .inl eP->(∀G,s= .inl G->P G)->P eP:=by
  intro l;induction l with
  |nil=>intro s eP h J;exact J eP h
  | cons x l cb=>
    intro s eP h J;cases s with
    |inr e=>rw[tp]at h;cases h
    |inl G=>rw[zH]at h;exact cb h λhD z=>aI G x hD z (J G rfl)
def aak(G:dm):Prop:=G.a3=[]/\G.cc=⟨0,-1,-1,-1,-1⟩
theorem ar0{s:gg}{G:dm}(h:pa s= .inl G):aak G:=by
  refine adU (P:=aak) (λG x eP h aq=> ?_) h λhD z=>adU (P:=aak) (λG x eP h aq=> ?_) z λIe D=>by cases D;exact⟨rfl,rfl⟩
  · unfold ja at h
    repeat' split at h
    all_goals cases h
    exact aq
  · unfold kQ at h
    repeat' split at h
    all_goals cases h
    exact aq
theorem kT.Mw{aQ:Nat->Nat}{x y dt dJ b bq:Nat}(L:b<bq)(h: ∀k,k<15->b≠aQ k)(z:bq<=dt)(D:bq<=dJ): ∀k,k<15->b≠c9 (c9 aQ x dt) y dJ k:= λk W=>by
  unfold c9;split
  · omega
  · split
    · omega
    · exact h k W
def EM(l:List k4)(i:Nat):Bool:=match l[i]? with
  |some x=>si l i x.cR
  |none=>false
noncomputable def abu(l:List k4)(ak:l.length<1000000):c8 Tryz.prog:= .fJ 52 Nat (λi=>i<l.length) (λi=>[bE (l.map fl) 9,S i]) (λi=> .bool (EM l i)) λi h=>by
  have H:l[i]?=some l[i]:=List.getElem?_eq_getElem h;have e:EM l i=si l i l[i].cR:=by simp[EM,H]
  rw[e];exact aAG H ak
@[simp] theorem aOr{l:List k4}{ak:l.length<1000000}:(abu l ak).f=52:=rfl
@[simp] theorem aOs{l:List k4}{ak:l.length<1000000}{i:Nat}(h:i<l.length):(abu l ak).fn [bE (l.map fl) 9,S i]=some (.bool (EM l i)):=c8.gX (x:=i) h λy ah=>by simp at ah;omega
theorem ar8{l:List qX}:(l.map iC).flatten.length=l.length*7:=by rw[tn (O:=7) λr aF=>by obtain⟨x,_,rfl⟩:=List.mem_map.1 aF;rfl,List.length_map]
theorem ar9{l:List zm}:(l.map qp).flatten.length=l.length*3:=by rw[tn (O:=3) λr aF=>by obtain⟨x,_,rfl⟩:=List.mem_map.1 aF;rfl,List.length_map]
def AS(s:dY):List Value:=[S s.a,S s.b,S s.c,S s.d,S s.e]
theorem aBS{s:gg}(W:s.bM){hD:dm}(z:pa s= .inl hD){s0:Nat->Nat}{cO:aL}{cd:B}(bB:kT s hD s0 cO cd){iV:Nat}(asC:cd.M iV=some ⟨AS ⟨0,0,0,0,0⟩,true⟩)(azU: ∀k,k<15->iV≠s0 k)(m8:cO 20=bZ iV)(qa:cO 21=S 0){Q:dr->aL->B->Prop}
    (pJ: ∀G aQ u t,qn s= .inl G->kT s G aQ u t->Q (.bI 8) u t) (jY: ∀e p u t,qn s= .inr (e,p)->Fq e p u t->Q .a7 u t):hs Tryz.prog (.loop qC) cO cd Q:=by
  have aG:=W.mH;have Oh:s.a3.length<1000000:=by omega
  have de:qn s=fr hP (.inl hD) s.a3:=by rw[qn,z]
  rw[de]at pJ jY;obtain⟨azY,azZ⟩:=ar0 z;refine jn (aY:=⟨[EY,AP,u9,abu s.a3 Oh,SI,SK,Mo,Mn],[]⟩) (λi u t=> ∃G aQ lr,fr hP (.inl hD) (s.a3.take i)= .inl G/\kT s G aQ u t/\G.a3.length<=i/\te (s.a3.take i) G.cc lr/\t.M iV=some ⟨AS lr,true⟩/\(∀k,k<15->iV≠aQ k)/\u 20=bZ iV/\u 21=S i) s.a3.length ?_ ?_ 0 cO cd (Nat.zero_le _) ⟨hD,s0,⟨0,0,0,0,0⟩,by simp[fr],bB,by simp[azY],by rw[azZ];exact te.init,asC,azU,m8,qa⟩
  · rintro i u t aa ⟨G,aQ,lr,dB,h,lK,r3,tq,rn,m8,qa⟩ b9 a9;have fH:=(y8 UP (n:=2000) (λG h=>by cases h;exact Uv W z) aa aG (by decide) dB);obtain⟨nY,mE,xc,tE,uK,VO⟩:=fH;have aI:fr hP (.inl hD) (s.a3.take (i+1))=hP G s.a3[i]:=(by rw[kB (List.getElem?_eq_getElem aa),x1,dB];rfl);have BO:s.a3.take (i+1)=s.a3.take i++[s.a3[i]]:=kB (List.getElem?_eq_getElem aa);have JT:s.a3[i].fX.bM:=W.a3 _ (List.getElem_mem aa);have LM:=aT tq;simp only[AS]at tq;have H:s.a3[i]?=some s.a3[i]:=List.getElem?_eq_getElem aa;have bo:IntKind.i64.wrap ((i:Int)+1)=(i:Int)+1:=ct (by omega) (by omega);have bK:(i:Int)<s.a3.length:=(by omega);have a4:t.M (aQ 0)=some ⟨dT s,true⟩:=h.g 0 (by decide);have aC:t.M (aQ 1)=some ⟨fk,true⟩:=h.g 1 (by decide);have a2:t.M (aQ 2)=some ⟨[S 0,S 0],true⟩:=h.g 2 (by decide);have bS:t.M (aQ 3)=some ⟨hL s G aQ 3,true⟩:=h.g 3 (by decide);simp only[hL]at bS;have cY:=h.cW (k:=0) (by decide);have fM:=h.cW (k:=1) (by decide);have dg:=h.cW (k:=2) (by decide);have pW:=h.cW (k:=3) (by decide);have IG:=h.eZ 1 2 (by decide) (by decide) (by decide);have nn: ∀k,¬t.next+k=aQ 1:= λk=>by omega
    have Sa: ∀k,¬t.next+k=aQ 2:= λk=>by omega
    have aH:=h.aH;have bD:=h.bD;have bL:=h.bL;have b3:=h.b3;have cg:=h.cg;have dP:=h.dP;have fx:=h.fx;have hg:=h.hg;have gw:=h.gw;obtain⟨gU,ia⟩: ∃c,c=fI G.a3:=⟨_,rfl⟩;have kJ:t.M (aQ 12)=some ⟨gU,true⟩:=(by rw[ia];exact h.g 12 (by decide));have RX:=h.cW (k:=12) (by decide);obtain⟨kG,kH,kI⟩:=sY (l:=G.a3) (n:=G.a3.length) (by simp[]);rw[<-ia]at kG kH kI;have Ok:G.a3.length<1000000:=(by first|omega|(simp[dm.lN,dm.gJ,dm.lv,dm.qd]<;>omega));obtain⟨Dc,By⟩: ∃c,c=fI G.gJ:=⟨_,rfl⟩;have uv:t.M (aQ 11)=some ⟨Dc,true⟩:=(by rw[By];exact h.g 11 (by decide));have iW:=h.cW (k:=11) (by decide);obtain⟨rS,rT,rU⟩:=sY (l:=G.gJ) (n:=G.a5.length) (by simp[dm.gJ]);rw[<-By]at rS rT rU;have Ol:G.gJ.length<1000000:=(by first|omega|(simp[dm.gJ]<;>omega));have VI:EM s.a3 i=si s.a3 i s.a3[i].cR:=(by simp[EM,H]);have aHS:iV≠aQ 1:=rn 1 (by decide);have aHT:iV≠aQ 2:=rn 2 (by decide);have aHU:iV≠aQ 3:=rn 3 (by decide);have aHX:iV≠aQ 12:=rn 12 (by decide);have aHV:iV≠aQ 6:=rn 6 (by decide);have aHW:iV≠aQ 7:=rn 7 (by decide);have Nv:=h.eZ 3 12 (by decide) (by decide) (by decide);have Ua:=h.eZ 0 12 (by decide) (by decide) (by decide);have adu:=h.eZ 11 12 (by decide) (by decide) (by decide);cases bO:gP s.a3[i].name
    · have c1:hP G s.a3[i]= .inr (1,s.a3[i].p):=(by simp[hP,gy,bO]);simp(disch:=first|omega|(simp only[ae,ad,af,DI.ba];omega)) [qC,r7,r8,r9,fl,dT,aH,bD,bL,bK,a4,aC,a2,fk,nn,qa,bO];refine jY 1 _ _ _ (mj (aI.trans c1)) ?_;exact⟨aQ 1,aQ 2,by simp(disch:=first|omega|(simp only[ae,ad,af,DI.ba];omega)) [bD,-al,-ar,-ai,-ao,-List.map_map],by simp(disch:=first|omega|(simp only[ae,ad,af,DI.ba];omega)) [fk,-al,-ar,-ai,-ao,-List.map_map],by simp,by simp(disch:=first|omega|(simp only[ae,ad,af,DI.ba];omega)) [bL,-al,-ar,-ai,-ao,-List.map_map],by simp(disch:=first|omega|(simp only[ae,ad,af,DI.ba];omega)) [-al,-ar,-ai,-ao,-List.map_map]⟩
    · cases aR:(dR s.a3[i].name G.a3).isSome
      · have ix:=BQ aR;cases m0:EM s.a3 i
        · have c1:hP G s.a3[i]= .inr (1,s.a3[i].p):=by
            cases kt:cU s.a3[i].cR 1 5
            · simp[hP,gy,bO,aR,kt]
            · have: ¬0<=G.cc.at (s.a3[i].cR-1):= λh=>by rw[<-r3.al5 kt,<-VI,m0]at h;cases h
              have ca:G.cc.at (s.a3[i].cR-1)<0:=(by omega);simp[hP,gy,bO,aR,kt,ca]
          simp(disch:=first|omega|(simp only[ae,ad,af,DI.ba];omega)) [qC,r7,r8,r9,fl,dT,aH,bD,bL,fx,bK,a4,aC,a2,fk,nn,qa,bO,ix,m0,kJ,kG,kH,kI,jq,jw];refine jY 1 _ _ _ (mj (aI.trans c1)) ?_;exact⟨aQ 1,aQ 2,by simp(disch:=first|omega|(simp only[ae,ad,af,DI.ba];omega)) [bD,-al,-ar,-ai,-ao,-List.map_map],by simp(disch:=first|omega|(simp only[ae,ad,af,DI.ba];omega)) [fk,-al,-ar,-ai,-ao,-List.map_map],by simp,by simp(disch:=first|omega|(simp only[ae,ad,af,DI.ba];omega)) [bL,-al,-ar,-ai,-ao,-List.map_map],by simp(disch:=first|omega|(simp only[ae,ad,af,DI.ba];omega)) [-al,-ar,-ai,-ao,-List.map_map]⟩
        · have kt:cU s.a3[i].cR 1 5=true:=(by rw[VI,si,Bool.and_eq_true]at m0;exact m0.1);have aeG:0<=G.cc.at (s.a3[i].cR-1):=(by rw[<-r3.al5 kt,<-VI];exact m0);have Jp: ¬G.cc.at (s.a3[i].cR-1)<0:=(by omega);have Oi:=yp.1 kt;by_cases aX:s.a3[i].cR=5
          · have NV: ¬s.a3[i].cR<5:=(by omega);have Jq: ¬G.cc.at 4<0:=(by have:=Jp;rw[aX]at this;simpa using this);cases pQ:dR s.a3[i].model G.gJ with
            | none=>have r1:kv s.a3[i].model G.gJ= -1:=BQ (by rw[pQ];rfl);have c1:hP G s.a3[i]= .inr (7,s.a3[i].p):=(by rw[aX]at kt;simp[hP,gy,bO,aR,aX,kt,pQ,Jq]);simp(disch:=first|omega|(simp only[ae,ad,af,DI.ba];omega)) [qC,r7,r8,r9,fl,dT,aH,bD,bL,dP,fx,bK,a4,aC,a2,fk,nn,qa,bO,ix,m0,aX,r1,kJ,kG,kH,kI,uv,rS,rT,rU,jq,jw];refine jY 7 _ _ _ (mj (aI.trans c1)) ?_;exact⟨aQ 1,aQ 2,by simp(disch:=first|omega|(simp only[ae,ad,af,DI.ba];omega)) [bD,-al,-ar,-ai,-ao,-List.map_map],by simp(disch:=first|omega|(simp only[ae,ad,af,DI.ba];omega)) [fk,-al,-ar,-ai,-ao,-List.map_map],by simp,by simp(disch:=first|omega|(simp only[ae,ad,af,DI.ba];omega)) [bL,-al,-ar,-ai,-ao,-List.map_map],by simp(disch:=first|omega|(simp only[ae,ad,af,DI.ba];omega)) [-al,-ar,-ai,-ao,-List.map_map]⟩
            | some hx=>
              have r1:kv s.a3[i].model G.gJ=hx:=D0 pQ;have yf: ¬((hx:Int)<0):=(by omega);by_cases kW:s.a3[i].gQ=0
              · cases aA:s.a3[i].fX.bw.ok
                · have c1:hP G s.a3[i]= .inr (1,s.a3[i].p):=(by rw[aX]at kt;simp[hP,gy,bO,aR,aX,kt,pQ,Jq,kW,aA]);simp(disch:=first|omega|(simp only[ae,ad,af,DI.ba];omega)) [qC,r7,r8,r9,fl,dT,aH,bD,bL,dP,fx,bK,a4,aC,a2,fk,nn,qa,bO,ix,m0,aX,r1,yf,kW,aA,kJ,kG,kH,kI,uv,rS,rT,rU,jq,jw];refine jY 1 _ _ _ (mj (aI.trans c1)) ?_;exact⟨aQ 1,aQ 2,by simp(disch:=first|omega|(simp only[ae,ad,af,DI.ba];omega)) [bD,-al,-ar,-ai,-ao,-List.map_map],by simp(disch:=first|omega|(simp only[ae,ad,af,DI.ba];omega)) [fk,-al,-ar,-ai,-ao,-List.map_map],by simp,by simp(disch:=first|omega|(simp only[ae,ad,af,DI.ba];omega)) [bL,-al,-ar,-ai,-ao,-List.map_map],by simp(disch:=first|omega|(simp only[ae,ad,af,DI.ba];omega)) [-al,-ar,-ai,-ao,-List.map_map]⟩
                · have OG:s.a3[i].fX.bM/\s.a3[i].fX.bw.ok=true:=⟨JT,aA⟩;have bY:=al0 (bh.gO JT);by_cases aq:0<s.a3[i].fX.bw.n
                  · have DX: ¬ju s.a3[i].fX.bw .nil=0:=(by rw[bY];exact λh=>h aq);have c1:hP G s.a3[i]= .inr (1,s.a3[i].p):=(by rw[aX]at kt;simp[hP,gy,bO,aR,aX,kt,pQ,Jq,kW,aA,aq]);simp(disch:=first|omega|(simp only[ae,ad,af,DI.ba];omega)) [qC,r7,r8,r9,fl,dT,aH,bD,bL,dP,fx,bK,a4,aC,a2,fk,nn,qa,bO,ix,m0,aX,r1,yf,kW,aA,DX,kJ,kG,kH,kI,uv,rS,rT,rU,jq,jw];refine jY 1 _ _ _ (mj (aI.trans c1)) ?_;exact⟨aQ 1,aQ 2,by simp(disch:=first|omega|(simp only[ae,ad,af,DI.ba];omega)) [bD,-al,-ar,-ai,-ao,-List.map_map],by simp(disch:=first|omega|(simp only[ae,ad,af,DI.ba];omega)) [fk,-al,-ar,-ai,-ao,-List.map_map],by simp,by simp(disch:=first|omega|(simp only[ae,ad,af,DI.ba];omega)) [bL,-al,-ar,-ai,-ao,-List.map_map],by simp(disch:=first|omega|(simp only[ae,ad,af,DI.ba];omega)) [-al,-ar,-ai,-ao,-List.map_map]⟩
                  · have DX:ju s.a3[i].fX.bw .nil=0:=(by rw[bY];exact aq);have c1:hP G s.a3[i]= .inl {G with gq:=G.gq++[⟨s.a3[i].name,hx,G.cc.e⟩],a3:=G.a3++[s.a3[i].name]}:=(by rw[aX]at kt;simp[hP,gy,bO,aR,aX,kt,pQ,Jq,kW,aA,aq]);have fG:lr.e=G.cc.e:=by
                      have:=r3.parent kt aeG;rw[aX]at this;simpa[dY.at]using this
                    rw[fG]at tq;obtain⟨iO,mY⟩: ∃c,c=(G.gq.map qp).flatten:=⟨_,rfl⟩;have q9:t.M (aQ 7)=some ⟨iO,true⟩:=(by rw[mY];exact h.g 7 (by decide));have uY:=h.cW (k:=7) (by decide);have IH:=h.eZ 3 7 (by decide) (by decide) (by decide);have IN:=h.eZ 7 12 (by decide) (by decide) (by decide);have Nu:=h.eZ 0 7 (by decide) (by decide) (by decide);have Uf:=h.eZ 11 7 (by decide) (by decide) (by decide);have h9:iO.length=G.gq.length*3:=(by rw[mY,ar9]);have hB:iO.take (G.gq.length*3)=iO:=List.take_of_length_le (by omega);have iH:gU.take G.a3.length=gU:=List.take_of_length_le (by omega);have fV:(G.gq.length+1)*32<=140737488355328/\G.gq.length<=9223372036854775806/\(G.a3.length+1)*16<=140737488355328/\G.a3.length<=9223372036854775806:=(by omega);simp(disch:=first|omega|(simp only[ae,ad,af,DI.ba];omega)) [qC,r7,r8,r9,Gw,Gx,fl,dT,aH,b3,dP,fx,bK,bo,a4,m8,qa,bO,ix,m0,aX,r1,yf,kW,aA,DX,kJ,kG,kH,kI,uv,rS,rT,rU,jq,jw,bS,q9,h9,hB,iH,fV,tq];refine a9 _ _ ⟨_,_,lr,aI.trans c1,h.step 7 12 (dt:=t.next+8+6+12) (dJ:=t.next+8+4) (by decide) (by decide) (by omega) (by omega) (by omega) (λk W Z H ak=> ?_) (λk W Z H ak=> ?_) ?_ ?_ ?_ ?_ ?_ ?_ ?_ ?_ ?_ ?_ ?_ ?_,?_,?_,?_,kT.Mw LM rn (by omega) (by omega),?_,?_⟩
                    · have L:=h.cW W;have cI:=h.eZ k 3 W (by decide) Z;have lj:=h.eZ k 7 W (by decide) H;have qm:=h.eZ k 12 W (by decide) ak;have eF:=rn k W;simp(disch:=first|omega|(simp only[ae,ad,af,DI.ba];omega)) [-al,-ar,-ai,-ao,-List.map_map]
                    · rcases v3 W with rfl|rfl|rfl|rfl|rfl|rfl|rfl|rfl|rfl|rfl|rfl|rfl|rfl|rfl|rfl<;>first|rfl|exact absurd rfl Z|exact absurd rfl H|exact absurd rfl ak
                    · simp(disch:=first|omega|(simp only[ae,ad,af,DI.ba];omega)) [hL,c9,-al,-ar,-ai,-ao,-List.map_map]
                    · rw[show hL s {G with gq:=G.gq++[⟨s.a3[i].name,(hx:Int),G.cc.e⟩],a3:=G.a3++[s.a3[i].name]} (c9 (c9 aQ 7 (t.next+8+6+12)) 12 (t.next+8+4)) 7=iO++qp ⟨s.a3[i].name,(hx:Int),G.cc.e⟩ by rw[mY];exact sC.symm];simp(disch:=first|omega|(simp only[ae,ad,af,DI.ba];omega)) [qp,-al,-ar,-ai,-ao,-List.map_map]
                    · rw[show hL s {G with gq:=G.gq++[⟨s.a3[i].name,(hx:Int),G.cc.e⟩],a3:=G.a3++[s.a3[i].name]} (c9 (c9 aQ 7 (t.next+8+6+12)) 12 (t.next+8+4)) 12=gU++[cz s.a3[i].name] by rw[ia];simp[hL,fI]];simp(disch:=first|omega|(simp only[ae,ad,af,DI.ba];omega)) [-al,-ar,-ai,-ao,-List.map_map]
                    · simp[aH]
                    · simp[bD]
                    · simp[bL]
                    · simp[b3]
                    · simp[c9,h.cg]
                    · simp[c9,h.dP]
                    · simp[c9]
                    · simp[c9,h.hg]
                    · simp[c9,h.gw]
                    · simp;omega
                    · rw[BO];exact r3.Fw aX
                    · rw[AS,fG];simp(disch:=first|omega|(simp only[ae,ad,af,DI.ba];omega)) [tq,-al,-ar,-ai,-ao,-List.map_map]
                    · simp[m8]
                    · simp
              · have c1:hP G s.a3[i]= .inr (1,s.a3[i].p):=(by rw[aX]at kt;simp[hP,gy,bO,aR,aX,kt,pQ,Jq,kW]);simp(disch:=first|omega|(simp only[ae,ad,af,DI.ba];omega)) [qC,r7,r8,r9,fl,dT,aH,bD,bL,dP,fx,bK,a4,aC,a2,fk,nn,qa,bO,ix,m0,aX,r1,yf,kW,kJ,kG,kH,kI,uv,rS,rT,rU,jq,jw];refine jY 1 _ _ _ (mj (aI.trans c1)) ?_;exact⟨aQ 1,aQ 2,by simp(disch:=first|omega|(simp only[ae,ad,af,DI.ba];omega)) [bD,-al,-ar,-ai,-ao,-List.map_map],by simp(disch:=first|omega|(simp only[ae,ad,af,DI.ba];omega)) [fk,-al,-ar,-ai,-ao,-List.map_map],by simp,by simp(disch:=first|omega|(simp only[ae,ad,af,DI.ba];omega)) [bL,-al,-ar,-ai,-ao,-List.map_map],by simp(disch:=first|omega|(simp only[ae,ad,af,DI.ba];omega)) [-al,-ar,-ai,-ao,-List.map_map]⟩
          · have NV:s.a3[i].cR<5:=(by omega);cases kW:cU s.a3[i].gQ 1 64
            · have c1:hP G s.a3[i]= .inr (5,s.a3[i].p):=(by simp[hP,gy,bO,aR,aX,kt,Jp,kW]);simp(disch:=first|omega|(simp only[ae,ad,af,DI.ba];omega)) [qC,r7,r8,r9,fl,dT,aH,bD,bL,fx,bK,a4,aC,a2,fk,nn,qa,bO,ix,m0,NV,kW,kJ,kG,kH,kI,jq,jw];refine jY 5 _ _ _ (mj (aI.trans c1)) ?_;exact⟨aQ 1,aQ 2,by simp(disch:=first|omega|(simp only[ae,ad,af,DI.ba];omega)) [bD,-al,-ar,-ai,-ao,-List.map_map],by simp(disch:=first|omega|(simp only[ae,ad,af,DI.ba];omega)) [fk,-al,-ar,-ai,-ao,-List.map_map],by simp,by simp(disch:=first|omega|(simp only[ae,ad,af,DI.ba];omega)) [bL,-al,-ar,-ai,-ao,-List.map_map],by simp(disch:=first|omega|(simp only[ae,ad,af,DI.ba];omega)) [-al,-ar,-ai,-ao,-List.map_map]⟩
            · cases fv:s.a3[i].fX.bw.small
              · have c1:hP G s.a3[i]= .inr (1,s.a3[i].p):=(by simp[hP,gy,bO,aR,aX,kt,Jp,kW,fv]);simp(disch:=first|omega|(simp only[ae,ad,af,DI.ba];omega)) [qC,r7,r8,r9,fl,dT,aH,bD,bL,fx,bK,a4,aC,a2,fk,nn,qa,bO,ix,m0,NV,kW,fv,kJ,kG,kH,kI,jq,jw];refine jY 1 _ _ _ (mj (aI.trans c1)) ?_;exact⟨aQ 1,aQ 2,by simp(disch:=first|omega|(simp only[ae,ad,af,DI.ba];omega)) [bD,-al,-ar,-ai,-ao,-List.map_map],by simp(disch:=first|omega|(simp only[ae,ad,af,DI.ba];omega)) [fk,-al,-ar,-ai,-ao,-List.map_map],by simp,by simp(disch:=first|omega|(simp only[ae,ad,af,DI.ba];omega)) [bL,-al,-ar,-ai,-ao,-List.map_map],by simp(disch:=first|omega|(simp only[ae,ad,af,DI.ba];omega)) [-al,-ar,-ai,-ao,-List.map_map]⟩
              · by_cases DJ:s.a3[i].model=⟨#[]⟩
                · have c1:hP G s.a3[i]= .inl {G with dG:=G.dG++[⟨s.a3[i].name,s.a3[i].cR,G.cc.at (s.a3[i].cR-1),s.a3[i].gQ,ea s.a3[i].fX⟩],a3:=G.a3++[s.a3[i].name],cc:=G.cc.au s.a3[i].cR G.dG.length}:=(by simp[hP,gy,bO,aR,aX,kt,Jp,kW,fv,DJ]);have zX:=r3.parent kt aeG;have N8:=r3.ql (n:=(G.dG.length:Int)) (by omega) (yp.2 ⟨Oi.1,by omega⟩:cU s.a3[i].cR 1 4=true);obtain⟨iO,mY⟩: ∃c,c=(G.dG.map iC).flatten:=⟨_,rfl⟩;have q9:t.M (aQ 6)=some ⟨iO,true⟩:=(by rw[mY];exact h.g 6 (by decide));have uY:=h.cW (k:=6) (by decide);have IH:=h.eZ 3 6 (by decide) (by decide) (by decide);have IN:=h.eZ 6 12 (by decide) (by decide) (by decide);have Nu:=h.eZ 0 6 (by decide) (by decide) (by decide);have Uf:=h.eZ 11 6 (by decide) (by decide) (by decide);have h9:iO.length=G.dG.length*7:=(by rw[mY,ar8]);have hB:iO.take (G.dG.length*7)=iO:=List.take_of_length_le (by omega);have iH:gU.take G.a3.length=gU:=List.take_of_length_le (by omega);have fV:(G.dG.length+1)*96<=140737488355328/\G.dG.length<=9223372036854775806/\(G.a3.length+1)*16<=140737488355328/\G.a3.length<=9223372036854775806:=(by omega);obtain⟨qh,as8⟩: ∃qh,qh=G.cc.at (s.a3[i].cR-1):=⟨_,rfl⟩;have aw:s.a3[i].cR=1\/s.a3[i].cR=2\/s.a3[i].cR=3\/s.a3[i].cR=4:=(by omega);rw[<-as8]at c1 zX;rcases aw with fe|fe|fe|fe
                  · have xb:lr.a=qh:=(by rw[fe]at zX;simpa[dY.at]using zX);rw[xb]at tq;have Fe:IntKind.i64.wrap 0=0:=rfl;simp(disch:=first|omega|(simp only[ae,ad,af,DI.ba];omega)) [qC,r7,r8,r9,Gw,Gx,Kq,Kr,fl,dT,aH,b3,fx,bK,bo,a4,m8,qa,bO,ix,m0,kW,fv,DJ,fe,Fe,kJ,kG,kH,kI,jq,jw,bS,q9,h9,hB,iH,fV,tq,eS];refine a9 _ _ ⟨_,_,_,aI.trans c1,h.step 6 12 (dt:=t.next+8+6+9+16) (dJ:=t.next+8+4) (by decide) (by decide) (by omega) (by omega) (by omega) (λk W Z H ak=> ?_) (λk W Z H ak=> ?_) ?_ ?_ ?_ ?_ ?_ ?_ ?_ ?_ ?_ ?_ ?_ ?_,?_,by rw[BO];exact N8,?_,kT.Mw LM rn (by omega) (by omega),?_,?_⟩
                    · have L:=h.cW W;have cI:=h.eZ k 3 W (by decide) Z;have lj:=h.eZ k 6 W (by decide) H;have qm:=h.eZ k 12 W (by decide) ak;have eF:=rn k W;simp(disch:=first|omega|(simp only[ae,ad,af,DI.ba];omega)) [-al,-ar,-ai,-ao,-List.map_map]
                    · rcases v3 W with rfl|rfl|rfl|rfl|rfl|rfl|rfl|rfl|rfl|rfl|rfl|rfl|rfl|rfl|rfl<;>first|rfl|exact absurd rfl Z|exact absurd rfl H|exact absurd rfl ak
                    · simp(disch:=first|omega|(simp only[ae,ad,af,DI.ba];omega)) [hL,c9,-al,-ar,-ai,-ao,-List.map_map]
                    · rw[show hL s {G with dG:=G.dG++[⟨s.a3[i].name,s.a3[i].cR,qh,s.a3[i].gQ,ea s.a3[i].fX⟩],a3:=G.a3++[s.a3[i].name],cc:=G.cc.au s.a3[i].cR G.dG.length} (c9 (c9 aQ 6 (t.next+8+6+9+16)) 12 (t.next+8+4)) 6=iO++iC ⟨s.a3[i].name,s.a3[i].cR,qh,s.a3[i].gQ,ea s.a3[i].fX⟩ by rw[mY];exact sC.symm];simp(disch:=first|omega|(simp only[ae,ad,af,DI.ba];omega)) [iC,fe,-al,-ar,-ai,-ao,-List.map_map]
                    · rw[show hL s {G with dG:=G.dG++[⟨s.a3[i].name,s.a3[i].cR,qh,s.a3[i].gQ,ea s.a3[i].fX⟩],a3:=G.a3++[s.a3[i].name],cc:=G.cc.au s.a3[i].cR G.dG.length} (c9 (c9 aQ 6 (t.next+8+6+9+16)) 12 (t.next+8+4)) 12=gU++[cz s.a3[i].name] by rw[ia];simp[hL,fI]];simp(disch:=first|omega|(simp only[ae,ad,af,DI.ba];omega)) [-al,-ar,-ai,-ao,-List.map_map]
                    · simp[aH]
                    · simp[bD]
                    · simp[bL]
                    · simp[b3]
                    · simp[c9,h.cg]
                    · simp[c9,h.dP]
                    · simp[c9]
                    · simp[c9,h.hg]
                    · simp[c9,h.gw]
                    · simp;omega
                    · rw[AS,fe,dY.AQ];simp[xb];simp(disch:=first|omega|(simp only[ae,ad,af,DI.ba];omega)) [-al,-ar,-ai,-ao,-List.map_map]
                    · simp[m8]
                    · simp
                  · have xb:lr.b=qh:=(by rw[fe]at zX;simpa[dY.at]using zX);rw[xb]at tq;have Fe:IntKind.i64.wrap 1=1:=rfl;simp(disch:=first|omega|(simp only[ae,ad,af,DI.ba];omega)) [qC,r7,r8,r9,Gw,Gx,Kq,Kr,fl,dT,aH,b3,fx,bK,bo,a4,m8,qa,bO,ix,m0,kW,fv,DJ,fe,Fe,kJ,kG,kH,kI,jq,jw,bS,q9,h9,hB,iH,fV,tq,eS];refine a9 _ _ ⟨_,_,_,aI.trans c1,h.step 6 12 (dt:=t.next+8+6+9+16) (dJ:=t.next+8+4) (by decide) (by decide) (by omega) (by omega) (by omega) (λk W Z H ak=> ?_) (λk W Z H ak=> ?_) ?_ ?_ ?_ ?_ ?_ ?_ ?_ ?_ ?_ ?_ ?_ ?_,?_,by rw[BO];exact N8,?_,kT.Mw LM rn (by omega) (by omega),?_,?_⟩
                    · have L:=h.cW W;have cI:=h.eZ k 3 W (by decide) Z;have lj:=h.eZ k 6 W (by decide) H;have qm:=h.eZ k 12 W (by decide) ak;have eF:=rn k W;simp(disch:=first|omega|(simp only[ae,ad,af,DI.ba];omega)) [-al,-ar,-ai,-ao,-List.map_map]
                    · rcases v3 W with rfl|rfl|rfl|rfl|rfl|rfl|rfl|rfl|rfl|rfl|rfl|rfl|rfl|rfl|rfl<;>first|rfl|exact absurd rfl Z|exact absurd rfl H|exact absurd rfl ak
                    · simp(disch:=first|omega|(simp only[ae,ad,af,DI.ba];omega)) [hL,c9,-al,-ar,-ai,-ao,-List.map_map]
                    · rw[show hL s {G with dG:=G.dG++[⟨s.a3[i].name,s.a3[i].cR,qh,s.a3[i].gQ,ea s.a3[i].fX⟩],a3:=G.a3++[s.a3[i].name],cc:=G.cc.au s.a3[i].cR G.dG.length} (c9 (c9 aQ 6 (t.next+8+6+9+16)) 12 (t.next+8+4)) 6=iO++iC ⟨s.a3[i].name,s.a3[i].cR,qh,s.a3[i].gQ,ea s.a3[i].fX⟩ by rw[mY];exact sC.symm];simp(disch:=first|omega|(simp only[ae,ad,af,DI.ba];omega)) [iC,fe,-al,-ar,-ai,-ao,-List.map_map]
                    · rw[show hL s {G with dG:=G.dG++[⟨s.a3[i].name,s.a3[i].cR,qh,s.a3[i].gQ,ea s.a3[i].fX⟩],a3:=G.a3++[s.a3[i].name],cc:=G.cc.au s.a3[i].cR G.dG.length} (c9 (c9 aQ 6 (t.next+8+6+9+16)) 12 (t.next+8+4)) 12=gU++[cz s.a3[i].name] by rw[ia];simp[hL,fI]];simp(disch:=first|omega|(simp only[ae,ad,af,DI.ba];omega)) [-al,-ar,-ai,-ao,-List.map_map]
                    · simp[aH]
                    · simp[bD]
                    · simp[bL]
                    · simp[b3]
                    · simp[c9,h.cg]
                    · simp[c9,h.dP]
                    · simp[c9]
                    · simp[c9,h.hg]
                    · simp[c9,h.gw]
                    · simp;omega
                    · rw[AS,fe,dY.AQ];simp[xb];simp(disch:=first|omega|(simp only[ae,ad,af,DI.ba];omega)) [-al,-ar,-ai,-ao,-List.map_map]
                    · simp[m8]
                    · simp
                  · have xb:lr.c=qh:=(by rw[fe]at zX;simpa[dY.at]using zX);rw[xb]at tq;have Fe:IntKind.i64.wrap 2=2:=rfl;simp(disch:=first|omega|(simp only[ae,ad,af,DI.ba];omega)) [qC,r7,r8,r9,Gw,Gx,Kq,Kr,fl,dT,aH,b3,fx,bK,bo,a4,m8,qa,bO,ix,m0,kW,fv,DJ,fe,Fe,kJ,kG,kH,kI,jq,jw,bS,q9,h9,hB,iH,fV,tq,eS];refine a9 _ _ ⟨_,_,_,aI.trans c1,h.step 6 12 (dt:=t.next+8+6+9+16) (dJ:=t.next+8+4) (by decide) (by decide) (by omega) (by omega) (by omega) (λk W Z H ak=> ?_) (λk W Z H ak=> ?_) ?_ ?_ ?_ ?_ ?_ ?_ ?_ ?_ ?_ ?_ ?_ ?_,?_,by rw[BO];exact N8,?_,kT.Mw LM rn (by omega) (by omega),?_,?_⟩
                    · have L:=h.cW W;have cI:=h.eZ k 3 W (by decide) Z;have lj:=h.eZ k 6 W (by decide) H;have qm:=h.eZ k 12 W (by decide) ak;have eF:=rn k W;simp(disch:=first|omega|(simp only[ae,ad,af,DI.ba];omega)) [-al,-ar,-ai,-ao,-List.map_map]
                    · rcases v3 W with rfl|rfl|rfl|rfl|rfl|rfl|rfl|rfl|rfl|rfl|rfl|rfl|rfl|rfl|rfl<;>first|rfl|exact absurd rfl Z|exact absurd rfl H|exact absurd rfl ak
                    · simp(disch:=first|omega|(simp only[ae,ad,af,DI.ba];omega)) [hL,c9,-al,-ar,-ai,-ao,-List.map_map]
                    · rw[show hL s {G with dG:=G.dG++[⟨s.a3[i].name,s.a3[i].cR,qh,s.a3[i].gQ,ea s.a3[i].fX⟩],a3:=G.a3++[s.a3[i].name],cc:=G.cc.au s.a3[i].cR G.dG.length} (c9 (c9 aQ 6 (t.next+8+6+9+16)) 12 (t.next+8+4)) 6=iO++iC ⟨s.a3[i].name,s.a3[i].cR,qh,s.a3[i].gQ,ea s.a3[i].fX⟩ by rw[mY];exact sC.symm];simp(disch:=first|omega|(simp only[ae,ad,af,DI.ba];omega)) [iC,fe,-al,-ar,-ai,-ao,-List.map_map]
                    · rw[show hL s {G with dG:=G.dG++[⟨s.a3[i].name,s.a3[i].cR,qh,s.a3[i].gQ,ea s.a3[i].fX⟩],a3:=G.a3++[s.a3[i].name],cc:=G.cc.au s.a3[i].cR G.dG.length} (c9 (c9 aQ 6 (t.next+8+6+9+16)) 12 (t.next+8+4)) 12=gU++[cz s.a3[i].name] by rw[ia];simp[hL,fI]];simp(disch:=first|omega|(simp only[ae,ad,af,DI.ba];omega)) [-al,-ar,-ai,-ao,-List.map_map]
                    · simp[aH]
                    · simp[bD]
                    · simp[bL]
                    · simp[b3]
                    · simp[c9,h.cg]
                    · simp[c9,h.dP]
                    · simp[c9]
                    · simp[c9,h.hg]
                    · simp[c9,h.gw]
                    · simp;omega
                    · rw[AS,fe,dY.AQ];simp[xb];simp(disch:=first|omega|(simp only[ae,ad,af,DI.ba];omega)) [-al,-ar,-ai,-ao,-List.map_map]
                    · simp[m8]
                    · simp
                  · have xb:lr.d=qh:=(by rw[fe]at zX;simpa[dY.at]using zX);rw[xb]at tq;have Fe:IntKind.i64.wrap 3=3:=rfl;simp(disch:=first|omega|(simp only[ae,ad,af,DI.ba];omega)) [qC,r7,r8,r9,Gw,Gx,Kq,Kr,fl,dT,aH,b3,fx,bK,bo,a4,m8,qa,bO,ix,m0,kW,fv,DJ,fe,Fe,kJ,kG,kH,kI,jq,jw,bS,q9,h9,hB,iH,fV,tq,eS];refine a9 _ _ ⟨_,_,_,aI.trans c1,h.step 6 12 (dt:=t.next+8+6+9+16) (dJ:=t.next+8+4) (by decide) (by decide) (by omega) (by omega) (by omega) (λk W Z H ak=> ?_) (λk W Z H ak=> ?_) ?_ ?_ ?_ ?_ ?_ ?_ ?_ ?_ ?_ ?_ ?_ ?_,?_,by rw[BO];exact N8,?_,kT.Mw LM rn (by omega) (by omega),?_,?_⟩
                    · have L:=h.cW W;have cI:=h.eZ k 3 W (by decide) Z;have lj:=h.eZ k 6 W (by decide) H;have qm:=h.eZ k 12 W (by decide) ak;have eF:=rn k W;simp(disch:=first|omega|(simp only[ae,ad,af,DI.ba];omega)) [-al,-ar,-ai,-ao,-List.map_map]
                    · rcases v3 W with rfl|rfl|rfl|rfl|rfl|rfl|rfl|rfl|rfl|rfl|rfl|rfl|rfl|rfl|rfl<;>first|rfl|exact absurd rfl Z|exact absurd rfl H|exact absurd rfl ak
                    · simp(disch:=first|omega|(simp only[ae,ad,af,DI.ba];omega)) [hL,c9,-al,-ar,-ai,-ao,-List.map_map]
                    · rw[show hL s {G with dG:=G.dG++[⟨s.a3[i].name,s.a3[i].cR,qh,s.a3[i].gQ,ea s.a3[i].fX⟩],a3:=G.a3++[s.a3[i].name],cc:=G.cc.au s.a3[i].cR G.dG.length} (c9 (c9 aQ 6 (t.next+8+6+9+16)) 12 (t.next+8+4)) 6=iO++iC ⟨s.a3[i].name,s.a3[i].cR,qh,s.a3[i].gQ,ea s.a3[i].fX⟩ by rw[mY];exact sC.symm];simp(disch:=first|omega|(simp only[ae,ad,af,DI.ba];omega)) [iC,fe,-al,-ar,-ai,-ao,-List.map_map]
                    · rw[show hL s {G with dG:=G.dG++[⟨s.a3[i].name,s.a3[i].cR,qh,s.a3[i].gQ,ea s.a3[i].fX⟩],a3:=G.a3++[s.a3[i].name],cc:=G.cc.au s.a3[i].cR G.dG.length} (c9 (c9 aQ 6 (t.next+8+6+9+16)) 12 (t.next+8+4)) 12=gU++[cz s.a3[i].name] by rw[ia];simp[hL,fI]];simp(disch:=first|omega|(simp only[ae,ad,af,DI.ba];omega)) [-al,-ar,-ai,-ao,-List.map_map]
                    · simp[aH]
                    · simp[bD]
                    · simp[bL]
                    · simp[b3]
                    · simp[c9,h.cg]
                    · simp[c9,h.dP]
                    · simp[c9]
                    · simp[c9,h.hg]
                    · simp[c9,h.gw]
                    · simp;omega
                    · rw[AS,fe,dY.AQ];simp[xb];simp(disch:=first|omega|(simp only[ae,ad,af,DI.ba];omega)) [-al,-ar,-ai,-ao,-List.map_map]
                    · simp[m8]
                    · simp
                · have c1:hP G s.a3[i]= .inr (1,s.a3[i].p):=(by simp[hP,gy,bO,aR,aX,kt,Jp,kW,fv,DJ]);simp(disch:=first|omega|(simp only[ae,ad,af,DI.ba];omega)) [qC,r7,r8,r9,fl,dT,aH,bD,bL,fx,bK,a4,aC,a2,fk,nn,qa,bO,ix,m0,NV,kW,fv,DJ,kJ,kG,kH,kI,jq,jw];refine jY 1 _ _ _ (mj (aI.trans c1)) ?_;exact⟨aQ 1,aQ 2,by simp(disch:=first|omega|(simp only[ae,ad,af,DI.ba];omega)) [bD,-al,-ar,-ai,-ao,-List.map_map],by simp(disch:=first|omega|(simp only[ae,ad,af,DI.ba];omega)) [fk,-al,-ar,-ai,-ao,-List.map_map],by simp,by simp(disch:=first|omega|(simp only[ae,ad,af,DI.ba];omega)) [bL,-al,-ar,-ai,-ao,-List.map_map],by simp(disch:=first|omega|(simp only[ae,ad,af,DI.ba];omega)) [-al,-ar,-ai,-ao,-List.map_map]⟩
      · obtain⟨j,ix⟩:=JV aR;have c1:hP G s.a3[i]= .inr (8,s.a3[i].p):=(by simp[hP,gy,bO,aR]);have uU:(0:Int)<=(j:Int):=(by omega);simp(disch:=first|omega|(simp only[ae,ad,af,DI.ba];omega)) [qC,r7,r8,r9,fl,dT,aH,bD,bL,fx,bK,a4,aC,a2,fk,nn,qa,bO,ix,uU,kJ,kG,kH,kI,jq,jw];refine jY 8 _ _ _ (mj (aI.trans c1)) ?_;exact⟨aQ 1,aQ 2,by simp(disch:=first|omega|(simp only[ae,ad,af,DI.ba];omega)) [bD,-al,-ar,-ai,-ao,-List.map_map],by simp(disch:=first|omega|(simp only[ae,ad,af,DI.ba];omega)) [fk,-al,-ar,-ai,-ao,-List.map_map],by simp,by simp(disch:=first|omega|(simp only[ae,ad,af,DI.ba];omega)) [bL,-al,-ar,-ai,-ao,-List.map_map],by simp(disch:=first|omega|(simp only[ae,ad,af,DI.ba];omega)) [-al,-ar,-ai,-ao,-List.map_map]⟩
  · rintro u t ⟨G,aQ,lr,dB,h,lK,r3,tq,rn,m8,qa⟩;rw[List.take_length]at dB;have a4:t.M (aQ 0)=some ⟨dT s,true⟩:=h.g 0 (by decide);have cY:=h.cW (k:=0) (by decide);have aH:=h.aH;simp[qC,aH,qa,a4,dT];exact pJ G aQ _ _ dB (h.rM (y2 (by simp) (by simp) (by simp) (by simp) (by simp) (by simp) (by simp) (by simp) (by simp)) λb L=>by simp)
end Go.Proofs.YtkpifdkccdndcaaGreat
namespace Go.DI
open Go Go.RowKit
section
variable {P:Program} {aY:pB P} {t:B} {u:aL} {c:U} {Q:dr->aL->B->Prop}
theorem aD5{o p j O:Nat}{bR:List (List Value)}{cells:List Value}(an:t.M o=some ⟨bR.flatten,true⟩)(aF: ∀r∈bR,r.length=O/\ ∀v∈r,j9 v=true)
    (aq:t.M p=some ⟨cells,true⟩) (cp:cells[j]?=some (.slice (some ⟨o,0,none⟩) bR.length O)) (dq:o≠p) (h:hs P c u ((t.au o none).au p (some ⟨cells.set j (bE bR O),true⟩)) Q):hs P c u t Q:= λaA Y K ag m J cm=>by
  obtain⟨lR,bp,dc,eK⟩:=adX J an aF aq cp dq;refine(h aA Y lR ag m eK (cm.aD bp (iv.refl _))).aD λe aH bz cE=> ?_;obtain⟨ft,gR,fb,iG,z,D,Z,aw⟩:=cE;have iE: ∀q x,((t.au o none).au p (some ⟨cells.set j (bE bR O),true⟩)).M q=some x-> ∃y,t.M q=some y/\(x.own=true->y.own=true):= λq x H=>by
    by_cases aM:q=p
    · subst aM;exact⟨_,aq,λ_=>rfl⟩
    · by_cases a1:q=o
      · subst a1;exact⟨_,an,λ_=>rfl⟩
      · rw[dv aM,dv a1]at H;exact⟨x,H,λh=>h⟩
  have bS:a6 t.next m.next Y K t m Y lR ((t.au o none).au p (some ⟨cells.set j (bE bR O),true⟩)) m:=by
    refine⟨iv.refl _,bp,λ_ _ h=> .inl h,λb cs L=> ?_,by simp,Nat.le_refl _,λ_ _ _=>rfl,λb L ⟨q,x,bm,bU,cn⟩=> ?_,λb L ⟨q,x,bm,bU⟩=> ?_⟩
    · rcases dc b cs L with aX|aX
      · exact .inl aX
      · exact .inr (.inr ⟨o,_,aX,an⟩)
    · obtain⟨y,ah,DU⟩:=iE q x bU;exact⟨q,y,bm,ah,DU cn⟩
    · obtain⟨y,ah,_⟩:=iE q x bU;exact⟨q,y,bm,ah⟩
  exact⟨ft,gR,fb,iG,z,D,Z,bS.trans (aw.Fc bS.n9 (Nat.le_refl _))⟩
def aox(S:aL->B->Prop)(u:aL)(t:B):Prop:= ∃(o p j O:Nat) (bR:List (List Value)) (cells:List Value),t.M o=some ⟨bR.flatten,true⟩/\(∀r∈bR,r.length=O/\ ∀v∈r,j9 v=true)/\t.M p=some ⟨cells,true⟩/\
  cells[j]?=some (.slice (some ⟨o,0,none⟩) bR.length O)/\o≠p/\S u ((t.au o none).au p (some ⟨cells.set j (bE bR O),true⟩))
theorem aD4(S:Nat->aL->B->Prop)(n:Nat)(step: ∀i u t,i<n->S i u t-> ∀b9:aL->B->Prop,(∀ag aN,aox (S (i+1)) ag aN->b9 ag aN)->j6 aY c u t (xv b9 Q))
    (ZO: ∀u t,S n u t->j6 aY c u t (xv (λ_ _=>False) Q)): ∀(i:Nat) (u:aL) (t:B),i<=n->S i u t->hs P (.loop c) u t Q:=by
  have key: ∀(r i:Nat) (u:aL) (t:B),i+r=n->S i u t->hs P (.loop c) u t Q:=by
    intro r;induction r with
    | zero=>
      intro i u t aa uw;have e:i=n:=(by omega);subst e;refine su (aY:=aY) λb9 a9=> ?_;have z:=ZO u t uw;refine C2 z λe u t h=> ?_;cases e with
      |gv=>exact h.elim
      |bI id=>exact h
      |a7=>exact h
    | succ r cb=>intro i u t aa uw;exact su (aY:=aY) λb9 a9=>step i u t (by omega) uw b9 λag aN ⟨o,p,j,O,bR,cells,bn,bF,dp,eH,fo,fp⟩=>a9 _ _ (aD5 bn bF dp eH fo (cb (i+1) ag _ (by omega) fp))
  exact λi u t aa uw=>key (n-i) i u t (by omega) uw
end
end Go.DI
namespace Go.Proofs.YtkpifdkccdndcaaGreat
open Go Go.DI Go.Big
theorem au1{s:ByteArray}{l:List ByteArray}:(kv s l<0)=((dR s l).isSome=false):=by unfold kv;cases dR s l<;>simp<;>omega
theorem afL{s:ByteArray}: ∀{l:List ByteArray},(dR s l).isSome=true↔s∈l
  |[]=>by simp[dR]
  | x::l=>by
    have:=afL (s:=s) (l:=l);simp only[dR,List.mem_cons];by_cases h:s=x
    · simp[h]
    · simp[h,<-this]
theorem alJ{l:List ByteArray}{s:ByteArray}:(l++[s]).Nodup↔l.Nodup/\(dR s l).isSome=false:=by
  rw[List.nodup_append];have:=afL (s:=s) (l:=l);constructor
  · rintro⟨z,_,Z⟩;refine⟨z,?_⟩;cases h:(dR s l).isSome
    · rfl
    · exact absurd rfl (Z s (this.1 h) s (by simp))
  · rintro⟨z,D⟩;refine⟨z,by simp,λa aE b L e=> ?_⟩;simp at L;subst L;subst e;rw[this.2 aE]at D;cases D
def SW:List Nat:=[1,2,4,8,9,10,11,12,13,26,27,28,29]
theorem anb{u ag:aL}(z:ag 1=u 1)(D:ag 2=u 2)(aw:ag 4=u 4)(iP:ag 8=u 8)(ml:ag 9=u 9)(Jh:ag 10=u 10)(US:ag 11=u 11)(UT:ag 12=u 12)(UU:ag 13=u 13)(aIz:ag 26=u 26)(aIA:ag 27=u 27)(aIB:ag 28=u 28)(aIC:ag 29=u 29): ∀k∈SW,ag k=u k:= λk W=>by simp only[SW,List.mem_cons,List.not_mem_nil,or_false]at W;rcases W with rfl|rfl|rfl|rfl|rfl|rfl|rfl|rfl|rfl|rfl|rfl|rfl|rfl<;>assumption
def u4(x:mg)(m:Value):List Value:=[cz x.name,S x.k,S x.m,S x.q,S x.aY.a,S x.aY.b,S x.aY.c,S x.aY.d,S x.aY.e,m,fT (x.hf.map ea),.bool (ea x.hS).bV,e3 (ea x.hS).a,e3 (ea x.hS).b,.bool (ea x.ez).bV,e3 (ea x.ez).a,e3 (ea x.ez).b]
theorem aBN{x:mg}(BH:x.a5.length<1000000){oV:List ByteArray}(Ok:oV.length<1000000){cO:aL}{cd:B}{gh nx eN ed:Nat}(hu:cd.M gh=some ⟨hc x,true⟩)(aev:cd.M nx=some ⟨u4 x (.slice (some ⟨eN,0,none⟩) 0 1),true⟩)(pc:cd.M eN=some ⟨[],true⟩)(vE:cd.M ed=some ⟨fI oV,true⟩)
    (fY:gh≠nx) (dh:gh≠eN) (kZ:ed≠nx) (p0:ed≠eN) (sW:nx≠eN) (dP:cO 10= .slice (some ⟨ed,0,none⟩) oV.length 1) (wk:cO 27=bZ gh) (SE:cO 29=bZ nx) (oY:cO 30= .bool false) (ps:cO 31= .bool false) (u6:cO 32=S 0) {Q:dr->aL->B->Prop}
    (bf: ∀u t o,(∀k∈SW,u k=cO k)->cd.next<=t.next->(∀b,b<cd.next->b≠nx->b≠eN->t.M b=cd.M b)->t.M nx=some ⟨u4 x (.slice (some ⟨o,0,none⟩) x.a5.length 1),true⟩->t.M o=some ⟨(x.a5.map λs=>[S (kv s oV)]).flatten,true⟩->(o=eN\/cd.next<=o)->
      u 30= .bool (!x.a5.all λs=>(dR s oV).isSome)->u 31= .bool (!decide x.a5.Nodup)->Q (.bI 13) u t):hs Tryz.prog (.loop Pp) cO cd Q:=by
  have iV:=aT hu;have jS:=aT vE;have aLn:=aT aev;have Ar:=aT pc
  refine jn (aY:=⟨[AP],[]⟩) (λi u t=> ∃o cs,cs=((x.a5.take i).map λs=>[S (kv s oV)]).flatten/\(∀k∈SW,u k=cO k)/\cd.next<=t.next/\(∀b,b<cd.next->b≠nx->b≠eN->t.M b=cd.M b)/\t.M nx=some ⟨u4 x (.slice (some ⟨o,0,none⟩) i 1),true⟩/\t.M o=some ⟨cs,true⟩/\(o=eN\/cd.next<=o)/\
      u 30= .bool (!(x.a5.take i).all λs=>(dR s oV).isSome)/\u 31= .bool (!decide (x.a5.take i).Nodup)/\u 32=S i) x.a5.length ?_ ?_ 0 cO cd (Nat.zero_le _) ⟨eN,[],by simp,λ_ _=>rfl,Nat.le_refl _,λ_ _ _ _=>rfl,aev,pc,.inl rfl,by simpa using oY,by simpa using ps,u6⟩
  · rintro i u t aa ⟨o,cs,jh,fv,hY,da,tr,ds,ez,oY,ps,u6⟩ b9 a9;have H:x.a5[i]?=some x.a5[i]:=List.getElem?_eq_getElem aa;have bo:IntKind.i64.wrap ((i:Int)+1)=(i:Int)+1:=ct (by omega) (by omega);have bK:(i:Int)<x.a5.length:=(by omega);have bm:(i:Int)<=x.a5.length:=(by omega);have bU:i<=x.a5.length:=(by omega);have aCr:u 10= .slice (some ⟨ed,0,none⟩) oV.length 1:=(fv 10 (by decide)).trans dP;have abd:u 27=bZ gh:=(fv 27 (by decide)).trans wk;have aCs:u 29=bZ nx:=(fv 29 (by decide)).trans SE;have pG:t.M gh=some ⟨hc x,true⟩:=(by rw[da gh iV fY dh];exact hu);obtain⟨gU,ia⟩: ∃c,c=fI oV:=⟨_,rfl⟩;have Bn:t.M ed=some ⟨gU,true⟩:=(by rw[ia,da ed jS kZ p0];exact vE);obtain⟨Dj,Dk,Dl⟩:=sY (l:=oV) (n:=oV.length) rfl;rw[<-ia]at Dj Dk Dl;have fM:=aT pG;have dg:=aT Bn;have pW:=aT tr;have Hh:=aT ds;have az8:o≠nx:=(by rcases ez with rfl|h<;>omega);have alB:o≠gh:=(by rcases ez with rfl|h<;>omega);have az7:o≠ed:=(by rcases ez with rfl|h<;>omega);have h9:cs.length=i:=(by rw[jh,tn (O:=1) (λr aF=>by obtain⟨y,_,rfl⟩:=List.mem_map.1 aF;rfl),List.length_map,List.length_take];omega);have hB:cs.take i=cs:=List.take_of_length_le (by omega);have fV:(i+1)*8<=140737488355328/\i<=9223372036854775806:=(by omega);have auF:(x.a5.take i).length<1000000:=(by rw[List.length_take];omega);have atG:AP.fn [bE ((x.a5.map λs=>[cz s]).take i) 1,cz x.a5[i]]=some (S (kv x.a5[i] (x.a5.take i))):=(by rw[<-List.map_take];exact aCu auF);have sM:x.a5.take (i+1)=x.a5.take i++[x.a5[i]]:=kB H;have FZ:cs++[S (kv x.a5[i] oV)]=((x.a5.take (i+1)).map λs=>[S (kv s oV)]).flatten:=(by rw[sM,jh,List.map_append,List.flatten_append];rfl);have aE:(x.a5.take (i+1)).all (λs=>(dR s oV).isSome)=((x.a5.take i).all (λs=>(dR s oV).isSome)&&(dR x.a5[i] oV).isSome):=(by rw[sM,List.all_append];simp);have lK:decide (x.a5.take (i+1)).Nodup=(decide (x.a5.take i).Nodup&& !(dR x.a5[i] (x.a5.take i)).isSome):=by
      rw[sM];have:=alJ (l:=x.a5.take i) (s:=x.a5[i]);cases bY:(dR x.a5[i] (x.a5.take i)).isSome<;>rw[bY]at this<;>by_cases bt:(x.a5.take i).Nodup<;>simp[bt]at this⊢ <;>exact this
    cases jX:(x.a5.take i).all λs=>(dR s oV).isSome<;>cases hF:decide (x.a5.take i).Nodup<;>rw[jX]at oY aE<;>rw[hF]at ps lK<;>simp only[Bool.not_true,Bool.not_false,Bool.true_and,Bool.false_and]at oY ps aE lK
    all_goals
      (simp(disch:=first|omega|(simp only[ae,ad,af,DI.ba];omega)) [Pp,agu,agv,agw,hc,aCr,abd,aCs,oY,ps,u6,bK,bm,bo,pG,Bn,tr,ds,Dj,Dk,Dl,atG,h9,hB,fV,jq,jw,u4,au1,au2,-al,-ar,-ai,-ao,-List.map_map]
       refine a9 _ _ ⟨t.next+4,cs++[S (kv x.a5[i] oV)],FZ,λk W=>Eq.trans (b:=u k) (anb ?_ ?_ ?_ ?_ ?_ ?_ ?_ ?_ ?_ ?_ ?_ ?_ ?_ k W) (fv k W),?_,λb L nS c5=> ?_,?_,?_,.inr (by omega),?_,?_,?_⟩)
    all_goals first
      |(simp;done)
      |(simp(disch:=first|omega|(simp only[ae,ad,af,DI.ba];omega)) [-al,-ar,-ai,-ao,-List.map_map];omega)
      | (have vG:b≠o:=by rcases ez with rfl|h<;>omega
         rw[<-da b L nS c5];simp(disch:=first|omega|(simp only[ae,ad,af,DI.ba];omega)) [-al,-ar,-ai,-ao,-List.map_map];done)
      |(simp(disch:=first|omega|(simp only[ae,ad,af,DI.ba];omega)) [u4,-al,-ar,-ai,-ao,-List.map_map];done)
      |(rw[aE];cases(dR x.a5[i] oV).isSome<;>simp;done)
      |(rw[lK];cases(dR x.a5[i] (List.take i x.a5)).isSome<;>simp;done)
      |(rw[aE];simp(disch:=first|omega|(simp only[ae,ad,af,DI.ba];omega)) [-al,-ar,-ai,-ao,-List.map_map];cases dR x.a5[i] oV<;>simp)
  · rintro u t ⟨o,cs,jh,fv,hY,da,tr,ds,ez,oY,ps,u6⟩;rw[List.take_length]at jh oY ps;have pG:t.M gh=some ⟨hc x,true⟩:=(by rw[da gh iV fY dh];exact hu);have fM:=aT pG;have abd:u 27=bZ gh:=(fv 27 (by decide)).trans wk;simp(disch:=first|omega|(simp only[ae,ad,af,DI.ba];omega)) [Pp,hc,abd,u6,pG,-al,-ar,-ai,-ao,-List.map_map];refine bf _ _ o (λk W=> ?_) hY da tr (by rw[ds,jh]) ez (by simp(disch:=first|omega|(simp only[ae,ad,af,DI.ba];omega)) [oY,-al,-ar,-ai,-ao,-List.map_map]) (by simp(disch:=first|omega|(simp only[ae,ad,af,DI.ba];omega)) [ps,-al,-ar,-ai,-ao,-List.map_map]);refine Eq.trans (b:=u k) (anb ?_ ?_ ?_ ?_ ?_ ?_ ?_ ?_ ?_ ?_ ?_ ?_ ?_ k W) (fv k W)<;>simp
end Go.Proofs.YtkpifdkccdndcaaGreat
