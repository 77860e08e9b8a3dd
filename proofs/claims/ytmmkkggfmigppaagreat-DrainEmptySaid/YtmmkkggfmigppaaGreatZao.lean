/-
  A part of the proof of the statement, in texts that tools of ours (wip/shrink.py, irpack.py, relax.py, minify.py, join.py, lay.py) have shortened.
-/
import Derived.Test.YtmmkkggfmigppaaGreatZan
set_option linter.all false
set_option maxRecDepth 8000
set_option maxHeartbeats 16000000
namespace Go.Proofs.YtmmkkggfmigppaaGreat
open Go Go.DI Go.Big
def oK(u:bl)(i:Nat):Nat:=match u.a0[i]? with|some d=>d.parent.toNat|none=>0
def hn(u:bl)(i:Nat):Int:=match u.a0[i]? with|some d=>d.hl|none=>0
structure jk(u:bl):Prop where
  AP:gf u=true
  Ai:u.cB.length<=4
  eG:u.bc.length<=4
  kr:u.a0.length<=40
  mz:u.a2.length<=24
  vS:u.cx.length<=4
  r0:u.cb.length<=12
  q1:0<u.a0.length
  n1:hn u 0=0/\ ∀d,u.a0[0]?=some d->d.parent= -1/\d.hl=0
  ke: ∀(i:Nat) (d:gj),0<i->u.a0[i]?=some d->0<=d.parent/\d.parent<i/\hn u d.parent.toNat=d.hl-1/\1<=d.hl/\d.hl<=4
  Ed: ∀(i:Nat) (x:md),u.a2[i]?=some x->0<=x.model/\x.model<u.bc.length/\0<=x.sZ/\x.sZ<u.a0.length/\hn u x.sZ.toNat=4
  adA: ∀(i:Nat) (x:AY),u.bc[i]?=some x->1<=x.ext/\x.ext<=16
  pv: ∀(i:Nat) (x:ic),u.cx[i]?=some x->k7 x.k x.m x.q x.aB=true/\x.bc≠[]/\(∀m∈x.bc,0<=m/\m<u.bc.length)/\x.bc.Nodup
  aza: ∀(i:Nat) (x:pK),u.cb[i]?=some x->0<=x.pv/\x.pv<u.cx.length
theorem vu{x a b:Int}(h:dB x a b=true):a<=x/\x<=b:=sO.1 h
theorem av4{u:bl}(h:gf u=true):jk u:=by
  have c5:=h;simp only[gf,aX,eM]at h;obtain⟨D,H,aq,aF,br,cR,fs,hz,ix,w3,Jw,Ey,OP,OQ,OR,OS,OT,aEe⟩:=h;unfold nn at hz;cases aA:u.a0 with
  |nil=>rw[aA]at hz;cases hz
  | cons R l=>
    rw[aA]at hz;simp only[aX]at hz;obtain⟨iy,aC⟩:=hz;simp only[nG,aX,eM]at iy;have WC:u.a0[0]?=some R:=(by rw[aA];rfl);have R2: ∀i q,u.a0[i]?=some q->hn u i=q.hl:= λi q bf=>by simp only[hn,bf]
    refine⟨c5,H,aq,aF,br,cR,fs,by rw[aA];simp,⟨by rw[R2 0 R WC];exact iy.2.1,λd yZ=>by rw[WC]at yZ;cases yZ;exact⟨iy.2.2.1,iy.2.1⟩⟩,λi d ai G=> ?_,λi x G=> ?_,λi x G=> ?_,λi x G=> ?_,λi x G=> ?_⟩
    · obtain⟨j,rfl⟩: ∃j,i=j+1:=⟨i-1,by omega⟩;have bx:l[j]?=some d:=(by rw[aA,Dw]at G;exact G);have:=eD.1 aC j (ob.2 (ek.1 bx).1);rw[bx]at this;simp only[kB,aX]at this;obtain⟨bw,bJ,cc,eI,fp⟩:=this;have c8:=vu bw;have gl:=vu cc;refine⟨c8.1,by omega,?_,gl.1,gl.2⟩;unfold z7 at bJ;split at bJ
      · next q bf=>rw[R2 _ q (by rw[aA];exact bf)];exact of_decide_eq_true bJ
      · cases bJ
    · have:=eD.1 Jw x (hR G);simp only[kf,aX]at this;obtain⟨bw,bJ,cc⟩:=this;have c8:=vu bw;have dX:=vu bJ;refine⟨c8.1,by omega,dX.1,by omega,?_⟩;unfold Ab at cc;split at cc
      · next q bf=>rw[R2 _ q bf];exact of_decide_eq_true cc
      · cases cc
    · have:=eD.1 w3 x (hR G);simp only[kq,aX]at this;exact vu this.1
    · have:=eD.1 Ey x (hR G);simp only[ib,aX,eM]at this;obtain⟨bw,bJ,cc,eI,fp⟩:=this;refine⟨bw,by intro e;rw[e]at bJ;simp at bJ,λm aw=> ?_,fp⟩;have:=vu (eD.1 eI m aw);exact⟨this.1,by omega⟩
    · have:=eD.1 OP x (hR G);simp only[ng]at this;have:=vu this;exact⟨this.1,by omega⟩
section
variable {u:bl}
theorem jk.gq(h:jk u){i:Nat}(ai:i<u.a0.length):0<=hn u i/\hn u i<=4:=by
  have G:u.a0[i]?=some u.a0[i]:=dx ai;have e:hn u i=u.a0[i].hl:=by simp only[hn,G]
  cases i with
  |zero=>rw[h.n1.1];omega
  |succ i=>rw[e];have:=h.ke _ _ (by omega) G;omega
theorem jk.pr(h:jk u){i:Nat}(ai:i<u.a0.length)(af:0<hn u i):oK u i<i/\hn u (oK u i)=hn u i-1/\0<i:=by
  have G:u.a0[i]?=some u.a0[i]:=dx ai;have e:hn u i=u.a0[i].hl:=by simp only[hn,G]
  have aU:oK u i=u.a0[i].parent.toNat:=by simp only[oK,G]
  cases i with
  |zero=>rw[h.n1.1]at af;omega
  | succ i=>have:=h.ke _ _ (by omega) G;rw[aU,e];refine⟨by omega,this.2.2.1,by omega⟩
theorem jk.Ao(h:jk u){i:Nat}(ai:i<u.a0.length)(c5:0<i):0<hn u i:=by
  have G:u.a0[i]?=some u.a0[i]:=dx ai;have e:hn u i=u.a0[i].hl:=by simp only[hn,G]
  have:=h.ke _ _ c5 G;omega
def kc(u:bl)(gq:Int):Nat->Nat->Nat
  |0,i=>i
  |k+1,i=>if hn u i>gq then kc u gq k (oK u i)else i
def lV(u:bl)(n:Nat):Nat->Nat->Nat
  |0,i=>i
  |k+1,i=>if i>n then lV u n k (oK u i)else i
theorem NV(h:jk u){n:Nat}(ax:n<u.a0.length): ∀{k eW i:Nat},i<u.a0.length->hn u i<=hn u n+k->i<=n+eW->(kc u (hn u n) k i=n↔lV u n eW i=n)
  | k,eW,i,ai,D,H=>by
    have JN:=(h.gq ax).1;by_cases e:i=n
    · subst e;have aL:kc u (hn u i) k i=i:=(by cases k with|zero=>rfl|succ k=>unfold kc;rw[if_neg (by omega)]);have aU:lV u i eW i=i:=(by cases eW with|zero=>rfl|succ k=>unfold lV;rw[if_neg (by omega)]);simp[aL,aU]
    by_cases bN:hn u i>hn u n
    · obtain⟨k,rfl⟩: ∃j,k=j+1:=⟨k-1,by omega⟩;obtain⟨a,b,c⟩:=h.pr ai (by omega);have aL:kc u (hn u n) (k+1) i=kc u (hn u n) k (oK u i):=(by rw[kc,if_pos bN]);rw[aL];by_cases cI:i>n
      · obtain⟨eW,rfl⟩: ∃j,eW=j+1:=⟨eW-1,by omega⟩;have aU:lV u n (eW+1) i=lV u n eW (oK u i):=(by rw[lV,if_pos cI]);rw[aU];exact NV h ax (by omega) (by omega) (by omega)
      · -- NX aCw dM i aLL U2 n
        have aU:lV u n eW i=i:=(by cases eW with|zero=>rfl|succ k=>unfold lV;rw[if_neg (by omega)]);rw[aU];have c0: ∀{k i:Nat},i<u.a0.length->kc u (hn u n) k i<=i:=by
          intro k;induction k with
          |zero=>intro i _;exact ev _
          | succ k cn=>
            intro i ai;unfold kc;split
            · next aM=>have:=(h.pr ai (by omega)).1;have:=cn (i:=oK u i) (by omega);omega
            · exact ev _
        have:=c0 (k:=k) (i:=oK u i) (by omega);exact⟨λaJ=>by omega,λaJ=>absurd aJ e⟩
    · have aL:kc u (hn u n) k i=i:=(by cases k with|zero=>rfl|succ k=>unfold kc;rw[if_neg bN]);rw[aL];refine⟨λaJ=>absurd aJ e,λaJ=> ?_⟩
      -- pB hl only aDH on pB aM1 ik
      have avh: ∀{eW i:Nat},i<u.a0.length->lV u n eW i=n->i=n\/hn u n<hn u i:=by
        intro eW;induction eW with
        |zero=>intro i _ aJ;exact .inl aJ
        | succ eW cn=>
          intro i ai aJ;unfold lV at aJ;split at aJ
          · next aM=>
            obtain⟨a,b,c⟩:=h.pr ai (h.Ao ai (by omega));rcases cn (by omega) aJ with e|e
            · right;rw[<-e];omega
            · right;omega
          · exact .inl aJ
      rcases avh ai aJ with dY|dY
      · exact absurd dY e
      · omega
end
def nk(u:bl)(d:Nat)(n:Int):Bool:=match u.a2[d]? with
  |some x=>decide (n=u.a0.length+d)||(decide (0<n)&&decide (n<u.a0.length)&&decide (lV u n.toNat u.a0.length x.sZ.toNat=n.toNat))
  |none=>false
def pn(u:bl)(d:Nat):Nat:=match u.a2[d]? with|some x=>x.sZ.toNat|none=>0
def w0(u:bl)(d:Nat):Int:=match u.a2[d]? with
  |some x=>(match u.bc[x.model.toNat]? with|some m=>m.ext|none=>0)
  |none=>0
def v7(u:bl)(l9:List Int):List Int:=(List.range u.a2.length).map λd=>if l9.length=u.a2.length then max 0 (min (l9.getD d 0) (w0 u d))else w0 u d
def wX(u:bl)(n:Nat):List Int:=((List.range u.a2.length).filter λd=>decide (kc u (hn u n) 5 (pn u d)=n)).map λd:Nat=>(d:Int)
def mZ(u:bl)(L:List (List Int)):List Int:=(List.range u.a2.length).map λd:Nat=>((L.flatten.count (d:Int):Nat):Int)
def kj(u:bl)(v:Nat):Int:=match u.cb[v]? with
  |some x=>(match u.cx[x.pv.toNat]? with|some p=>p.k+p.m|none=>0)
  |none=>0
def x5(u:bl)(v:Nat)(r:List Int):Bool:=decide ((r.length:Int)=kj u v)&&r.all λx=>decide (-1<=x)&&decide (x<u.a2.length)
def mC(u:bl)(L:List (List Int)):Bool:=decide (L.length=u.cb.length)&&(List.range L.length).all λv=>match L[v]? with
  |some r=>x5 u v r
  |none=>true
theorem af8{u:bl}(h:jk u){gq:Int}(c5:0<=gq){Q:dy->aP->W->Prop}: ∀(k i:Nat) (z:aP) (t:W),i<u.a0.length->hn u i<=gq+k->t.Y 0=some ⟨aS u,true⟩->z 3=cD 0->z 7=Z i->z 2=Z gq->(∀aj aT,aj 7=Z (kc u gq k i)->Q (.ba 0) aj aT)->fP al (.loop FX) z t Q:=by
  intro k;induction k with
  | zero=>intro i z t ai aa aO eP dW dS bY;refine eC (aB:=⟨[],[]⟩) λcK bk=> ?_;obtain⟨d,G⟩:=iW ai;have eh:=(ek.1 G).2;have e:hn u i=d.hl:=(by simp only[hn,G]);have bU:(i:Int)<u.a0.length:=(by omega);have aM: ¬gq<d.hl:=(by omega);have fq:=bm aO;simp(disch:=first|omega|simp only[aE];omega) [FX,eP,dW,dS,aO,aS,dU,bU,eh,aM,-O,-U,-N,-S,-List.map_map];exact bY _ _ (by simp[dW,kc])
  | succ k cn=>
    intro i z t ai aa aO eP dW dS bY;refine eC (aB:=⟨[],[]⟩) λcK bk=> ?_;obtain⟨d,G⟩:=iW ai;have eh:=(ek.1 G).2;have e:hn u i=d.hl:=(by simp only[hn,G]);have aU:oK u i=d.parent.toNat:=(by simp only[oK,G]);have bU:(i:Int)<u.a0.length:=(by omega);have fq:=bm aO;by_cases aM:gq<d.hl
    · obtain⟨a,b,c⟩:=h.pr ai (by omega);obtain⟨p,af⟩:=kS (h.ke i d c G).1;have kE:oK u i=p:=(by rw[aU,af];rfl);rw[kE]at a b;simp(disch:=first|omega|simp only[aE];omega) [FX,eP,dW,dS,aO,aS,dU,bU,eh,aM,af,-O,-U,-N,-S,-List.map_map];refine bk _ _ (cn p _ _ (by omega) (by omega) (by simp(disch:=first|omega|simp only[aE];omega) [aO,aS,-O,-U,-N,-S,-List.map_map]) (by simp[eP]) (by simp) (by simp[dS]) λaj aT M=>bY aj aT ?_);rw[M,kc,if_pos (by omega),kE]
    · simp(disch:=first|omega|simp only[aE];omega) [FX,eP,dW,dS,aO,aS,dU,bU,eh,aM,-O,-U,-N,-S,-List.map_map];exact bY _ _ (by rw[kc,if_neg (by omega)];simp[dW])
theorem af9{u:bl}(h:jk u){d:Nat}(aA:d<u.a2.length){gq:Int}(c5:0<=gq):bH al 180 [.agg (aS u).toArray,Z d,Z gq] (Z (kc u gq 5 (pn u d))):=by
  refine ed (dL (aB:=⟨[],[]⟩) Za (by kernel_rfl) (by simp[Kp]) ?_);obtain⟨x,G⟩:=iW aA;have eh:=(ek.1 G).2;obtain⟨bw,bJ,cc,eI,fp⟩:=h.Ed d x G;obtain⟨m,aw⟩:=kS cc;have xd:pn u d=m:=by simp only[pn,G,aw];rfl
  have bU:(d:Int)<u.a2.length:=by omega
  rw[aw]at fp;simp(disch:=first|omega|simp only[aE];omega) [Kp,Y9,Zb,Zc,Zd,aS,gn,bU,eh,aw,-O,-U,-N,-S,-List.map_map];refine af8 h c5 5 m _ _ (by omega) (by have:hn u m=4:=fp;omega) (by simp(disch:=first|omega|simp only[aE];omega) [aS,-O,-U,-N,-S,-List.map_map]) (by simp) (by simp) (by simp) λaj aT M=> ?_;rw[xd];simp(disch:=first|omega|simp only[aE];omega) [M,-O,-U,-N,-S,-List.map_map]
noncomputable def MN(u:bl)(h:jk u):bz al:= .dM 180 (Nat×Int) (λx=>x.1<u.a2.length/\0<=x.2) (λx=>[.agg (aS u).toArray,Z x.1,Z x.2]) (λx=>Z (kc u x.2 5 (pn u x.1))) λx G=>af9 h G.1 G.2
@[simp] theorem aJp{u:bl}{h:jk u}:(MN u h).f=180:=rfl
@[simp] theorem aJq{u:bl}{h:jk u}{d:Nat}{gq:Int}(aA:d<u.a2.length/\0<=gq):(MN u h).fn [.agg #[Z u.ext,au (u.cB.map gF) 4,au (u.bc.map gK) 4,au (u.a0.map dU) 7,au (u.a2.map gn) 3,au (u.cx.map eY) 17,au (u.cb.map g0) 2],Z d,Z gq]=some (Z (kc u gq 5 (pn u d))):=bz.eu (x:=(d,gq)) aA λ⟨qs,ly⟩ ah=>by simp at ah⊢;omega
structure fY(u:bl):Prop where
  ok:jk u
  fN:bl.fN u
noncomputable def Tj(u:bl)(h:bl.fN u):bz al:= .dM 62 Unit (λ_=>True) (λ_=>[.agg (aS u).toArray]) (λ_=>Z (if gf u then 0 else 1)) λ_ _=>afn h
@[simp] theorem aKa{u:bl}{h:bl.fN u}:(Tj u h).f=62:=rfl
@[simp] theorem aKb{u:bl}{h:bl.fN u}:(Tj u h).fn [.agg #[Z u.ext,au (u.cB.map gF) 4,au (u.bc.map gK) 4,au (u.a0.map dU) 7,au (u.a2.map gn) 3,au (u.cx.map eY) 17,au (u.cb.map g0) 2]]=some (Z (if gf u then 0 else 1)):=bz.eu (x:=()) trivial λ_ _=>rfl
noncomputable def MX(u:bl)(h:bl.fN u):bz al:= .dM 66 Unit (λ_=>True) (λ_=>[.agg (aS u).toArray]) (λ_=>Z (if gf u then 0 else 1)) λ_ _=>axA h
@[simp] theorem aKc{u:bl}{h:bl.fN u}:(MX u h).f=66:=rfl
@[simp] theorem aKd{u:bl}{h:bl.fN u}:(MX u h).fn [.agg #[Z u.ext,au (u.cB.map gF) 4,au (u.bc.map gK) 4,au (u.a0.map dU) 7,au (u.a2.map gn) 3,au (u.cx.map eY) 17,au (u.cb.map g0) 2]]=some (Z (if gf u then 0 else 1)):=bz.eu (x:=()) trivial λ_ _=>rfl
theorem aef{u:bl}(h:bl.fN u):bH al 115 [.agg (aS u).toArray] (.bool (gf u)):=by
  refine ed (dL (aB:=⟨[Tj u h],[]⟩) XT (by kernel_rfl) (by simp[Fl]) ?_);cases ab:gf u
  · simp(disch:=first|omega|simp only[aE];omega) [Fl,Qa,Qb,aS,ab,-O,-U,-N,-S,-List.map_map]
  · simp(disch:=first|omega|simp only[aE];omega) [Fl,Qa,Qb,aS,ab,-O,-U,-N,-S,-List.map_map]
noncomputable def C6(u:bl)(h:bl.fN u):bz al:= .dM 115 Unit (λ_=>True) (λ_=>[.agg (aS u).toArray]) (λ_=> .bool (gf u)) λ_ _=>aef h
@[simp] theorem aJn{u:bl}{h:bl.fN u}:(C6 u h).f=115:=rfl
@[simp] theorem aJo{u:bl}{h:bl.fN u}:(C6 u h).fn [.agg #[Z u.ext,au (u.cB.map gF) 4,au (u.bc.map gK) 4,au (u.a0.map dU) 7,au (u.a2.map gn) 3,au (u.cx.map eY) 17,au (u.cb.map g0) 2]]=some (.bool (gf u)):=bz.eu (x:=()) trivial λ_ _=>rfl
def MG(u:bl)(l9:List Int)(d:Nat):Int:=if l9.length=u.a2.length then max 0 (min (l9.getD d 0) (w0 u d))else w0 u d
theorem awY{u:bl}{l9:List Int}:v7 u l9=kL u.a2.length (MG u l9):=rfl
theorem xo{l:List Int}: ∀r∈l.map (λx=>[Z x]),r.length=1/\ ∀v∈r,gP v=true:= λr ay=>by obtain⟨x,_,rfl⟩:=hc.1 ay;exact⟨rfl,λv ab=>by simp at ab;subst ab;rfl⟩
theorem zm{l:List Int}:(l.map (λx=>[Z x])).flatten=l.map Z:=by
  induction l with
  |nil=>rfl
  |cons x l cn=>simp[cn]
theorem aj1{l:List Int}: ∀v∈l.map Z,gP v=true:= λv ab=>by obtain⟨x,_,rfl⟩:=hc.1 ab;rfl
def hP(r:List Int):List Value:=[dG r]
abbrev gS(L:List (List Int)):Value:=au (L.map hP) 1
@[simp] theorem aIu{l dj:List (List Int)}:l.map hP=dj.map hP↔l=dj:=xQ λx y h=>by simpa[hP]using h
def kV(L:List (List Int)):Prop:=L.length<=1000/\ ∀r∈L,r.length<=1000
theorem Jn{u:bl}(h:jk u){v:Nat}(ab:v<u.cb.length): ∃x p q,u.cb[v]?=some x/\x.pv=(p:Nat)/\p<u.cx.length/\u.cx[p]?=some q/\kj u v=q.k+q.m/\1<=q.k/\0<=q.m/\q.k+q.m<=8:=by
  obtain⟨x,G⟩:=iW ab;obtain⟨a,b⟩:=h.aza v x G;obtain⟨p,af⟩:=kS a;have kl:p<u.cx.length:=by omega
  obtain⟨q,bf⟩:=iW kl;have ax:=(h.pv p q bf).1;simp only[k7,aX,eM]at ax;have D:=vu ax.1;have H:=vu ax.2.1;refine⟨x,p,q,G,af,kl,bf,?_,D.1,H.1,ax.2.2.1⟩;have e:x.pv.toNat=p:=by omega
  unfold kj;rw[G];simp only[e,bf]
theorem OB{u:bl}(h:jk u){v:Nat}(ab:v<u.cb.length):1<=kj u v/\kj u v<=8:=by obtain⟨x,p,q,_,_,_,_,e,a,b,c⟩:=Jn h ab;rw[e];omega
theorem af6{u:bl}(h:jk u){v:Nat}(ab:v<u.cb.length):bH al 187 [.agg (aS u).toArray,Z v] (Z (kj u v)):=by
  refine ed (dL (aB:=⟨[],[]⟩) anu (by kernel_rfl) (by simp[Qx]) ?_);obtain⟨x,p,q,G,af,kl,bf,a3,D,H,aq⟩:=Jn h ab;have eh:=(ek.1 G).2;have EW:=(ek.1 bf).2;have bU:(v:Int)<u.cb.length:=by omega
  have a7:(p:Int)<u.cx.length:=by omega
  have b7:IntKind.i64.wrap (q.k+q.m)=q.k+q.m:=fl (by omega) (by omega);rw[a3];simp(disch:=first|omega|simp only[aE];omega) [Qx,Zj,Zk,Zl,aS,g0,eY,bU,a7,eh,af,EW,b7,-O,-U,-N,-S,-List.map_map]
noncomputable def S9(u:bl)(h:jk u):bz al:= .dM 187 Nat (λv=>v<u.cb.length) (λv=>[.agg (aS u).toArray,Z v]) (λv=>Z (kj u v)) λv ab=>af6 h ab
@[simp] theorem aJj{u:bl}{h:jk u}:(S9 u h).f=187:=rfl
@[simp] theorem aJk{u:bl}{h:jk u}{v:Nat}(ab:v<u.cb.length):(S9 u h).fn [.agg #[Z u.ext,au (u.cB.map gF) 4,au (u.bc.map gK) 4,au (u.a0.map dU) 7,au (u.a2.map gn) 3,au (u.cx.map eY) 17,au (u.cb.map g0) 2],Z v]=some (Z (kj u v)):=bz.eu (x:=v) ab λy ah=>by simp at ah⊢;omega
theorem agb{u:bl}(h:jk u){v:Nat}(ab:v<u.cb.length):bH al 132 [.agg (aS u).toArray,Z v] (Z (kj u v)):=by
  refine ed (dL (aB:=⟨[],[]⟩) Yf (by kernel_rfl) (by simp[J7]) ?_);obtain⟨x,p,q,G,af,kl,bf,a3,D,H,aq⟩:=Jn h ab;have eh:=(ek.1 G).2;have EW:=(ek.1 bf).2;have bU:(v:Int)<u.cb.length:=by omega
  have a7:(p:Int)<u.cx.length:=by omega
  have b7:IntKind.i64.wrap (q.k+q.m)=q.k+q.m:=fl (by omega) (by omega);rw[a3];simp(disch:=first|omega|simp only[aE];omega) [J7,Ye,Yg,Yh,aS,g0,eY,bU,a7,eh,af,EW,b7,-O,-U,-N,-S,-List.map_map]
noncomputable def MQ(u:bl)(h:jk u):bz al:= .dM 132 Nat (λv=>v<u.cb.length) (λv=>[.agg (aS u).toArray,Z v]) (λv=>Z (kj u v)) λv ab=>agb h ab
@[simp] theorem aJz{u:bl}{h:jk u}:(MQ u h).f=132:=rfl
@[simp] theorem aJA{u:bl}{h:jk u}{v:Nat}(ab:v<u.cb.length):(MQ u h).fn [.agg #[Z u.ext,au (u.cB.map gF) 4,au (u.bc.map gK) 4,au (u.a0.map dU) 7,au (u.a2.map gn) 3,au (u.cx.map eY) 17,au (u.cb.map g0) 2],Z v]=some (Z (kj u v)):=bz.eu (x:=v) ab λy ah=>by simp at ah⊢;omega
def mO(n:Nat)(x:Int):Bool:=decide (x< -1)||decide ((n:Int)<=x)
def lj(n:Nat)(r:List Int):Int:=match r.findIdx? (mO n)with|some i=>i|none=> -1
theorem UZ{n i:Nat}{r:List Int}(ai:i<r.length)(hb:mO n r[i]=true)(h: ∀j (bx:j<r.length),j<i->mO n r[j]=false):lj n r=i:=by
  unfold lj;have:r.findIdx? (mO n)=some i:=by rw[NL];exact⟨ai,hb,λj bx=>by rw[h j (by omega) bx];simp⟩
  rw[this]
theorem U1{n:Nat}{r:List Int}(h: ∀j (bx:j<r.length),mO n r[j]=false):lj n r= -1:=by
  unfold lj;have:r.findIdx? (mO n)=none:=by rw[NN];intro x G;obtain⟨j,bx,rfl⟩:=kx G;exact h j bx
  rw[this]
theorem agR{n:Nat}{r:List Int}:(r.all λx=>decide (-1<=x)&&decide (x<n))=decide (lj n r= -1):=by
  have e: ∀x:Int,(decide (-1<=x)&&decide (x<n))= !mO n x:= λx=>by unfold mO;rw[Bool.not_or,<-decide_not,<-decide_not];congr 1<;>exact decide_eq_decide.2 (by omega)
  cases a3:r.findIdx? (mO n)with
  | none=>have D:lj n r= -1:=(by unfold lj;rw[a3]);rw[NN]at a3;rw[D,decide_eq_true rfl,eD];intro x G;rw[e,a3 x G];rfl
  | some i=>have D:lj n r=i:=(by unfold lj;rw[a3]);rw[NL]at a3;obtain⟨ai,hb,_⟩:=a3;have H: ¬((i:Int)= -1):=(by omega);rw[D,tA H,wC];exact⟨r[i],mI ai,by rw[e,hb];simp⟩
theorem awE{u:bl}{r:List Int}(ay:r.length<=1000):bH al 143 [.agg (aS u).toArray,dG r] (Z (lj u.a2.length r)):=by
  refine ed (dL (aB:=⟨[],[]⟩) ama (by kernel_rfl) (by simp[Qt]) ?_);simp(disch:=first|omega|simp only[aE];omega) [Qt,YD,YE,aS,-O,-U,-N,-S,-List.map_map];refine hI (aB:=⟨[],[]⟩) (λi z t=>(∀j (bx:j<r.length),j<i->mO u.a2.length r[j]=false)/\t.Y 0=some ⟨aS u,true⟩/\z 1=dG r/\z 2=cD 0/\z 5=Z i) r.length ?_ ?_ 0 _ _ (ho _) ⟨λj bx h=>absurd h (se _),by simp(disch:=first|omega|simp only[aE];omega) [aS,-O,-U,-N,-S,-List.map_map],by simp,by simp,by simp⟩
  · rintro i z t ai ⟨gp,aO,bb,dS,cu⟩ cK bk;obtain⟨x,G⟩:=iW ai;have eh:=(ek.1 G).2;have bU:(i:Int)<r.length:=(by omega);have b7:=gT (n:=i) (by omega);have fq:=bm aO;have mi:mO u.a2.length x=true->lj u.a2.length r=i:= λhb=>UZ ai (by rw[eh];exact hb) gp;by_cases bN:x< -1
    · have e:=mi (by simp[mO,bN]);simp(disch:=first|omega|simp only[aE];omega) [FD,BU,BV,bb,cu,bU,eh,bN,e,-O,-U,-N,-S,-List.map_map]
    · by_cases cI:(u.a2.length:Int)<=x
      · have e:=mi (by simp[mO,cI]);simp(disch:=first|omega|simp only[aE];omega) [FD,BU,BV,aS,bb,dS,cu,aO,bU,eh,bN,cI,e,-O,-U,-N,-S,-List.map_map]
      · simp(disch:=first|omega|simp only[aE];omega) [FD,BU,BV,aS,bb,dS,cu,aO,bU,eh,bN,cI,b7,-O,-U,-N,-S,-List.map_map];refine bk _ _ ⟨λj bx EK=> ?_,by simp(disch:=first|omega|simp only[aE];omega) [aO,aS,-O,-U,-N,-S,-List.map_map],by simp[bb],by simp[dS],by simp⟩;by_cases e:j=i
        · subst e;rw[eh];simp[mO,bN,cI]
        · exact gp j bx (by omega)
  · rintro z t ⟨gp,aO,bb,dS,cu⟩;have e:=U1 λj bx=>gp j bx bx;simp(disch:=first|omega|simp only[aE];omega) [FD,BU,BV,BV,BU,bb,cu,e,-O,-U,-N,-S,-List.map_map]
noncomputable def MO(u:bl):bz al:= .dM 143 (List Int) (λr=>r.length<=1000) (λr=>[.agg (aS u).toArray,dG r]) (λr=>Z (lj u.a2.length r)) λr ay=>awE ay
@[simp] theorem aJr{u:bl}:(MO u).f=143:=rfl
@[simp] theorem aJs{u:bl}{r:List Int}(ay:r.length<=1000):(MO u).fn [.agg #[Z u.ext,au (u.cB.map gF) 4,au (u.bc.map gK) 4,au (u.a0.map dU) 7,au (u.a2.map gn) 3,au (u.cx.map eY) 17,au (u.cb.map g0) 2],au (r.map λx=>[Z x]) 1]=some (Z (lj u.a2.length r)):=bz.eu (x:=r) ay λy ah=>by simpa using ah
theorem CY{u:bl}{v:Nat}{r:List Int}:x5 u v r=(decide ((r.length:Int)=kj u v)&&decide (lj u.a2.length r= -1)):=by unfold x5;rw[agR]
theorem U0{n:Nat}{r:List Int}:lj n r= -1\/0<=lj n r:=by
  unfold lj;split
  · right;omega
  · left;rfl
theorem M7{u:bl}{L:List (List Int)}{v:Nat}{r:List Int}(G:L[v]?=some r)(h:x5 u v r=false):mC u L=false:=by unfold mC;rw[wA];right;rw[wC];exact⟨v,ob.2 (ek.1 G).1,by rw[G];simp[h]⟩
theorem aeJ{u:bl}{L:List (List Int)}(aC:L.length=u.cb.length)(h: ∀(v:Nat) r,L[v]?=some r->x5 u v r=true):mC u L=true:=by unfold mC;rw[aX];refine⟨decide_eq_true aC,?_⟩;rw[eD];intro v ab;rw[ob]at ab;rw[dx ab];exact h v _ (dx ab)
theorem aeK{u:bl}{L:List (List Int)}(aC: ¬L.length=u.cb.length):mC u L=false:=by unfold mC;rw[tA aC];rfl
theorem aw9{u:bl}(h:fY u){L:List (List Int)}(cS:kV L):bH al 88 [.agg (aS u).toArray,gS L] (.bool (mC u L)):=by
  refine ed (dL (aB:=⟨[uH u h.fN,MQ u h.ok,MO u],[]⟩) atU (by kernel_rfl) (by simp[LK]) ?_);have ab:=h.ok.AP;have zb:=h.ok.r0;by_cases aC:L.length=u.cb.length
  case neg=>have ov: ¬(L.length:Int)=u.cb.length:=(by omega);have e:=aeK aC;simp(disch:=first|omega|simp only[aE];omega) [LK,RJ,RK,aS,ab,ov,e,-O,-U,-N,-S,-List.map_map]
  have ov:(L.length:Int)=u.cb.length:=by omega
  simp(disch:=first|omega|simp only[aE];omega) [LK,RJ,RK,acN,aS,ab,ov,-O,-U,-N,-S,-List.map_map];refine hI (aB:=⟨[uH u h.fN,MQ u h.ok,MO u],[]⟩) (λi z t=>(∀(v:Nat) r,v<i->L[v]?=some r->x5 u v r=true)/\t.Y 0=some ⟨aS u,true⟩/\z 1=gS L/\z 2=cD 0/\z 5=Z i) L.length ?_ ?_ 0 _ _ (ho _) ⟨λv r ab=>absurd ab (se _),by simp(disch:=first|omega|simp only[aE];omega) [aS,-O,-U,-N,-S,-List.map_map],by simp,by simp,by simp⟩
  · rintro i z t ai ⟨gp,aO,bb,dS,cu⟩ cK bk;obtain⟨r,G⟩:=iW ai;have eh:=(ek.1 G).2;have bU:(i:Int)<L.length:=(by omega);have aiX:i<u.cb.length:=(by omega);have b7:=gT (n:=i) (by omega);have fq:=bm aO;have rQ:=cS.2 r (hR G);by_cases bN:(r.length:Int)=kj u i
    case neg=>have e:=M7 G (by rw[CY,tA bN];rfl);simp(disch:=first|omega|simp only[aE];omega) [GR,CC,CD,aS,hP,bb,dS,cu,aO,bU,eh,bN,e,-O,-U,-N,-S,-List.map_map]
    rcases U0 (n:=u.a2.length) (r:=r)with cI|cI
    · have hq: ¬0<=lj u.a2.length r:=(by omega);simp(disch:=first|omega|simp only[aE];omega) [GR,CC,CD,aS,hP,bb,dS,cu,aO,bU,eh,bN,hq,b7,-O,-U,-N,-S,-List.map_map];refine bk _ _ ⟨λv dF ab hi=> ?_,by simp(disch:=first|omega|simp only[aE];omega) [aO,aS,-O,-U,-N,-S,-List.map_map],by simp[bb],by simp[dS],by simp⟩;by_cases e:v=i
      · subst e;rw[G]at hi;cases hi;rw[CY,decide_eq_true bN,decide_eq_true cI];rfl
      · exact gp v dF (by omega) hi
    · have hq: ¬lj u.a2.length r= -1:=(by omega);have e:=M7 G (by rw[CY,decide_eq_true bN,tA hq];rfl);simp(disch:=first|omega|simp only[aE];omega) [GR,CC,CD,aS,hP,bb,dS,cu,aO,bU,eh,bN,cI,e,-O,-U,-N,-S,-List.map_map]
  · rintro z t ⟨gp,aO,bb,dS,cu⟩;have e:=aeJ aC λv r G=>gp v r (ek.1 G).1 G;have ee: ¬(((u.cb.length:Nat):Int)<u.cb.length):=(by omega);simp(disch:=first|omega|simp only[aE];omega) [GR,CC,CD,CD,CC,bb,cu,e,-O,-U,-N,-S,-List.map_map]
def pA(u:bl)(L:List (List Int))(v:Nat):Value:=match L[v]? with
  |some r=>if¬(r.length:Int)=kj u v then .tuple #[.agg #[Z 1,Z v,Z r.length],.bool true]else if lj u.a2.length r= -1 then .tuple #[.agg #[Z 0,Z 0,Z 0],.bool false]else .tuple #[.agg #[Z 1,Z v,Z (lj u.a2.length r)],.bool true]
  |none=>undef
theorem ayk{u:bl}(h:fY u){L:List (List Int)}(cS:kV L){v:Nat}(ab:v<L.length/\v<u.cb.length):bH al 133 [.agg (aS u).toArray,gS L,Z v] (pA u L v):=by
  refine ed (dL (aB:=⟨[S9 u h.ok],[]⟩) al2 (by kernel_rfl) (by simp[J8]) ?_);obtain⟨zj,xh⟩:=ab;obtain⟨r,G⟩:=iW zj;have eh:=(ek.1 G).2;have bU:(v:Int)<L.length:=by omega
  have rQ:=cS.2 r (hR G);by_cases bN:(r.length:Int)=kj u v
  case neg=>have e:pA u L v= .tuple #[.agg #[Z 1,Z v,Z r.length],.bool true]:=(by unfold pA;rw[G];simp[bN]);rw[e];simp(disch:=first|omega|simp only[aE];omega) [J8,Qc,Qd,aS,hP,eh,bU,bN,-O,-U,-N,-S,-List.map_map]
  simp(disch:=first|omega|simp only[aE];omega) [J8,Qc,Qd,Yi,aS,hP,eh,bU,bN,-O,-U,-N,-S,-List.map_map];refine hI (aB:=⟨[],[]⟩) (λi z t=>(∀j (bx:j<r.length),j<i->mO u.a2.length r[j]=false)/\t.Y 0=some ⟨aS u,true⟩/\t.Y 1=some ⟨[Z 0,Z 0,Z 0],true⟩/\z 2=Z v/\z 3=cD 0/\z 6=cD 1/\z 29=dG r/\z 30=Z r.length/\z 31=Z i) r.length ?_ ?_ 0 _ _ (ho _) ⟨λj bx h=>absurd h (se _),by simp(disch:=first|omega|simp only[aE];omega) [aS,-O,-U,-N,-S,-List.map_map],by simp(disch:=first|omega|simp only[aE];omega) [-O,-U,-N,-S,-List.map_map],by simp,by simp,by simp,by simp,by simp[bN],by simp⟩
  · rintro i z t ai ⟨gp,aO,aQ,dS,eP,fU,Hy,C1,uE⟩ cK bk;obtain⟨x,ah⟩:=iW ai;have nt:=(ek.1 ah).2;have a7:(i:Int)<r.length:=(by omega);have b7:=gT (n:=i) (by omega);have fq:=bm aO;have iE:=bm aQ;have mi:mO u.a2.length x=true->pA u L v= .tuple #[.agg #[Z 1,Z v,Z i],.bool true]:= λhb=>by
      have e:=UZ ai (by rw[nt];exact hb) gp;have cz: ¬(i:Int)= -1:=(by omega);unfold pA;rw[G];simp only[bN,not_true_eq_false,if_false,e,if_neg cz]
    by_cases gZ:x< -1
    · rw[mi (by simp[mO,gZ])];simp(disch:=first|omega|simp only[aE];omega) [Fw,BO,BP,BQ,BR,dS,fU,Hy,C1,uE,aQ,a7,nt,gZ,-O,-U,-N,-S,-List.map_map]
    · by_cases gM:(u.a2.length:Int)<=x
      · rw[mi (by simp[mO,gM])];simp(disch:=first|omega|simp only[aE];omega) [Fw,BO,BP,BQ,BR,aS,dS,eP,fU,Hy,C1,uE,aO,aQ,a7,nt,gZ,gM,-O,-U,-N,-S,-List.map_map]
      · simp(disch:=first|omega|simp only[aE];omega) [Fw,BO,BP,BQ,BR,aS,eP,Hy,C1,uE,aO,a7,nt,gZ,gM,b7,-O,-U,-N,-S,-List.map_map];refine bk _ _ ⟨λj bx EK=> ?_,by simp(disch:=first|omega|simp only[aE];omega) [aO,aS,-O,-U,-N,-S,-List.map_map],by simp(disch:=first|omega|simp only[aE];omega) [aQ,-O,-U,-N,-S,-List.map_map],by simp[dS],by simp[eP],by simp[fU],by simp[Hy],by simp[C1],by simp⟩;by_cases e:j=i
        · subst e;rw[nt];simp[mO,gZ,gM]
        · exact gp j bx (by omega)
  · rintro z t ⟨gp,aO,aQ,dS,eP,fU,Hy,C1,uE⟩;have e:=U1 λj bx=>gp j bx bx;have aU:pA u L v= .tuple #[.agg #[Z 0,Z 0,Z 0],.bool false]:=(by unfold pA;rw[G];simp only[bN,not_true_eq_false,if_false,e,if_true]);have iE:=bm aQ;rw[aU];simp(disch:=first|omega|simp only[aE];omega) [Fw,BO,BP,BQ,BR,BR,BO,BP,BQ,fU,C1,uE,aQ,-O,-U,-N,-S,-List.map_map]
noncomputable def MV(u:bl)(h:fY u)(L:List (List Int))(cS:kV L):bz al:= .dM 133 Nat (λv=>v<L.length/\v<u.cb.length) (λv=>[.agg (aS u).toArray,gS L,Z v]) (λv=>pA u L v) λv ab=>ayk h cS ab
@[simp] theorem aJ4{u:bl}{h:fY u}{L:List (List Int)}{cS:kV L}:(MV u h L cS).f=133:=rfl
@[simp] theorem aJ5{u:bl}{h:fY u}{L:List (List Int)}{cS:kV L}{v:Nat}(ab:v<L.length/\v<u.cb.length):(MV u h L cS).fn [.agg #[Z u.ext,au (u.cB.map gF) 4,au (u.bc.map gK) 4,au (u.a0.map dU) 7,au (u.a2.map gn) 3,au (u.cx.map eY) 17,au (u.cb.map g0) 2],au (L.map hP) 1,Z v]=some (pA u L v):=bz.eu (x:=v) ab λy ah=>by simp at ah⊢;omega
theorem awp{u:bl}(h:fY u){L:List (List Int)}(cS:kV L):bH al 86 [.agg (aS u).toArray,gS L] (.bool (mC u L)):=by
  refine ed (dL (aB:=⟨[C6 u h.fN,MV u h L cS],[]⟩) acM (by kernel_rfl) (by simp[Cr]) ?_);have ab:=h.ok.AP;have zb:=h.ok.r0;by_cases aC:L.length=u.cb.length
  case neg=>have ov: ¬(L.length:Int)=u.cb.length:=(by omega);have e:=aeK aC;simp(disch:=first|omega|simp only[aE];omega) [Cr,Lx,Ly,aS,ab,ov,e,-O,-U,-N,-S,-List.map_map]
  have ov:(L.length:Int)=u.cb.length:=by omega
  simp(disch:=first|omega|simp only[aE];omega) [Cr,Lx,Ly,RI,aS,ab,ov,-O,-U,-N,-S,-List.map_map];refine hI (aB:=⟨[C6 u h.fN,MV u h L cS],[]⟩) (λi z t=>(∀(v:Nat) r,v<i->L[v]?=some r->x5 u v r=true)/\t.Y 0=some ⟨aS u,true⟩/\z 1=gS L/\z 2=cD 0/\z 20=Z L.length/\z 21=Z i) L.length ?_ ?_ 0 _ _ (ho _) ⟨λv r ab=>absurd ab (se _),by simp(disch:=first|omega|simp only[aE];omega) [aS,-O,-U,-N,-S,-List.map_map],by simp,by simp,by simp[aC],by simp⟩
  · rintro i z t ai ⟨gp,aO,bb,dS,oP,qh⟩ cK bk;obtain⟨r,G⟩:=iW ai;have bU:(i:Int)<L.length:=(by omega);have aiX:i<L.length/\i<u.cb.length:=(by omega);have b7:=gT (n:=i) (by omega);have fq:=bm aO;by_cases bN:(r.length:Int)=kj u i
    case neg=>have e:=M7 G (by rw[CY,tA bN];rfl);have aU:pA u L i= .tuple #[.agg #[Z 1,Z i,Z r.length],.bool true]:=(by unfold pA;rw[G];simp[bN]);simp(disch:=first|omega|simp only[aE];omega) [GN,Cs,Ct,Cu,Cv,zM,aS,bb,dS,oP,qh,aO,bU,e,aU,-O,-U,-N,-S,-List.map_map]
    rcases U0 (n:=u.a2.length) (r:=r)with cI|cI
    · have aU:pA u L i= .tuple #[.agg #[Z 0,Z 0,Z 0],.bool false]:=(by unfold pA;rw[G];simp only[bN,not_true_eq_false,if_false,cI,if_true]);simp(disch:=first|omega|simp only[aE];omega) [GN,Cs,Ct,Cu,Cv,zM,aS,bb,dS,oP,qh,aO,bU,aU,b7,-O,-U,-N,-S,-List.map_map];refine bk _ _ ⟨λv dF ab hi=> ?_,by simp(disch:=first|omega|simp only[aE];omega) [aO,aS,-O,-U,-N,-S,-List.map_map],by simp[bb],by simp[dS],by simp[oP],by simp⟩;by_cases e:v=i
      · subst e;rw[G]at hi;cases hi;rw[CY,decide_eq_true bN,decide_eq_true cI];rfl
      · exact gp v dF (by omega) hi
    · have hq: ¬lj u.a2.length r= -1:=(by omega);have e:=M7 G (by rw[CY,decide_eq_true bN,tA hq];rfl);have aU:pA u L i= .tuple #[.agg #[Z 1,Z i,Z (lj u.a2.length r)],.bool true]:=(by unfold pA;rw[G];simp only[bN,not_true_eq_false,if_false,if_neg hq]);simp(disch:=first|omega|simp only[aE];omega) [GN,Cs,Ct,Cu,Cv,zM,aS,bb,dS,oP,qh,aO,bU,e,aU,-O,-U,-N,-S,-List.map_map]
  · rintro z t ⟨gp,aO,bb,dS,oP,qh⟩;have e:=aeJ aC λv r G=>gp v r (ek.1 G).1 G;simp(disch:=first|omega|simp only[aE];omega) [GN,Cs,Ct,Cu,Cv,zM,zM,Cs,Ct,Cu,Cv,oP,qh,e,-O,-U,-N,-S,-List.map_map]
noncomputable def HL(u:bl)(h:fY u):bz al:= .dM 86 (List (List Int)) kV (λL=>[.agg (aS u).toArray,gS L]) (λL=> .bool (mC u L)) λL cS=>awp h cS
@[simp] theorem aJl{u:bl}{h:fY u}:(HL u h).f=86:=rfl
@[simp] theorem aJm{u:bl}{h:fY u}{L:List (List Int)}(cS:kV L):(HL u h).fn [.agg #[Z u.ext,au (u.cB.map gF) 4,au (u.bc.map gK) 4,au (u.a0.map dU) 7,au (u.a2.map gn) 3,au (u.cx.map eY) 17,au (u.cb.map g0) 2],au (L.map hP) 1]=some (.bool (mC u L)):=bz.eu (x:=L) cS λy ah=>by simpa using ah
noncomputable def MR(u:bl)(h:fY u):bz al:= .dM 88 (List (List Int)) kV (λL=>[.agg (aS u).toArray,gS L]) (λL=> .bool (mC u L)) λL cS=>aw9 h cS
@[simp] theorem aJF{u:bl}{h:fY u}:(MR u h).f=88:=rfl
@[simp] theorem aJG{u:bl}{h:fY u}{L:List (List Int)}(cS:kV L):(MR u h).fn [.agg #[Z u.ext,au (u.cB.map gF) 4,au (u.bc.map gK) 4,au (u.a0.map dU) 7,au (u.a2.map gn) 3,au (u.cx.map eY) 17,au (u.cb.map g0) 2],au (L.map hP) 1]=some (.bool (mC u L)):=bz.eu (x:=L) cS λy ah=>by simpa using ah
def jI(L:List (List Int))(d:Nat):Nat:=L.flatten.count (d:Int)
theorem Vs{L:List (List Int)}{i d:Nat}{r:List Int}(G:L[i]?=some r):jI (L.take (i+1)) d=jI (L.take i) d+r.count (d:Int):=by unfold jI;rw[lx G];simp
theorem Vr{L:List (List Int)}{d:Nat}(h: ∀r∈L,r.length<=1000):jI L d<=L.length*1000:=by
  refine jv List.count_le_length ?_;induction L with
  |nil=>simp
  | cons r l cn=>have:=h r (by simp);have:=cn λx G=>h x (by simp[G]);simp only[qu,j7,oX];omega
theorem G3{u:bl}{L:List (List Int)}:mZ u L=kL u.a2.length λd=>((jI L d:Nat):Int):=rfl
theorem Me{u:bl}{L:List (List Int)}:(mZ u L).length=u.a2.length:=by rw[G3,awU]
theorem aHy{u:bl}(h:fY u){L:List (List Int)}(cS:kV L):fQ al 200 [.agg (aS u).toArray,gS L] ir λv bO=> ∃o,v=e6 o u.a2.length 1/\bO.Y o=some ⟨(mZ u L).map Z,true⟩:=by
  refine dL (aB:=⟨[],[]⟩) anV (by kernel_rfl) (by simp[QG]) ?_;have k1:=h.ok.mz;have ab:=h.ok.AP;have gD:(u.a2.length:Int)*8<=140737488355328/\u.a2.length<=140737488355328/\(u.a2.length:Int)<=140737488355328/\(u.a2.length:Int)<=9223372036854775807:=by omega
  simp(disch:=first|omega|simp only[aE];omega) [QG,ZJ,ZK,ZL,aS,gD,-O,-U,-N,-S,-List.map_map];refine hI (aB:=⟨[],[]⟩) (λi z t=>t.Y 0=some ⟨aS u,true⟩/\t.Y 5=some ⟨kL u.a2.length (λj=>Z (jI (L.take i) j)),true⟩/\z 2=cD 0/\z 5=e6 5 u.a2.length 1/\z 14=gS L/\z 15=Z L.length/\z 16=Z i) L.length ?_ ?_ 0 _ _ (ho _) ⟨by simp(disch:=first|omega|simp only[aE];omega) [aS,-O,-U,-N,-S,-List.map_map],by simp(disch:=first|omega|simp only[aE];omega) [-O,-U,-N,-S,-List.map_map];exact aer,by simp,by simp,by simp,by simp,by simp⟩
  · rintro i z t ai ⟨aO,fF,dS,cu,n3,uC,n4⟩ cK bk;obtain⟨r,G⟩:=iW ai;have eh:=(ek.1 G).2;have bU:(i:Int)<L.length:=(by omega);have rQ:=cS.2 r (hR G);have vp:=cS.1;have b7:=gT (n:=i) (by omega);have fq:=bm aO;have z3:=bm fF;simp(disch:=first|omega|simp only[aE];omega) [QL,QH,QI,QJ,QK,hP,n3,uC,n4,bU,eh,-O,-U,-N,-S,-List.map_map];refine hI (aB:=⟨[],[]⟩) (λk z t=>t.Y 0=some ⟨aS u,true⟩/\t.Y 5=some ⟨kL u.a2.length (λj=>Z (jI (L.take i) j+(r.take k).count (j:Int):Nat)),true⟩/\z 2=cD 0/\z 5=e6 5 u.a2.length 1/\z 14=gS L/\z 15=Z L.length/\z 16=Z i/\z 20=dG r/\z 21=Z r.length/\z 22=Z k) r.length ?_ ?_ 0 _ _ (ho _) ⟨by simp(disch:=first|omega|simp only[aE];omega) [aO,aS,-O,-U,-N,-S,-List.map_map],by simp(disch:=first|omega|simp only[aE];omega) [fF,-O,-U,-N,-S,-List.map_map],by simp[dS],by simp[cu],by simp[n3],by simp[uC],by simp[n4],by simp[],by simp[],by simp[]⟩
    · rintro k z t aa ⟨aO,fF,dS,cu,n3,uC,n4,oP,qh,Hx⟩ cK bk;obtain⟨x,ah⟩:=iW aa;have nt:=(ek.1 ah).2;have a7:(k:Int)<r.length:=(by omega);have qo:=gT (n:=k) (by omega);have fq:=bm aO;have z3:=bm fF;have iZ: ∀j:Nat,(r.take (k+1)).count (j:Int)=(r.take k).count (j:Int)+if x=j then 1 else 0:= λj=>by
        rw[lx ah,List.count_append];congr 1;by_cases e:x=j<;>simp[e]
      by_cases bN:0<=x
      · by_cases cI:x<u.a2.length
        · obtain⟨dN,yX⟩:=kS bN;have cf:dN<u.a2.length:=(by omega);have cH:dN+1<=u.a2.length:=cf;have dC:(dN:Int)<u.a2.length:=(by omega);have c8:=Vr (L:=L.take i) (d:=dN) (λr ay=>cS.2 r (wB ay));have dX:(L.take i).length<=1000:=(by rw[ni];omega);have gl:(r.take k).count (dN:Int)<=1000:=jv List.count_le_length (by rw[ni];omega);have gm:jI (L.take i) dN<=1000000:=jv c8 (qt 1000 dX);have cX:IntKind.i64.wrap (((jI (L.take i) dN+(r.take k).count (dN:Int):Nat):Int)+1)=((jI (L.take i) dN+(r.take k).count (dN:Int):Nat):Int)+1:=fl (by omega) (by omega);rw[Int.natCast_add]at cX;simp(disch:=first|omega|simp only[aE];omega) [Ga,F7,F8,F9,cu,oP,qh,Hx,fF,a7,nt,qo,yX,cH,dC,cX,x4,aes,JJ,-O,-U,-N,-S,-List.map_map];refine bk _ _ ⟨by simp(disch:=first|omega|simp only[aE];omega) [aO,aS,-O,-U,-N,-S,-List.map_map],?_,by simp[dS],by simp[cu],by simp[n3],by simp[uC],by simp[n4],by simp[oP],by simp[qh],by simp[]⟩;simp(disch:=first|omega|simp only[aE];omega) [-O,-U,-N,-S,-List.map_map];refine x3 λj bx=> ?_;rw[iZ j,yX];by_cases e:j=dN
          · subst e;simp;omega
          · have aL: ¬(dN:Int)=j:=(by omega);simp only[if_neg e,if_neg aL,Nat.add_zero]
        · simp(disch:=first|omega|simp only[aE];omega) [Ga,F7,F8,F9,cu,oP,qh,Hx,a7,nt,qo,bN,cI,-O,-U,-N,-S,-List.map_map];refine bk _ _ ⟨by simp(disch:=first|omega|simp only[aE];omega) [aO,aS,-O,-U,-N,-S,-List.map_map],?_,by simp[dS],by simp[cu],by simp[n3],by simp[uC],by simp[n4],by simp[oP],by simp[qh],by simp[]⟩;simp(disch:=first|omega|simp only[aE];omega) [fF,-O,-U,-N,-S,-List.map_map];refine x3 λj bx=> ?_;have aL: ¬x=j:=(by omega);rw[iZ j,if_neg aL];simp
      · simp(disch:=first|omega|simp only[aE];omega) [Ga,F7,F8,F9,oP,qh,Hx,a7,nt,qo,bN,-O,-U,-N,-S,-List.map_map];refine bk _ _ ⟨by simp(disch:=first|omega|simp only[aE];omega) [aO,aS,-O,-U,-N,-S,-List.map_map],?_,by simp[dS],by simp[cu],by simp[n3],by simp[uC],by simp[n4],by simp[oP],by simp[qh],by simp[]⟩;simp(disch:=first|omega|simp only[aE];omega) [fF,-O,-U,-N,-S,-List.map_map];refine x3 λj bx=> ?_;have aL: ¬x=j:=(by omega);rw[iZ j,if_neg aL];simp
    · rintro z t ⟨aO,fF,dS,cu,n3,uC,n4,oP,qh,Hx⟩;have fq:=bm aO;have z3:=bm fF;simp(disch:=first|omega|simp only[aE];omega) [Ga,F7,F8,F9,n4,qh,Hx,b7,-O,-U,-N,-S,-List.map_map];refine bk _ _ ⟨by simp(disch:=first|omega|simp only[aE];omega) [aO,aS,-O,-U,-N,-S,-List.map_map],?_,by simp[dS],by simp[cu],by simp[n3],by simp[uC],by simp[]⟩;simp(disch:=first|omega|simp only[aE];omega) [fF,-O,-U,-N,-S,-List.map_map];refine x3 λj bx=> ?_;rw[Vs G];simp
  · rintro z t ⟨aO,fF,dS,cu,n3,uC,n4⟩;have fq:=bm aO;simp(disch:=first|omega|simp only[aE];omega) [QL,QH,QI,QJ,QK,cu,uC,n4,-O,-U,-N,-S,-List.map_map];rw[fF,mJ,G3,SK]
theorem awT{u:bl}(h:fY u){L:List (List Int)}(cS:kV L):fQ al 34 [.agg (aS u).toArray,gS L] ir λv bO=> ∃o,v=e6 o u.a2.length 1/\bO.Y o=some ⟨(mZ u L).map Z,true⟩:=by
  refine dL (aB:=⟨[uH u h.fN],[]⟩) arZ (by kernel_rfl) (by simp[Rb]) ?_;have k1:=h.ok.mz;have ab:=h.ok.AP;have gD:(u.a2.length:Int)*8<=140737488355328/\u.a2.length<=140737488355328/\(u.a2.length:Int)<=140737488355328/\(u.a2.length:Int)<=9223372036854775807:=by omega
  simp(disch:=first|omega|simp only[aE];omega) [Rb,abI,abJ,abK,abL,aS,ab,gD,-O,-U,-N,-S,-List.map_map];refine hI (aB:=⟨[uH u h.fN],[]⟩) (λi z t=>t.Y 0=some ⟨aS u,true⟩/\t.Y 5=some ⟨kL u.a2.length (λj=>Z (jI (L.take i) j)),true⟩/\z 1=gS L/\z 2=cD 0/\z 5=e6 5 u.a2.length 1/\z 6=Z i) L.length ?_ ?_ 0 _ _ (ho _) ⟨by simp(disch:=first|omega|simp only[aE];omega) [aS,-O,-U,-N,-S,-List.map_map],by simp(disch:=first|omega|simp only[aE];omega) [-O,-U,-N,-S,-List.map_map];exact aer,by simp,by simp,by simp,by simp⟩
  · rintro i z t ai ⟨aO,fF,bb,dS,cu,fU⟩ cK bk;obtain⟨r,G⟩:=iW ai;have eh:=(ek.1 G).2;have bU:(i:Int)<L.length:=(by omega);have rQ:=cS.2 r (hR G);have vp:=cS.1;have b7:=gT (n:=i) (by omega);have fq:=bm aO;have z3:=bm fF;simp(disch:=first|omega|simp only[aE];omega) [Re,Rc,Rd,bb,fU,bU,-O,-U,-N,-S,-List.map_map];refine hI (aB:=⟨[uH u h.fN],[]⟩) (λk z t=>t.Y 0=some ⟨aS u,true⟩/\t.Y 5=some ⟨kL u.a2.length (λj=>Z (jI (L.take i) j+(r.take k).count (j:Int):Nat)),true⟩/\z 1=gS L/\z 2=cD 0/\z 5=e6 5 u.a2.length 1/\z 6=Z i/\z 7=Z k) r.length ?_ ?_ 0 _ _ (ho _) ⟨by simp(disch:=first|omega|simp only[aE];omega) [aO,aS,-O,-U,-N,-S,-List.map_map],by simp(disch:=first|omega|simp only[aE];omega) [fF,-O,-U,-N,-S,-List.map_map],by simp[bb],by simp[dS],by simp[cu],by simp[fU],by simp[]⟩
    · rintro k z t aa ⟨aO,fF,bb,dS,cu,fU,dW⟩ cK bk;obtain⟨x,ah⟩:=iW aa;have nt:=(ek.1 ah).2;have a7:(k:Int)<r.length:=(by omega);have qo:=gT (n:=k) (by omega);have fq:=bm aO;have z3:=bm fF;have iZ: ∀j:Nat,(r.take (k+1)).count (j:Int)=(r.take k).count (j:Int)+if x=j then 1 else 0:= λj=>by
        rw[lx ah,List.count_append];congr 1;by_cases e:x=j<;>simp[e]
      by_cases bN:0<=x
      · by_cases cI:x<u.a2.length
        · obtain⟨dN,yX⟩:=kS bN;have cf:dN<u.a2.length:=(by omega);have cH:dN+1<=u.a2.length:=cf;have dC:(dN:Int)<u.a2.length:=(by omega);have c8:=Vr (L:=L.take i) (d:=dN) (λr ay=>cS.2 r (wB ay));have dX:(L.take i).length<=1000:=(by rw[ni];omega);have gl:(r.take k).count (dN:Int)<=1000:=jv List.count_le_length (by rw[ni];omega);have gm:jI (L.take i) dN<=1000000:=jv c8 (qt 1000 dX);have cX:IntKind.i64.wrap (((jI (L.take i) dN+(r.take k).count (dN:Int):Nat):Int)+1)=((jI (L.take i) dN+(r.take k).count (dN:Int):Nat):Int)+1:=fl (by omega) (by omega);rw[Int.natCast_add]at cX;simp(disch:=first|omega|simp only[aE];omega) [Gp,Gn,hP,bb,cu,fU,dW,fF,bU,a7,eh,nt,qo,yX,cH,dC,cX,x4,aes,JJ,-O,-U,-N,-S,-List.map_map];refine bk _ _ ⟨by simp(disch:=first|omega|simp only[aE];omega) [aO,aS,-O,-U,-N,-S,-List.map_map],?_,by simp[bb],by simp[dS],by simp[cu],by simp[fU],by simp[]⟩;simp(disch:=first|omega|simp only[aE];omega) [-O,-U,-N,-S,-List.map_map];refine x3 λj bx=> ?_;rw[iZ j,yX];by_cases e:j=dN
          · subst e;simp;omega
          · have aL: ¬(dN:Int)=j:=(by omega);simp only[if_neg e,if_neg aL,Nat.add_zero]
        · simp(disch:=first|omega|simp only[aE];omega) [Gp,Gn,hP,bb,cu,fU,dW,bU,a7,eh,nt,qo,bN,cI,-O,-U,-N,-S,-List.map_map];refine bk _ _ ⟨by simp(disch:=first|omega|simp only[aE];omega) [aO,aS,-O,-U,-N,-S,-List.map_map],?_,by simp[bb],by simp[dS],by simp[cu],by simp[fU],by simp[]⟩;simp(disch:=first|omega|simp only[aE];omega) [fF,-O,-U,-N,-S,-List.map_map];refine x3 λj bx=> ?_;have aL: ¬x=j:=(by omega);rw[iZ j,if_neg aL];simp
      · simp(disch:=first|omega|simp only[aE];omega) [Gp,Gn,hP,bb,fU,dW,bU,a7,eh,nt,qo,bN,-O,-U,-N,-S,-List.map_map];refine bk _ _ ⟨by simp(disch:=first|omega|simp only[aE];omega) [aO,aS,-O,-U,-N,-S,-List.map_map],?_,by simp[bb],by simp[dS],by simp[cu],by simp[fU],by simp[]⟩;simp(disch:=first|omega|simp only[aE];omega) [fF,-O,-U,-N,-S,-List.map_map];refine x3 λj bx=> ?_;have aL: ¬x=j:=(by omega);rw[iZ j,if_neg aL];simp
    · rintro z t ⟨aO,fF,bb,dS,cu,fU,dW⟩;have fq:=bm aO;have z3:=bm fF;simp(disch:=first|omega|simp only[aE];omega) [Gp,Gn,hP,bb,fU,dW,bU,eh,b7,-O,-U,-N,-S,-List.map_map];refine bk _ _ ⟨by simp(disch:=first|omega|simp only[aE];omega) [aO,aS,-O,-U,-N,-S,-List.map_map],?_,by simp[bb],by simp[dS],by simp[cu],by simp[]⟩;simp(disch:=first|omega|simp only[aE];omega) [fF,-O,-U,-N,-S,-List.map_map];refine x3 λj bx=> ?_;rw[Vs G];simp
  · rintro z t ⟨aO,fF,bb,dS,cu,fU⟩;have fq:=bm aO;simp(disch:=first|omega|simp only[aE];omega) [Re,Rc,Rd,bb,cu,fU,-O,-U,-N,-S,-List.map_map];rw[fF,mJ,G3,SK]
theorem awS{u:bl}(h:fY u){L:List (List Int)}(cS:kV L):bH al 34 [.agg (aS u).toArray,gS L] (dG (mZ u L)):=
  ayP (n:=u.a2.length) (by rw[j8,Me]) xo (by rw[zm];exact awT h cS)
noncomputable def Az(u:bl)(h:fY u):bz al:= .dM 34 (List (List Int)) kV (λL=>[.agg (aS u).toArray,gS L]) (λL=>dG (mZ u L)) λL cS=>awS h cS
@[simp] theorem aJB{u:bl}{h:fY u}:(Az u h).f=34:=rfl
@[simp] theorem aJC{u:bl}{h:fY u}{L:List (List Int)}(cS:kV L):(Az u h).fn [.agg #[Z u.ext,au (u.cB.map gF) 4,au (u.bc.map gK) 4,au (u.a0.map dU) 7,au (u.a2.map gn) 3,au (u.cx.map eY) 17,au (u.cb.map g0) 2],au (L.map hP) 1]=some (dG (mZ u L)):=bz.eu (x:=L) cS λy ah=>by simpa using ah
theorem VT{n:Nat}{p:Nat->Bool}:(List.range (n+1)).filter p=(List.range n).filter p++if p n then[n]else[]:=by rw[List.range_succ,List.filter_append];cases h:p n<;>simp[h]
theorem awe{u:bl}(h:fY u){n:Nat}(ax:n<u.a0.length):bH al 116 [.agg (aS u).toArray,Z n] (dG (wX u n)):=by
  refine ed (dL (aB:=⟨[C6 u h.fN,MN u h.ok],[]⟩) XV (by kernel_rfl) (by simp[J3]) ?_);have ab:=h.ok.AP;have k1:=h.ok.mz;have hW:=h.ok.kr;obtain⟨d,G⟩:=iW ax;have eh:=(ek.1 G).2;have e:hn u n=d.hl:=by simp only[hn,G]
  have JN:=(h.ok.gq ax).1;have bU:(n:Int)<u.a0.length:=by omega
  have bD: ¬(n:Int)<0:=by omega
  have b4: ¬u.a0.length<=n:=by omega
  simp(disch:=first|omega|simp only[aE];omega) [J3,XU,XW,XX,XY,aS,ab,bD,b4,-O,-U,-N,-S,-List.map_map];refine Nx (d:=5) (J:=1) (by simp) ?_;refine hI (aB:=⟨[C6 u h.fN,MN u h.ok],[]⟩) (λi z t=>t.Y 0=some ⟨aS u,true⟩/\(∃o l,o≠0/\l=((List.range i).filter λd=>decide (kc u (hn u n) 5 (pn u d)=n))/\z 5=e6 o l.length 1/\t.Y o=some ⟨l.map (λd:Nat=>Z d),true⟩)/\z 1=Z n/\z 2=cD 0/\z 24=Z u.a2.length/\z 25=Z i) u.a2.length ?_ ?_ 0 _ _ (ho _) ⟨by simp(disch:=first|omega|simp only[aE];omega) [aS,-O,-U,-N,-S,-List.map_map],⟨2,[],by decide,rfl,by simp,by simp(disch:=first|omega|simp only[aE];omega) [-O,-U,-N,-S,-List.map_map]⟩,by simp,by simp,by simp,by simp⟩
  · rintro i z t ai ⟨aO,⟨o,l,aD,aC,cu,bX⟩,bb,dS,C0,r3⟩ cK bk;have a7:(i:Int)<u.a2.length:=(by omega);have b7:=gT (n:=i) (by omega);have fq:=bm aO;have ct:=bm bX;have Bz:i<u.a2.length/\0<=d.hl:=⟨ai,by omega⟩;have vp:l.length<=i:=(by rw[aC];exact jv (List.length_filter_le _ _) (by simp));have gD:(l.length+1)*8<=140737488355328/\l.length<=9223372036854775806:=(by omega);by_cases c:(kc u d.hl 5 (pn u i):Nat)=n
    · have bN:(kc u d.hl 5 (pn u i):Int)=(n:Int):=(by omega);simp(disch:=first|omega|simp only[aE];omega) [J4,Fm,Fo,Fp,Fq,aS,dU,bb,dS,cu,C0,r3,aO,bX,bU,a7,eh,c,b7,gD,-O,-U,-N,-S,-List.map_map];refine bk _ _ ⟨by simp(disch:=first|omega|simp only[aE];omega) [aO,aS,-O,-U,-N,-S,-List.map_map],⟨t.next+3,l++[i],by omega,?_,by simp,?_⟩,by simp[bb],by simp[dS],by simp[C0],by simp⟩
      · rw[VT,<-aC,e,decide_eq_true c];rfl
      · rw[eZ (by simp),ky (by simp)];simp
    · have bN: ¬(kc u d.hl 5 (pn u i):Int)=(n:Int):=(by omega);simp(disch:=first|omega|simp only[aE];omega) [J4,Fm,Fo,Fp,Fq,aS,dU,bb,dS,C0,r3,aO,bU,a7,eh,bN,b7,-O,-U,-N,-S,-List.map_map];refine bk _ _ ⟨by simp(disch:=first|omega|simp only[aE];omega) [aO,aS,-O,-U,-N,-S,-List.map_map],⟨o,l,aD,?_,by simp[cu],by simp(disch:=first|omega|simp only[aE];omega) [bX,-O,-U,-N,-S,-List.map_map]⟩,by simp[bb],by simp[dS],by simp[C0],by simp⟩;rw[VT,<-aC,e,tA c];simp
  · rintro z t ⟨aO,⟨o,l,aD,aC,cu,bX⟩,bb,dS,C0,r3⟩;have fq:=bm aO;have aU:wX u n=l.map λd:Nat=>(d:Int):=by rw[aC];rfl
    rw[aU];simp(disch:=first|omega|simp only[aE];omega) [J4,Fm,Fo,Fp,Fq,Fq,Fm,Fo,Fp,cu,C0,r3,-O,-U,-N,-S,-List.map_map];have:=sx (t:=t) (n:=8) (o:=o) (l:=l.length) (J:=1) (w:=true) (bg:=(l.map λd:Nat=>(d:Int)).map λx=>[Z x]) (by rw[zm,bX];simp) (by simp) xo;rw[this]
noncomputable def SZ(u:bl)(h:fY u):bz al:= .dM 116 Nat (λn=>n<u.a0.length) (λn=>[.agg (aS u).toArray,Z n]) (λn=>dG (wX u n)) λn ax=>awe h ax
@[simp] theorem aII{u:bl}{h:fY u}:(SZ u h).f=116:=rfl
@[simp] theorem aIJ{u:bl}{h:fY u}{n:Nat}(ax:n<u.a0.length):(SZ u h).fn [.agg #[Z u.ext,au (u.cB.map gF) 4,au (u.bc.map gK) 4,au (u.a0.map dU) 7,au (u.a2.map gn) 3,au (u.cx.map eY) 17,au (u.cb.map g0) 2],Z n]=some (dG (wX u n)):=bz.eu (x:=n) ax λy ah=>by simp at ah⊢;omega
def qX(x:Int)(l:List Int):Int:=match l.findIdx? (λy=>decide (x=y))with|some i=>i|none=> -1
theorem at3{x:Int}{l:List Int}{i:Nat}(ai:i<l.length)(G:x=l[i])(h: ∀j (bx:j<l.length),j<i-> ¬x=l[j]):qX x l=i:=by
  unfold qX;have:l.findIdx? (λy=>decide (x=y))=some i:=by rw[NL];exact⟨ai,by simpa using G,λj bx=>by simpa using h j (by omega) bx⟩
  rw[this]
theorem at4{x:Int}{l:List Int}(h: ∀j (bx:j<l.length),¬x=l[j]):qX x l= -1:=by
  unfold qX;have:l.findIdx? (λy=>decide (x=y))=none:=by rw[NN];intro y ah;obtain⟨j,bx,rfl⟩:=kx ah;simpa using h j bx
  rw[this]
theorem acX{x:Int}{l:List Int}:0<=qX x l↔x∈l:=by
  cases a3:l.findIdx? (λy=>decide (x=y))with
  | some i=>have e:qX x l=i:=(by unfold qX;rw[a3]);rw[NL]at a3;obtain⟨ai,hb,_⟩:=a3;have ft:x=l[i]:=(by simpa using hb);rw[e];exact⟨λ_=>by rw[ft];exact mI ai,λ_=>by omega⟩
  | none=>have e:qX x l= -1:=(by unfold qX;rw[a3]);rw[NN]at a3;rw[e];exact⟨λh=>by omega,λh=>by have:=a3 x h;simp at this⟩
theorem ayo{l:List Int}{x:Int}(aC:l.length<=1000000):bH al 123 [dG l,Z x] (Z (qX x l)):=by
  refine ed (dL (aB:=⟨[],[]⟩) X4 (by kernel_rfl) (by simp[J5]) ?_);simp(disch:=first|omega|simp only[aE];omega) [J5,X3,X5,-O,-U,-N,-S,-List.map_map];refine hI (aB:=⟨[],[]⟩) (λi z t=>(∀j (bx:j<l.length),j<i-> ¬x=l[j])/\z 0=dG l/\z 1=Z x/\z 7=Z l.length/\z 8=Z i) l.length ?_ ?_ 0 _ _ (ho _) ⟨λj bx h=>absurd h (se _),by simp,by simp,by simp,by simp⟩
  · rintro i z t ai ⟨gp,c9,bb,dW,b1⟩ cK bk;obtain⟨y,G⟩:=iW ai;have eh:=(ek.1 G).2;have bU:(i:Int)<l.length:=(by omega);have b7:=gT (n:=i) (by omega);by_cases c:x=y
    · have e:=at3 ai (by rw[eh];exact c) gp;simp(disch:=first|omega|simp only[aE];omega) [J6,Fs,Ft,Fu,Fv,c9,bb,dW,b1,bU,eh,eq_true c,e,-O,-U,-N,-S,-List.map_map]
    · simp(disch:=first|omega|simp only[aE];omega) [J6,Fs,Ft,Fu,Fv,c9,bb,dW,b1,bU,eh,c,b7,-O,-U,-N,-S,-List.map_map];refine bk _ _ ⟨λj bx EK=> ?_,by simp[c9],by simp[bb],by simp[dW],by simp⟩;by_cases e:j=i
      · subst e;rw[eh];exact c
      · exact gp j bx (by omega)
  · rintro z t ⟨gp,c9,bb,dW,b1⟩;have e:=at4 λj bx=>gp j bx bx;simp(disch:=first|omega|simp only[aE];omega) [J6,Fs,Ft,Fu,Fv,Fv,Fs,Ft,Fu,dW,b1,e,-O,-U,-N,-S,-List.map_map]
noncomputable def S3:bz al:= .dM 123 (List Int×Int) (λx=>x.1.length<=1000000) (λx=>[dG x.1,Z x.2]) (λx=>Z (qX x.2 x.1)) λ_ h=>ayo h
@[simp] theorem aIX:S3.f=123:=rfl
@[simp] theorem aIY{l:List Int}{x:Int}(h:l.length<=1000000):S3.fn [au (l.map λx=>[Z x]) 1,Z x]=some (Z (qX x l)):=bz.eu (x:=(l,x)) h λ⟨qs,ly⟩ ah=>by simpa using ah
theorem ayi{l:List Int}{x:Int}(aC:l.length<=1000000):bH al 78 [dG l,Z x] (.bool (decide (x∈l))):=by
  refine ed (dL (aB:=⟨[S3],[]⟩) acF (by kernel_rfl) (by simp[GM]) ?_);by_cases c:x∈l
  · have bN:=acX.2 c;simp(disch:=first|omega|simp only[aE];omega) [GM,RG,RH,c,bN,-O,-U,-N,-S,-List.map_map]
  · have bN: ¬0<=qX x l:= λh=>c (acX.1 h);simp(disch:=first|omega|simp only[aE];omega) [GM,RG,RH,c,bN,-O,-U,-N,-S,-List.map_map]
noncomputable def HG:bz al:= .dM 78 (List Int×Int) (λx=>x.1.length<=1000000) (λx=>[dG x.1,Z x.2]) (λx=> .bool (decide (x.2∈x.1))) λ_ h=>ayi h
@[simp] theorem aIG:HG.f=78:=rfl
@[simp] theorem aIH{l:List Int}{x:Int}(h:l.length<=1000000):HG.fn [au (l.map λx=>[Z x]) 1,Z x]=some (.bool (decide (x∈l))):=bz.eu (x:=(l,x)) h λ⟨qs,ly⟩ ah=>by simpa using ah
def m4(u:bl)(n:Int):Bool:=decide (0<=n)&&decide (n<(u.a0.length:Int)+u.a2.length)
theorem awh{u:bl}(D:u.a0.length<=1000)(H:u.a2.length<=1000){n:Int}:bH al 64 [.agg (aS u).toArray,Z n] (.bool (m4 u n)):=by
  refine ed (dL (aB:=⟨[],[]⟩) acw (by kernel_rfl) (by simp[GG]) ?_);have b7:IntKind.i64.wrap ((u.a0.length:Int)+u.a2.length)=(u.a0.length:Int)+u.a2.length:=fl (by omega) (by omega);by_cases c:0<=n
  · simp(disch:=first|omega|simp only[aE];omega) [GG,Ry,Rz,aS,c,b7,m4,-O,-U,-N,-S,-List.map_map]
  · simp(disch:=first|omega|simp only[aE];omega) [GG,Ry,Rz,aS,c,m4,-O,-U,-N,-S,-List.map_map]
noncomputable def HI(u:bl)(D:u.a0.length<=1000)(H:u.a2.length<=1000):bz al:= .dM 64 Int (λ_=>True) (λn=>[.agg (aS u).toArray,Z n]) (λn=> .bool (m4 u n)) λ_ _=>awh D H
@[simp] theorem aJc{u:bl}{D:u.a0.length<=1000}{H:u.a2.length<=1000}:(HI u D H).f=64:=rfl
@[simp] theorem aJd{u:bl}{D:u.a0.length<=1000}{H:u.a2.length<=1000}{n:Int}:(HI u D H).fn [.agg #[Z u.ext,au (u.cB.map gF) 4,au (u.bc.map gK) 4,au (u.a0.map dU) 7,au (u.a2.map gn) 3,au (u.cx.map eY) 17,au (u.cb.map g0) 2],Z n]=some (.bool (m4 u n)):=bz.eu (x:=n) trivial λy ah=>by simpa using ah
def kW(u:bl)(n:Int):List Int:=if(u.a0.length:Int)<=n then[n-u.a0.length]else wX u n.toNat
theorem Sk{u:bl}{n:Int}(h:m4 u n=true):0<=n/\n<(u.a0.length:Int)+u.a2.length:=by simpa[m4]using h
theorem awd{u:bl}(h:fY u){n:Int}(ax:m4 u n=true):bH al 65 [.agg (aS u).toArray,Z n] (dG (kW u n)):=by
  refine ed (dL (aB:=⟨[SZ u h],[]⟩) acx (by kernel_rfl) (by simp[GH]) ?_);have hW:=h.ok.kr;have k1:=h.ok.mz;obtain⟨gY,ga⟩:=Sk ax;obtain⟨dT,np⟩:=kS gY;subst np;by_cases c:u.a0.length<=dT
  · have bN:(u.a0.length:Int)<=dT:=(by omega);have b7:IntKind.i64.wrap ((dT:Int)-u.a0.length)=(dT:Int)-u.a0.length:=fl (by omega) (by omega);have e:kW u dT=[(dT:Int)-u.a0.length]:=(by unfold kW;rw[if_pos bN]);rw[e];simp(disch:=first|omega|simp only[aE];omega) [GH,RA,RB,RC,aS,bN,b7,-O,-U,-N,-S,-List.map_map];exact sx (n:=8) (l:=1) (J:=1) (w:=true) (bg:=[[Z ((dT:Int)-u.a0.length)]]) (by simp(disch:=first|omega|simp only[aE];omega) [-O,-U,-N,-S,-List.map_map]) rfl (λr ay=>by simp at ay;subst ay;exact⟨rfl,λv ab=>by simp at ab;subst ab;rfl⟩)
  · have bN: ¬(u.a0.length:Int)<=dT:=(by omega);have cI:dT<u.a0.length:=(by omega);have e:kW u dT=wX u dT:=(by unfold kW;rw[if_neg bN];rfl);rw[e];simp(disch:=first|omega|simp only[aE];omega) [GH,RA,RB,RC,aS,bN,-O,-U,-N,-S,-List.map_map]
noncomputable def HE(u:bl)(h:fY u):bz al:= .dM 65 Int (λn=>m4 u n=true) (λn=>[.agg (aS u).toArray,Z n]) (λn=>dG (kW u n)) λ_ ax=>awd h ax
@[simp] theorem aIC{u:bl}{h:fY u}:(HE u h).f=65:=rfl
@[simp] theorem aID{u:bl}{h:fY u}{n:Int}(ax:m4 u n=true):(HE u h).fn [.agg #[Z u.ext,au (u.cB.map gF) 4,au (u.bc.map gK) 4,au (u.a0.map dU) 7,au (u.a2.map gn) 3,au (u.cx.map eY) 17,au (u.cb.map g0) 2],Z n]=some (dG (kW u n)):=bz.eu (x:=n) ax λy ah=>by simpa using ah
theorem awF{u:bl}(h:jk u){n:Nat}(ax:n<u.a0.length){Q:dy->aP->W->Prop}: ∀(k i:Nat) (z:aP) (t:W),i<u.a0.length->i<=n+k->t.Y 0=some ⟨aS u,true⟩->z 3=cD 0->z 7=Z i->z 2=Z n->(∀aj aT,aj 7=Z (lV u n k i)->aj 2=Z n->Q (.ba 0) aj aT)->fP al (.loop GK) z t Q:=by
  intro k;induction k with
  | zero=>intro i z t ai aa aO eP dW dS bY;refine eC (aB:=⟨[],[]⟩) λcK bk=> ?_;have aM: ¬(n:Int)<i:=(by omega);have Pe: ¬n<i:=(by omega);simp(disch:=first|omega|simp only[aE];omega) [GK,dW,dS,aM,-O,-U,-N,-S,-List.map_map];exact bY _ _ (by simp[dW,lV]) (by simp[dS])
  | succ k cn=>
    intro i z t ai aa aO eP dW dS bY;refine eC (aB:=⟨[],[]⟩) λcK bk=> ?_;obtain⟨d,G⟩:=iW ai;have eh:=(ek.1 G).2;have aU:oK u i=d.parent.toNat:=(by simp only[oK,G]);have bU:(i:Int)<u.a0.length:=(by omega);have fq:=bm aO;by_cases Pe:n<i
    · have aM:(n:Int)<i:=(by omega);obtain⟨a,b,c⟩:=h.pr ai (h.Ao ai (by omega));obtain⟨p,af⟩:=kS (h.ke i d c G).1;have kE:oK u i=p:=(by rw[aU,af];rfl);rw[kE]at a b;simp(disch:=first|omega|simp only[aE];omega) [GK,eP,dW,dS,aO,aS,dU,bU,eh,aM,af,-O,-U,-N,-S,-List.map_map];refine bk _ _ (cn p _ _ (by omega) (by omega) (by simp(disch:=first|omega|simp only[aE];omega) [aO,aS,-O,-U,-N,-S,-List.map_map]) (by simp[eP]) (by simp) (by simp[dS]) λaj aT M hA=>bY aj aT ?_ hA);rw[M,lV,if_pos Pe,kE]
    · have aM: ¬(n:Int)<i:=(by omega);simp(disch:=first|omega|simp only[aE];omega) [GK,dW,dS,aM,-O,-U,-N,-S,-List.map_map];exact bY _ _ (by rw[lV,if_neg Pe];simp[dW]) (by simp[dS])
theorem awG{u:bl}(h:fY u){d:Nat}(aA:d<u.a2.length){n:Int}:bH al 67 [.agg (aS u).toArray,Z d,Z n] (.bool (nk u d n)):=by
  refine ed (dL (aB:=⟨[],[]⟩) asp (by kernel_rfl) (by simp[Cq]) ?_);have hW:=h.ok.kr;have k1:=h.ok.mz;obtain⟨x,G⟩:=iW aA;have eh:=(ek.1 G).2;obtain⟨bw,bJ,cc,eI,fp⟩:=h.ok.Ed d x G;obtain⟨m,aw⟩:=kS cc;have bU:(d:Int)<u.a2.length:=by omega
  have b7:IntKind.i64.wrap ((u.a0.length:Int)+d)=(u.a0.length:Int)+d:=fl (by omega) (by omega);by_cases bN:n=(u.a0.length:Int)+d
  · have e:nk u d n=true:=(by simp[nk,G,bN]);rw[e];simp(disch:=first|omega|simp only[aE];omega) [Cq,GI,GJ,aS,b7,eq_true bN,-O,-U,-N,-S,-List.map_map]
  by_cases cI:n<=0
  · have e:nk u d n=false:=by
      have: ¬0<n:=(by omega);simp[nk,G,bN,this]
    rw[e];simp(disch:=first|omega|simp only[aE];omega) [Cq,GI,GJ,Lt,aS,b7,bN,cI,-O,-U,-N,-S,-List.map_map]
  by_cases hq:(u.a0.length:Int)<=n
  · have e:nk u d n=false:=by
      have: ¬n<u.a0.length:=(by omega);simp[nk,G,bN,this]
    rw[e];simp(disch:=first|omega|simp only[aE];omega) [Cq,GI,GJ,Lt,aS,b7,bN,cI,hq,-O,-U,-N,-S,-List.map_map]
  obtain⟨dT,np⟩:=kS (show 0<=n by omega);subst np;have iH:dT<u.a0.length:=by omega
  have lS: ¬u.a0.length<=dT:=by omega
  have pP:0<dT:=by omega
  have ag0:(dT:Int)<u.a0.length:=by omega
  have e:nk u d dT=decide (lV u dT u.a0.length m=dT):=by simp[nk,G,bN,pP,ag0,aw]
  have ag1: ¬dT=0:=by omega
  rw[e];simp(disch:=first|omega|simp only[aE];omega) [Cq,GI,GJ,Lt,acy,acz,acA,aS,gn,b7,bN,hq,ag1,bU,eh,aw,-O,-U,-N,-S,-List.map_map];refine awF h.ok iH u.a0.length m _ _ (by omega) (by omega) (by simp(disch:=first|omega|simp only[aE];omega) [aS,-O,-U,-N,-S,-List.map_map]) (by simp) (by simp) (by simp) λaj aT M hA=> ?_;by_cases J:lV u dT u.a0.length m=dT
  · have tq:(lV u dT u.a0.length m:Int)=(dT:Int):=(by omega);simp(disch:=first|omega|simp only[aE];omega) [M,hA,J,-O,-U,-N,-S,-List.map_map]
  · have tq: ¬(lV u dT u.a0.length m:Int)=(dT:Int):=(by omega);simp(disch:=first|omega|simp only[aE];omega) [M,hA,J,tq,-O,-U,-N,-S,-List.map_map]
noncomputable def MP(u:bl)(h:fY u):bz al:= .dM 67 (Nat×Int) (λx=>x.1<u.a2.length) (λx=>[.agg (aS u).toArray,Z x.1,Z x.2]) (λx=> .bool (nk u x.1 x.2)) λ_ aA=>awG h aA
@[simp] theorem aJt{u:bl}{h:fY u}:(MP u h).f=67:=rfl
@[simp] theorem aJu{u:bl}{h:fY u}{d:Nat}{n:Int}(aA:d<u.a2.length):(MP u h).fn [.agg #[Z u.ext,au (u.cB.map gF) 4,au (u.bc.map gK) 4,au (u.a0.map dU) 7,au (u.a2.map gn) 3,au (u.cx.map eY) 17,au (u.cb.map g0) 2],Z d,Z n]=some (.bool (nk u d n)):=bz.eu (x:=(d,n)) aA λ⟨qs,ly⟩ ah=>by simp at ah⊢;omega
theorem adl{u:bl}(h:jk u){n:Int}(ax:m4 u n=true){x:Int}:x∈kW u n↔ ∃d:Nat,x=d/\d<u.a2.length/\(n=0\/nk u d n=true):=by
  obtain⟨gY,ga⟩:=Sk ax;obtain⟨dT,np⟩:=kS gY;subst np;have cZ:=h.q1;by_cases c:(u.a0.length:Int)<=dT
  · unfold kW;rw[if_pos c];simp only[pH];constructor
    · intro G;refine⟨dT-u.a0.length,by omega,by omega,.inr ?_⟩;have aA:dT-u.a0.length<u.a2.length:=(by omega);have e:(dT:Int)=(u.a0.length:Int)+((dT-u.a0.length:Nat):Int):=(by omega);simp only[nk,dx aA];rw[decide_eq_true e];rfl
    · rintro⟨d,rfl,aA,D|D⟩
      · omega
      · simp only[nk,dx aA]at D;simp only[rp,aX,eM]at D;omega
  · unfold kW;rw[if_neg c];have np:dT<u.a0.length:=(by omega);simp only[wX,hc,List.mem_filter,ob,eM,rn];have adh: ∀d,d<u.a2.length->pn u d<u.a0.length/\hn u (pn u d)=4:= λd aA=>by
      obtain⟨x,G⟩:=iW aA;obtain⟨bw,bJ,cc,eI,fp⟩:=h.Ed d x G;simp only[pn,G];exact⟨by omega,fp⟩
    have hb: ∀d,d<u.a2.length->(nk u d dT=true↔(0<dT/\lV u dT u.a0.length (pn u d)=dT)):= λd aA=>by obtain⟨x,G⟩:=iW aA;simp only[nk,pn,G,rp,aX,eM,rn];omega
    have JN:=h.gq np;constructor
    · rintro⟨d,⟨aA,az⟩,rfl⟩;refine⟨d,rfl,aA,?_⟩;by_cases bL:dT=0
      · left;omega
      · right;obtain⟨bd,dE⟩:=adh d aA;exact(hb d aA).2 ⟨by omega,(NV h np bd (by omega) (by omega)).1 az⟩
    · rintro⟨d,rfl,aA,D⟩;refine⟨d,⟨aA,?_⟩,rfl⟩;obtain⟨bd,dE⟩:=adh d aA;rcases D with D|D
      · have bL:dT=0:=(by omega);subst bL
        -- pB only domain dM hl 0
        have ayO: ∀{k i:Nat},i<u.a0.length->hn u i<=k->kc u (hn u 0) k i=0:=by
          intro k;induction k with
          | zero=>
            intro i ai aa;unfold kc;by_cases bL:i=0
            · exact bL
            · have:=h.Ao ai (by omega);omega
          | succ k cn=>
            intro i ai aa;unfold kc;have c5:=h.n1.1;split
            · next aM=>obtain⟨a,b,c⟩:=h.pr ai (by omega);exact cn (by omega) (by omega)
            · by_cases bL:i=0
              · exact bL
              · have:=h.Ao ai (by omega);omega
        exact ayO bd (by omega)
      · exact(NV h np bd (by omega) (by omega)).2 ((hb d aA).1 D).2
def tM(L:List (List Int))(aV:List Int):Bool:=L.flatten.all λx=>decide (x∉aV)
theorem OC{L:List (List Int)}{aV:List Int}{x:Int}(h:x∈L.flatten)(bK:x∈aV):tM L aV=false:=by unfold tM;rw[wC];exact⟨x,h,by simp[bK]⟩
theorem OD{L:List (List Int)}{aV:List Int}(h: ∀x∈L.flatten,x∉aV):tM L aV=true:=by unfold tM;rw[eD];exact λx G=>decide_eq_true (h x G)
def pW(u:bl)(L:List (List Int))(n:Int):Bool:=mC u L&&(m4 u n&&tM L (kW u n))
theorem VI{u:bl}{L:List (List Int)}{n:Int}(h:mC u L=false):pW u L n=false:=by unfold pW;rw[h];rfl
theorem VH{u:bl}{L:List (List Int)}{n:Int}(h:m4 u n=false):pW u L n=false:=by unfold pW;rw[h];simp
theorem Oq{u:bl}{L:List (List Int)}{n:Int}(h:mC u L=true)(bK:m4 u n=true):pW u L n=tM L (kW u n):=by unfold pW;rw[h,bK];rfl
theorem agS{u:bl}(h:fY u){n:Int}:(kW u n).length<=1000000:=by
  have k1:=h.ok.mz;unfold kW;split
  · simp
  · unfold wX;rw[j8];refine jv (List.length_filter_le _ _) ?_;rw[List.length_range];omega
theorem ahW{L:List (List Int)}{i k:Nat}{r:List Int}{x:Int}(G:L[i]?=some r)(ah:r[k]?=some x):x∈L.flatten:=
  DB.2 ⟨r,hR G,hR ah⟩
theorem awf{u:bl}(h:fY u){L:List (List Int)}(cS:kV L){n:Int}:bH al 33 [.agg (aS u).toArray,gS L,Z n] (.bool (pW u L n)):=by
  have hW:=h.ok.kr;have k1:=h.ok.mz;refine ed (dL (aB:=⟨[HL u h,HI u (by omega) (by omega),HE u h,HG],[]⟩) abH (by kernel_rfl) (by simp[zy]) ?_);cases D:mC u L
  · rw[VI D];simp(disch:=first|omega|simp only[aE];omega) [zy,Gk,Gl,aS,D,-O,-U,-N,-S,-List.map_map]
  cases H:m4 u n
  · rw[VH H];simp(disch:=first|omega|simp only[aE];omega) [zy,Gk,Gl,aS,D,H,-O,-U,-N,-S,-List.map_map]
  rw[Oq D H];obtain⟨aV,cC⟩: ∃aV,aV=kW u n:=⟨_,rfl⟩;have Bo:aV.length<=1000000:=by rw[cC];exact agS h
  rw[<-cC];simp(disch:=first|omega|simp only[aE];omega) [zy,Gk,Gl,Q8,Q9,aS,D,H,<-cC,-O,-U,-N,-S,-List.map_map];refine hI (aB:=⟨[HL u h,HI u (by omega) (by omega),HE u h,HG],[]⟩) (λi z t=>(∀(j:Nat) r x,j<i->L[j]?=some r->x∈r->x∉aV)/\z 7=dG aV/\z 25=gS L/\z 26=Z L.length/\z 27=Z i) L.length ?_ ?_ 0 _ _ (ho _) ⟨λj r x bx=>absurd bx (se _),by simp,by simp,by simp,by simp⟩
  · rintro i z t ai ⟨gp,dW,r3,x6,x7⟩ cK bk;obtain⟨r,G⟩:=iW ai;have eh:=(ek.1 G).2;have bU:(i:Int)<L.length:=(by omega);have rQ:=cS.2 r (hR G);have vp:=cS.1;have b7:=gT (n:=i) (by omega);simp(disch:=first|omega|simp only[aE];omega) [Ra,K8,K9,La,Gm,hP,r3,x6,x7,bU,eh,-O,-U,-N,-S,-List.map_map];refine hI (aB:=⟨[HL u h,HI u (by omega) (by omega),HE u h,HG],[]⟩) (λk z t=>(∀(j:Nat) x,j<k->r[j]?=some x->x∉aV)/\z 7=dG aV/\z 25=gS L/\z 26=Z L.length/\z 27=Z i/\z 31=dG r/\z 32=Z r.length/\z 33=Z k) r.length ?_ ?_ 0 _ _ (ho _) ⟨λj x bx=>absurd bx (se _),by simp[dW],by simp[r3],by simp[x6],by simp[x7],by simp,by simp,by simp⟩
    · rintro k z t aa ⟨ay,dW,r3,x6,x7,uE,Hz,MI⟩ cK bk;obtain⟨x,ah⟩:=iW aa;have nt:=(ek.1 ah).2;have a7:(k:Int)<r.length:=(by omega);have qo:=gT (n:=k) (by omega);by_cases c:x∈aV
      · have e:tM L aV=false:=OC (ahW G ah) c;rw[e];simp(disch:=first|omega|simp only[aE];omega) [Le,Lb,Lc,Ld,dW,uE,Hz,MI,a7,nt,c,-O,-U,-N,-S,-List.map_map]
      · simp(disch:=first|omega|simp only[aE];omega) [Le,Lb,Lc,Ld,dW,uE,Hz,MI,a7,nt,c,qo,-O,-U,-N,-S,-List.map_map];refine bk _ _ ⟨λj y bx PK=> ?_,by simp[dW],by simp[r3],by simp[x6],by simp[x7],by simp[uE],by simp[Hz],by simp⟩;by_cases e:j=k
        · subst e;rw[ah]at PK;cases PK;exact c
        · exact ay j y (by omega) PK
    · rintro z t ⟨ay,dW,r3,x6,x7,uE,Hz,MI⟩;simp(disch:=first|omega|simp only[aE];omega) [Le,Lb,Lc,Ld,x7,Hz,MI,b7,-O,-U,-N,-S,-List.map_map];refine bk _ _ ⟨λj dF x bx PH aw=> ?_,by simp[dW],by simp[r3],by simp[x6],by simp⟩;by_cases e:j=i
      · subst e;rw[G]at PH;cases PH;obtain⟨k,aa,rfl⟩:=kx aw;exact ay k _ aa (dx aa)
      · exact gp j dF x (by omega) PH aw
  · rintro z t ⟨gp,dW,r3,x6,x7⟩;have e:tM L aV=true:=by
      refine OD λx G=> ?_;obtain⟨r,ay,aw⟩:=DB.1 G;obtain⟨j,bx,rfl⟩:=kx ay;exact gp j _ x bx (dx bx) aw
    rw[e];simp(disch:=first|omega|simp only[aE];omega) [Ra,K8,K9,La,Gm,Gm,K8,K9,La,x6,x7,-O,-U,-N,-S,-List.map_map]
theorem awL{u:bl}(h:fY u){L:List (List Int)}(cS:kV L){n:Int}:bH al 35 [.agg (aS u).toArray,gS L,Z n] (.bool (pW u L n)):=by
  have hW:=h.ok.kr;have k1:=h.ok.mz;have ab:=h.ok.AP;have b7:IntKind.i64.wrap ((u.a0.length:Int)+u.a2.length)=(u.a0.length:Int)+u.a2.length:=fl (by omega) (by omega);refine ed (dL (aB:=⟨[MX u h.fN,MR u h,Az u h,MP u h],[]⟩) ar0 (by kernel_rfl) (by simp[Ce]) ?_);cases D:mC u L
  · rw[VI D];simp(disch:=first|omega|simp only[aE];omega) [Ce,Gq,Gr,aS,ab,D,-O,-U,-N,-S,-List.map_map]
  cases H:m4 u n
  · rw[VH H];by_cases c:n<0
    · simp(disch:=first|omega|simp only[aE];omega) [Ce,Gq,Gr,aS,ab,D,c,-O,-U,-N,-S,-List.map_map]
    · have cI:(u.a0.length:Int)+u.a2.length<=n:=by
        simp only[m4,wA,decide_eq_false_iff_not]at H;omega
      simp(disch:=first|omega|simp only[aE];omega) [Ce,Gq,Gr,aS,ab,D,c,cI,b7,-O,-U,-N,-S,-List.map_map]
  rw[Oq D H];obtain⟨gY,ga⟩:=Sk H;have bN: ¬n<0:=by omega
  have cI: ¬(u.a0.length:Int)+u.a2.length<=n:=by omega
  simp(disch:=first|omega|simp only[aE];omega) [Ce,Gq,Gr,abM,abN,aS,ab,D,bN,cI,b7,-O,-U,-N,-S,-List.map_map];refine hI (aB:=⟨[MX u h.fN,MR u h,Az u h,MP u h],[]⟩) (λi z t=>(∀d,d<i->d<u.a2.length->(d:Int)∈L.flatten->(d:Int)∉kW u n)/\t.Y 0=some ⟨aS u,true⟩/\z 2=Z n/\z 3=cD 0/\z 7=dG (mZ u L)/\z 8=Z i) u.a2.length ?_ ?_ 0 _ _ (ho _) ⟨λd aA=>absurd aA (se _),by simp(disch:=first|omega|simp only[aE];omega) [aS,-O,-U,-N,-S,-List.map_map],by simp,by simp,by simp,by simp⟩
  · rintro i z t ai ⟨gp,aO,dS,eP,dW,b1⟩ cK bk;have qo:=gT (n:=i) (by omega);have fq:=bm aO;have vQ:(mZ u L).length=u.a2.length:=Me;have bU:(i:Int)<(mZ u L).length:=(by omega);have G:(mZ u L)[i]?=some ((jI L i:Nat):Int):=(by rw[G3,x4 ai]);have aiW:i<(mZ u L).length:=(by omega);have eh:(mZ u L)[i]=((jI L i:Nat):Int):=(ek.1 G).2;have wM:(i:Int)∈L.flatten->(i:Int)∈kW u n->tM L (kW u n)=false:= λa b=>OC a b;have aNt:((i:Int)∈L.flatten->(i:Int)∉kW u n)-> ∀d,d<i+1->d<u.a2.length->(d:Int)∈L.flatten->(d:Int)∉kW u n:= λax d aA xa=>by
      by_cases e:d=i
      · subst e;exact ax
      · exact gp d (by omega) xa
    have aw:(i:Int)∈kW u n↔(n=0\/nk u i n=true):=(by rw[adl h.ok H];exact⟨λ⟨d,e,_,aJ⟩=>by have:i=d:=(by omega);subst this;exact aJ,λaJ=>⟨i,rfl,ai,aJ⟩⟩);by_cases c:0<jI L i
    · have mn:(i:Int)∈L.flatten:=List.count_pos_iff.1 c;have D4:(0:Int)<(jI L i:Nat):=(by omega);by_cases gZ:n=0
      · rw[wM mn (aw.2 (.inl gZ))];simp(disch:=first|omega|simp only[aE];omega) [Cf,zz,zA,dS,dW,b1,ai,vQ,eh,c,eq_true gZ,-O,-U,-N,-S,-List.map_map]
      · cases gM:nk u i n
        · simp(disch:=first|omega|simp only[aE];omega) [Cf,zz,zA,aS,dS,eP,dW,b1,aO,ai,vQ,eh,c,gZ,gM,qo,-O,-U,-N,-S,-List.map_map];exact bk _ _ ⟨aNt (λ_ hb=>(aw.1 hb).elim gZ λe=>by rw[gM]at e;exact absurd e (by decide)),by simp(disch:=first|omega|simp only[aE];omega) [aO,aS,-O,-U,-N,-S,-List.map_map],by simp[dS],by simp[eP],by simp[dW],by simp⟩
        · rw[wM mn (aw.2 (.inr gM))];simp(disch:=first|omega|simp only[aE];omega) [Cf,zz,zA,aS,dS,eP,dW,b1,aO,ai,vQ,eh,c,gZ,gM,-O,-U,-N,-S,-List.map_map]
    · have mn:(i:Int)∉L.flatten:= λa=>c (List.count_pos_iff.2 a);have D4: ¬(0:Int)<(jI L i:Nat):=(by omega);simp(disch:=first|omega|simp only[aE];omega) [Cf,zz,zA,dW,b1,ai,vQ,eh,c,qo,-O,-U,-N,-S,-List.map_map];exact bk _ _ ⟨aNt λa=>absurd a mn,by simp(disch:=first|omega|simp only[aE];omega) [aO,aS,-O,-U,-N,-S,-List.map_map],by simp[dS],by simp[eP],by simp[dW],by simp⟩
  · rintro z t ⟨gp,aO,dS,eP,dW,b1⟩;have vQ:(mZ u L).length=u.a2.length:=Me;have e:tM L (kW u n)=true:=by
      refine OD λx G hb=> ?_;obtain⟨d,rfl,aA,aJ⟩:=(adl h.ok H).1 hb;exact gp d aA aA G hb
    have ee: ¬(((u.a2.length:Nat):Int)<u.a2.length):=(by omega);rw[e];simp(disch:=first|omega|simp only[aE];omega) [Cf,zz,zA,zA,zz,dW,b1,vQ,ee,-O,-U,-N,-S,-List.map_map]
noncomputable def HK(u:bl)(h:fY u):bz al:= .dM 33 (List (List Int)×Int) (λx=>kV x.1) (λx=>[.agg (aS u).toArray,gS x.1,Z x.2]) (λx=> .bool (pW u x.1 x.2)) λ_ cS=>awf h cS
@[simp] theorem aJi{u:bl}{h:fY u}:(HK u h).f=33:=rfl
@[simp] theorem axG{u:bl}{h:fY u}{L:List (List Int)}{n:Int}(cS:kV L):(HK u h).fn [.agg #[Z u.ext,au (u.cB.map gF) 4,au (u.bc.map gK) 4,au (u.a0.map dU) 7,au (u.a2.map gn) 3,au (u.cx.map eY) 17,au (u.cb.map g0) 2],au (L.map hP) 1,Z n]=some (.bool (pW u L n)):=bz.eu (x:=(L,n)) cS λ⟨qs,ly⟩ ah=>by simpa using ah
noncomputable def HM(u:bl)(h:fY u):bz al:= .dM 35 (List (List Int)×Int) (λx=>kV x.1) (λx=>[.agg (aS u).toArray,gS x.1,Z x.2]) (λx=> .bool (pW u x.1 x.2)) λ_ cS=>awL h cS
@[simp] theorem aJx{u:bl}{h:fY u}:(HM u h).f=35:=rfl
@[simp] theorem aJy{u:bl}{h:fY u}{L:List (List Int)}{n:Int}(cS:kV L):(HM u h).fn [.agg #[Z u.ext,au (u.cB.map gF) 4,au (u.bc.map gK) 4,au (u.a0.map dU) 7,au (u.a2.map gn) 3,au (u.cx.map eY) 17,au (u.cb.map g0) 2],au (L.map hP) 1,Z n]=some (.bool (pW u L n)):=bz.eu (x:=(L,n)) cS λ⟨qs,ly⟩ ah=>by simpa using ah
def lP(n d:Int):Prop:=(n=0/\d=1)\/(n=1/\d=1)\/(n=1/\d=2)\/(n=1/\d=1000)\/(n=30/\d=1)\/(n=1/\100<=d/\d<200)
def fk(n d:Int):bT:=⟨false,if n=0 then[]else[n],[d]⟩
theorem VX{n d:Int}(h:lP n d):bH al 59 [Z n,Z d] (dp (fk n d)):=by
  rcases h with⟨rfl,rfl⟩|⟨rfl,rfl⟩|⟨rfl,rfl⟩|⟨rfl,rfl⟩|⟨rfl,rfl⟩|⟨rfl,D,H⟩
  · exact ah2
  · exact ah3
  · exact ah4
  · exact ah5
  · exact ah6
  · exact ah7 (by omega) H
noncomputable def we:bz al:= .dM 59 (Int×Int) (λx=>lP x.1 x.2) (λx=>[Z x.1,Z x.2]) (λx=>dp (fk x.1 x.2)) λx h=>VX h
@[simp] theorem aIP:we.f=59:=rfl
@[simp] theorem aIQ{n d:Int}(h:lP n d):we.fn [Z n,Z d]=some (dp (fk n d)):=bz.eu (x:=(n,d)) h λ⟨qs,ly⟩ ah=>by simpa using ah
def jN(c n:Nat):ByteArray:=⟨#[c.toUInt8,(97+n/26%26).toUInt8,(97+n%26).toUInt8]⟩
theorem avy{c n:Nat}(ar:c<256)(ax:n<1000000):bH al 109 [.int .u8 c,Z n] (.string (jN c n)):=by
  refine ed (dL (aB:=⟨[],[]⟩) aj6 (by kernel_rfl) (by simp[PY]) ?_);have bw:IntKind.i64.wrap ((n:Int)/26)=((n/26:Nat):Int):=by rw[fl (by omega) (by omega)];omega
  have bJ:((n/26:Nat):Int).tmod 26=((n/26%26:Nat):Int):=by rw[Int.tmod_eq_emod_of_nonneg (by omega)];omega
  have cc:(n:Int).tmod 26=((n%26:Nat):Int):=by rw[Int.tmod_eq_emod_of_nonneg (by omega)];omega
  have w: ∀k:Nat,k<26->IntKind.u8.wrap (IntKind.i64.wrap (97+(k:Int)))=((97+k:Nat):Int):= λk aa=>by rw[fl (by omega) (by omega)];show(97+(k:Int))%256=_;omega
  have cX:=w (n/26%26) (by omega);have e2:=w (n%26) (by omega);simp(disch:=first|omega|simp only[aE];omega) [PY,XI,XJ,-O,-U,-N,-S,-List.map_map];rw[bw,bJ,cc,cX,e2];simp only[toBytes,jN,mL,wG];rfl
noncomputable def lK:bz al:= .dM 109 (Nat×Nat) (λx=>x.1<256/\x.2<1000000) (λx=>[.int .u8 x.1,Z x.2]) (λx=> .string (jN x.1 x.2)) λx h=>avy h.1 h.2
@[simp] theorem aI9:lK.f=109:=rfl
@[simp] theorem MM{c:Int}{C n:Nat}(ar:c=C)(h:C<256/\n<1000000):lK.fn [.int .u8 c,Z n]=some (.string (jN C n)):=by subst ar;exact bz.eu (x:=(C,n)) h λ⟨qs,ly⟩ ah=>by simp at ah⊢;omega
def oG(x n:Int):Int:=if n<1 then 0 else if x.tmod n<0 then x.tmod n+n else x.tmod n
theorem avz{x n:Int}(h:1<=n):0<=oG x n/\oG x n<n:=by have D:=Int.tmod_lt_of_pos x (show 0<n by omega);have H:=Int.lt_tmod_of_pos x (show 0<n by omega);unfold oG;rw[if_neg (by omega)];split<;>omega
theorem Sb{x n:Int}(h:n<1):oG x n=0:=by unfold oG;rw[if_pos h]
def Nj(l:List Int)(i:Nat):Int:=match l[i]? with|some x=>x|none=>(i:Int)%3
def e5(l:List Int)(i:Nat)(n:Int):Int:=oG (Nj l i) n
theorem ks{l:List Int}{i:Nat}{n:Int}(h:1<=n):0<=e5 l i n/\e5 l i n<n:=avz h
theorem avM{o i:Nat}{l:List Int}{n:Int}{t:W}(ai:i<1000000)(aC:l.length<=140737488355328)(ax:n<=1000000)(aD:t.Y o=some ⟨[dG l,Z i],true⟩){cg:Value->W->Prop}
    (j1:cg (Z (e5 l i n)) (t.a4 o (some ⟨[dG l,Z (i+1:Nat)],true⟩))):fQ al 49 [.pointer (some ⟨o,0,none⟩),Z n] t cg:=by
  refine dL (aB:=⟨[],[]⟩) ar8 (by kernel_rfl) (by simp[xv]) ?_;have ct:=bm aD;have b7:=gT (n:=i) (by omega);have cz:(i:Int).tmod 3=(i:Int)%3:=by rw[Int.tmod_eq_emod_of_nonneg (by omega)]
  have WZ:(some (fm.mk [dG l,Z ((i:Int)+1)] true))=some ⟨[dG l,Z (i+1:Nat)],true⟩:=by simp
  have mi: ∀x:Int,Nj l i=x-> ∀mc:Prop,(n<1->e5 l i n=0->mc)->(1<=n-> ¬n<1-> ¬n=0->x.tmod n<0->IntKind.i64.wrap (x.tmod n+n)=e5 l i n->mc)->(1<=n-> ¬n<1-> ¬n=0-> ¬x.tmod n<0->x.tmod n=e5 l i n->mc)->mc:= λx G mc da dq hy=>by
    by_cases c:n<1
    · exact da c (by unfold e5;exact Sb c)
    · have D:=Int.tmod_lt_of_pos x (show 0<n by omega);have H:=Int.lt_tmod_of_pos x (show 0<n by omega);by_cases cI:x.tmod n<0
      · exact dq (by omega) c (by omega) cI (by rw[fl (by omega) (by omega)];unfold e5 oG;rw[G,if_neg c,if_pos cI])
      · exact hy (by omega) c (by omega) cI (by unfold e5 oG;rw[G,if_neg c,if_neg cI])
  by_cases q:i<l.length
  · have a7:(i:Int)<l.length:=(by omega);obtain⟨x,G⟩:=iW q;have eh:=(ek.1 G).2;refine mi x (by unfold Nj;rw[G]) _ (λc e=> ?_) (λbN c jH cI e=> ?_) λbN c jH cI e=> ?_
    · rw[e]at j1;simp(disch:=first|omega|simp only[aE];omega) [xv,zB,zC,zD,zE,zF,zG,zH,zI,aD,b7,cz,a7,eh,c,-O,-U,-N,-S,-List.map_map];simpa using j1
    · rw[<-e]at j1;simp(disch:=first|omega|simp only[aE];omega) [xv,zB,zC,zD,zE,zF,zG,zH,zI,aD,b7,cz,a7,eh,c,jH,cI,-O,-U,-N,-S,-List.map_map];simpa using j1
    · rw[<-e]at j1;simp(disch:=first|omega|simp only[aE];omega) [xv,zB,zC,zD,zE,zF,zG,zH,zI,aD,b7,cz,a7,eh,c,jH,cI,-O,-U,-N,-S,-List.map_map];simpa using j1
  · have a7: ¬(i:Int)<l.length:=(by omega);refine mi ((i:Int)%3) (by unfold Nj;rw[rm (by omega)]) _ (λc e=> ?_) (λbN c jH cI e=> ?_) λbN c jH cI e=> ?_
    · rw[e]at j1;simp(disch:=first|omega|simp only[aE];omega) [xv,zB,zC,zD,zE,zF,zG,zH,zI,aD,b7,cz,a7,c,-O,-U,-N,-S,-List.map_map];simpa using j1
    · rw[<-e]at j1;simp(disch:=first|omega|simp only[aE];omega) [xv,zB,zC,zD,zE,zF,zG,zH,zI,aD,b7,cz,a7,c,jH,cI,-O,-U,-N,-S,-List.map_map];simpa using j1
    · rw[<-e]at j1;simp(disch:=first|omega|simp only[aE];omega) [xv,zB,zC,zD,zE,zF,zG,zH,zI,aD,b7,cz,a7,c,jH,cI,-O,-U,-N,-S,-List.map_map];simpa using j1
open Classical in
noncomputable def CO(o:Nat)(n:Int)(t:W)(b:Option fm):Option (Value×W):=
  if h: ∃p:List Int×Nat,b=some ⟨[dG p.1,Z p.2],true⟩/\p.2<1000000/\p.1.length<=140737488355328/\n<=1000000 then some (Z (e5 h.choose.1 h.choose.2 n),t.a4 o (some ⟨[dG h.choose.1,Z (h.choose.2+1:Nat)],true⟩))else none
@[simp] theorem avL{o i:Nat}{n:Int}{t:W}{l:List Int}(h:i<1000000/\l.length<=140737488355328/\n<=1000000):CO o n t (some ⟨[au (l.map λx=>[Z x]) 1,.int .i64 i],true⟩)=some (Z (e5 l i n),t.a4 o (some ⟨[dG l,Z (i+1:Nat)],true⟩)):=by
  have hh: ∃p:List Int×Nat,(some (fm.mk [dG l,Z i] true))=some ⟨[dG p.1,Z p.2],true⟩/\p.2<1000000/\p.1.length<=140737488355328/\n<=1000000:=⟨(l,i),rfl,h⟩;unfold CO;rw[dif_pos hh];have this:=hh.choose_spec.1;generalize hh.choose=p at this⊢;obtain⟨fS,gV⟩:=p;simp only[lL,fm.mk.injEq,tz,and_true,Xn,acU,Value.int.injEq,true_and]at this;obtain⟨rfl,H⟩:=this;have:i=gV:=by omega
  rw[this]
noncomputable def iM:j9 al:= .dM 49 (Nat×Int) (λx=>[.pointer (some ⟨x.1,0,none⟩),Z x.2]) (λx t=>CO x.1 x.2 t (t.Y x.1)) λ⟨o,n⟩ t r aT h cg j1=>by
  simp only[CO]at h;split at h
  · next G=>obtain⟨a,b,c,d⟩:=G.choose_spec;cases h;exact avM b c d a j1
  · cases h
@[simp] theorem aET:iM.f=49:=rfl
@[simp] theorem aEU{o:Nat}{n:Int}{t:W}:iM.fn [.pointer (some ⟨o,0,none⟩),.int .i64 n] t=CO o n t (t.Y o):=j9.eu (x:=(o,n)) λ⟨ly,tp⟩ ah=>by simp at ah⊢;omega
theorem azn{x n:Int}(ax:n<=1000000):bH al 19 [Z x,Z n] (Z (oG x n)):=by
  refine ed (dL (aB:=⟨[],[]⟩) anU (by kernel_rfl) (by simp[F4]) ?_);by_cases c:n<1
  · rw[Sb c];simp(disch:=first|omega|simp only[aE];omega) [F4,KA,KB,KC,KD,KE,c,-O,-U,-N,-S,-List.map_map]
  · have D:=Int.tmod_lt_of_pos x (show 0<n by omega);have H:=Int.lt_tmod_of_pos x (show 0<n by omega);have jH: ¬n=0:=(by omega);have bN:1<=n:=(by omega);have w:IntKind.i64.wrap (x.tmod n+n)=x.tmod n+n:=fl (by omega) (by omega);by_cases cI:x.tmod n<0
    · have e:oG x n=x.tmod n+n:=(by unfold oG;rw[if_neg c,if_pos cI]);rw[e];simp(disch:=first|omega|simp only[aE];omega) [F4,KA,KB,KC,KD,KE,c,jH,cI,w,-O,-U,-N,-S,-List.map_map]
    · have e:oG x n=x.tmod n:=(by unfold oG;rw[if_neg c,if_neg cI]);rw[e];simp(disch:=first|omega|simp only[aE];omega) [F4,KA,KB,KC,KD,KE,c,jH,cI,-O,-U,-N,-S,-List.map_map]
noncomputable def HO:bz al:= .dM 19 (Int×Int) (λx=>x.2<=1000000) (λx=>[Z x.1,Z x.2]) (λx=>Z (oG x.1 x.2)) λ_ h=>azn h
@[simp] theorem aKm:HO.f=19:=rfl
@[simp] theorem aKn{x n:Int}(h:n<=1000000):HO.fn [Z x,Z n]=some (Z (oG x n)):=bz.eu (x:=(x,n)) h λ⟨qs,ly⟩ ah=>by simpa using ah
theorem ahu{l:List gj}:(l.map dU).flatten.length=l.length*7:=by rw[sw (J:=7) λr ay=>by obtain⟨x,_,rfl⟩:=hc.1 ay;rfl,j8]
def ht(n:Nat)(gq pr ik:Int):gj:=⟨jN 110 n,gq,pr,ik,fk 0 1⟩
theorem aeS:lP 0 1:=by unfold lP;omega
theorem ahq{rC h6:Nat}{ds:List gj}{jH bN cI iH lS pP:Value}{t:W}(hV:t.Y rC=some ⟨[jH,bN,cI,e6 h6 ds.length 7,iH,lS,pP],true⟩)(rF:t.Y h6=some ⟨(ds.map dU).flatten,true⟩)(cZ:h6≠rC)(ax:ds.length<1000){gq pr ik:Int}{cg:Value->W->Prop}
    (j1: ∀aT Ha,t.next<=Ha->t.next<=aT.next->aT.Y rC=some ⟨[jH,bN,cI,e6 Ha (ds++[ht ds.length gq pr ik]).length 7,iH,lS,pP],true⟩->aT.Y Ha=some ⟨((ds++[ht ds.length gq pr ik]).map dU).flatten,true⟩->(∀b,b<t.next->b≠rC->b≠h6->aT.Y b=t.Y b)->cg (Z ds.length) aT):
    fQ al 108 [.pointer (some ⟨rC,0,none⟩),Z gq,Z pr,Z ik] t cg:=by
  refine dL (aB:=⟨[lK,we],[]⟩) aj5 (by kernel_rfl) (by simp[PX]) ?_;have vP:=bm hV;have au0:=bm rF;have jK:lK.fn [.int .u8 110,Z ds.length]=some (.string (jN 110 ds.length)):=MM (C:=110) rfl ⟨by decide,by omega⟩;have ayv:=aeS;have fy:=ahu (l:=ds);have aEG:rC≠h6:=cZ.symm;have gD:(ds.length+1)*96<=140737488355328/\ds.length<=9223372036854775806:=by omega
  simp(disch:=first|omega|simp only[aE];omega) [PX,XE,XF,XG,XH,hV,rF,jK,fy,gD,dQ,-O,-U,-N,-S,-List.map_map];refine j1 _ (t.next+13) (by omega) (by simp) ?_ ?_ ?_
  · rw[eZ (by simp;omega)];simp
  · rw[b3 (by omega),eZ (by simp),ky (by omega)];simp[dU,ht]
  · intro b hb D H;rw[b3 D,b3 (by omega),b3 H,b3 (by omega),W.e9]
end Go.Proofs.YtmmkkggfmigppaaGreat
