/-
  A part of the proof of the statement, in texts that tools of ours (wip/shrink.py, irpack.py, relax.py, minify.py, join.py, lay.py) have shortened.
-/
import Derived.Test.YtmmkkggfmigppaaGreatZal
set_option linter.all false
set_option maxRecDepth 8000
set_option maxHeartbeats 16000000
namespace Go.Proofs.YtmmkkggfmigppaaGreat
open Go Go.DI Go.Big
def ib(x:ic)(n:Nat):Bool:=k7 x.k x.m x.q x.aB&&(!x.bc.isEmpty&&(na x.m x.jt x.oT x.fj&&((x.bc.all λm=>dB m 0 ((n:Int)-1))&&decide x.bc.Nodup)))
structure ic.fN(x:ic):Prop where
  gg:(∀y∈x.jt,y.cV)/\x.jt.length<1000000
  aNd:x.oT.cV
  aM2:x.fj.cV
  len:x.bc.length<1000000
theorem avX{l:List Int}(h:l.Nodup){i:Nat}(ai:i<l.length):l[i]∉l.take i:= λaw=>by
  obtain⟨j,bx,bh⟩:=kx aw;rw[List.getElem_take]at bh;have EI:j<i:=by rw[ni]at bx;omega
  exact(Im.1 h j i (by omega) ai EI) bh
theorem aze{x:ic}{n:Nat}(ax:n<1000000)(h:ic.fN x):bH al 113 [.agg (eY x).toArray,Z n] (.bool (ib x n)):=by
  refine ed (dL (aB:=⟨[S8,Te],[]⟩) aka (by kernel_rfl) (by simp[BG]) ?_);obtain⟨aF,br,cR,ix⟩:=h;cases D:k7 x.k x.m x.q x.aB
  · have aY:ib x n=false:=(by simp[ib,D]);simp(disch:=first|omega|simp only[aE];omega) [BG,Ff,Fg,Fh,Fi,vE,eY,D,aY,-O,-U,-N,-S,-List.map_map]
  by_cases ov:x.bc.length=0
  · have ll:(x.bc.length:Int)=0:=(by omega);have aY:ib x n=false:=by
      have:x.bc.isEmpty=true:=(by rw[NM];exact ov);simp[ib,this]
    simp(disch:=first|omega|simp only[aE];omega) [BG,Ff,Fg,Fh,Fi,vE,eY,D,ov,aY,-O,-U,-N,-S,-List.map_map]
  have ll: ¬(x.bc.length:Int)=0:=by omega
  have Bz:((∀y∈x.jt,y.cV)/\x.jt.length<1000000)/\x.oT.cV/\x.fj.cV:=⟨aF,br,cR⟩;cases aq:na x.m x.jt x.oT x.fj
  · have aY:ib x n=false:=(by simp[ib,aq]);simp(disch:=first|omega|simp only[aE];omega) [BG,Ff,Fg,Fh,Fi,vE,eY,D,aq,ov,aY,-O,-U,-N,-S,-List.map_map]
  have ai0:(n:Int)*1<=140737488355328/\n<=140737488355328/\(n:Int)<=140737488355328/\(n:Int)<=9223372036854775807:=by omega
  have aiQ:x.bc.isEmpty=false:=by
    cases bf:x.bc.isEmpty
    · rfl
    · rw[NM]at bf;exact absurd bf ov
  have Pz:ib x n=((x.bc.all λm=>dB m 0 ((n:Int)-1))&&decide x.bc.Nodup):=by simp[ib,D,aq,aiQ]
  simp(disch:=first|omega|simp only[aE];omega) [BG,Ff,Fg,Fh,Fi,eY,D,aq,ov,ai0,-O,-U,-N,-S,-List.map_map];refine hI (aB:=⟨[re],[]⟩) (λi z t=> ∃aV:List Bool,aV.length=n/\(∀j:Nat,j<n->aV[j]?=some (decide ((j:Int)∈x.bc.take i)))/\((x.bc.take i).all λm=>dB m 0 ((n:Int)-1))=true/\(x.bc.take i).Nodup/\t.Y 3=some ⟨aV.map Value.bool,true⟩/\z 1=Z n/\z 5= .slice (some ⟨3,0,none⟩) n 1/\z 39=dG x.bc/\z 40=Z x.bc.length/\z 41=Z i) x.bc.length ?_ ?_ 0 _ _ (ho _) ⟨List.replicate n false,by simp,λj bx=>by simp[bx],by simp,by simp,by simp(disch:=first|omega|simp only[aE];omega) [-O,-U,-N,-S,-List.map_map],by simp,by simp,by simp,by simp,by simp⟩
  · rintro i z t ai ⟨aV,Bo,cC,gp,hW,Jt,bb,cu,HA,C2,HB⟩ cK bk;have G:x.bc[i]?=some x.bc[i]:=dx ai;have b7:=gT (n:=i) (by omega);have cX:IntKind.i64.wrap ((n:Int)-1)=(n:Int)-1:=fl (by omega) (by omega);have bU:(i:Int)<x.bc.length:=(by omega);cases rK:dB x.bc[i] 0 ((n:Int)-1)
    · have aY:ib x n=false:=by
        rw[Pz,wA];exact .inl (by rw[wC];exact⟨_,mI ai,by simp[rK]⟩)
      simp(disch:=first|omega|simp only[aE];omega) [Fj,BH,BI,BJ,vE,bb,HA,C2,HB,bU,cX,rK,aY,-O,-U,-N,-S,-List.map_map]
    have WI:=sO.1 rK;obtain⟨aW,ea⟩:=kS WI.1;rw[ea]at rK WI;have lW:aW<n:=(by omega);have sB:(aW:Int)<(n:Int):=(by omega);have Wm:aW+1<=n:=lW;have Xh:x.bc[i]?=some (aW:Int):=(by rw[G,ea]);have aGF:=bm Jt;by_cases aw:(aW:Int)∈x.bc.take i
    · have O4:aV[aW]?=some true:=(by rw[cC aW lW];simp[aw]);have OV:(aV.map Value.bool)[aW]?=some (.bool true):=(by rw[qv,O4];rfl);have aY:ib x n=false:=by
        rw[Pz,wA];exact .inr (tA λaA=>avX aA ai (ea▸aw))
      simp(disch:=first|omega|simp only[aE];omega) [Fj,BH,BI,BJ,vE,bb,cu,HA,C2,HB,bU,cX,JJ,ea,sB,Wm,Bo,OV,rK,Jt,aY,-O,-U,-N,-S,-List.map_map]
    · have O4:aV[aW]?=some false:=(by rw[cC aW lW];simp[aw]);have OV:(aV.map Value.bool)[aW]?=some (.bool false):=(by rw[qv,O4];rfl);have aio: ∀j:Nat,j<n->(aV.set aW true)[j]?=some (decide ((j:Int)∈x.bc.take (i+1))):= λj bx=>by
        rw[yw,lx Xh];by_cases e:aW=j
        · subst e;simp[Bo,lW]
        · rw[if_neg e,cC j bx];have: ¬(j:Int)=(aW:Int):=(by omega);simp[this]
      simp(disch:=first|omega|simp only[aE];omega) [Fj,BH,BI,BJ,vE,bb,cu,HA,C2,HB,bU,b7,cX,JJ,ea,sB,Wm,Bo,OV,rK,Jt,-O,-U,-N,-S,-List.map_map];refine bk _ _ ⟨aV.set aW true,by simp[Bo],aio,?_,adO ai hW (ea▸aw),?_,by simp[bb],by simp[cu],by simp[HA],by simp[C2],by simp⟩
      · rw[lx Xh,sd,gp];simp[rK]
      · simp(disch:=first|omega|simp only[aE];omega) [-O,-U,-N,-S,-List.map_map]
  · rintro z t ⟨aV,Bo,cC,gp,hW,Jt,bb,cu,HA,C2,HB⟩;rw[mJ]at gp hW;have aY:ib x n=true:=(by rw[Pz,gp];simp[hW]);simp(disch:=first|omega|simp only[aE];omega) [Fj,BH,BI,BJ,vE,C2,HB,vE,BH,BI,BJ,aY,-O,-U,-N,-S,-List.map_map]
noncomputable def Tm(n:Nat)(ax:n<1000000):bz al:= .dM 113 ic ic.fN (λx=>[.agg (eY x).toArray,Z n]) (λx=> .bool (ib x n)) λ_ h=>aze ax h
@[simp] theorem aKi{n:Nat}{ax:n<1000000}:(Tm n ax).f=113:=rfl
@[simp] theorem aKj{n:Nat}{ax:n<1000000}{x:ic}(h:ic.fN x):(Tm n ax).fn [.agg #[fH x.name,Z x.k,Z x.m,Z x.q,Z x.aB.a,Z x.aB.b,Z x.aB.c,Z x.aB.d,Z x.aB.e,dG x.bc,hx x.jt,.bool x.oT.jE,bM x.oT.a,bM x.oT.b,.bool x.fj.jE,bM x.fj.a,bM x.fj.b],Z n]=some (.bool (ib x n)):=bz.eu (x:=x) h λy ah=>by obtain⟨ly,tp,Dv,Ib,⟨Ic,NC,ND,NF,aNq⟩,aNi,aNj,⟨aNk,aNl,aNm⟩,⟨aNn,aNo,aNp⟩⟩:=y;obtain⟨cf,cH,dC,gh,⟨oV,qq,NB,afH,afI⟩,Nz,afF,⟨aNe,aNf,NA⟩,⟨aNg,aNh,afG⟩⟩:=x;simp[eY]at ah;obtain⟨D,H,aq,aF,br,cR,fs,hz,ix,w3,Jw,Ey,OP,OQ,OR,OS,OT⟩:=ah;subst D;subst H;subst aq;subst aF;subst br;subst cR;subst fs;subst hz;subst ix;subst w3;subst Jw;subst Ey;subst OP;subst OQ;subst OR;subst OS;subst OT;rfl
def nG(d:gj):Bool:=decide (d.name=⟨#[]⟩)&&(decide (d.hl=0)&&(decide (d.parent= -1)&&(decide (d.ik=0)&&(d.nJ.bA.small&& !decide (0<d.nJ.bA.n)))))
def z7(ds:List gj)(d:gj):Bool:=match ds[d.parent.toNat]? with
  |some q=>decide (q.hl=d.hl-1)
  |none=>false
def kB(ds:List gj)(i:Nat)(d:gj):Bool:=dB d.parent 0 i&&(z7 ds d&&(dB d.hl 1 4&&(dB d.ik 1 64&&d.nJ.bA.small)))
def nn(ds:List gj):Bool:=match ds with
  |[]=>false
  | r::l=>nG r&&(List.range l.length).all λi=>match l[i]? with
    |some d=>kB ds i d
    |none=>true
theorem Og{r:gj}{l:List gj}:nn (r::l)=(nG r&&(List.range l.length).all λi=>match l[i]? with
    |some d=>kB (r::l) i d
    |none=>true):=rfl
structure bl.fN(u:bl):Prop where
  cB: ∀x∈u.cB,x.cV
  a0: ∀x∈u.a0,x.nJ.cV
  cx: ∀x∈u.cx,ic.fN x
  Ai:u.cB.length<=1000
  eG:u.bc.length<=1000
  kr:u.a0.length<=1000
  mz:u.a2.length<=1000
  vS:u.cx.length<=1000
  r0:u.cb.length<=1000
theorem ahs{r:gj}{l:List gj}{i:Nat}{d:gj}(G:l[i]?=some d)(h:kB (r::l) i d=false):nn (r::l)=false:=by rw[Og];rw[wA];refine .inr ?_;rw[wC];exact⟨i,ob.2 (ek.1 G).1,by simp[G,h]⟩
theorem ahr{r:gj}{l:List gj}(ay:nG r=true)(h: ∀j d,l[j]?=some d->kB (r::l) j d=true):nn (r::l)=true:=by
  rw[Og];rw[ay,sf,eD];intro i ai;cases G:l[i]? with
  |none=>rfl
  |some d=>exact h i d G
theorem ay8{u:bl}(h:bl.fN u):bH al 111 [.agg (aS u).toArray] (.bool (nn u.a0)):=by
  refine ed (dL (aB:=⟨[C5,MK],[]⟩) aj8 (by kernel_rfl) (by simp[tY]) ?_);have hW:=h.kr;cases iq:u.a0 with
  | nil=>have ll:(u.a0.length:Int)=0:=(by rw[iq];rfl);have qS:u.a0.length=0:=(by rw[iq];rfl);have aY:nn []=false:=rfl;simp(disch:=first|omega|simp only[aE];omega) [tY,vw,vx,vy,vz,vA,oB,aS,aY,iq,-O,-U,-N,-S,-List.map_map]
  |cons R ds=>
  have eS:u.a0.length=ds.length+1:=by rw[iq];rfl
  have ll: ¬(u.a0.length:Int)=0:=by omega
  have ov:(0:Int)<u.a0.length:=by omega
  have qS: ¬u.a0.length=0:=by omega
  have nr:0<u.a0.length:=by omega
  have aiY:1<=u.a0.length:=by omega
  have Ph:(1:Int)<=u.a0.length:=by omega
  have fA:u.a0[0]?=some R:=by rw[iq];rfl
  have eB:R.nJ.cV:=h.a0 R (by rw[iq];simp);have nV:u.a0[0]=R:=by have:=dx nr;rw[fA]at this;exact(Option.some.inj this).symm
  have Oi:(List.take u.a0.length (u.a0.map dU)).tail=ds.map dU:=by rw[ky (by simp),iq];rfl
  have Oj:u.a0.length-1=ds.length:=by omega
  have rQ:nG R=false->nn (R::ds)=false:= λh=>by rw[Og,h];rfl
  rw[<-iq]at rQ⊢;by_cases bN:R.name=⟨#[]⟩
  case neg=>have aY:=rQ (by simp[nG,bN]);simp(disch:=first|omega|simp only[aE];omega) [tY,vw,vx,vy,vz,vA,oB,aS,dU,qS,nr,nV,bN,aY,-O,-U,-N,-S,-List.map_map]
  by_cases cI:R.hl=0
  case neg=>have aY:=rQ (by simp[nG,cI]);simp(disch:=first|omega|simp only[aE];omega) [tY,vw,vx,vy,vz,vA,oB,aS,dU,qS,nr,nV,bN,cI,aY,-O,-U,-N,-S,-List.map_map]
  by_cases hq:R.parent= -1
  case neg=>have aY:=rQ (by simp[nG,hq]);simp(disch:=first|omega|simp only[aE];omega) [tY,vw,vx,vy,vz,vA,oB,aS,dU,qS,nr,nV,bN,cI,hq,aY,-O,-U,-N,-S,-List.map_map]
  by_cases iH:R.ik=0
  case neg=>have aY:=rQ (by simp[nG,iH]);simp(disch:=first|omega|simp only[aE];omega) [tY,vw,vx,vy,vz,vA,oB,aS,dU,qS,nr,nV,bN,cI,hq,iH,aY,-O,-U,-N,-S,-List.map_map]
  cases lS:R.nJ.bA.small
  · have aY:=rQ (by simp[nG,lS]);simp(disch:=first|omega|simp only[aE];omega) [tY,vw,vx,vy,vz,vA,oB,aS,dU,qS,nr,nV,bN,cI,hq,iH,lS,aY,-O,-U,-N,-S,-List.map_map]
  by_cases pP:0<R.nJ.bA.n
  · have aY:=rQ (by simp[nG,pP]);simp(disch:=first|omega|simp only[aE];omega) [tY,vw,vx,vy,vz,vA,oB,aS,dU,qS,nr,nV,bN,cI,hq,iH,lS,pP,aY,-O,-U,-N,-S,-List.map_map]
  have ajB:nG R=true:=by simp[nG,bN,cI,hq,iH,lS,pP]
  simp(disch:=first|omega|simp only[aE];omega) [tY,vw,vx,vy,vz,vA,aS,dU,qS,nr,Ph,nV,bN,cI,hq,iH,lS,pP,-O,-U,-N,-S,-List.map_map];rw[Oi,Oj];refine hI (aB:=⟨[re,C5],[]⟩) (λi z t=>(∀j d,j<i->ds[j]?=some d->kB u.a0 j d=true)/\t.Y 0=some ⟨aS u,true⟩/\z 1=cD 0/\z 45=au (ds.map dU) 7/\z 46=Z ds.length/\z 47=Z i) ds.length ?_ ?_ 0 _ _ (ho _) ⟨λj d h=>absurd h (se _),by simp(disch:=first|omega|simp only[aE];omega) [aS,-O,-U,-N,-S,-List.map_map],by simp,by simp,by simp,by simp⟩
  · rintro i z t ai ⟨gp,aO,bb,x8,wc,x9⟩ cK bk;have G:ds[i]?=some ds[i]:=dx ai;have b7:=gT (n:=i) (by omega);have bU:(i:Int)<ds.length:=(by omega);have fq:=bm aO;have Mq: ∀k,¬t.next+k=0:= λk=>by omega
    have oy:ds[i].nJ.cV:=h.a0 _ (by rw[iq];exact Dy _ (mI ai));have fy:kB u.a0 i ds[i]=false->nn u.a0=false:= λa3=>by rw[iq]at a3⊢;exact ahs G a3
    cases gZ:dB ds[i].parent 0 (i:Int)
    · have aY:=fy (by simp[kB,gZ]);simp(disch:=first|omega|simp only[aE];omega) [xp,vB,vC,vD,oB,dU,x8,wc,x9,bU,gZ,aY,-O,-U,-N,-S,-List.map_map]
    have ahp:=sO.1 gZ;obtain⟨aW,ea⟩:=kS ahp.1;have fS:aW<=i:=(by omega);have yW:aW<u.a0.length:=(by omega);have bf:u.a0[aW]?=some u.a0[aW]:=dx yW;have lW:(aW:Int)<u.a0.length:=(by omega);have WQ:z7 u.a0 ds[i]=decide (u.a0[aW].hl=ds[i].hl-1):=(by unfold z7;rw[ea,rn,bf]);rw[ea]at gZ;by_cases gM:u.a0[aW].hl=IntKind.i64.wrap (ds[i].hl-1)
    case neg=>
      have aY:=fy (by
        rw[kB,WQ];cases kd:dB ds[i].hl 1 4
        · simp
        · have:=sO.1 kd;rw[fl (by omega) (by omega)]at gM;simp[gM])
      simp(disch:=first|omega|simp only[aE];omega) [xp,vB,vC,vD,oB,aS,dU,bb,x8,wc,x9,aO,bU,ea,lW,gZ,gM,aY,-O,-U,-N,-S,-List.map_map]
    cases kd:dB ds[i].hl 1 4
    · have aY:=fy (by simp[kB,kd]);simp(disch:=first|omega|simp only[aE];omega) [xp,vB,vC,vD,oB,aS,dU,bb,x8,wc,x9,aO,bU,ea,lW,gZ,gM,kd,aY,-O,-U,-N,-S,-List.map_map]
    cases Ec:dB ds[i].ik 1 64
    · have aY:=fy (by simp[kB,Ec]);simp(disch:=first|omega|simp only[aE];omega) [xp,vB,vC,vD,oB,aS,dU,bb,x8,wc,x9,aO,bU,ea,lW,gZ,gM,kd,Ec,aY,-O,-U,-N,-S,-List.map_map]
    cases Jc:ds[i].nJ.bA.small
    · have aY:=fy (by simp[kB,Jc]);simp(disch:=first|omega|simp only[aE];omega) [xp,vB,vC,vD,oB,aS,dU,bb,x8,wc,x9,aO,bU,ea,lW,gZ,gM,kd,Ec,Jc,aY,-O,-U,-N,-S,-List.map_map]
    have pf:kB u.a0 i ds[i]=true:=(by have:=sO.1 kd;have Vy:=gM;rw[fl (by omega) (by omega)]at Vy;rw[kB,WQ,ea,gZ,kd,Ec,Jc,Vy];simp);simp(disch:=first|omega|simp only[aE];omega) [xp,vB,vC,vD,oB,aS,dU,bb,x8,wc,x9,aO,bU,b7,ea,lW,gZ,gM,kd,Ec,Jc,-O,-U,-N,-S,-List.map_map];refine bk _ _ ⟨λj d bx aA=> ?_,by simp(disch:=first|omega|simp only[aE];omega) [aO,aS,-O,-U,-N,-S,-List.map_map],by simp[bb],by simp[x8],by simp[wc],by simp⟩;by_cases e:j=i
    · subst e;rw[G]at aA;cases aA;exact pf
    · exact gp j d (by omega) aA
  · rintro z t ⟨gp,aO,bb,x8,wc,x9⟩;have aY:nn u.a0=true:=by
      rw[iq];refine ahr ajB λj d aA=> ?_;rw[<-iq];exact gp j d (ek.1 aA).1 aA
    simp(disch:=first|omega|simp only[aE];omega) [xp,vB,vC,vD,oB,wc,x9,oB,vB,vC,vD,aY,-O,-U,-N,-S,-List.map_map]
noncomputable def Tk(u:bl)(h:bl.fN u):bz al:= .dM 111 Unit (λ_=>True) (λ_=>[.agg (aS u).toArray]) (λ_=> .bool (nn u.a0)) λ_ _=>ay8 h
@[simp] theorem aKe{u:bl}{h:bl.fN u}:(Tk u h).f=111:=rfl
@[simp] theorem aKf{u:bl}{h:bl.fN u}:(Tk u h).fn [.agg #[Z u.ext,au (u.cB.map gF) 4,au (u.bc.map gK) 4,au (u.a0.map dU) 7,au (u.a2.map gn) 3,au (u.cx.map eY) 17,au (u.cb.map g0) 2]]=some (.bool (nn u.a0)):=bz.eu (x:=()) trivial λ_ _=>rfl
def kq(Ai:Nat)(x:AY):Bool:=dB x.ext 1 16&&(dB x.MA 1 64&&dB x.Mb 0 ((Ai:Int)-1))
def Ab(ds:List gj)(m:Int):Bool:=match ds[m.toNat]? with
  |some q=>decide (q.hl=4)
  |none=>false
def kf(eG:Nat)(ds:List gj)(x:md):Bool:=dB x.model 0 ((eG:Int)-1)&&(dB x.sZ 0 ((ds.length:Int)-1)&&Ab ds x.sZ)
def ng(vS:Nat)(x:pK):Bool:=dB x.pv 0 ((vS:Int)-1)
theorem DS{c7:Type}{l:List c7}{p:c7->Bool}{b:Bool}{i:Nat}{x:c7}(G:l[i]?=some x):(b&&(l.take (i+1)).all p)=((b&&(l.take i).all p)&&p x):=by rw[lx G,sd];simp[yz]
def ld:List Nat:=[1,3,4,5,6,7]
theorem ey{z aj:aP}{d:Nat}(D:1≠d->aj 1=z 1)(aq:3≠d->aj 3=z 3)(aF:4≠d->aj 4=z 4)(br:5≠d->aj 5=z 5)(cR:6≠d->aj 6=z 6)(fs:7≠d->aj 7=z 7): ∀k∈ld,k≠d->aj k=z k:= λk aa aA=>by
  simp only[ld,g6,iG,or_false]at aa;rcases aa with rfl|rfl|rfl|rfl|rfl|rfl
  · exact D aA
  · exact aq aA
  · exact aF aA
  · exact br aA
  · exact cR aA
  · exact fs aA
theorem ay0{u:bl}(h:bl.fN u){cY:aP}{cP:W}{gB:Nat}{bP:List ByteArray}{dt:Bool}(kl:bP.length<=10000)(nQ:cP.Y 0=some ⟨aS u,true⟩)(nR:cP.Y gB=some ⟨ew bP,true⟩)(s9:gB≠0)(bb:cY 1=cD 0)(fO:cY 3= .slice (some ⟨gB,0,none⟩) bP.length 1)(b1:cY 8= .bool dt)
    (pz:cY 67=au (u.cB.map gF) 4) (qk:cY 68=Z u.cB.length) (ql:cY 69=Z 0) {Q:dy->aP->W->Prop}
    (bY: ∀z t o,(∀k∈ld,k≠3->z k=cY k)->z 8= .bool (dt&&u.cB.all hS.l6)->z 3= .slice (some ⟨o,0,none⟩) (bP.length+u.cB.length) 1->t.Y o=some ⟨ew (bP++u.cB.map (·.name)),true⟩->(o=gB\/cP.next<=o)->cP.next<=t.next->(∀b,b<cP.next->b≠gB->t.Y b=cP.Y b)->Q (.ba 0) z t):fP al (.loop Cn) cY cP Q:=by
  have sW:=bm nQ;have G2:=bm nR;have eS:u.cB.length<=1000:=h.Ai;refine hI (aB:=⟨[Tl],[]⟩) (λi z t=> ∃o,(∀k∈ld,k≠3->z k=cY k)/\z 8= .bool (dt&&(u.cB.take i).all hS.l6)/\z 3= .slice (some ⟨o,0,none⟩) (bP.length+i) 1/\t.Y o=some ⟨ew (bP++(u.cB.take i).map (·.name)),true⟩/\(o=gB\/cP.next<=o)/\cP.next<=t.next/\(∀b,b<cP.next->b≠gB->t.Y b=cP.Y b)/\z 67=au (u.cB.map gF) 4/\z 68=Z u.cB.length/\z 69=Z i) u.cB.length ?_ ?_ 0 cY cP (ho _) ⟨gB,λ_ _ _=>rfl,by simpa using b1,by simpa using fO,by simpa using nR,.inl rfl,ev _,λ_ _ _=>rfl,pz,qk,ql⟩
  · rintro i z t ai ⟨o,fz,fL,h9,bX,fj,jL,fa,gI,fX,h8⟩ cK bk;have G:u.cB[i]?=some u.cB[i]:=dx ai;have b7:=gT (n:=i) (by omega);have bU:(i:Int)<u.cB.length:=(by omega);have n2:z 1=cD 0:=(fz 1 (by decide) (by decide)).trans bb;have aO:t.Y 0=some ⟨aS u,true⟩:=(by rw[fa 0 sW (Ne.symm s9)];exact nQ);have fq:=bm aO;have ct:=bm bX;have jf:o≠0:=(by rcases fj with rfl|bK<;>omega);obtain⟨jy,iZ⟩: ∃c,c=ew (bP++(u.cB.take i).map (·.name)):=⟨_,rfl⟩;rw[<-iZ]at bX;have iX:jy.length=bP.length+i:=(by rw[iZ,CQ,j7,j8,ni];omega);have kO:jy.take (bP.length+i)=jy:=ky (by omega);have gD:(bP.length+i+1)*16<=140737488355328/\bP.length+i<=9223372036854775806:=(by omega);have jm:jy++[fH u.cB[i].name]=ew (bP++(u.cB.take (i+1)).map (·.name)):=(by rw[lx G,uS,<-Dz,mL,wG,Ak,iZ]);have da:=h.cB _ (mI ai);have hb:=DS (p:=hS.l6) (b:=dt) G;obtain⟨aV,cC⟩: ∃aV,aV=(dt&&(u.cB.take i).all hS.l6):=⟨_,rfl⟩;rw[<-cC]at fL hb;cases aV
    · skip
      simp(disch:=first|omega|simp only[DI.ak];omega) [Cn,GF,Lp,Lq,gF,fL,h9,gI,fX,h8,bX,bU,b7,iX,kO,gD,-O,-U,-N,-S,-List.map_map];refine bk _ _ ⟨t.next+4+4,λk aa aA=>ji (b:=z k) (ey (d:=3) ?_ ?_ ?_ ?_ ?_ ?_ k aa aA) (fz k aa aA),?_,?_,?_,.inr (by omega),?_,λb hb dH=> ?_,?_,?_,?_⟩
      all_goals first
        |(intro aA;first|(exact absurd rfl aA)|(simp;done))
        |(rw[hb];simp[];done)
        |(rw[<-jm];simp(disch:=first|omega|simp only[DI.ak];omega) [-O,-U,-N,-S,-List.map_map];done)
        | (have lX:b≠o:=by rcases fj with rfl|bK<;>omega
           rw[<-fa b hb dH];simp(disch:=first|omega|simp only[DI.ak];omega) [-O,-U,-N,-S,-List.map_map];done)
        |(simp(disch:=first|omega|simp only[DI.ak];omega) [-O,-U,-N,-S,-List.map_map];done)
        |(simp(disch:=first|omega|simp only[DI.ak];omega) [gI,fX,-O,-U,-N,-S,-List.map_map];done)
        |(simp(disch:=first|omega|simp only[DI.ak];omega) [-O,-U,-N,-S,-List.map_map];omega)
        |(simp;omega)
    · skip
      cases dq:u.cB[i].l6
      · skip
        simp(disch:=first|omega|simp only[DI.ak];omega) [Cn,GF,Lp,Lq,gF,fL,h9,gI,fX,h8,bX,bU,b7,iX,kO,gD,dq,-O,-U,-N,-S,-List.map_map];refine bk _ _ ⟨t.next+4+4,λk aa aA=>ji (b:=z k) (ey (d:=3) ?_ ?_ ?_ ?_ ?_ ?_ k aa aA) (fz k aa aA),?_,?_,?_,.inr (by omega),?_,λb hb dH=> ?_,?_,?_,?_⟩
        all_goals first
          |(intro aA;first|(exact absurd rfl aA)|(simp;done))
          |(rw[hb];simp[dq];done)
          |(rw[<-jm];simp(disch:=first|omega|simp only[DI.ak];omega) [-O,-U,-N,-S,-List.map_map];done)
          | (have lX:b≠o:=by rcases fj with rfl|bK<;>omega
             rw[<-fa b hb dH];simp(disch:=first|omega|simp only[DI.ak];omega) [-O,-U,-N,-S,-List.map_map];done)
          |(simp(disch:=first|omega|simp only[DI.ak];omega) [-O,-U,-N,-S,-List.map_map];done)
          |(simp(disch:=first|omega|simp only[DI.ak];omega) [gI,fX,-O,-U,-N,-S,-List.map_map];done)
          |(simp(disch:=first|omega|simp only[DI.ak];omega) [-O,-U,-N,-S,-List.map_map];omega)
          |(simp;omega)
      · skip
        simp(disch:=first|omega|simp only[DI.ak];omega) [Cn,GF,Lp,Lq,gF,fL,h9,gI,fX,h8,bX,bU,b7,iX,kO,gD,dq,-O,-U,-N,-S,-List.map_map];refine bk _ _ ⟨t.next+4+4,λk aa aA=>ji (b:=z k) (ey (d:=3) ?_ ?_ ?_ ?_ ?_ ?_ k aa aA) (fz k aa aA),?_,?_,?_,.inr (by omega),?_,λb hb dH=> ?_,?_,?_,?_⟩
        all_goals first
          |(intro aA;first|(exact absurd rfl aA)|(simp;done))
          |(rw[hb];simp[dq];done)
          |(rw[<-jm];simp(disch:=first|omega|simp only[DI.ak];omega) [-O,-U,-N,-S,-List.map_map];done)
          | (have lX:b≠o:=by rcases fj with rfl|bK<;>omega
             rw[<-fa b hb dH];simp(disch:=first|omega|simp only[DI.ak];omega) [-O,-U,-N,-S,-List.map_map];done)
          |(simp(disch:=first|omega|simp only[DI.ak];omega) [-O,-U,-N,-S,-List.map_map];done)
          |(simp(disch:=first|omega|simp only[DI.ak];omega) [gI,fX,-O,-U,-N,-S,-List.map_map];done)
          |(simp(disch:=first|omega|simp only[DI.ak];omega) [-O,-U,-N,-S,-List.map_map];omega)
          |(simp;omega)
  · rintro z t ⟨o,fz,fL,h9,bX,fj,jL,fa,gI,fX,h8⟩;rw[mJ]at bX fL;simp(disch:=first|omega|simp only[DI.ak];omega) [Cn,GF,fX,h8,-O,-U,-N,-S,-List.map_map];refine bY _ _ o (λk aa aA=>ji (b:=z k) (ey (d:=3) ?_ ?_ ?_ ?_ ?_ ?_ k aa aA) (fz k aa aA)) ?_ ?_ bX fj jL fa
    all_goals first
      |(intro aA;simp;done)
      |(simp[fL];done)
      |(simp[h9];done)
theorem ay1{u:bl}(h:bl.fN u){cY:aP}{cP:W}{gB:Nat}{bP:List ByteArray}{dt:Bool}(kl:bP.length<=10000)(nQ:cP.Y 0=some ⟨aS u,true⟩)(nR:cP.Y gB=some ⟨ew bP,true⟩)(s9:gB≠0)(bb:cY 1=cD 0)(fO:cY 4= .slice (some ⟨gB,0,none⟩) bP.length 1)(b1:cY 8= .bool dt)
    (pz:cY 85=au (u.bc.map gK) 4) (qk:cY 86=Z u.bc.length) (ql:cY 87=Z 0) {Q:dy->aP->W->Prop}
    (bY: ∀z t o,(∀k∈ld,k≠4->z k=cY k)->z 8= .bool (dt&&u.bc.all (kq u.cB.length))->z 4= .slice (some ⟨o,0,none⟩) (bP.length+u.bc.length) 1->t.Y o=some ⟨ew (bP++u.bc.map (·.name)),true⟩->(o=gB\/cP.next<=o)->cP.next<=t.next->(∀b,b<cP.next->b≠gB->t.Y b=cP.Y b)->Q (.ba 2) z t):fP al (.loop xy) cY cP Q:=by
  have sW:=bm nQ;have G2:=bm nR;have eS:u.bc.length<=1000:=h.eG;refine hI (aB:=⟨[re],[]⟩) (λi z t=> ∃o,(∀k∈ld,k≠4->z k=cY k)/\z 8= .bool (dt&&(u.bc.take i).all (kq u.cB.length))/\z 4= .slice (some ⟨o,0,none⟩) (bP.length+i) 1/\t.Y o=some ⟨ew (bP++(u.bc.take i).map (·.name)),true⟩/\(o=gB\/cP.next<=o)/\cP.next<=t.next/\(∀b,b<cP.next->b≠gB->t.Y b=cP.Y b)/\z 85=au (u.bc.map gK) 4/\z 86=Z u.bc.length/\z 87=Z i) u.bc.length ?_ ?_ 0 cY cP (ho _) ⟨gB,λ_ _ _=>rfl,by simpa using b1,by simpa using fO,by simpa using nR,.inl rfl,ev _,λ_ _ _=>rfl,pz,qk,ql⟩
  · rintro i z t ai ⟨o,fz,fL,h9,bX,fj,jL,fa,gI,fX,h8⟩ cK bk;have G:u.bc[i]?=some u.bc[i]:=dx ai;have b7:=gT (n:=i) (by omega);have bU:(i:Int)<u.bc.length:=(by omega);have n2:z 1=cD 0:=(fz 1 (by decide) (by decide)).trans bb;have aO:t.Y 0=some ⟨aS u,true⟩:=(by rw[fa 0 sW (Ne.symm s9)];exact nQ);have fq:=bm aO;have ct:=bm bX;have jf:o≠0:=(by rcases fj with rfl|bK<;>omega);obtain⟨jy,iZ⟩: ∃c,c=ew (bP++(u.bc.take i).map (·.name)):=⟨_,rfl⟩;rw[<-iZ]at bX;have iX:jy.length=bP.length+i:=(by rw[iZ,CQ,j7,j8,ni];omega);have kO:jy.take (bP.length+i)=jy:=ky (by omega);have gD:(bP.length+i+1)*16<=140737488355328/\bP.length+i<=9223372036854775806:=(by omega);have jm:jy++[fH u.bc[i].name]=ew (bP++(u.bc.take (i+1)).map (·.name)):=(by rw[lx G,uS,<-Dz,mL,wG,Ak,iZ]);have jQ:IntKind.i64.wrap ((u.cB.length:Int)-1)=(u.cB.length:Int)-1:=fl (by omega) (by have:=h.Ai;omega);have hb:=DS (p:=(kq u.cB.length)) (b:=dt) G;obtain⟨aV,cC⟩: ∃aV,aV=(dt&&(u.bc.take i).all (kq u.cB.length)):=⟨_,rfl⟩;rw[<-cC]at fL hb;cases aV
    · skip
      simp(disch:=first|omega|simp only[DI.ak];omega) [xy,zL,Cj,Ck,gK,fL,h9,gI,fX,h8,bX,bU,b7,iX,kO,gD,-O,-U,-N,-S,-List.map_map];refine bk _ _ ⟨t.next+4+4,λk aa aA=>ji (b:=z k) (ey (d:=4) ?_ ?_ ?_ ?_ ?_ ?_ k aa aA) (fz k aa aA),?_,?_,?_,.inr (by omega),?_,λb hb dH=> ?_,?_,?_,?_⟩
      all_goals first
        |(intro aA;first|(exact absurd rfl aA)|(simp;done))
        |(rw[hb];simp[];done)
        |(rw[<-jm];simp(disch:=first|omega|simp only[DI.ak];omega) [-O,-U,-N,-S,-List.map_map];done)
        | (have lX:b≠o:=by rcases fj with rfl|bK<;>omega
           rw[<-fa b hb dH];simp(disch:=first|omega|simp only[DI.ak];omega) [-O,-U,-N,-S,-List.map_map];done)
        |(simp(disch:=first|omega|simp only[DI.ak];omega) [-O,-U,-N,-S,-List.map_map];done)
        |(simp(disch:=first|omega|simp only[DI.ak];omega) [gI,fX,-O,-U,-N,-S,-List.map_map];done)
        |(simp(disch:=first|omega|simp only[DI.ak];omega) [-O,-U,-N,-S,-List.map_map];omega)
        |(simp;omega)
    · skip
      cases da:dB u.bc[i].ext 1 16
      · skip
        simp(disch:=first|omega|simp only[DI.ak];omega) [xy,zL,Cj,Ck,gK,fL,h9,gI,fX,h8,bX,bU,b7,iX,kO,gD,da,-O,-U,-N,-S,-List.map_map];refine bk _ _ ⟨t.next+4+4,λk aa aA=>ji (b:=z k) (ey (d:=4) ?_ ?_ ?_ ?_ ?_ ?_ k aa aA) (fz k aa aA),?_,?_,?_,.inr (by omega),?_,λb hb dH=> ?_,?_,?_,?_⟩
        all_goals first
          |(intro aA;first|(exact absurd rfl aA)|(simp;done))
          |(rw[hb];simp[kq,da];done)
          |(rw[<-jm];simp(disch:=first|omega|simp only[DI.ak];omega) [-O,-U,-N,-S,-List.map_map];done)
          | (have lX:b≠o:=by rcases fj with rfl|bK<;>omega
             rw[<-fa b hb dH];simp(disch:=first|omega|simp only[DI.ak];omega) [-O,-U,-N,-S,-List.map_map];done)
          |(simp(disch:=first|omega|simp only[DI.ak];omega) [-O,-U,-N,-S,-List.map_map];done)
          |(simp(disch:=first|omega|simp only[DI.ak];omega) [gI,fX,-O,-U,-N,-S,-List.map_map];done)
          |(simp(disch:=first|omega|simp only[DI.ak];omega) [-O,-U,-N,-S,-List.map_map];omega)
          |(simp;omega)
      · skip
        cases dq:dB u.bc[i].MA 1 64
        · skip
          simp(disch:=first|omega|simp only[DI.ak];omega) [xy,zL,Cj,Ck,gK,fL,h9,gI,fX,h8,bX,bU,b7,iX,kO,gD,da,dq,-O,-U,-N,-S,-List.map_map];refine bk _ _ ⟨t.next+4+4,λk aa aA=>ji (b:=z k) (ey (d:=4) ?_ ?_ ?_ ?_ ?_ ?_ k aa aA) (fz k aa aA),?_,?_,?_,.inr (by omega),?_,λb hb dH=> ?_,?_,?_,?_⟩
          all_goals first
            |(intro aA;first|(exact absurd rfl aA)|(simp;done))
            |(rw[hb];simp[kq,da,dq];done)
            |(rw[<-jm];simp(disch:=first|omega|simp only[DI.ak];omega) [-O,-U,-N,-S,-List.map_map];done)
            | (have lX:b≠o:=by rcases fj with rfl|bK<;>omega
               rw[<-fa b hb dH];simp(disch:=first|omega|simp only[DI.ak];omega) [-O,-U,-N,-S,-List.map_map];done)
            |(simp(disch:=first|omega|simp only[DI.ak];omega) [-O,-U,-N,-S,-List.map_map];done)
            |(simp(disch:=first|omega|simp only[DI.ak];omega) [gI,fX,-O,-U,-N,-S,-List.map_map];done)
            |(simp(disch:=first|omega|simp only[DI.ak];omega) [-O,-U,-N,-S,-List.map_map];omega)
            |(simp;omega)
        · skip
          cases hy:dB u.bc[i].Mb 0 ((u.cB.length:Int)-1)
          · skip
            simp(disch:=first|omega|simp only[DI.ak];omega) [xy,zL,Cj,Ck,aS,gK,n2,fL,h9,gI,fX,h8,aO,bX,bU,b7,iX,kO,gD,jQ,da,dq,hy,-O,-U,-N,-S,-List.map_map];refine bk _ _ ⟨t.next+4+4,λk aa aA=>ji (b:=z k) (ey (d:=4) ?_ ?_ ?_ ?_ ?_ ?_ k aa aA) (fz k aa aA),?_,?_,?_,.inr (by omega),?_,λb hb dH=> ?_,?_,?_,?_⟩
            all_goals first
              |(intro aA;first|(exact absurd rfl aA)|(simp;done))
              |(rw[hb];simp[kq,da,dq,hy];done)
              |(rw[<-jm];simp(disch:=first|omega|simp only[DI.ak];omega) [-O,-U,-N,-S,-List.map_map];done)
              | (have lX:b≠o:=by rcases fj with rfl|bK<;>omega
                 rw[<-fa b hb dH];simp(disch:=first|omega|simp only[DI.ak];omega) [-O,-U,-N,-S,-List.map_map];done)
              |(simp(disch:=first|omega|simp only[DI.ak];omega) [-O,-U,-N,-S,-List.map_map];done)
              |(simp(disch:=first|omega|simp only[DI.ak];omega) [gI,fX,-O,-U,-N,-S,-List.map_map];done)
              |(simp(disch:=first|omega|simp only[DI.ak];omega) [-O,-U,-N,-S,-List.map_map];omega)
              |(simp;omega)
          · skip
            simp(disch:=first|omega|simp only[DI.ak];omega) [xy,zL,Cj,Ck,aS,gK,n2,fL,h9,gI,fX,h8,aO,bX,bU,b7,iX,kO,gD,jQ,da,dq,hy,-O,-U,-N,-S,-List.map_map];refine bk _ _ ⟨t.next+4+4,λk aa aA=>ji (b:=z k) (ey (d:=4) ?_ ?_ ?_ ?_ ?_ ?_ k aa aA) (fz k aa aA),?_,?_,?_,.inr (by omega),?_,λb hb dH=> ?_,?_,?_,?_⟩
            all_goals first
              |(intro aA;first|(exact absurd rfl aA)|(simp;done))
              |(rw[hb];simp[kq,da,dq,hy];done)
              |(rw[<-jm];simp(disch:=first|omega|simp only[DI.ak];omega) [-O,-U,-N,-S,-List.map_map];done)
              | (have lX:b≠o:=by rcases fj with rfl|bK<;>omega
                 rw[<-fa b hb dH];simp(disch:=first|omega|simp only[DI.ak];omega) [-O,-U,-N,-S,-List.map_map];done)
              |(simp(disch:=first|omega|simp only[DI.ak];omega) [-O,-U,-N,-S,-List.map_map];done)
              |(simp(disch:=first|omega|simp only[DI.ak];omega) [gI,fX,-O,-U,-N,-S,-List.map_map];done)
              |(simp(disch:=first|omega|simp only[DI.ak];omega) [-O,-U,-N,-S,-List.map_map];omega)
              |(simp;omega)
  · rintro z t ⟨o,fz,fL,h9,bX,fj,jL,fa,gI,fX,h8⟩;rw[mJ]at bX fL;simp(disch:=first|omega|simp only[DI.ak];omega) [xy,zL,fX,h8,-O,-U,-N,-S,-List.map_map];refine bY _ _ o (λk aa aA=>ji (b:=z k) (ey (d:=4) ?_ ?_ ?_ ?_ ?_ ?_ k aa aA) (fz k aa aA)) ?_ ?_ bX fj jL fa
    all_goals first
      |(intro aA;simp;done)
      |(simp[fL];done)
      |(simp[h9];done)
theorem ay2{u:bl}(h:bl.fN u){ds:List gj}(xa:ds.length<=1000){cY:aP}{cP:W}{gB:Nat}{bP:List ByteArray}{dt:Bool}(kl:bP.length<=10000)(nQ:cP.Y 0=some ⟨aS u,true⟩)(nR:cP.Y gB=some ⟨ew bP,true⟩)(s9:gB≠0)(bb:cY 1=cD 0)(fO:cY 5= .slice (some ⟨gB,0,none⟩) bP.length 1)(b1:cY 8= .bool dt)
    (pz:cY 119=au (ds.map dU) 7) (qk:cY 120=Z ds.length) (ql:cY 121=Z 0) {Q:dy->aP->W->Prop}
    (bY: ∀z t o,(∀k∈ld,k≠5->z k=cY k)->z 8= .bool dt->z 5= .slice (some ⟨o,0,none⟩) (bP.length+ds.length) 1->t.Y o=some ⟨ew (bP++ds.map (·.name)),true⟩->(o=gB\/cP.next<=o)->cP.next<=t.next->(∀b,b<cP.next->b≠gB->t.Y b=cP.Y b)->Q (.ba 4) z t):fP al (.loop Lr) cY cP Q:=by
  have sW:=bm nQ;have G2:=bm nR;have eS:ds.length<=1000:=xa;refine hI (aB:=⟨[],[]⟩) (λi z t=> ∃o,(∀k∈ld,k≠5->z k=cY k)/\z 8= .bool dt/\z 5= .slice (some ⟨o,0,none⟩) (bP.length+i) 1/\t.Y o=some ⟨ew (bP++(ds.take i).map (·.name)),true⟩/\(o=gB\/cP.next<=o)/\cP.next<=t.next/\(∀b,b<cP.next->b≠gB->t.Y b=cP.Y b)/\z 119=au (ds.map dU) 7/\z 120=Z ds.length/\z 121=Z i) ds.length ?_ ?_ 0 cY cP (ho _) ⟨gB,λ_ _ _=>rfl,by simpa using b1,by simpa using fO,by simpa using nR,.inl rfl,ev _,λ_ _ _=>rfl,pz,qk,ql⟩
  · rintro i z t ai ⟨o,fz,fL,h9,bX,fj,jL,fa,gI,fX,h8⟩ cK bk;have G:ds[i]?=some ds[i]:=dx ai;have b7:=gT (n:=i) (by omega);have bU:(i:Int)<ds.length:=(by omega);have n2:z 1=cD 0:=(fz 1 (by decide) (by decide)).trans bb;have aO:t.Y 0=some ⟨aS u,true⟩:=(by rw[fa 0 sW (Ne.symm s9)];exact nQ);have fq:=bm aO;have ct:=bm bX;have jf:o≠0:=(by rcases fj with rfl|bK<;>omega);obtain⟨jy,iZ⟩: ∃c,c=ew (bP++(ds.take i).map (·.name)):=⟨_,rfl⟩;rw[<-iZ]at bX;have iX:jy.length=bP.length+i:=(by rw[iZ,CQ,j7,j8,ni];omega);have kO:jy.take (bP.length+i)=jy:=ky (by omega);have gD:(bP.length+i+1)*16<=140737488355328/\bP.length+i<=9223372036854775806:=(by omega);have jm:jy++[fH ds[i].name]=ew (bP++(ds.take (i+1)).map (·.name)):=(by rw[lx G,uS,<-Dz,mL,wG,Ak,iZ]);simp(disch:=first|omega|simp only[DI.ak];omega) [Lr,Rx,acm,dU,h9,gI,fX,h8,bX,bU,b7,iX,kO,gD,-O,-U,-N,-S,-List.map_map];refine bk _ _ ⟨t.next+4+4,λk aa aA=>ji (b:=z k) (ey (d:=5) ?_ ?_ ?_ ?_ ?_ ?_ k aa aA) (fz k aa aA),?_,?_,?_,.inr (by omega),?_,λb hb dH=> ?_,?_,?_,?_⟩
    all_goals first
      |(intro aA;first|(exact absurd rfl aA)|(simp;done))
      |(simp[fL];done)
      |(rw[<-jm];simp(disch:=first|omega|simp only[DI.ak];omega) [-O,-U,-N,-S,-List.map_map];done)
      | (have lX:b≠o:=by rcases fj with rfl|bK<;>omega
         rw[<-fa b hb dH];simp(disch:=first|omega|simp only[DI.ak];omega) [-O,-U,-N,-S,-List.map_map];done)
      |(simp(disch:=first|omega|simp only[DI.ak];omega) [-O,-U,-N,-S,-List.map_map];done)
      |(simp(disch:=first|omega|simp only[DI.ak];omega) [gI,fX,-O,-U,-N,-S,-List.map_map];done)
      |(simp(disch:=first|omega|simp only[DI.ak];omega) [-O,-U,-N,-S,-List.map_map];omega)
      |(simp;omega)
  · rintro z t ⟨o,fz,fL,h9,bX,fj,jL,fa,gI,fX,h8⟩;rw[mJ]at bX;simp(disch:=first|omega|simp only[DI.ak];omega) [Lr,Rx,fX,h8,-O,-U,-N,-S,-List.map_map];refine bY _ _ o (λk aa aA=>ji (b:=z k) (ey (d:=5) ?_ ?_ ?_ ?_ ?_ ?_ k aa aA) (fz k aa aA)) ?_ ?_ bX fj jL fa
    all_goals first
      |(intro aA;simp;done)
      |(simp[fL];done)
      |(simp[h9];done)
theorem ay3{u:bl}(h:bl.fN u){cY:aP}{cP:W}{gB:Nat}{bP:List ByteArray}{dt:Bool}(kl:bP.length<=10000)(nQ:cP.Y 0=some ⟨aS u,true⟩)(nR:cP.Y gB=some ⟨ew bP,true⟩)(s9:gB≠0)(bb:cY 1=cD 0)(fO:cY 5= .slice (some ⟨gB,0,none⟩) bP.length 1)(b1:cY 8= .bool dt)
    (pz:cY 132=au (u.a2.map gn) 3) (qk:cY 133=Z u.a2.length) (ql:cY 134=Z 0) {Q:dy->aP->W->Prop}
    (bY: ∀z t o,(∀k∈ld,k≠5->z k=cY k)->z 8= .bool (dt&&u.a2.all (kf u.bc.length u.a0))->z 5= .slice (some ⟨o,0,none⟩) (bP.length+u.a2.length) 1->t.Y o=some ⟨ew (bP++u.a2.map (·.name)),true⟩->(o=gB\/cP.next<=o)->cP.next<=t.next->(∀b,b<cP.next->b≠gB->t.Y b=cP.Y b)->Q (.ba 6) z t):fP al (.loop xz) cY cP Q:=by
  have sW:=bm nQ;have G2:=bm nR;have eS:u.a2.length<=1000:=h.mz;refine hI (aB:=⟨[re],[]⟩) (λi z t=> ∃o,(∀k∈ld,k≠5->z k=cY k)/\z 8= .bool (dt&&(u.a2.take i).all (kf u.bc.length u.a0))/\z 5= .slice (some ⟨o,0,none⟩) (bP.length+i) 1/\t.Y o=some ⟨ew (bP++(u.a2.take i).map (·.name)),true⟩/\(o=gB\/cP.next<=o)/\cP.next<=t.next/\(∀b,b<cP.next->b≠gB->t.Y b=cP.Y b)/\z 132=au (u.a2.map gn) 3/\z 133=Z u.a2.length/\z 134=Z i) u.a2.length ?_ ?_ 0 cY cP (ho _) ⟨gB,λ_ _ _=>rfl,by simpa using b1,by simpa using fO,by simpa using nR,.inl rfl,ev _,λ_ _ _=>rfl,pz,qk,ql⟩
  · rintro i z t ai ⟨o,fz,fL,h9,bX,fj,jL,fa,gI,fX,h8⟩ cK bk;have G:u.a2[i]?=some u.a2[i]:=dx ai;have b7:=gT (n:=i) (by omega);have bU:(i:Int)<u.a2.length:=(by omega);have n2:z 1=cD 0:=(fz 1 (by decide) (by decide)).trans bb;have aO:t.Y 0=some ⟨aS u,true⟩:=(by rw[fa 0 sW (Ne.symm s9)];exact nQ);have fq:=bm aO;have ct:=bm bX;have jf:o≠0:=(by rcases fj with rfl|bK<;>omega);obtain⟨jy,iZ⟩: ∃c,c=ew (bP++(u.a2.take i).map (·.name)):=⟨_,rfl⟩;rw[<-iZ]at bX;have iX:jy.length=bP.length+i:=(by rw[iZ,CQ,j7,j8,ni];omega);have kO:jy.take (bP.length+i)=jy:=ky (by omega);have gD:(bP.length+i+1)*16<=140737488355328/\bP.length+i<=9223372036854775806:=(by omega);have jm:jy++[fH u.a2[i].name]=ew (bP++(u.a2.take (i+1)).map (·.name)):=(by rw[lx G,uS,<-Dz,mL,wG,Ak,iZ]);have jQ:IntKind.i64.wrap ((u.bc.length:Int)-1)=(u.bc.length:Int)-1:=fl (by omega) (by have:=h.eG;omega);have wx:IntKind.i64.wrap ((u.a0.length:Int)-1)=(u.a0.length:Int)-1:=fl (by omega) (by have:=h.kr;omega);have hb:=DS (p:=(kf u.bc.length u.a0)) (b:=dt) G;obtain⟨aV,cC⟩: ∃aV,aV=(dt&&(u.a2.take i).all (kf u.bc.length u.a0)):=⟨_,rfl⟩;rw[<-cC]at fL hb;cases aV
    · skip
      simp(disch:=first|omega|simp only[DI.ak];omega) [xz,zK,Cl,Cm,gn,fL,h9,gI,fX,h8,bX,bU,b7,iX,kO,gD,-O,-U,-N,-S,-List.map_map];refine bk _ _ ⟨t.next+4+4,λk aa aA=>ji (b:=z k) (ey (d:=5) ?_ ?_ ?_ ?_ ?_ ?_ k aa aA) (fz k aa aA),?_,?_,?_,.inr (by omega),?_,λb hb dH=> ?_,?_,?_,?_⟩
      all_goals first
        |(intro aA;first|(exact absurd rfl aA)|(simp;done))
        |(rw[hb];simp[];done)
        |(rw[<-jm];simp(disch:=first|omega|simp only[DI.ak];omega) [-O,-U,-N,-S,-List.map_map];done)
        | (have lX:b≠o:=by rcases fj with rfl|bK<;>omega
           rw[<-fa b hb dH];simp(disch:=first|omega|simp only[DI.ak];omega) [-O,-U,-N,-S,-List.map_map];done)
        |(simp(disch:=first|omega|simp only[DI.ak];omega) [-O,-U,-N,-S,-List.map_map];done)
        |(simp(disch:=first|omega|simp only[DI.ak];omega) [gI,fX,-O,-U,-N,-S,-List.map_map];done)
        |(simp(disch:=first|omega|simp only[DI.ak];omega) [-O,-U,-N,-S,-List.map_map];omega)
        |(simp;omega)
    · skip
      cases da:dB u.a2[i].model 0 ((u.bc.length:Int)-1)
      · skip
        simp(disch:=first|omega|simp only[DI.ak];omega) [xz,zK,Cl,Cm,aS,gn,n2,fL,h9,gI,fX,h8,aO,bX,bU,b7,iX,kO,gD,jQ,da,-O,-U,-N,-S,-List.map_map];refine bk _ _ ⟨t.next+4+4,λk aa aA=>ji (b:=z k) (ey (d:=5) ?_ ?_ ?_ ?_ ?_ ?_ k aa aA) (fz k aa aA),?_,?_,?_,.inr (by omega),?_,λb hb dH=> ?_,?_,?_,?_⟩
        all_goals first
          |(intro aA;first|(exact absurd rfl aA)|(simp;done))
          |(rw[hb];simp[kf,da];done)
          |(rw[<-jm];simp(disch:=first|omega|simp only[DI.ak];omega) [-O,-U,-N,-S,-List.map_map];done)
          | (have lX:b≠o:=by rcases fj with rfl|bK<;>omega
             rw[<-fa b hb dH];simp(disch:=first|omega|simp only[DI.ak];omega) [-O,-U,-N,-S,-List.map_map];done)
          |(simp(disch:=first|omega|simp only[DI.ak];omega) [-O,-U,-N,-S,-List.map_map];done)
          |(simp(disch:=first|omega|simp only[DI.ak];omega) [gI,fX,-O,-U,-N,-S,-List.map_map];done)
          |(simp(disch:=first|omega|simp only[DI.ak];omega) [-O,-U,-N,-S,-List.map_map];omega)
          |(simp;omega)
      · skip
        cases dq:dB u.a2[i].sZ 0 ((u.a0.length:Int)-1)
        · skip
          simp(disch:=first|omega|simp only[DI.ak];omega) [xz,zK,Cl,Cm,aS,gn,n2,fL,h9,gI,fX,h8,aO,bX,bU,b7,iX,kO,gD,jQ,wx,da,dq,-O,-U,-N,-S,-List.map_map];refine bk _ _ ⟨t.next+4+4,λk aa aA=>ji (b:=z k) (ey (d:=5) ?_ ?_ ?_ ?_ ?_ ?_ k aa aA) (fz k aa aA),?_,?_,?_,.inr (by omega),?_,λb hb dH=> ?_,?_,?_,?_⟩
          all_goals first
            |(intro aA;first|(exact absurd rfl aA)|(simp;done))
            |(rw[hb];simp[kf,da,dq];done)
            |(rw[<-jm];simp(disch:=first|omega|simp only[DI.ak];omega) [-O,-U,-N,-S,-List.map_map];done)
            | (have lX:b≠o:=by rcases fj with rfl|bK<;>omega
               rw[<-fa b hb dH];simp(disch:=first|omega|simp only[DI.ak];omega) [-O,-U,-N,-S,-List.map_map];done)
            |(simp(disch:=first|omega|simp only[DI.ak];omega) [-O,-U,-N,-S,-List.map_map];done)
            |(simp(disch:=first|omega|simp only[DI.ak];omega) [gI,fX,-O,-U,-N,-S,-List.map_map];done)
            |(simp(disch:=first|omega|simp only[DI.ak];omega) [-O,-U,-N,-S,-List.map_map];omega)
            |(simp;omega)
        · skip
          have yL:=sO.1 dq;obtain⟨aW,ea⟩:=kS yL.1;have yW:aW<u.a0.length:=(by omega);have lW:(aW:Int)<u.a0.length:=(by omega);have bf:u.a0[aW]?=some u.a0[aW]:=dx yW;have aw:Ab u.a0 (aW:Int)=decide (u.a0[aW].hl=4):=(by unfold Ab;rw[rn,bf]);rw[ea]at dq;by_cases kh:u.a0[aW].hl=4
          · skip
            simp(disch:=first|omega|simp only[DI.ak];omega) [xz,zK,Cl,Cm,aS,gn,n2,fL,h9,gI,fX,h8,aO,bX,bU,b7,iX,kO,gD,jQ,wx,dU,da,dq,ea,lW,kh,-O,-U,-N,-S,-List.map_map];refine bk _ _ ⟨t.next+4+4,λk aa aA=>ji (b:=z k) (ey (d:=5) ?_ ?_ ?_ ?_ ?_ ?_ k aa aA) (fz k aa aA),?_,?_,?_,.inr (by omega),?_,λb hb dH=> ?_,?_,?_,?_⟩
            all_goals first
              |(intro aA;first|(exact absurd rfl aA)|(simp;done))
              |(rw[hb];simp[kf,aw,da,dq,ea,kh];done)
              |(rw[<-jm];simp(disch:=first|omega|simp only[DI.ak];omega) [-O,-U,-N,-S,-List.map_map];done)
              | (have lX:b≠o:=by rcases fj with rfl|bK<;>omega
                 rw[<-fa b hb dH];simp(disch:=first|omega|simp only[DI.ak];omega) [-O,-U,-N,-S,-List.map_map];done)
              |(simp(disch:=first|omega|simp only[DI.ak];omega) [-O,-U,-N,-S,-List.map_map];done)
              |(simp(disch:=first|omega|simp only[DI.ak];omega) [gI,fX,-O,-U,-N,-S,-List.map_map];done)
              |(simp(disch:=first|omega|simp only[DI.ak];omega) [-O,-U,-N,-S,-List.map_map];omega)
              |(simp;omega)
          · skip
            simp(disch:=first|omega|simp only[DI.ak];omega) [xz,zK,Cl,Cm,aS,gn,n2,fL,h9,gI,fX,h8,aO,bX,bU,b7,iX,kO,gD,jQ,wx,dU,da,dq,ea,lW,kh,-O,-U,-N,-S,-List.map_map];refine bk _ _ ⟨t.next+4+4,λk aa aA=>ji (b:=z k) (ey (d:=5) ?_ ?_ ?_ ?_ ?_ ?_ k aa aA) (fz k aa aA),?_,?_,?_,.inr (by omega),?_,λb hb dH=> ?_,?_,?_,?_⟩
            all_goals first
              |(intro aA;first|(exact absurd rfl aA)|(simp;done))
              |(rw[hb];simp[kf,aw,da,dq,ea,kh];done)
              |(rw[<-jm];simp(disch:=first|omega|simp only[DI.ak];omega) [-O,-U,-N,-S,-List.map_map];done)
              | (have lX:b≠o:=by rcases fj with rfl|bK<;>omega
                 rw[<-fa b hb dH];simp(disch:=first|omega|simp only[DI.ak];omega) [-O,-U,-N,-S,-List.map_map];done)
              |(simp(disch:=first|omega|simp only[DI.ak];omega) [-O,-U,-N,-S,-List.map_map];done)
              |(simp(disch:=first|omega|simp only[DI.ak];omega) [gI,fX,-O,-U,-N,-S,-List.map_map];done)
              |(simp(disch:=first|omega|simp only[DI.ak];omega) [-O,-U,-N,-S,-List.map_map];omega)
              |(simp;omega)
  · rintro z t ⟨o,fz,fL,h9,bX,fj,jL,fa,gI,fX,h8⟩;rw[mJ]at bX fL;simp(disch:=first|omega|simp only[DI.ak];omega) [xz,zK,fX,h8,-O,-U,-N,-S,-List.map_map];refine bY _ _ o (λk aa aA=>ji (b:=z k) (ey (d:=5) ?_ ?_ ?_ ?_ ?_ ?_ k aa aA) (fz k aa aA)) ?_ ?_ bX fj jL fa
    all_goals first
      |(intro aA;simp;done)
      |(simp[fL];done)
      |(simp[h9];done)
theorem ay4{u:bl}(h:bl.fN u){cY:aP}{cP:W}{gB:Nat}{bP:List ByteArray}{dt:Bool}(kl:bP.length<=10000)(nQ:cP.Y 0=some ⟨aS u,true⟩)(nR:cP.Y gB=some ⟨ew bP,true⟩)(s9:gB≠0)(bb:cY 1=cD 0)(fO:cY 6= .slice (some ⟨gB,0,none⟩) bP.length 1)(b1:cY 8= .bool dt)
    (pz:cY 174=au (u.cx.map eY) 17) (qk:cY 175=Z u.cx.length) (ql:cY 176=Z 0) {Q:dy->aP->W->Prop}
    (bY: ∀z t o,(∀k∈ld,k≠6->z k=cY k)->z 8= .bool (dt&&u.cx.all (ib · u.bc.length))->z 6= .slice (some ⟨o,0,none⟩) (bP.length+u.cx.length) 1->t.Y o=some ⟨ew (bP++u.cx.map (·.name)),true⟩->(o=gB\/cP.next<=o)->cP.next<=t.next->(∀b,b<cP.next->b≠gB->t.Y b=cP.Y b)->Q (.ba 8) z t):fP al (.loop Co) cY cP Q:=by
  have sW:=bm nQ;have G2:=bm nR;have eS:u.cx.length<=1000:=h.vS;refine hI (aB:=⟨[Tm u.bc.length (by have:=h.eG;omega)],[]⟩) (λi z t=> ∃o,(∀k∈ld,k≠6->z k=cY k)/\z 8= .bool (dt&&(u.cx.take i).all (ib · u.bc.length))/\z 6= .slice (some ⟨o,0,none⟩) (bP.length+i) 1/\t.Y o=some ⟨ew (bP++(u.cx.take i).map (·.name)),true⟩/\(o=gB\/cP.next<=o)/\cP.next<=t.next/\(∀b,b<cP.next->b≠gB->t.Y b=cP.Y b)/\z 174=au (u.cx.map eY) 17/\z 175=Z u.cx.length/\z 176=Z i) u.cx.length ?_ ?_ 0 cY cP (ho _) ⟨gB,λ_ _ _=>rfl,by simpa using b1,by simpa using fO,by simpa using nR,.inl rfl,ev _,λ_ _ _=>rfl,pz,qk,ql⟩
  · rintro i z t ai ⟨o,fz,fL,h9,bX,fj,jL,fa,gI,fX,h8⟩ cK bk;have G:u.cx[i]?=some u.cx[i]:=dx ai;have b7:=gT (n:=i) (by omega);have bU:(i:Int)<u.cx.length:=(by omega);have n2:z 1=cD 0:=(fz 1 (by decide) (by decide)).trans bb;have aO:t.Y 0=some ⟨aS u,true⟩:=(by rw[fa 0 sW (Ne.symm s9)];exact nQ);have fq:=bm aO;have ct:=bm bX;have jf:o≠0:=(by rcases fj with rfl|bK<;>omega);obtain⟨jy,iZ⟩: ∃c,c=ew (bP++(u.cx.take i).map (·.name)):=⟨_,rfl⟩;rw[<-iZ]at bX;have iX:jy.length=bP.length+i:=(by rw[iZ,CQ,j7,j8,ni];omega);have kO:jy.take (bP.length+i)=jy:=ky (by omega);have gD:(bP.length+i+1)*16<=140737488355328/\bP.length+i<=9223372036854775806:=(by omega);have jm:jy++[fH u.cx[i].name]=ew (bP++(u.cx.take (i+1)).map (·.name)):=(by rw[lx G,uS,<-Dz,mL,wG,Ak,iZ]);have da:=h.cx _ (mI ai);have hb:=DS (p:=(ib · u.bc.length)) (b:=dt) G;obtain⟨aV,cC⟩: ∃aV,aV=(dt&&(u.cx.take i).all (ib · u.bc.length)):=⟨_,rfl⟩;rw[<-cC]at fL hb;cases aV
    · skip
      simp(disch:=first|omega|simp only[DI.ak];omega) [Co,GC,Ll,Lm,eY,fL,h9,gI,fX,h8,bX,bU,b7,iX,kO,gD,-O,-U,-N,-S,-List.map_map];refine bk _ _ ⟨t.next+4+4,λk aa aA=>ji (b:=z k) (ey (d:=6) ?_ ?_ ?_ ?_ ?_ ?_ k aa aA) (fz k aa aA),?_,?_,?_,.inr (by omega),?_,λb hb dH=> ?_,?_,?_,?_⟩
      all_goals first
        |(intro aA;first|(exact absurd rfl aA)|(simp;done))
        |(rw[hb];simp[];done)
        |(rw[<-jm];simp(disch:=first|omega|simp only[DI.ak];omega) [-O,-U,-N,-S,-List.map_map];done)
        | (have lX:b≠o:=by rcases fj with rfl|bK<;>omega
           rw[<-fa b hb dH];simp(disch:=first|omega|simp only[DI.ak];omega) [-O,-U,-N,-S,-List.map_map];done)
        |(simp(disch:=first|omega|simp only[DI.ak];omega) [-O,-U,-N,-S,-List.map_map];done)
        |(simp(disch:=first|omega|simp only[DI.ak];omega) [gI,fX,-O,-U,-N,-S,-List.map_map];done)
        |(simp(disch:=first|omega|simp only[DI.ak];omega) [-O,-U,-N,-S,-List.map_map];omega)
        |(simp;omega)
    · skip
      cases dq:ib u.cx[i] u.bc.length
      · skip
        simp(disch:=first|omega|simp only[DI.ak];omega) [Co,GC,Ll,Lm,aS,eY,n2,fL,h9,gI,fX,h8,aO,bX,bU,b7,iX,kO,gD,dq,-O,-U,-N,-S,-List.map_map];refine bk _ _ ⟨t.next+4+4,λk aa aA=>ji (b:=z k) (ey (d:=6) ?_ ?_ ?_ ?_ ?_ ?_ k aa aA) (fz k aa aA),?_,?_,?_,.inr (by omega),?_,λb hb dH=> ?_,?_,?_,?_⟩
        all_goals first
          |(intro aA;first|(exact absurd rfl aA)|(simp;done))
          |(rw[hb];simp[dq];done)
          |(rw[<-jm];simp(disch:=first|omega|simp only[DI.ak];omega) [-O,-U,-N,-S,-List.map_map];done)
          | (have lX:b≠o:=by rcases fj with rfl|bK<;>omega
             rw[<-fa b hb dH];simp(disch:=first|omega|simp only[DI.ak];omega) [-O,-U,-N,-S,-List.map_map];done)
          |(simp(disch:=first|omega|simp only[DI.ak];omega) [-O,-U,-N,-S,-List.map_map];done)
          |(simp(disch:=first|omega|simp only[DI.ak];omega) [gI,fX,-O,-U,-N,-S,-List.map_map];done)
          |(simp(disch:=first|omega|simp only[DI.ak];omega) [-O,-U,-N,-S,-List.map_map];omega)
          |(simp;omega)
      · skip
        simp(disch:=first|omega|simp only[DI.ak];omega) [Co,GC,Ll,Lm,aS,eY,n2,fL,h9,gI,fX,h8,aO,bX,bU,b7,iX,kO,gD,dq,-O,-U,-N,-S,-List.map_map];refine bk _ _ ⟨t.next+4+4,λk aa aA=>ji (b:=z k) (ey (d:=6) ?_ ?_ ?_ ?_ ?_ ?_ k aa aA) (fz k aa aA),?_,?_,?_,.inr (by omega),?_,λb hb dH=> ?_,?_,?_,?_⟩
        all_goals first
          |(intro aA;first|(exact absurd rfl aA)|(simp;done))
          |(rw[hb];simp[dq];done)
          |(rw[<-jm];simp(disch:=first|omega|simp only[DI.ak];omega) [-O,-U,-N,-S,-List.map_map];done)
          | (have lX:b≠o:=by rcases fj with rfl|bK<;>omega
             rw[<-fa b hb dH];simp(disch:=first|omega|simp only[DI.ak];omega) [-O,-U,-N,-S,-List.map_map];done)
          |(simp(disch:=first|omega|simp only[DI.ak];omega) [-O,-U,-N,-S,-List.map_map];done)
          |(simp(disch:=first|omega|simp only[DI.ak];omega) [gI,fX,-O,-U,-N,-S,-List.map_map];done)
          |(simp(disch:=first|omega|simp only[DI.ak];omega) [-O,-U,-N,-S,-List.map_map];omega)
          |(simp;omega)
  · rintro z t ⟨o,fz,fL,h9,bX,fj,jL,fa,gI,fX,h8⟩;rw[mJ]at bX fL;simp(disch:=first|omega|simp only[DI.ak];omega) [Co,GC,fX,h8,-O,-U,-N,-S,-List.map_map];refine bY _ _ o (λk aa aA=>ji (b:=z k) (ey (d:=6) ?_ ?_ ?_ ?_ ?_ ?_ k aa aA) (fz k aa aA)) ?_ ?_ bX fj jL fa
    all_goals first
      |(intro aA;simp;done)
      |(simp[fL];done)
      |(simp[h9];done)
theorem ay5{u:bl}(h:bl.fN u){cY:aP}{cP:W}{gB:Nat}{bP:List ByteArray}{dt:Bool}(kl:bP.length<=10000)(nQ:cP.Y 0=some ⟨aS u,true⟩)(nR:cP.Y gB=some ⟨ew bP,true⟩)(s9:gB≠0)(bb:cY 1=cD 0)(fO:cY 7= .slice (some ⟨gB,0,none⟩) bP.length 1)(b1:cY 8= .bool dt)
    (pz:cY 195=au (u.cb.map g0) 2) (qk:cY 196=Z u.cb.length) (ql:cY 197=Z 0) {Q:dy->aP->W->Prop}
    (bY: ∀z t o,(∀k∈ld,k≠7->z k=cY k)->z 8= .bool (dt&&u.cb.all (ng u.cx.length))->z 7= .slice (some ⟨o,0,none⟩) (bP.length+u.cb.length) 1->t.Y o=some ⟨ew (bP++u.cb.map (·.name)),true⟩->(o=gB\/cP.next<=o)->cP.next<=t.next->(∀b,b<cP.next->b≠gB->t.Y b=cP.Y b)->Q (.ba 10) z t):fP al (.loop Cp) cY cP Q:=by
  have sW:=bm nQ;have G2:=bm nR;have eS:u.cb.length<=1000:=h.r0;refine hI (aB:=⟨[re],[]⟩) (λi z t=> ∃o,(∀k∈ld,k≠7->z k=cY k)/\z 8= .bool (dt&&(u.cb.take i).all (ng u.cx.length))/\z 7= .slice (some ⟨o,0,none⟩) (bP.length+i) 1/\t.Y o=some ⟨ew (bP++(u.cb.take i).map (·.name)),true⟩/\(o=gB\/cP.next<=o)/\cP.next<=t.next/\(∀b,b<cP.next->b≠gB->t.Y b=cP.Y b)/\z 195=au (u.cb.map g0) 2/\z 196=Z u.cb.length/\z 197=Z i) u.cb.length ?_ ?_ 0 cY cP (ho _) ⟨gB,λ_ _ _=>rfl,by simpa using b1,by simpa using fO,by simpa using nR,.inl rfl,ev _,λ_ _ _=>rfl,pz,qk,ql⟩
  · rintro i z t ai ⟨o,fz,fL,h9,bX,fj,jL,fa,gI,fX,h8⟩ cK bk;have G:u.cb[i]?=some u.cb[i]:=dx ai;have b7:=gT (n:=i) (by omega);have bU:(i:Int)<u.cb.length:=(by omega);have n2:z 1=cD 0:=(fz 1 (by decide) (by decide)).trans bb;have aO:t.Y 0=some ⟨aS u,true⟩:=(by rw[fa 0 sW (Ne.symm s9)];exact nQ);have fq:=bm aO;have ct:=bm bX;have jf:o≠0:=(by rcases fj with rfl|bK<;>omega);obtain⟨jy,iZ⟩: ∃c,c=ew (bP++(u.cb.take i).map (·.name)):=⟨_,rfl⟩;rw[<-iZ]at bX;have iX:jy.length=bP.length+i:=(by rw[iZ,CQ,j7,j8,ni];omega);have kO:jy.take (bP.length+i)=jy:=ky (by omega);have gD:(bP.length+i+1)*16<=140737488355328/\bP.length+i<=9223372036854775806:=(by omega);have jm:jy++[fH u.cb[i].name]=ew (bP++(u.cb.take (i+1)).map (·.name)):=(by rw[lx G,uS,<-Dz,mL,wG,Ak,iZ]);have jQ:IntKind.i64.wrap ((u.cx.length:Int)-1)=(u.cx.length:Int)-1:=fl (by omega) (by have:=h.vS;omega);have hb:=DS (p:=(ng u.cx.length)) (b:=dt) G;obtain⟨aV,cC⟩: ∃aV,aV=(dt&&(u.cb.take i).all (ng u.cx.length)):=⟨_,rfl⟩;rw[<-cC]at fL hb;cases aV
    · skip
      simp(disch:=first|omega|simp only[DI.ak];omega) [Cp,GD,Ln,Lo,g0,fL,h9,gI,fX,h8,bX,bU,b7,iX,kO,gD,-O,-U,-N,-S,-List.map_map];refine bk _ _ ⟨t.next+4+4,λk aa aA=>ji (b:=z k) (ey (d:=7) ?_ ?_ ?_ ?_ ?_ ?_ k aa aA) (fz k aa aA),?_,?_,?_,.inr (by omega),?_,λb hb dH=> ?_,?_,?_,?_⟩
      all_goals first
        |(intro aA;first|(exact absurd rfl aA)|(simp;done))
        |(rw[hb];simp[];done)
        |(rw[<-jm];simp(disch:=first|omega|simp only[DI.ak];omega) [-O,-U,-N,-S,-List.map_map];done)
        | (have lX:b≠o:=by rcases fj with rfl|bK<;>omega
           rw[<-fa b hb dH];simp(disch:=first|omega|simp only[DI.ak];omega) [-O,-U,-N,-S,-List.map_map];done)
        |(simp(disch:=first|omega|simp only[DI.ak];omega) [-O,-U,-N,-S,-List.map_map];done)
        |(simp(disch:=first|omega|simp only[DI.ak];omega) [gI,fX,-O,-U,-N,-S,-List.map_map];done)
        |(simp(disch:=first|omega|simp only[DI.ak];omega) [-O,-U,-N,-S,-List.map_map];omega)
        |(simp;omega)
    · skip
      cases da:dB u.cb[i].pv 0 ((u.cx.length:Int)-1)
      · skip
        simp(disch:=first|omega|simp only[DI.ak];omega) [Cp,GD,Ln,Lo,aS,g0,n2,fL,h9,gI,fX,h8,aO,bX,bU,b7,iX,kO,gD,jQ,da,-O,-U,-N,-S,-List.map_map];refine bk _ _ ⟨t.next+4+4,λk aa aA=>ji (b:=z k) (ey (d:=7) ?_ ?_ ?_ ?_ ?_ ?_ k aa aA) (fz k aa aA),?_,?_,?_,.inr (by omega),?_,λb hb dH=> ?_,?_,?_,?_⟩
        all_goals first
          |(intro aA;first|(exact absurd rfl aA)|(simp;done))
          |(rw[hb];simp[ng,da];done)
          |(rw[<-jm];simp(disch:=first|omega|simp only[DI.ak];omega) [-O,-U,-N,-S,-List.map_map];done)
          | (have lX:b≠o:=by rcases fj with rfl|bK<;>omega
             rw[<-fa b hb dH];simp(disch:=first|omega|simp only[DI.ak];omega) [-O,-U,-N,-S,-List.map_map];done)
          |(simp(disch:=first|omega|simp only[DI.ak];omega) [-O,-U,-N,-S,-List.map_map];done)
          |(simp(disch:=first|omega|simp only[DI.ak];omega) [gI,fX,-O,-U,-N,-S,-List.map_map];done)
          |(simp(disch:=first|omega|simp only[DI.ak];omega) [-O,-U,-N,-S,-List.map_map];omega)
          |(simp;omega)
      · skip
        simp(disch:=first|omega|simp only[DI.ak];omega) [Cp,GD,Ln,Lo,aS,g0,n2,fL,h9,gI,fX,h8,aO,bX,bU,b7,iX,kO,gD,jQ,da,-O,-U,-N,-S,-List.map_map];refine bk _ _ ⟨t.next+4+4,λk aa aA=>ji (b:=z k) (ey (d:=7) ?_ ?_ ?_ ?_ ?_ ?_ k aa aA) (fz k aa aA),?_,?_,?_,.inr (by omega),?_,λb hb dH=> ?_,?_,?_,?_⟩
        all_goals first
          |(intro aA;first|(exact absurd rfl aA)|(simp;done))
          |(rw[hb];simp[ng,da];done)
          |(rw[<-jm];simp(disch:=first|omega|simp only[DI.ak];omega) [-O,-U,-N,-S,-List.map_map];done)
          | (have lX:b≠o:=by rcases fj with rfl|bK<;>omega
             rw[<-fa b hb dH];simp(disch:=first|omega|simp only[DI.ak];omega) [-O,-U,-N,-S,-List.map_map];done)
          |(simp(disch:=first|omega|simp only[DI.ak];omega) [-O,-U,-N,-S,-List.map_map];done)
          |(simp(disch:=first|omega|simp only[DI.ak];omega) [gI,fX,-O,-U,-N,-S,-List.map_map];done)
          |(simp(disch:=first|omega|simp only[DI.ak];omega) [-O,-U,-N,-S,-List.map_map];omega)
          |(simp;omega)
  · rintro z t ⟨o,fz,fL,h9,bX,fj,jL,fa,gI,fX,h8⟩;rw[mJ]at bX fL;simp(disch:=first|omega|simp only[DI.ak];omega) [Cp,GD,fX,h8,-O,-U,-N,-S,-List.map_map];refine bY _ _ o (λk aa aA=>ji (b:=z k) (ey (d:=7) ?_ ?_ ?_ ?_ ?_ ?_ k aa aA) (fz k aa aA)) ?_ ?_ bX fj jL fa
    all_goals first
      |(intro aA;simp;done)
      |(simp[fL];done)
      |(simp[h9];done)
structure e4(u:bl)(b:Bool)(c4:Nat->Nat)(b8:Nat->List ByteArray)(z:aP)(t:W):Prop where
  bb:z 1=cD 0
  b1:z 8= .bool b
  aO:t.Y 0=some ⟨aS u,true⟩
  mD: ∀k,3<=k->k<=7->z k= .slice (some ⟨c4 k,0,none⟩) (b8 k).length 1
  g: ∀k,3<=k->k<=7->t.Y (c4 k)=some ⟨ew (b8 k),true⟩
  inj: ∀i j,3<=i->i<=7->3<=j->j<=7->c4 i=c4 j->i=j
  m5: ∀k,3<=k->k<=7->c4 k≠0
theorem e4.jW{u:bl}{b:Bool}{c4:Nat->Nat}{b8:Nat->List ByteArray}{z aj:aP}{t:W}(h:e4 u b c4 b8 z t)(hz:aj 8=z 8)(M: ∀k∈ld,k≠0->aj k=z k):e4 u b c4 b8 aj t:=
  ⟨(M 1 (by decide) (by decide)).trans h.bb,hz.trans h.b1,h.aO,λk D H=>by have:k=3\/k=4\/k=5\/k=6\/k=7:=(by omega);have aw:k∈ld:=(by rcases this with rfl|rfl|rfl|rfl|rfl<;>decide);exact(M k aw (by omega)).trans (h.mD k D H),h.g,h.inj,h.m5⟩
theorem e4.step{u:bl}{dt c8:Bool}{c4:Nat->Nat}{b8:Nat->List ByteArray}{cY z:aP}{cP t:W}(h:e4 u dt c4 b8 cY cP)(d:Nat)(aq:3<=d)(fs:d<=7){o:Nat}{h5:List ByteArray}{n:Nat}(ax:h5.length=n)
    (fz: ∀k∈ld,k≠d->z k=cY k) (hz:z 8= .bool c8) (fO:z d= .slice (some ⟨o,0,none⟩) ((b8 d).length+n) 1) (bX:t.Y o=some ⟨ew (b8 d++h5),true⟩) (fj:o=c4 d\/cP.next<=o) (jL:cP.next<=t.next) (fa: ∀b,b<cP.next->b≠c4 d->t.Y b=cP.Y b):
    e4 u c8 (dK c4 d o) (dK b8 d (b8 d++h5)) z t:=by
  have c0: ∀k,3<=k->k<=7->c4 k<cP.next:= λk a b=>bm (h.g k a b)
  have fq:=bm h.aO;refine⟨(fz 1 (by decide) (by omega)).trans h.bb,hz,?_,λk a b=> ?_,λk a b=> ?_,λi j a b c e bh=> ?_,λk a b=> ?_⟩
  · rw[fa 0 fq (Ne.symm (h.m5 d aq fs))];exact h.aO
  · by_cases e:k=d
    · subst e;rw[rj,rj,fO,j7,ax]
    · rw[nf e,nf e];have:k=3\/k=4\/k=5\/k=6\/k=7:=(by omega);have aw:k∈ld:=(by rcases this with rfl|rfl|rfl|rfl|rfl<;>decide);exact(fz k aw e).trans (h.mD k a b)
  · by_cases e:k=d
    · subst e;rw[rj,rj];exact bX
    · rw[nf e,nf e,fa _ (c0 k a b) (λbh=>e (h.inj k d a b aq fs bh))];exact h.g k a b
  · by_cases aL:i=d
    · by_cases aU:j=d
      · omega
      · rw[aL,rj,nf aU]at bh;rcases fj with bK|bK
        · rw[bK]at bh;have:=h.inj d j aq fs c e bh;omega
        · have:=c0 j c e;omega
    · by_cases aU:j=d
      · rw[aU,rj,nf aL]at bh;rcases fj with bK|bK
        · rw[bK]at bh;have:=h.inj i d a b aq fs bh;omega
        · have:=c0 i a b;omega
      · rw[nf aL,nf aU]at bh;exact h.inj i j a b c e bh
  · by_cases e:k=d
    · subst e;rw[rj];rcases fj with bK|bK
      · rw[bK];exact h.m5 k a b
      · omega
    · rw[nf e];exact h.m5 k a b
theorem afA{u:bl}{c:I}{z:aP}{t:W}{Q:dy->aP->W->Prop}(bb:z 1=cD 0)(b1:z 8= .bool true)(eP:z 3= .slice none 0 0)(nH:z 4= .slice none 0 0)(cu:z 5= .slice none 0 0)(fU:z 6= .slice none 0 0)(dW:z 7= .slice none 0 0)
    (aO:t.Y 0=some ⟨aS u,true⟩) (h: ∀aj aT c4,e4 u true c4 (λ_=>[]) aj aT->(∀k,8<k->aj k=z k)->fP al c aj aT Q):fP al c z t Q:=by
  have fq:=bm aO;obtain⟨dT,CS⟩: ∃dT,t.next=dT:=⟨_,rfl⟩
  refine Ia 3 1 eP λwm q0 hv ui=> ?_;refine Ia 4 1 (by simpa using nH) λayG aGO jx L3=> ?_;refine Ia 5 1 (by simpa using cu) λayH aGP lf RS=> ?_;refine Ia 6 1 (by simpa using fU) λayI aGQ tH L4=> ?_;refine Ia 7 1 (by simpa using dW) λNg Mo IF GY=> ?_;have lh:wm.next=dT+1:=by omega
  have qC:ayG.next=dT+2:=by omega
  have UX:ayH.next=dT+3:=by omega
  have UY:ayI.next=dT+4:=by omega
  rw[CS]at hv;rw[lh]at jx;rw[qC]at lf;rw[UX]at tH;rw[UY]at IF;rw[CS,lh,qC,UX,UY];refine h _ _ (λk=>dT+(k-3)) ⟨by simpa using bb,by simpa using b1,?_,λk a b=> ?_,λk a b=> ?_,λi j a b c d e=>by omega,λk a b=>by omega⟩ (λk aa=>by simp only[pE,show¬k=3 by omega,show¬k=4 by omega,show¬k=5 by omega,show¬k=6 by omega,show¬k=7 by omega,if_false])
  · rw[GY 0 (by omega),L4 0 (by omega),RS 0 (by omega),L3 0 (by omega),ui 0 (by omega)];exact aO
  · have:k=3\/k=4\/k=5\/k=6\/k=7:=(by omega);rcases this with rfl|rfl|rfl|rfl|rfl<;>simp
  · have:k=3\/k=4\/k=5\/k=6\/k=7:=(by omega);rcases this with rfl|rfl|rfl|rfl|rfl
    · show Ng.Y dT=_;rw[GY dT (by omega),L4 dT (by omega),RS dT (by omega),L3 dT (by omega)];exact hv
    · show Ng.Y (dT+1)=_;rw[GY _ (by omega),L4 _ (by omega),RS _ (by omega)];exact jx
    · show Ng.Y (dT+2)=_;rw[GY _ (by omega),L4 _ (by omega)];exact lf
    · show Ng.Y (dT+3)=_;rw[GY _ (by omega)];exact tH
    · exact IF
noncomputable def gf(u:bl):Bool:=dB u.ext 1 4&&(decide (u.cB.length<=4)&&(decide (u.bc.length<=4)&&(decide (u.a0.length<=40)&&(decide (u.a2.length<=24)&&(decide (u.cx.length<=4)&&(decide (u.cb.length<=12)&&(nn u.a0&&(u.cB.all hS.l6&&(u.bc.all (kq u.cB.length)&&(u.a2.all (kf u.bc.length u.a0)&&(u.cx.all (ib · u.bc.length)&&(u.cb.all (ng u.cx.length)&&(ej (u.cB.map (·.name))&&(ej (u.bc.map (·.name))&&(ej (u.a0.tail.map (·.name)++u.a2.map (·.name))&&(ej (u.cx.map (·.name))&&ej (u.cb.map (·.name))))))))))))))))))
theorem afn{u:bl}(h:bl.fN u):bH al 62 [.agg (aS u).toArray] (Z (if gf u then 0 else 1)):=by
  refine ed (dL (aB:=⟨[re,Tk u h,Th],[]⟩) asb (by kernel_rfl) (by simp[sP]) ?_);cases D:dB u.ext 1 4
  · have aY:gf u=false:=(by simp[gf,D]);simp(disch:=first|omega|simp only[DI.ak];omega) [sP,tZ,ua,aS,D,aY,-O,-U,-N,-S,-List.map_map]
  by_cases jH:(4:Int)<u.cB.length
  · have aY:gf u=false:=by
      have: ¬u.cB.length<=4:=(by omega);simp[gf,this]
    simp(disch:=first|omega|simp only[DI.ak];omega) [sP,tZ,ua,aS,D,jH,aY,-O,-U,-N,-S,-List.map_map]
  have fq:u.cB.length<=4:=by omega
  by_cases bN:(4:Int)<u.bc.length
  · have aY:gf u=false:=by
      have: ¬u.bc.length<=4:=(by omega);simp[gf,this]
    simp(disch:=first|omega|simp only[DI.ak];omega) [sP,tZ,ua,aS,D,jH,bN,aY,-O,-U,-N,-S,-List.map_map]
  have iE:u.bc.length<=4:=by omega
  by_cases cI:(40:Int)<u.a0.length
  · have aY:gf u=false:=by
      have: ¬u.a0.length<=40:=(by omega);simp[gf,this]
    simp(disch:=first|omega|simp only[DI.ak];omega) [sP,tZ,ua,aS,D,jH,bN,cI,aY,-O,-U,-N,-S,-List.map_map]
  have iP:u.a0.length<=40:=by omega
  by_cases hq:(24:Int)<u.a2.length
  · have aY:gf u=false:=by
      have: ¬u.a2.length<=24:=(by omega);simp[gf,this]
    simp(disch:=first|omega|simp only[DI.ak];omega) [sP,tZ,ua,aS,D,jH,bN,cI,hq,aY,-O,-U,-N,-S,-List.map_map]
  have ac8:u.a2.length<=24:=by omega
  by_cases iH:(4:Int)<u.cx.length
  · have aY:gf u=false:=by
      have: ¬u.cx.length<=4:=(by omega);simp[gf,this]
    simp(disch:=first|omega|simp only[DI.ak];omega) [sP,tZ,ua,aS,D,jH,bN,cI,hq,iH,aY,-O,-U,-N,-S,-List.map_map]
  have auL:u.cx.length<=4:=by omega
  by_cases lS:(12:Int)<u.cb.length
  · have aY:gf u=false:=by
      have: ¬u.cb.length<=12:=(by omega);simp[gf,this]
    simp(disch:=first|omega|simp only[DI.ak];omega) [sP,tZ,ua,aS,D,jH,bN,cI,hq,iH,lS,aY,-O,-U,-N,-S,-List.map_map]
  have z3:u.cb.length<=12:=by omega
  cases aA:nn u.a0
  · have aY:gf u=false:=(by simp[gf,aA]);simp(disch:=first|omega|simp only[DI.ak];omega) [sP,tZ,ua,aS,D,jH,bN,cI,hq,iH,lS,aA,aY,-O,-U,-N,-S,-List.map_map]
  obtain⟨R,ds,iq⟩: ∃R ds,u.a0=R::ds:=by
    cases bf:u.a0 with
    |nil=>rw[bf]at aA;cases aA
    |cons R ds=>exact⟨R,ds,rfl⟩
  have xa:ds.length<=1000:=by rw[iq]at iP;simp at iP;omega
  simp(disch:=first|omega|simp only[DI.ak];omega) [sP,tZ,ua,acp,acr,acs,aS,D,jH,bN,cI,hq,iH,lS,aA,-O,-U,-N,-S,-List.map_map];refine afA (u:=u) (by simp) (by simp) (by simp) (by simp) (by simp) (by simp) (by simp) (by simp(disch:=first|omega|simp only[DI.ak];omega) [aS,-O,-U,-N,-S,-List.map_map]) λz t c4 af aa=> ?_;have pz:=aa 67 (by decide);have qk:=aa 68 (by decide);have ql:=aa 69 (by decide);refine ay0 h (bP:=[]) (by simp) af.aO (af.g 3 (by decide) (by decide)) (af.m5 3 (by decide) (by decide)) af.bb (af.mD 3 (by decide) (by decide)) af.b1 (by rw[pz];simp) (by rw[qk];simp) (by rw[ql];simp) λbI bO ij a7 td bD b4 e0 fT nF=> ?_;have af:=e4.step af 3 (by decide) (by decide) (h5:=u.cB.map (·.name)) (by simp) a7 td bD b4 e0 fT nF;simp(disch:=first|omega|simp only[DI.ak];omega) [acu,aS,af.bb,af.aO,-O,-U,-N,-S,-List.map_map];refine ay1 h (bP:=_) (by simp[dK]) af.aO (af.g 4 (by decide) (by decide)) (af.m5 4 (by decide) (by decide)) (by simp[af.bb]) (by simp[af.mD 4 (by decide) (by decide)]) (ji (by simp) af.b1) (by simp) (by simp) (by simp) λdh iB jO a7 td bD b4 e0 fT nF=> ?_;have af:=e4.step (af.jW (by simp) (ey (d:=0) (λ_=>by simp) (λ_=>by simp) (λ_=>by simp) (λ_=>by simp) (λ_=>by simp) (λ_=>by simp))) 4 (by decide) (by decide) (h5:=u.bc.map (·.name)) (by simp) a7 td bD b4 e0 fT nF;have Oi:(List.take u.a0.length (u.a0.map dU)).tail=ds.map dU:=by rw[ky (by simp),iq];rfl
  have Oj:u.a0.length-1=ds.length:=by rw[iq];rfl
  have aiY:1<=u.a0.length:=by rw[iq];simp
  have Ph:(1:Int)<=u.a0.length:=by omega
  simp(disch:=first|omega|simp only[DI.ak];omega) [ack,aS,af.bb,af.aO,Ph,-O,-U,-N,-S,-List.map_map];rw[Oi,Oj];refine ay2 h xa (bP:=_) (by simp[dK]) af.aO (af.g 5 (by decide) (by decide)) (af.m5 5 (by decide) (by decide)) (by simp[af.bb]) (by simp[af.mD 5 (by decide) (by decide)]) (ji (by simp) af.b1) (by simp) (by simp) (by simp) λwH Nh Sm a7 td bD b4 e0 fT nF=> ?_;have af:=e4.step (af.jW (by simp) (ey (d:=0) (λ_=>by simp) (λ_=>by simp) (λ_=>by simp) (λ_=>by simp) (λ_=>by simp) (λ_=>by simp))) 5 (by decide) (by decide) (h5:=ds.map (·.name)) (by simp) a7 td bD b4 e0 fT nF;simp(disch:=first|omega|simp only[DI.ak];omega) [acn,aS,af.bb,af.aO,-O,-U,-N,-S,-List.map_map];refine ay3 h (bP:=_) (by simp[dK]<;>omega) af.aO (af.g 5 (by decide) (by decide)) (af.m5 5 (by decide) (by decide)) (by simp[af.bb]) (by simp[af.mD 5 (by decide) (by decide)]) (ji (by simp) af.b1) (by simp) (by simp) (by simp) λNO ae2 av0 a7 td bD b4 e0 fT nF=> ?_;have af:=e4.step (af.jW (by simp) (ey (d:=0) (λ_=>by simp) (λ_=>by simp) (λ_=>by simp) (λ_=>by simp) (λ_=>by simp) (λ_=>by simp))) 5 (by decide) (by decide) (h5:=u.a2.map (·.name)) (by simp) a7 td bD b4 e0 fT nF;simp(disch:=first|omega|simp only[DI.ak];omega) [aco,aS,af.bb,af.aO,-O,-U,-N,-S,-List.map_map];refine ay4 h (bP:=_) (by simp[dK]) af.aO (af.g 6 (by decide) (by decide)) (af.m5 6 (by decide) (by decide)) (by simp[af.bb]) (by simp[af.mD 6 (by decide) (by decide)]) (ji (by simp) af.b1) (by simp) (by simp) (by simp) λaNs ae3 aG8 a7 td bD b4 e0 fT nF=> ?_;have af:=e4.step (af.jW (by simp) (ey (d:=0) (λ_=>by simp) (λ_=>by simp) (λ_=>by simp) (λ_=>by simp) (λ_=>by simp) (λ_=>by simp))) 6 (by decide) (by decide) (h5:=u.cx.map (·.name)) (by simp) a7 td bD b4 e0 fT nF;simp(disch:=first|omega|simp only[DI.ak];omega) [acq,aS,af.bb,af.aO,-O,-U,-N,-S,-List.map_map];refine ay5 h (bP:=_) (by simp[dK]) af.aO (af.g 7 (by decide) (by decide)) (af.m5 7 (by decide) (by decide)) (by simp[af.bb]) (by simp[af.mD 7 (by decide) (by decide)]) (ji (by simp) af.b1) (by simp) (by simp) (by simp) λDD wm aG9 a7 td bD b4 e0 fT nF=> ?_;have af:=e4.step (af.jW (by simp) (ey (d:=0) (λ_=>by simp) (λ_=>by simp) (λ_=>by simp) (λ_=>by simp) (λ_=>by simp) (λ_=>by simp))) 7 (by decide) (by decide) (h5:=u.cb.map (·.name)) (by simp) a7 td bD b4 e0 fT nF;obtain⟨aV,cC⟩: ∃aV,DD 8= .bool aV/\aV=(u.cB.all hS.l6&&(u.bc.all (kq u.cB.length)&&(u.a2.all (kf u.bc.length u.a0)&&(u.cx.all (ib · u.bc.length)&&u.cb.all (ng u.cx.length))))):=⟨_,af.b1,by simp[yz]⟩;obtain⟨b1,cC⟩:=cC;have ab:gf u=(aV&&(ej (u.cB.map (·.name))&&(ej (u.bc.map (·.name))&&(ej (ds.map (·.name)++u.a2.map (·.name))&&(ej (u.cx.map (·.name))&&ej (u.cb.map (·.name))))))):=by rw[cC];simp[gf,D,fq,iE,iP,ac8,auL,z3,aA,yz];rw[iq];rfl
  obtain⟨h0,DH,mx,cN,cz⟩: ∃o L,DD 3= .slice (some ⟨o,0,none⟩) L.length 1/\wm.Y o=some ⟨ew L,true⟩/\L=u.cB.map (·.name):=⟨_,_,af.mD 3 (by decide) (by decide),af.g 3 (by decide) (by decide),by simp[dK]⟩;have n8:DH.length<1000000:=by rw[cz];simp<;>omega
  obtain⟨yP,yQ,yR⟩:=CR (l:=DH) (n:=DH.length) rfl;obtain⟨aCZ,JF⟩: ∃c,c=ew DH:=⟨_,rfl⟩;rw[<-JF]at cN yP yQ yR;rw[<-cz]at ab;clear cz;obtain⟨iR,DJ,CK,dP,gR⟩: ∃o L,DD 4= .slice (some ⟨o,0,none⟩) L.length 1/\wm.Y o=some ⟨ew L,true⟩/\L=u.bc.map (·.name):=⟨_,_,af.mD 4 (by decide) (by decide),af.g 4 (by decide) (by decide),by simp[dK]⟩;have Np:DJ.length<1000000:=by rw[gR];simp<;>omega
  obtain⟨Bk,Bl,Bm⟩:=CR (l:=DJ) (n:=DJ.length) rfl;obtain⟨aC0,qO⟩: ∃c,c=ew DJ:=⟨_,rfl⟩;rw[<-qO]at dP Bk Bl Bm;rw[<-gR]at ab;clear gR;obtain⟨uu,DK,G5,fF,mh⟩: ∃o L,DD 5= .slice (some ⟨o,0,none⟩) L.length 1/\wm.Y o=some ⟨ew L,true⟩/\L=ds.map (·.name)++u.a2.map (·.name):=⟨_,_,af.mD 5 (by decide) (by decide),af.g 5 (by decide) (by decide),by simp[dK]⟩;have afg:DK.length<1000000:=by rw[mh];simp<;>omega
  obtain⟨Eo,Ep,Er⟩:=CR (l:=DK) (n:=DK.length) rfl;obtain⟨aC1,aiF⟩: ∃c,c=ew DK:=⟨_,rfl⟩;rw[<-aiF]at fF Eo Ep Er;rw[<-mh]at ab;clear mh;obtain⟨Hk,DL,z8,fg,kg⟩: ∃o L,DD 6= .slice (some ⟨o,0,none⟩) L.length 1/\wm.Y o=some ⟨ew L,true⟩/\L=u.cx.map (·.name):=⟨_,_,af.mD 6 (by decide) (by decide),af.g 6 (by decide) (by decide),by simp[dK]⟩;have aMA:DL.length<1000000:=by rw[kg];simp<;>omega
  obtain⟨Jp,Jq,Jr⟩:=CR (l:=DL) (n:=DL.length) rfl;obtain⟨aC2,aiG⟩: ∃c,c=ew DL:=⟨_,rfl⟩;rw[<-aiG]at fg Jp Jq Jr;rw[<-kg]at ab;clear kg;obtain⟨aHw,DM,adf,rE,qH⟩: ∃o L,DD 7= .slice (some ⟨o,0,none⟩) L.length 1/\wm.Y o=some ⟨ew L,true⟩/\L=u.cb.map (·.name):=⟨_,_,af.mD 7 (by decide) (by decide),af.g 7 (by decide) (by decide),by simp[dK]⟩;have aMC:DM.length<1000000:=by rw[qH];simp<;>omega
  obtain⟨OH,OI,OJ⟩:=CR (l:=DM) (n:=DM.length) rfl;obtain⟨aC3,aiH⟩: ∃c,c=ew DM:=⟨_,rfl⟩;rw[<-aiH]at rE OH OI OJ;rw[<-qH]at ab;clear qH;cases aV
  · have aY:gf u=false:=(by rw[ab];rfl);simp(disch:=first|omega|simp only[DI.ak];omega) [xw,xx,aY,b1,-O,-U,-N,-S,-List.map_map]
  cases wu:ej DH
  · have aY:gf u=false:=(by rw[ab];simp[wu]);simp(disch:=first|omega|simp only[DI.ak];omega) [xw,xx,aY,wu,b1,mx,cN,yP,yQ,yR,rD,q5,-O,-U,-N,-S,-List.map_map]
  cases wv:ej DJ
  · have aY:gf u=false:=(by rw[ab];simp[wv]);simp(disch:=first|omega|simp only[DI.ak];omega) [xw,xx,aY,wv,wu,b1,mx,cN,yP,yQ,yR,CK,dP,Bk,Bl,Bm,rD,q5,-O,-U,-N,-S,-List.map_map]
  cases Dq:ej DK
  · have aY:gf u=false:=(by rw[ab];simp[Dq]);simp(disch:=first|omega|simp only[DI.ak];omega) [xw,xx,aY,Dq,wu,wv,b1,mx,cN,yP,yQ,yR,CK,dP,Bk,Bl,Bm,G5,fF,Eo,Ep,Er,rD,q5,-O,-U,-N,-S,-List.map_map]
  cases H6:ej DL
  · have aY:gf u=false:=(by rw[ab];simp[H6]);simp(disch:=first|omega|simp only[DI.ak];omega) [xw,xx,aY,H6,wu,wv,Dq,b1,mx,cN,yP,yQ,yR,CK,dP,Bk,Bl,Bm,G5,fF,Eo,Ep,Er,z8,fg,Jp,Jq,Jr,rD,q5,-O,-U,-N,-S,-List.map_map]
  cases Nr:ej DM
  · have aY:gf u=false:=(by rw[ab];simp[Nr]);simp(disch:=first|omega|simp only[DI.ak];omega) [xw,xx,aY,Nr,wu,wv,Dq,H6,b1,mx,cN,yP,yQ,yR,CK,dP,Bk,Bl,Bm,G5,fF,Eo,Ep,Er,z8,fg,Jp,Jq,Jr,adf,rE,OH,OI,OJ,rD,q5,-O,-U,-N,-S,-List.map_map]
  have aY:gf u=true:=by rw[ab];simp[wu,wv,Dq,H6,Nr]
  simp(disch:=first|omega|simp only[DI.ak];omega) [xw,xx,aY,wu,wv,Dq,H6,Nr,b1,mx,cN,yP,yQ,yR,CK,dP,Bk,Bl,Bm,G5,fF,Eo,Ep,Er,z8,fg,Jp,Jq,Jr,adf,rE,OH,OI,OJ,rD,q5,-O,-U,-N,-S,-List.map_map]
end Go.Proofs.YtmmkkggfmigppaaGreat
namespace Go.DI
open Go
section
variable {P:Program} {u:fE} {K:eE} {t m an:W}
theorem dR.R7(M:dR K u t m)(ax:m.next<=an.next)(h: ∀b,(∃o,K o=some b)\/u b≠none->an.Y b=m.Y b/\an.mp b=m.mp b):dR K u t an where
  hO o x G:=by
    rcases M.hO o x G with⟨b,cs,w,D,H,aq,aF⟩|D
    · exact .inl ⟨b,cs,w,D,by rw[(h b (.inl ⟨o,D⟩)).1];exact H,aq,aF⟩
    · exact .inr D
  maps o a9 bh:=by obtain⟨b,c2,D,H,aq⟩:=M.maps o a9 bh;obtain⟨aQ,a8⟩:=h b (.inl ⟨o,D⟩);obtain⟨eB,hk⟩:=h2 H;exact⟨b,c2,D,jJ (by rw[aQ];exact eB) (by rw[a8];exact hk),aq⟩
  h4:=M.h4
  inj:=M.inj
  c0 o b hb:=⟨(M.c0 o b hb).1,oW (M.c0 o b hb).2 ax⟩
  bA b cs hb:=by obtain⟨⟨w,D⟩,H⟩:=M.bA b cs hb;exact⟨⟨w,by rw[(h b (.inr (by rw[hb];simp))).1];exact D⟩,H⟩
theorem eF.R7{cy:eE}{cF:fE}{aT bd dE:W}{gC g8:Nat}(h:eF gC g8 K u t m cy cF aT bd)(ax:bd.next<=dE.next)(aM: ∀b,b<g8->dE.Y b=bd.Y b):eF gC g8 K u t m cy cF aT dE:=
  ⟨h.e,h.f,h.jz,h.fn,h.jh,jv h.jr ax,λb hb aZ=>by rw[aM b hb];exact h.k3 b hb aZ,h.nh,h.mM⟩
end
end Go.DI
namespace Go.Proofs.YtmmkkggfmigppaaGreat
open Go Go.DI Go.Big
noncomputable def mQ(l:List ByteArray)(s:ByteArray):Bool:=m3 s&&(lo s l).isNone
theorem Jo{l:List ByteArray}{s:ByteArray}:mQ l s=if m3 s then decide (xm s l<0)else false:=by unfold mQ xm;cases m3 s<;>cases h:lo s l<;>simp
def af2(m:W)(bp:Value)(l:List ByteArray):Prop:=(∃b,bp= .slice (some ⟨b,0,none⟩) l.length 1/\m.Y b=some ⟨ew l,true⟩)\/(bp= .slice none 0 0/\l=[])
theorem xX{l:List ByteArray}:ew l=l.map fH:=by
  unfold ew;induction l with
  |nil=>rfl
  |cons x l cn=>rw[mL,qu,cn];rfl
theorem Sj{l:List ByteArray}:(ew l).length=l.length:=by rw[xX,j8]
theorem avR{l:List ByteArray}{i:Nat}{s:ByteArray}(h:l[i]?=some s):(ew l)[i]?=some (fH s):=by rw[xX,qv,h];rfl
theorem Xp{m:W}{bp:Value}{l:List ByteArray}{s:ByteArray}(aY:(∃b w,bp= .slice (some ⟨b,0,none⟩) l.length 1/\m.Y b=some ⟨ew l,w⟩)\/(bp= .slice none 0 0/\l=[]))(ax:l.length<1000000):
    fZ al 189 [bp,fH s] m λr _=>r=Z (xm s l):=by
  rcases aY with⟨b,w,rfl,hb⟩|⟨rfl,rfl⟩
  · have ab:bW (λx=>if x=b then some (ew l)else none) k6 (yK l) (.slice (some ⟨b,0,none⟩) l.length 1):=by
      have:=bW.hX (u:= λx=>if x=b then some (ew l)else none) (K:=k6) (v:=yK l) (b:=b) (off:=0) (J:=1) (cs:=ew l) (bg:=l.map λs=>[fH s]) rfl (by simp) (by simp[Sj]) (λi r h=>by
          simp only[qv,rl]at h;obtain⟨_,_,rfl⟩:=h;rfl) (λi j r x y D H aq=>by
          simp only[qv,rl]at D;obtain⟨q,bf,rfl⟩:=D;have bx:j=0:=(by have:=(ek.1 H).1;simpa using this);subst bx;simp at H;subst H;rw[show 0+i*1+0=i by omega,avR bf]at aq;cases aq;exact .cv rfl)
      simpa using this
    refine(Xq ax _ m _ (λc cs ar=> ?_) (bj.cons ab (bj.cons (.cv rfl) bj.nil))).cd λr an h=> ?_
    · split at ar
      · next e=>cases ar;subst e;exact⟨w,hb⟩
      · cases ar
    · obtain⟨_,_,cF,_,_,ab⟩:=h;exact ab.p6
  · refine(Xq ax (λ_=>none) m [.slice none 0 0,fH s] (λc cs ar=>by cases ar) (bj.cons (.hj rfl) (bj.cons (.cv rfl) bj.nil))).cd λr an h=> ?_;obtain⟨_,_,cF,_,_,ab⟩:=h;exact ab.p6
theorem V0{m:W}{bp:Value}{l:List ByteArray}{s:ByteArray}(aY:af2 m bp l)(ax:l.length<1000000):fZ al 136 [bp,fH s] m λr an=>r= .tuple #[.slice (some ⟨m.next+3,0,none⟩) (l.length+1) 1,.bool (mQ l s)]/\
    ∃k,an=((j3 ((m.du 14).a4 (m.next+2) (some ⟨[fH s],true⟩)) bp).a4 (m.next+3) (some ⟨ew l++[fH s],true⟩)).du k:=by
  rw[ag3 (by simp)];rcases aY with⟨b,rfl,hb⟩|⟨rfl,rfl⟩
  · have auZ:=bm hb;have W8:List.take l.length (ew l)=ew l:=ky (by rw[Sj];omega);simp(disch:=first|omega|simp only[aE];omega) [Ka,Qg];rw[afx];simp(disch:=first|omega|simp only[aE];omega) [mw,DI.pC,hb,Sj];refine⟨⟨by omega,by omega⟩,?_⟩;rw[aeq,D5];cases jK:m3 s
    · simp(disch:=first|omega|simp only[aE];omega) [G1,jK,Jo,hb,W8,hf];exact⟨_,rfl⟩
    · simp(disch:=first|omega|simp only[aE];omega) [];refine(Xp (.inl ⟨b,false,rfl,by simp(disch:=first|omega|simp only[aE];omega) [BD,hb,BC]⟩) ax).cd λr an ay=> ?_;subst ay;rw[D5];simp(disch:=first|omega|simp only[aE];omega) [G1,Jo,jK,hb,W8,hf];exact⟨_,rfl⟩
  · simp(disch:=first|omega|simp only[aE];omega) [Ka,Qg];rw[afx];simp(disch:=first|omega|simp only[aE];omega) [mw,DI.pC];rw[aeq,D5];cases jK:m3 s
    · simp(disch:=first|omega|simp only[aE];omega) [G1,jK,Jo,xX];exact⟨_,rfl⟩
    · simp(disch:=first|omega|simp only[aE];omega) [];refine(Xp (l:=[]) (.inr ⟨rfl,rfl⟩) ax).cd λr an ay=> ?_;subst ay;rw[D5];simp(disch:=first|omega|simp only[aE];omega) [G1,Jo,jK,xX];exact⟨_,rfl⟩
theorem VV{u:fE}{K:eE}: ∀{xs ys:List Value},bj u K xs ys->(∀x∈xs,∃s,x=fH s)->ys=xs
  |[],ys,h,_=>pF.1 h.1.symm
  |x::xs,[],h,_=>by have:=h.1;simp at this
  | x::xs,y::ys,h,G=>by obtain⟨s,rfl⟩:=G x (by simp);have c5:=(h.2 0 (fH s) y rfl rfl).vv;rw[c5,VV (xs:=xs) (ys:=ys) ⟨by simpa using h.1,λi a b p q=>h.2 (i+1) a b (by simpa using p) (by simpa using q)⟩ λJ bL=>G J (by simp[bL])]
theorem avT{l:List ByteArray}: ∀x∈ew l,∃s,x=fH s:=by rw[xX];intro x G;obtain⟨s,_,rfl⟩:=hc.1 G;exact⟨s,rfl⟩
def iD(o:Nat)(l:List ByteArray)(s:ByteArray)(t:W):W:=((t.du 14).a4 o none).a4 t.next (some ⟨ew (l++[s]),true⟩)
theorem ah9{K:eE}{u:fE}{t m bO bd:W}(M:dR K u t m)(D:bO.next=t.next+14)(H:bd.next=m.next+14):DI.qy K u bO bd t.next (m.next+3) where
  e :=by
    cases h:K t.next with
    |none=>rfl
    |some b=>have:=(M.c0 _ _ h).1;omega
  b o h:=by have:=(M.c0 _ _ h).2;omega
  f :=by
    cases h:u (m.next+3)with
    |none=>rfl
    |some cs=>obtain⟨⟨w,g⟩,_⟩:=M.bA _ _ h;have:=bm g;omega
  r8:=by omega
  qb:=by omega
theorem aia{o:Nat}{l:List ByteArray}{s:ByteArray}{t:W}(ax:l.length<1000000)(aD:t.Y o=some ⟨ew l,true⟩){cg:Value->W->Prop}
    (j1:cg (.tuple #[.slice (some ⟨t.next,0,none⟩) (l.length+1) 1,.bool (mQ l s)]) (iD o l s t)):fQ al 136 [.slice (some ⟨o,0,none⟩) l.length 1,fH s] t cg:=by
  intro K u e1 m M az;obtain⟨bp,w,rfl,D,H⟩:=az.ayT;have aU:=H.vv;subst aU;have ct:=bm aD;have vs:=N1 M 14;have JO:(t.du 14).Y o=some ⟨ew l,true⟩:=by rw[DI.e9 ct];exact aD
  have Wo:ew (l++[s])=ew l++[fH s]:=Ak;have fy: ∀{K:eE},bj u K (ew (l++[s])) (ew l++[fH s]):=by rw[Wo,<-Wo,xX];exact bj.cv (by simp[dO])
  have bR: ∀c,((∃p,gO K t.next (m.next+3) p=some c)\/u c≠none)->c=m.next+3\/(c<m.next/\((∃p,K p=some c)\/u c≠none)):=by
    rintro c (⟨p,af⟩|ar)
    · unfold gO at af;split at af
      · cases af;exact .inl rfl
      · exact .inr ⟨(M.c0 _ _ af).2,.inl ⟨p,af⟩⟩
    · obtain⟨cs,dn⟩:=Option.ne_none_iff_exists'.1 ar;obtain⟨⟨w,g⟩,_⟩:=M.bA _ _ dn;exact .inr ⟨bm g,.inr ar⟩
  have mi: ∀(ae:W) (k:Nat) (cj:W),ae.next=m.next+14->ae.mp=m.mp->(∀c,c<m.next->cj.Y c=ae.Y c)->cj.next=ae.next+k->cj.mp=ae.mp->cj.Y (m.next+3)=some ⟨ew l++[fH s],true⟩->
      dR K u ((t.du 14).a4 o none) ae->DI.eF t.next m.next K u t m K u ((t.du 14).a4 o none) ae->
      ∃cy cF r aT,cg r aT/\dR cy cF aT cj/\bW cF cy r (.tuple #[.slice (some ⟨m.next+3,0,none⟩) (l.length+1) 1,.bool (mQ l s)])/\DI.eF t.next m.next K u t m cy cF aT cj:=by
    intro ae k cj aQ a8 cN dP fF fg rE Es;have ow:=ah9 (bO:=(t.du 14).a4 o none) (bd:=ae) M rfl aQ;have a7:=Mr rE ow fy;have bD:DI.eF t.next m.next K u t m (gO K t.next (m.next+3)) u (iD o l s t) (ae.a4 (m.next+3) (some ⟨ew l++[fH s],true⟩)):=Es.trans (adJ ow (ev _) (by omega))
    refine⟨_,u,_,iD o l s t,j1,a7.R7 (by rw[l5];omega) (λc ar=> ?_),bj.tuple (bj.cons (.slice (by simp[gO])) (bj.cons (.cv rfl) bj.nil)),bD.R7 (by rw[l5];omega) (λc ar=> ?_)⟩
    · rcases bR c ar with rfl|⟨ar,_⟩
      · rw[eZ (by omega),fg];exact⟨rfl,by rw[fF];rfl⟩
      · rw[b3 (by omega),cN c ar,fF];exact⟨rfl,rfl⟩
    · rw[b3 (by omega),cN c ar]
  rcases D.mu with⟨b,hb,_,rfl⟩|⟨_,_,c5,rfl⟩
  · have aw:m.Y b=some ⟨ew l,true⟩:=by
      rcases M.hO o _ aD with⟨ca,cs,w,aq,aF,br,cR⟩|⟨aq,_⟩
      · rw[hb]at aq;cases aq;rw[aF,br rfl,VV cR avT]
      · rw[hb]at aq;cases aq
    have auZ:=bm aw;refine(V0 (.inl ⟨b,rfl,aw⟩) ax).cd λdF an ⟨ay,k,qT⟩=> ?_;subst ay;subst qT;refine mi ((m.du 14).a4 b none) k _ rfl rfl (λc ar=> ?_) rfl rfl ?_ (ac7 vs hb JO rfl) ((IQ M 14).trans (Nq vs hb JO rfl))
    · rw[W.e9,b3 (by omega)];by_cases e:c=b
      · subst e;show(((m.du 14).a4 (m.next+2) _).a4 c none).Y c=_;rw[eZ (by simp;omega),eZ (by simp;omega)]
      · show(((m.du 14).a4 (m.next+2) _).a4 b none).Y c=_;rw[b3 e,b3 e,b3 (by omega)]
    · rw[W.e9,eZ];show m.next+3<m.next+14
      omega
  · obtain rfl:l=[]:=pF.1 c5;refine(V0 (.inr ⟨rfl,rfl⟩) ax).cd λdF an ⟨ay,k,qT⟩=> ?_;subst ay;subst qT;refine mi (m.du 14) k _ rfl rfl (λc ar=> ?_) rfl rfl ?_ (VD vs) ((IQ M 14).trans VC)
    · rw[W.e9,b3 (by omega)];show((m.du 14).a4 (m.next+2) _).Y c=_;rw[b3 (by omega)]
    · rw[W.e9,eZ];show m.next+3<m.next+14
      omega
theorem avS{l dj:List ByteArray}:ew l=ew dj↔l=dj:=by rw[xX,xX];exact xQ λa b h=>by cases h;rfl
open Classical in
noncomputable def El(o n:Nat)(s:ByteArray)(t:W)(x:Option fm):Option (Value×W):=
  if h: ∃l:List ByteArray,l.length=n/\n<1000000/\x=some ⟨ew l,true⟩then some (.tuple #[.slice (some ⟨t.next,0,none⟩) (n+1) 1,.bool (mQ h.choose s)],iD o h.choose s t)else none
@[simp] theorem aDM{o:Nat}{s:ByteArray}{t:W}{l:List ByteArray}(h:l.length<1000000):
    El o l.length s t (some ⟨ew l,true⟩)=some (.tuple #[.slice (some ⟨t.next,0,none⟩) (l.length+1) 1,.bool (mQ l s)],iD o l s t):=by
  have G: ∃dj:List ByteArray,dj.length=l.length/\l.length<1000000/\some (⟨ew l,true⟩:fm)=some ⟨ew dj,true⟩:=⟨l,rfl,h,rfl⟩;have ar:G.choose=l:=by have:=congrArg (λx:Option fm=>(x.map fm.cells).getD []) G.choose_spec.2.2;exact(avS.1 this).symm
  simp only[El,dif_pos G,ar]
noncomputable def xl:j9 al:= .dM 136 (Nat×Nat×ByteArray) (λ⟨o,n,s⟩=>[.slice (some ⟨o,0,none⟩) n 1,fH s])
  (λ⟨o,n,s⟩ t=>El o n s t (t.Y o))
  λ⟨o,n,s⟩ t r aT h cg j1=>by
    simp only[El]at h;split at h
    · next G=>cases h;obtain⟨D,H,aq⟩:=G.choose_spec;generalize G.choose=l at D aq j1;subst D;exact aia H aq j1
    · cases h
@[simp] theorem aER:xl.f=136:=rfl
@[simp] theorem aES{o n:Nat}{s:ByteArray}{t:W}:xl.fn [.slice (some ⟨o,0,none⟩) n 1,fH s] t=El o n s t (t.Y o):=
  j9.eu (x:=(o,n,s)) (t:=t) λ⟨ly,tp,Dv⟩ ah=>by simp at ah;obtain⟨⟨rfl,rfl⟩,rfl⟩:=ah;rfl
theorem H4:ej []=true:=by simp[ej]
theorem tl{l:List ByteArray}{s:ByteArray}:ej (l++[s])=(ej l&&mQ l s):=by
  rw[Bool.eq_iff_iff];unfold ej mQ;have D:(lo s l).isNone=true↔s∉l:=by
    constructor
    · intro h aw;have:=R6 aw;rw[yt]at h;exact this h
    · intro h;rw[Xk h];rfl
  simp only[aX,eM,sd,yx,D,mK,List.all_nil,and_true];constructor
  · rintro⟨⟨a,b⟩,c,_,d⟩;exact⟨⟨a,c⟩,b,λaw=>d s aw s (by simp) rfl⟩
  · rintro⟨⟨a,c⟩,b,d⟩;exact⟨⟨a,b⟩,c,by simp,λx G y ah=>by simp at ah;subst ah;exact λe=>d (e▸G)⟩
theorem afi{l dj:List ByteArray}(h:ej (l++dj)=true):ej l=true:=by unfold ej at*;simp only[aX,eM,sd,yx]at*;exact⟨h.1.1,h.2.1⟩
end Go.Proofs.YtmmkkggfmigppaaGreat
