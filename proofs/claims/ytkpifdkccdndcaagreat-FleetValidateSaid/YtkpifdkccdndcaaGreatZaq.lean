/-
  A part of the proof of the statement, in texts that tools of ours (wip/shrink.py, irpack.py, relax.py, minify.py, join.py, lay.py) have shortened.
-/
import Derived.Test.YtkpifdkccdndcaaGreatZap
set_option linter.all false
set_option maxRecDepth 8000
set_option maxHeartbeats 16000000
namespace Go.Proofs.YtkpifdkccdndcaaGreat
open Go Go.DI Go.Big
def rn(d:gp):Bool:=decide (d.name=⟨#[]⟩)&&(decide (d.g3=0)&&(decide (d.parent= -1)&&(decide (d.xj=0)&&(d.ju.bG.small&& !decide (0<d.ju.bG.n)))))
def JC(ds:List gp)(d:gp):Bool:=match ds[d.parent.toNat]? with
  |some q=>decide (q.g3=d.g3-1)
  |none=>false
def mQ(ds:List gp)(i:Nat)(d:gp):Bool:=eG d.parent 0 i&&(JC ds d&&(eG d.g3 1 4&&(eG d.xj 1 64&&d.ju.bG.small)))
def tn(ds:List gp):Bool:=match ds with
  |[]=>false
  | r::l=>rn r&&(List.range l.length).all λi=>match l[i]? with
    |some d=>mQ ds i d
    |none=>true
theorem Qp{r:gp}{l:List gp}:tn (r::l)=(rn r&&(List.range l.length).all λi=>match l[i]? with
    |some d=>mQ (r::l) i d
    |none=>true):=rfl
structure a4.dP(z:a4):Prop where
  bO: ∀x∈z.bO,x.bD
  br: ∀x∈z.br,x.ju.bD
  bT: ∀x∈z.bT,hr.dP x
  r1:z.bO.length<=1000
  de:z.aR.length<=1000
  lk:z.br.length<=1000
  r2:z.c5.length<=1000
  je:z.bT.length<=1000
  zX:z.cP.length<=1000
theorem awD{r:gp}{l:List gp}{i:Nat}{d:gp}(F:l[i]?=some d)(h:mQ (r::l) i d=false):tn (r::l)=false:=by rw[Qp];rw[Hl];refine .inr ?_;rw[Kp];exact⟨i,yJ.2 (dg.1 F).1,by simp[F,h]⟩
theorem awC{r:gp}{l:List gp}(aH:rn r=true)(h: ∀j d,l[j]?=some d->mQ (r::l) j d=true):tn (r::l)=true:=by
  rw[Qp];rw[aH,oY,hJ];intro i ag;cases F:l[i]? with
  |none=>rfl
  |some d=>exact h i d F
theorem aMr{z:a4}(h:a4.dP z):c4 Z 63 [.agg (bl z).toArray] (.bool (tn z.br)):=by
  refine gR (ga (a0:=⟨[JX,Vz],[]⟩) aEv (by kernel_rfl) (by simp[zz]) ?_);have lp:=h.lk;cases iN:z.br with
  | nil=>have mz:(z.br.length:Int)=0:=(by rw[iN];rfl);have pa:z.br.length=0:=(by rw[iN];rfl);have ar:tn []=false:=rfl;simp[zz,Bk,Bl,Bm,Bn,Bo,sE,bl,ar,iN]
  |cons R ds=>
  have fN:z.br.length=ds.length+1:=by rw[iN];rfl
  have mz: ¬(z.br.length:Int)=0:=by omega
  have kl:(0:Int)<z.br.length:=by omega
  have pa: ¬z.br.length=0:=by omega
  have pO:0<z.br.length:=by omega
  have Yv:1<=z.br.length:=by omega
  have Yw:(1:Int)<=z.br.length:=by omega
  have gP:z.br[0]?=some R:=by rw[iN];rfl
  have bM:R.ju.bD:=h.br R (by rw[iN];simp);have lH:z.br[0]=R:=by have:=c0 pO;rw[gP]at this;exact(Ch this).symm
  have Xm:(List.take z.br.length (z.br.map eL)).tail=ds.map eL:=by rw[fw (by simp),iN];rfl
  have Xn:z.br.length-1=ds.length:=by omega
  have sz:rn R=false->tn (R::ds)=false:= λh=>by rw[Qp,h];rfl
  rw[<-iN]at sz⊢;by_cases bY:R.name=⟨#[]⟩
  case neg=>have ar:=sz (by simp[rn,bY]);simp[zz,Bk,Bl,Bm,Bn,Bo,sE,bl,eL,pa,pO,lH,bY,ar]
  by_cases cN:R.g3=0
  case neg=>have ar:=sz (by simp[rn,cN]);simp[zz,Bk,Bl,Bm,Bn,Bo,sE,bl,eL,pa,pO,lH,bY,cN,ar]
  by_cases dI:R.parent= -1
  case neg=>have ar:=sz (by simp[rn,dI]);simp[zz,Bk,Bl,Bm,Bn,Bo,sE,bl,eL,pa,pO,lH,bY,cN,dI,ar]
  by_cases ew:R.xj=0
  case neg=>have ar:=sz (by simp[rn,ew]);simp[zz,Bk,Bl,Bm,Bn,Bo,sE,bl,eL,pa,pO,lH,bY,cN,dI,ew,ar]
  cases gE:R.ju.bG.small
  · have ar:=sz (by simp[rn,gE]);simp(disch:=first|omega|simp only[b3];omega) [zz,Bk,Bl,Bm,Bn,Bo,sE,bl,eL,pa,pO,lH,bY,cN,dI,ew,gE,ar]
  by_cases ma:0<R.ju.bG.n
  · have ar:=sz (by simp[rn,ma]);simp(disch:=first|omega|simp only[b3];omega) [zz,Bk,Bl,Bm,Bn,Bo,sE,bl,eL,pa,pO,lH,bY,cN,dI,ew,gE,ma,ar]
  have azP:rn R=true:=by simp[rn,bY,cN,dI,ew,gE,ma]
  simp(disch:=first|omega|simp only[b3];omega) [zz,Bk,Bl,Bm,Bn,Bo,bl,eL,pa,pO,Yw,lH,bY,cN,dI,ew,gE,ma];rw[Xm,Xn];refine hC (a0:=⟨[vZ,JX],[]⟩) (λi u t=>(∀j d,j<i->ds[j]?=some d->mQ z.br j d=true)/\t.U 0=some ⟨bl z,true⟩/\u 1=cb 0/\u 45=aQ (ds.map eL) 7/\u 46=X ds.length/\u 47=X i) ds.length ?_ ?_ 0 _ _ (hf _) ⟨λj d h=>absurd h (Nat.not_lt_zero _),by simp[bl],by simp,by simp,by simp,by simp⟩
  · rintro i u t ag ⟨gf,aJ,aw,vY,tW,uZ⟩ cp aZ;have F:ds[i]?=some ds[i]:=c0 ag;have bc:=e7 (n:=i) (by omega);have bn:(i:Int)<ds.length:=(by omega);have et:=aO aJ;have DS: ∀k,¬t.next+k=0:= λk=>by omega
    have q1:ds[i].ju.bD:=h.br _ (by rw[iN];exact Pv _ (qM ag));have lU:mQ z.br i ds[i]=false->tn z.br=false:= λbs=>by rw[iN]at bs⊢;exact awD F bs
    cases j5:eG ds[i].parent 0 (i:Int)
    · have ar:=lU (by simp[mQ,j5]);simp(disch:=first|omega|simp only[b3];omega) [Du,Bp,Bq,Br,sE,eL,vY,tW,uZ,bn,j5,ar,-ao,-aB,-ai,-au,-List.map_map]
    have awu:=rT.1 j5;obtain⟨aU,jb⟩:=xp awu.1;have ez:aU<=i:=(by omega);have Fo:aU<z.br.length:=(by omega);have bz:z.br[aU]?=some z.br[aU]:=c0 Fo;have oG:(aU:Int)<z.br.length:=(by omega);have ajR:JC z.br ds[i]=decide (z.br[aU].g3=ds[i].g3-1):=(by unfold JC;rw[jb,u6,bz]);rw[jb]at j5;by_cases lC:z.br[aU].g3=IntKind.i64.wrap (ds[i].g3-1)
    case neg=>
      have ar:=lU (by
        rw[mQ,ajR];cases qc:eG ds[i].g3 1 4
        · simp
        · have:=rT.1 qc;rw[fo (by omega) (by omega)]at lC;simp[lC])
      simp(disch:=first|omega|simp only[b3];omega) [Du,Bp,Bq,Br,sE,bl,eL,aw,vY,tW,uZ,aJ,bn,jb,oG,j5,lC,ar,-ao,-aB,-ai,-au,-List.map_map]
    cases qc:eG ds[i].g3 1 4
    · have ar:=lU (by simp[mQ,qc]);simp(disch:=first|omega|simp only[b3];omega) [Du,Bp,Bq,Br,sE,bl,eL,aw,vY,tW,uZ,aJ,bn,jb,oG,j5,lC,qc,ar,-ao,-aB,-ai,-au,-List.map_map]
    cases wq:eG ds[i].xj 1 64
    · have ar:=lU (by simp[mQ,wq]);simp(disch:=first|omega|simp only[b3];omega) [Du,Bp,Bq,Br,sE,bl,eL,aw,vY,tW,uZ,aJ,bn,jb,oG,j5,lC,qc,wq,ar,-ao,-aB,-ai,-au,-List.map_map]
    cases Qk:ds[i].ju.bG.small
    · have ar:=lU (by simp[mQ,Qk]);simp(disch:=first|omega|simp only[b3];omega) [Du,Bp,Bq,Br,sE,bl,eL,aw,vY,tW,uZ,aJ,bn,jb,oG,j5,lC,qc,wq,Qk,ar,-ao,-aB,-ai,-au,-List.map_map]
    have rQ:mQ z.br i ds[i]=true:=(by have:=rT.1 qc;have aii:=lC;rw[fo (by omega) (by omega)]at aii;rw[mQ,ajR,jb,j5,qc,wq,Qk,aii];simp);simp(disch:=first|omega|simp only[b3];omega) [Du,Bp,Bq,Br,sE,bl,eL,aw,vY,tW,uZ,aJ,bn,bc,jb,oG,j5,lC,qc,wq,Qk,-ao,-aB,-ai,-au,-List.map_map];refine aZ _ _ ⟨λj d c6 ay=> ?_,by simp(disch:=first|omega|simp only[b3];omega) [aJ,bl,-ao,-aB,-ai,-au,-List.map_map],by simp[aw],by simp[vY],by simp[tW],by simp⟩;by_cases e:j=i
    · subst e;rw[F]at ay;cases ay;exact rQ
    · exact gf j d (by omega) ay
  · rintro u t ⟨gf,aJ,aw,vY,tW,uZ⟩;have ar:tn z.br=true:=by
      rw[iN];refine awC azP λj d ay=> ?_;rw[<-iN];exact gf j d (dg.1 ay).1 ay
    simp[Du,Bp,Bq,Br,sE,tW,uZ,sE,Bp,Bq,Br,ar]
noncomputable def agv(z:a4)(h:a4.dP z):cf Z:= .ek 63 Unit (λ_=>True) (λ_=>[.agg (bl z).toArray]) (λ_=> .bool (tn z.br)) λ_ _=>aMr h
@[simp] theorem aYM{z:a4}{h:a4.dP z}:(agv z h).f=63:=rfl
@[simp] theorem aYN{z:a4}{h:a4.dP z}:(agv z h).fn [.agg #[X z.ext,aQ (z.bO.map fH) 4,aQ (z.aR.map hD) 4,aQ (z.br.map eL) 7,aQ (z.c5.map hO) 3,aQ (z.bT.map eR) 17,aQ (z.cP.map iy) 2]]=some (.bool (tn z.br)):=cf.eP (x:=()) trivial λ_ _=>rfl
theorem w4{l:List ByteArray}:(e3 l).length=l.length:=(JK (l:=l) rfl).2.2
def nO(r1:Nat)(x:o1):Bool:=eG x.ext 1 16&&(eG x.BS 1 64&&eG x.qw 0 ((r1:Int)-1))
def Ol(ds:List gp)(m:Int):Bool:=match ds[m.toNat]? with
  |some q=>decide (q.g3=4)
  |none=>false
def nE(de:Nat)(ds:List gp)(x:pB):Bool:=eG x.model 0 ((de:Int)-1)&&(eG x.q9 0 ((ds.length:Int)-1)&&Ol ds x.q9)
def sd(je:Nat)(x:uj):Bool:=eG x.w9 0 ((je:Int)-1)
theorem KH{α:Type}{l:List α}{p:α->Bool}{b:Bool}{i:Nat}{x:α}(F:l[i]?=some x):(b&&(l.take (i+1)).all p)=((b&&(l.take i).all p)&&p x):=by rw[l6 F,xt];simp[Es]
def nW:List Nat:=[1,3,4,5,6,7]
theorem fF{u ae:aM}{d:Nat}(B:1≠d->ae 1=u 1)(af:3≠d->ae 3=u 3)(aL:4≠d->ae 4=u 4)(cm:5≠d->ae 5=u 5)(dK:6≠d->ae 6=u 6)(hh:7≠d->ae 7=u 7): ∀k∈nW,k≠d->ae k=u k:= λk aa ay=>by
  simp only[nW,oz,wi,or_false]at aa;rcases aa with rfl|rfl|rfl|rfl|rfl|rfl
  · exact B ay
  · exact af ay
  · exact aL ay
  · exact cm ay
  · exact dK ay
  · exact hh ay
theorem aMi{z:a4}(h:a4.dP z){bF:aM}{bS:E}{cG:Nat}{cj:List ByteArray}{dB:Bool}(pS:cj.length<=10000)(my:bS.U 0=some ⟨bl z,true⟩)(jl:bS.U cG=some ⟨e3 cj,true⟩)(ho:cG≠0)(aw:bF 1=cb 0)(hq:bF 3= .slice (some ⟨cG,0,none⟩) cj.length 1)(ch:bF 8= .bool dB)
    (jt:bF 67=aQ (z.bO.map fH) 4) (iC:bF 68=X z.bO.length) (gg:bF 69=X 0) {Q:dp->aM->E->Prop}
    (a1: ∀u t o,(∀k∈nW,k≠3->u k=bF k)->u 8= .bool (dB&&z.bO.all dY.oj)->u 3= .slice (some ⟨o,0,none⟩) (cj.length+z.bO.length) 1->t.U o=some ⟨e3 (cj++z.bO.map (·.name)),true⟩->(o=cG\/bS.next<=o)->bS.next<=t.next->(∀b,b<bS.next->b≠cG->t.U b=bS.U b)->Q (.bw 0) u t):gD Z (.loop IL) bF bS Q:=by
  have tM:=aO my;have Gw:=aO jl;have fN:z.bO.length<=1000:=h.r1;refine hC (a0:=⟨[agw],[]⟩) (λi u t=> ∃o,(∀k∈nW,k≠3->u k=bF k)/\u 8= .bool (dB&&(z.bO.take i).all dY.oj)/\u 3= .slice (some ⟨o,0,none⟩) (cj.length+i) 1/\t.U o=some ⟨e3 (cj++(z.bO.take i).map (·.name)),true⟩/\(o=cG\/bS.next<=o)/\bS.next<=t.next/\(∀b,b<bS.next->b≠cG->t.U b=bS.U b)/\u 67=aQ (z.bO.map fH) 4/\u 68=X z.bO.length/\u 69=X i) z.bO.length ?_ ?_ 0 bF bS (hf _) ⟨cG,λ_ _ _=>rfl,by simpa using ch,by simpa using hq,by simpa using jl,.inl rfl,eB _,λ_ _ _=>rfl,jt,iC,gg⟩
  · rintro i u t ag ⟨o,h0,hk,kq,bj,eS,hR,e2,hW,hp,jP⟩ cp aZ;have F:z.bO[i]?=some z.bO[i]:=c0 ag;have bc:=e7 (n:=i) (by omega);have bn:(i:Int)<z.bO.length:=(by omega);have nv:u 1=cb 0:=(h0 1 (by decide) (by decide)).trans aw;have aJ:t.U 0=some ⟨bl z,true⟩:=(by rw[e2 0 tM (Ne.symm ho)];exact my);have et:=aO aJ;have cK:=aO bj;have j8:o≠0:=(by rcases eS with rfl|b6<;>omega);obtain⟨iT,ob⟩: ∃c,c=e3 (cj++(z.bO.take i).map (·.name)):=⟨_,rfl⟩;rw[<-ob]at bj;have gr:iT.length=cj.length+i:=(by rw[ob,w4,mo,jZ,k9];omega);have hd:iT.take (cj.length+i)=iT:=fw (by omega);have gv:(cj.length+i+1)*16<=140737488355328/\cj.length+i<=9223372036854775806:=(by omega);have ia:iT++[ei z.bO[i].name]=e3 (cj++(z.bO.take (i+1)).map (·.name)):=(by rw[l6 F,oy,<-ug,n0,wj,BN,ob]);have ck:=h.bO _ (qM ag);have K:=KH (p:=dY.oj) (b:=dB) F;obtain⟨a9,dt⟩: ∃a9,a9=(dB&&(z.bO.take i).all dY.oj):=⟨_,rfl⟩;rw[<-dt]at hk K;cases a9
    · skip
      simp(disch:=first|omega|simp only[DI.aF];omega) [IL,M3,Sf,Sg,fH,hk,kq,hW,hp,jP,bj,bn,bc,gr,hd,gv,-ao,-aB,-ai,-au,-List.map_map];refine aZ _ _ ⟨t.next+4+4,λk aa ay=>kN (b:=u k) (fF (d:=3) ?_ ?_ ?_ ?_ ?_ ?_ k aa ay) (h0 k aa ay),?_,?_,?_,.inr (by omega),?_,λb K eO=> ?_,?_,?_,?_⟩
      all_goals first
        |(intro ay;first|(exact absurd rfl ay)|(simp;done))
        |(rw[K];simp[];done)
        |(rw[<-ia];simp(disch:=first|omega|simp only[DI.aF];omega) [-ao,-aB,-ai,-au,-List.map_map];done)
        | (have oH:b≠o:=by rcases eS with rfl|b6<;>omega
           rw[<-e2 b K eO];simp(disch:=first|omega|simp only[DI.aF];omega) [-ao,-aB,-ai,-au,-List.map_map];done)
        |(simp(disch:=first|omega|simp only[DI.aF];omega) [-ao,-aB,-ai,-au,-List.map_map];done)
        |(simp(disch:=first|omega|simp only[DI.aF];omega) [hW,hp,-ao,-aB,-ai,-au,-List.map_map];done)
        |(simp(disch:=first|omega|simp only[DI.aF];omega) [-ao,-aB,-ai,-au,-List.map_map];omega)
        |(simp;omega)
    · skip
      cases cE:z.bO[i].oj
      · skip
        simp(disch:=first|omega|simp only[DI.aF];omega) [IL,M3,Sf,Sg,fH,hk,kq,hW,hp,jP,bj,bn,bc,gr,hd,gv,cE,-ao,-aB,-ai,-au,-List.map_map];refine aZ _ _ ⟨t.next+4+4,λk aa ay=>kN (b:=u k) (fF (d:=3) ?_ ?_ ?_ ?_ ?_ ?_ k aa ay) (h0 k aa ay),?_,?_,?_,.inr (by omega),?_,λb K eO=> ?_,?_,?_,?_⟩
        all_goals first
          |(intro ay;first|(exact absurd rfl ay)|(simp;done))
          |(rw[K];simp[cE];done)
          |(rw[<-ia];simp(disch:=first|omega|simp only[DI.aF];omega) [-ao,-aB,-ai,-au,-List.map_map];done)
          | (have oH:b≠o:=by rcases eS with rfl|b6<;>omega
             rw[<-e2 b K eO];simp(disch:=first|omega|simp only[DI.aF];omega) [-ao,-aB,-ai,-au,-List.map_map];done)
          |(simp(disch:=first|omega|simp only[DI.aF];omega) [-ao,-aB,-ai,-au,-List.map_map];done)
          |(simp(disch:=first|omega|simp only[DI.aF];omega) [hW,hp,-ao,-aB,-ai,-au,-List.map_map];done)
          |(simp(disch:=first|omega|simp only[DI.aF];omega) [-ao,-aB,-ai,-au,-List.map_map];omega)
          |(simp;omega)
      · skip
        simp(disch:=first|omega|simp only[DI.aF];omega) [IL,M3,Sf,Sg,fH,hk,kq,hW,hp,jP,bj,bn,bc,gr,hd,gv,cE,-ao,-aB,-ai,-au,-List.map_map];refine aZ _ _ ⟨t.next+4+4,λk aa ay=>kN (b:=u k) (fF (d:=3) ?_ ?_ ?_ ?_ ?_ ?_ k aa ay) (h0 k aa ay),?_,?_,?_,.inr (by omega),?_,λb K eO=> ?_,?_,?_,?_⟩
        all_goals first
          |(intro ay;first|(exact absurd rfl ay)|(simp;done))
          |(rw[K];simp[cE];done)
          |(rw[<-ia];simp(disch:=first|omega|simp only[DI.aF];omega) [-ao,-aB,-ai,-au,-List.map_map];done)
          | (have oH:b≠o:=by rcases eS with rfl|b6<;>omega
             rw[<-e2 b K eO];simp(disch:=first|omega|simp only[DI.aF];omega) [-ao,-aB,-ai,-au,-List.map_map];done)
          |(simp(disch:=first|omega|simp only[DI.aF];omega) [-ao,-aB,-ai,-au,-List.map_map];done)
          |(simp(disch:=first|omega|simp only[DI.aF];omega) [hW,hp,-ao,-aB,-ai,-au,-List.map_map];done)
          |(simp(disch:=first|omega|simp only[DI.aF];omega) [-ao,-aB,-ai,-au,-List.map_map];omega)
          |(simp;omega)
  · rintro u t ⟨o,h0,hk,kq,bj,eS,hR,e2,hW,hp,jP⟩;rw[kM]at bj hk;simp(disch:=first|omega|simp only[DI.aF];omega) [IL,M3,hp,jP,-ao,-aB,-ai,-au,-List.map_map];refine a1 _ _ o (λk aa ay=>kN (b:=u k) (fF (d:=3) ?_ ?_ ?_ ?_ ?_ ?_ k aa ay) (h0 k aa ay)) ?_ ?_ bj eS hR e2
    all_goals first
      |(intro ay;simp;done)
      |(simp[hk];done)
      |(simp[kq];done)
theorem aMj{z:a4}(h:a4.dP z){bF:aM}{bS:E}{cG:Nat}{cj:List ByteArray}{dB:Bool}(pS:cj.length<=10000)(my:bS.U 0=some ⟨bl z,true⟩)(jl:bS.U cG=some ⟨e3 cj,true⟩)(ho:cG≠0)(aw:bF 1=cb 0)(hq:bF 4= .slice (some ⟨cG,0,none⟩) cj.length 1)(ch:bF 8= .bool dB)
    (jt:bF 85=aQ (z.aR.map hD) 4) (iC:bF 86=X z.aR.length) (gg:bF 87=X 0) {Q:dp->aM->E->Prop}
    (a1: ∀u t o,(∀k∈nW,k≠4->u k=bF k)->u 8= .bool (dB&&z.aR.all (nO z.bO.length))->u 4= .slice (some ⟨o,0,none⟩) (cj.length+z.aR.length) 1->t.U o=some ⟨e3 (cj++z.aR.map (·.name)),true⟩->(o=cG\/bS.next<=o)->bS.next<=t.next->(∀b,b<bS.next->b≠cG->t.U b=bS.U b)->Q (.bw 2) u t):gD Z (.loop Dh) bF bS Q:=by
  have tM:=aO my;have Gw:=aO jl;have fN:z.aR.length<=1000:=h.de;refine hC (a0:=⟨[vZ],[]⟩) (λi u t=> ∃o,(∀k∈nW,k≠4->u k=bF k)/\u 8= .bool (dB&&(z.aR.take i).all (nO z.bO.length))/\u 4= .slice (some ⟨o,0,none⟩) (cj.length+i) 1/\t.U o=some ⟨e3 (cj++(z.aR.take i).map (·.name)),true⟩/\(o=cG\/bS.next<=o)/\bS.next<=t.next/\(∀b,b<bS.next->b≠cG->t.U b=bS.U b)/\u 85=aQ (z.aR.map hD) 4/\u 86=X z.aR.length/\u 87=X i) z.aR.length ?_ ?_ 0 bF bS (hf _) ⟨cG,λ_ _ _=>rfl,by simpa using ch,by simpa using hq,by simpa using jl,.inl rfl,eB _,λ_ _ _=>rfl,jt,iC,gg⟩
  · rintro i u t ag ⟨o,h0,hk,kq,bj,eS,hR,e2,hW,hp,jP⟩ cp aZ;have F:z.aR[i]?=some z.aR[i]:=c0 ag;have bc:=e7 (n:=i) (by omega);have bn:(i:Int)<z.aR.length:=(by omega);have nv:u 1=cb 0:=(h0 1 (by decide) (by decide)).trans aw;have aJ:t.U 0=some ⟨bl z,true⟩:=(by rw[e2 0 tM (Ne.symm ho)];exact my);have et:=aO aJ;have cK:=aO bj;have j8:o≠0:=(by rcases eS with rfl|b6<;>omega);obtain⟨iT,ob⟩: ∃c,c=e3 (cj++(z.aR.take i).map (·.name)):=⟨_,rfl⟩;rw[<-ob]at bj;have gr:iT.length=cj.length+i:=(by rw[ob,w4,mo,jZ,k9];omega);have hd:iT.take (cj.length+i)=iT:=fw (by omega);have gv:(cj.length+i+1)*16<=140737488355328/\cj.length+i<=9223372036854775806:=(by omega);have ia:iT++[ei z.aR[i].name]=e3 (cj++(z.aR.take (i+1)).map (·.name)):=(by rw[l6 F,oy,<-ug,n0,wj,BN,ob]);have mn:IntKind.i64.wrap ((z.bO.length:Int)-1)=(z.bO.length:Int)-1:=fo (by omega) (by have:=h.r1;omega);have K:=KH (p:=(nO z.bO.length)) (b:=dB) F;obtain⟨a9,dt⟩: ∃a9,a9=(dB&&(z.aR.take i).all (nO z.bO.length)):=⟨_,rfl⟩;rw[<-dt]at hk K;cases a9
    · skip
      simp(disch:=first|omega|simp only[DI.aF];omega) [Dh,F3,IH,II,hD,hk,kq,hW,hp,jP,bj,bn,bc,gr,hd,gv,-ao,-aB,-ai,-au,-List.map_map];refine aZ _ _ ⟨t.next+4+4,λk aa ay=>kN (b:=u k) (fF (d:=4) ?_ ?_ ?_ ?_ ?_ ?_ k aa ay) (h0 k aa ay),?_,?_,?_,.inr (by omega),?_,λb K eO=> ?_,?_,?_,?_⟩
      all_goals first
        |(intro ay;first|(exact absurd rfl ay)|(simp;done))
        |(rw[K];simp[];done)
        |(rw[<-ia];simp(disch:=first|omega|simp only[DI.aF];omega) [-ao,-aB,-ai,-au,-List.map_map];done)
        | (have oH:b≠o:=by rcases eS with rfl|b6<;>omega
           rw[<-e2 b K eO];simp(disch:=first|omega|simp only[DI.aF];omega) [-ao,-aB,-ai,-au,-List.map_map];done)
        |(simp(disch:=first|omega|simp only[DI.aF];omega) [-ao,-aB,-ai,-au,-List.map_map];done)
        |(simp(disch:=first|omega|simp only[DI.aF];omega) [hW,hp,-ao,-aB,-ai,-au,-List.map_map];done)
        |(simp(disch:=first|omega|simp only[DI.aF];omega) [-ao,-aB,-ai,-au,-List.map_map];omega)
        |(simp;omega)
    · skip
      cases ck:eG z.aR[i].ext 1 16
      · skip
        simp(disch:=first|omega|simp only[DI.aF];omega) [Dh,F3,IH,II,hD,hk,kq,hW,hp,jP,bj,bn,bc,gr,hd,gv,ck,-ao,-aB,-ai,-au,-List.map_map];refine aZ _ _ ⟨t.next+4+4,λk aa ay=>kN (b:=u k) (fF (d:=4) ?_ ?_ ?_ ?_ ?_ ?_ k aa ay) (h0 k aa ay),?_,?_,?_,.inr (by omega),?_,λb K eO=> ?_,?_,?_,?_⟩
        all_goals first
          |(intro ay;first|(exact absurd rfl ay)|(simp;done))
          |(rw[K];simp[nO,ck];done)
          |(rw[<-ia];simp(disch:=first|omega|simp only[DI.aF];omega) [-ao,-aB,-ai,-au,-List.map_map];done)
          | (have oH:b≠o:=by rcases eS with rfl|b6<;>omega
             rw[<-e2 b K eO];simp(disch:=first|omega|simp only[DI.aF];omega) [-ao,-aB,-ai,-au,-List.map_map];done)
          |(simp(disch:=first|omega|simp only[DI.aF];omega) [-ao,-aB,-ai,-au,-List.map_map];done)
          |(simp(disch:=first|omega|simp only[DI.aF];omega) [hW,hp,-ao,-aB,-ai,-au,-List.map_map];done)
          |(simp(disch:=first|omega|simp only[DI.aF];omega) [-ao,-aB,-ai,-au,-List.map_map];omega)
          |(simp;omega)
      · skip
        cases cE:eG z.aR[i].BS 1 64
        · skip
          simp(disch:=first|omega|simp only[DI.aF];omega) [Dh,F3,IH,II,hD,hk,kq,hW,hp,jP,bj,bn,bc,gr,hd,gv,ck,cE,-ao,-aB,-ai,-au,-List.map_map];refine aZ _ _ ⟨t.next+4+4,λk aa ay=>kN (b:=u k) (fF (d:=4) ?_ ?_ ?_ ?_ ?_ ?_ k aa ay) (h0 k aa ay),?_,?_,?_,.inr (by omega),?_,λb K eO=> ?_,?_,?_,?_⟩
          all_goals first
            |(intro ay;first|(exact absurd rfl ay)|(simp;done))
            |(rw[K];simp[nO,ck,cE];done)
            |(rw[<-ia];simp(disch:=first|omega|simp only[DI.aF];omega) [-ao,-aB,-ai,-au,-List.map_map];done)
            | (have oH:b≠o:=by rcases eS with rfl|b6<;>omega
               rw[<-e2 b K eO];simp(disch:=first|omega|simp only[DI.aF];omega) [-ao,-aB,-ai,-au,-List.map_map];done)
            |(simp(disch:=first|omega|simp only[DI.aF];omega) [-ao,-aB,-ai,-au,-List.map_map];done)
            |(simp(disch:=first|omega|simp only[DI.aF];omega) [hW,hp,-ao,-aB,-ai,-au,-List.map_map];done)
            |(simp(disch:=first|omega|simp only[DI.aF];omega) [-ao,-aB,-ai,-au,-List.map_map];omega)
            |(simp;omega)
        · skip
          cases eo:eG z.aR[i].qw 0 ((z.bO.length:Int)-1)
          · skip
            simp(disch:=first|omega|simp only[DI.aF];omega) [Dh,F3,IH,II,bl,hD,nv,hk,kq,hW,hp,jP,aJ,bj,bn,bc,gr,hd,gv,mn,ck,cE,eo,-ao,-aB,-ai,-au,-List.map_map];refine aZ _ _ ⟨t.next+4+4,λk aa ay=>kN (b:=u k) (fF (d:=4) ?_ ?_ ?_ ?_ ?_ ?_ k aa ay) (h0 k aa ay),?_,?_,?_,.inr (by omega),?_,λb K eO=> ?_,?_,?_,?_⟩
            all_goals first
              |(intro ay;first|(exact absurd rfl ay)|(simp;done))
              |(rw[K];simp[nO,ck,cE,eo];done)
              |(rw[<-ia];simp(disch:=first|omega|simp only[DI.aF];omega) [-ao,-aB,-ai,-au,-List.map_map];done)
              | (have oH:b≠o:=by rcases eS with rfl|b6<;>omega
                 rw[<-e2 b K eO];simp(disch:=first|omega|simp only[DI.aF];omega) [-ao,-aB,-ai,-au,-List.map_map];done)
              |(simp(disch:=first|omega|simp only[DI.aF];omega) [-ao,-aB,-ai,-au,-List.map_map];done)
              |(simp(disch:=first|omega|simp only[DI.aF];omega) [hW,hp,-ao,-aB,-ai,-au,-List.map_map];done)
              |(simp(disch:=first|omega|simp only[DI.aF];omega) [-ao,-aB,-ai,-au,-List.map_map];omega)
              |(simp;omega)
          · skip
            simp(disch:=first|omega|simp only[DI.aF];omega) [Dh,F3,IH,II,bl,hD,nv,hk,kq,hW,hp,jP,aJ,bj,bn,bc,gr,hd,gv,mn,ck,cE,eo,-ao,-aB,-ai,-au,-List.map_map];refine aZ _ _ ⟨t.next+4+4,λk aa ay=>kN (b:=u k) (fF (d:=4) ?_ ?_ ?_ ?_ ?_ ?_ k aa ay) (h0 k aa ay),?_,?_,?_,.inr (by omega),?_,λb K eO=> ?_,?_,?_,?_⟩
            all_goals first
              |(intro ay;first|(exact absurd rfl ay)|(simp;done))
              |(rw[K];simp[nO,ck,cE,eo];done)
              |(rw[<-ia];simp(disch:=first|omega|simp only[DI.aF];omega) [-ao,-aB,-ai,-au,-List.map_map];done)
              | (have oH:b≠o:=by rcases eS with rfl|b6<;>omega
                 rw[<-e2 b K eO];simp(disch:=first|omega|simp only[DI.aF];omega) [-ao,-aB,-ai,-au,-List.map_map];done)
              |(simp(disch:=first|omega|simp only[DI.aF];omega) [-ao,-aB,-ai,-au,-List.map_map];done)
              |(simp(disch:=first|omega|simp only[DI.aF];omega) [hW,hp,-ao,-aB,-ai,-au,-List.map_map];done)
              |(simp(disch:=first|omega|simp only[DI.aF];omega) [-ao,-aB,-ai,-au,-List.map_map];omega)
              |(simp;omega)
  · rintro u t ⟨o,h0,hk,kq,bj,eS,hR,e2,hW,hp,jP⟩;rw[kM]at bj hk;simp(disch:=first|omega|simp only[DI.aF];omega) [Dh,F3,hp,jP,-ao,-aB,-ai,-au,-List.map_map];refine a1 _ _ o (λk aa ay=>kN (b:=u k) (fF (d:=4) ?_ ?_ ?_ ?_ ?_ ?_ k aa ay) (h0 k aa ay)) ?_ ?_ bj eS hR e2
    all_goals first
      |(intro ay;simp;done)
      |(simp[hk];done)
      |(simp[kq];done)
theorem aMk{z:a4}(h:a4.dP z){ds:List gp}(ze:ds.length<=1000){bF:aM}{bS:E}{cG:Nat}{cj:List ByteArray}{dB:Bool}(pS:cj.length<=10000)(my:bS.U 0=some ⟨bl z,true⟩)(jl:bS.U cG=some ⟨e3 cj,true⟩)(ho:cG≠0)(aw:bF 1=cb 0)(hq:bF 5= .slice (some ⟨cG,0,none⟩) cj.length 1)(ch:bF 8= .bool dB)
    (jt:bF 119=aQ (ds.map eL) 7) (iC:bF 120=X ds.length) (gg:bF 121=X 0) {Q:dp->aM->E->Prop}
    (a1: ∀u t o,(∀k∈nW,k≠5->u k=bF k)->u 8= .bool dB->u 5= .slice (some ⟨o,0,none⟩) (cj.length+ds.length) 1->t.U o=some ⟨e3 (cj++ds.map (·.name)),true⟩->(o=cG\/bS.next<=o)->bS.next<=t.next->(∀b,b<bS.next->b≠cG->t.U b=bS.U b)->Q (.bw 4) u t):gD Z (.loop Sh) bF bS Q:=by
  have tM:=aO my;have Gw:=aO jl;have fN:ds.length<=1000:=ze;refine hC (a0:=⟨[],[]⟩) (λi u t=> ∃o,(∀k∈nW,k≠5->u k=bF k)/\u 8= .bool dB/\u 5= .slice (some ⟨o,0,none⟩) (cj.length+i) 1/\t.U o=some ⟨e3 (cj++(ds.take i).map (·.name)),true⟩/\(o=cG\/bS.next<=o)/\bS.next<=t.next/\(∀b,b<bS.next->b≠cG->t.U b=bS.U b)/\u 119=aQ (ds.map eL) 7/\u 120=X ds.length/\u 121=X i) ds.length ?_ ?_ 0 bF bS (hf _) ⟨cG,λ_ _ _=>rfl,by simpa using ch,by simpa using hq,by simpa using jl,.inl rfl,eB _,λ_ _ _=>rfl,jt,iC,gg⟩
  · rintro i u t ag ⟨o,h0,hk,kq,bj,eS,hR,e2,hW,hp,jP⟩ cp aZ;have F:ds[i]?=some ds[i]:=c0 ag;have bc:=e7 (n:=i) (by omega);have bn:(i:Int)<ds.length:=(by omega);have nv:u 1=cb 0:=(h0 1 (by decide) (by decide)).trans aw;have aJ:t.U 0=some ⟨bl z,true⟩:=(by rw[e2 0 tM (Ne.symm ho)];exact my);have et:=aO aJ;have cK:=aO bj;have j8:o≠0:=(by rcases eS with rfl|b6<;>omega);obtain⟨iT,ob⟩: ∃c,c=e3 (cj++(ds.take i).map (·.name)):=⟨_,rfl⟩;rw[<-ob]at bj;have gr:iT.length=cj.length+i:=(by rw[ob,w4,mo,jZ,k9];omega);have hd:iT.take (cj.length+i)=iT:=fw (by omega);have gv:(cj.length+i+1)*16<=140737488355328/\cj.length+i<=9223372036854775806:=(by omega);have ia:iT++[ei ds[i].name]=e3 (cj++(ds.take (i+1)).map (·.name)):=(by rw[l6 F,oy,<-ug,n0,wj,BN,ob]);simp(disch:=first|omega|simp only[DI.aF];omega) [Sh,aaA,alQ,eL,kq,hW,hp,jP,bj,bn,bc,gr,hd,gv,-ao,-aB,-ai,-au,-List.map_map];refine aZ _ _ ⟨t.next+4+4,λk aa ay=>kN (b:=u k) (fF (d:=5) ?_ ?_ ?_ ?_ ?_ ?_ k aa ay) (h0 k aa ay),?_,?_,?_,.inr (by omega),?_,λb K eO=> ?_,?_,?_,?_⟩
    all_goals first
      |(intro ay;first|(exact absurd rfl ay)|(simp;done))
      |(simp[hk];done)
      |(rw[<-ia];simp(disch:=first|omega|simp only[DI.aF];omega) [-ao,-aB,-ai,-au,-List.map_map];done)
      | (have oH:b≠o:=by rcases eS with rfl|b6<;>omega
         rw[<-e2 b K eO];simp(disch:=first|omega|simp only[DI.aF];omega) [-ao,-aB,-ai,-au,-List.map_map];done)
      |(simp(disch:=first|omega|simp only[DI.aF];omega) [-ao,-aB,-ai,-au,-List.map_map];done)
      |(simp(disch:=first|omega|simp only[DI.aF];omega) [hW,hp,-ao,-aB,-ai,-au,-List.map_map];done)
      |(simp(disch:=first|omega|simp only[DI.aF];omega) [-ao,-aB,-ai,-au,-List.map_map];omega)
      |(simp;omega)
  · rintro u t ⟨o,h0,hk,kq,bj,eS,hR,e2,hW,hp,jP⟩;rw[kM]at bj;simp(disch:=first|omega|simp only[DI.aF];omega) [Sh,aaA,hp,jP,-ao,-aB,-ai,-au,-List.map_map];refine a1 _ _ o (λk aa ay=>kN (b:=u k) (fF (d:=5) ?_ ?_ ?_ ?_ ?_ ?_ k aa ay) (h0 k aa ay)) ?_ ?_ bj eS hR e2
    all_goals first
      |(intro ay;simp;done)
      |(simp[hk];done)
      |(simp[kq];done)
theorem aMl{z:a4}(h:a4.dP z){bF:aM}{bS:E}{cG:Nat}{cj:List ByteArray}{dB:Bool}(pS:cj.length<=10000)(my:bS.U 0=some ⟨bl z,true⟩)(jl:bS.U cG=some ⟨e3 cj,true⟩)(ho:cG≠0)(aw:bF 1=cb 0)(hq:bF 5= .slice (some ⟨cG,0,none⟩) cj.length 1)(ch:bF 8= .bool dB)
    (jt:bF 132=aQ (z.c5.map hO) 3) (iC:bF 133=X z.c5.length) (gg:bF 134=X 0) {Q:dp->aM->E->Prop}
    (a1: ∀u t o,(∀k∈nW,k≠5->u k=bF k)->u 8= .bool (dB&&z.c5.all (nE z.aR.length z.br))->u 5= .slice (some ⟨o,0,none⟩) (cj.length+z.c5.length) 1->t.U o=some ⟨e3 (cj++z.c5.map (·.name)),true⟩->(o=cG\/bS.next<=o)->bS.next<=t.next->(∀b,b<bS.next->b≠cG->t.U b=bS.U b)->Q (.bw 6) u t):gD Z (.loop Di) bF bS Q:=by
  have tM:=aO my;have Gw:=aO jl;have fN:z.c5.length<=1000:=h.r2;refine hC (a0:=⟨[vZ],[]⟩) (λi u t=> ∃o,(∀k∈nW,k≠5->u k=bF k)/\u 8= .bool (dB&&(z.c5.take i).all (nE z.aR.length z.br))/\u 5= .slice (some ⟨o,0,none⟩) (cj.length+i) 1/\t.U o=some ⟨e3 (cj++(z.c5.take i).map (·.name)),true⟩/\(o=cG\/bS.next<=o)/\bS.next<=t.next/\(∀b,b<bS.next->b≠cG->t.U b=bS.U b)/\u 132=aQ (z.c5.map hO) 3/\u 133=X z.c5.length/\u 134=X i) z.c5.length ?_ ?_ 0 bF bS (hf _) ⟨cG,λ_ _ _=>rfl,by simpa using ch,by simpa using hq,by simpa using jl,.inl rfl,eB _,λ_ _ _=>rfl,jt,iC,gg⟩
  · rintro i u t ag ⟨o,h0,hk,kq,bj,eS,hR,e2,hW,hp,jP⟩ cp aZ;have F:z.c5[i]?=some z.c5[i]:=c0 ag;have bc:=e7 (n:=i) (by omega);have bn:(i:Int)<z.c5.length:=(by omega);have nv:u 1=cb 0:=(h0 1 (by decide) (by decide)).trans aw;have aJ:t.U 0=some ⟨bl z,true⟩:=(by rw[e2 0 tM (Ne.symm ho)];exact my);have et:=aO aJ;have cK:=aO bj;have j8:o≠0:=(by rcases eS with rfl|b6<;>omega);obtain⟨iT,ob⟩: ∃c,c=e3 (cj++(z.c5.take i).map (·.name)):=⟨_,rfl⟩;rw[<-ob]at bj;have gr:iT.length=cj.length+i:=(by rw[ob,w4,mo,jZ,k9];omega);have hd:iT.take (cj.length+i)=iT:=fw (by omega);have gv:(cj.length+i+1)*16<=140737488355328/\cj.length+i<=9223372036854775806:=(by omega);have ia:iT++[ei z.c5[i].name]=e3 (cj++(z.c5.take (i+1)).map (·.name)):=(by rw[l6 F,oy,<-ug,n0,wj,BN,ob]);have mn:IntKind.i64.wrap ((z.aR.length:Int)-1)=(z.aR.length:Int)-1:=fo (by omega) (by have:=h.de;omega);have Hc:IntKind.i64.wrap ((z.br.length:Int)-1)=(z.br.length:Int)-1:=fo (by omega) (by have:=h.lk;omega);have K:=KH (p:=(nE z.aR.length z.br)) (b:=dB) F;obtain⟨a9,dt⟩: ∃a9,a9=(dB&&(z.c5.take i).all (nE z.aR.length z.br)):=⟨_,rfl⟩;rw[<-dt]at hk K;cases a9
    · skip
      simp(disch:=first|omega|simp only[DI.aF];omega) [Di,F2,IJ,IK,hO,hk,kq,hW,hp,jP,bj,bn,bc,gr,hd,gv,-ao,-aB,-ai,-au,-List.map_map];refine aZ _ _ ⟨t.next+4+4,λk aa ay=>kN (b:=u k) (fF (d:=5) ?_ ?_ ?_ ?_ ?_ ?_ k aa ay) (h0 k aa ay),?_,?_,?_,.inr (by omega),?_,λb K eO=> ?_,?_,?_,?_⟩
      all_goals first
        |(intro ay;first|(exact absurd rfl ay)|(simp;done))
        |(rw[K];simp[];done)
        |(rw[<-ia];simp(disch:=first|omega|simp only[DI.aF];omega) [-ao,-aB,-ai,-au,-List.map_map];done)
        | (have oH:b≠o:=by rcases eS with rfl|b6<;>omega
           rw[<-e2 b K eO];simp(disch:=first|omega|simp only[DI.aF];omega) [-ao,-aB,-ai,-au,-List.map_map];done)
        |(simp(disch:=first|omega|simp only[DI.aF];omega) [-ao,-aB,-ai,-au,-List.map_map];done)
        |(simp(disch:=first|omega|simp only[DI.aF];omega) [hW,hp,-ao,-aB,-ai,-au,-List.map_map];done)
        |(simp(disch:=first|omega|simp only[DI.aF];omega) [-ao,-aB,-ai,-au,-List.map_map];omega)
        |(simp;omega)
    · skip
      cases ck:eG z.c5[i].model 0 ((z.aR.length:Int)-1)
      · skip
        simp(disch:=first|omega|simp only[DI.aF];omega) [Di,F2,IJ,IK,bl,hO,nv,hk,kq,hW,hp,jP,aJ,bj,bn,bc,gr,hd,gv,mn,ck,-ao,-aB,-ai,-au,-List.map_map];refine aZ _ _ ⟨t.next+4+4,λk aa ay=>kN (b:=u k) (fF (d:=5) ?_ ?_ ?_ ?_ ?_ ?_ k aa ay) (h0 k aa ay),?_,?_,?_,.inr (by omega),?_,λb K eO=> ?_,?_,?_,?_⟩
        all_goals first
          |(intro ay;first|(exact absurd rfl ay)|(simp;done))
          |(rw[K];simp[nE,ck];done)
          |(rw[<-ia];simp(disch:=first|omega|simp only[DI.aF];omega) [-ao,-aB,-ai,-au,-List.map_map];done)
          | (have oH:b≠o:=by rcases eS with rfl|b6<;>omega
             rw[<-e2 b K eO];simp(disch:=first|omega|simp only[DI.aF];omega) [-ao,-aB,-ai,-au,-List.map_map];done)
          |(simp(disch:=first|omega|simp only[DI.aF];omega) [-ao,-aB,-ai,-au,-List.map_map];done)
          |(simp(disch:=first|omega|simp only[DI.aF];omega) [hW,hp,-ao,-aB,-ai,-au,-List.map_map];done)
          |(simp(disch:=first|omega|simp only[DI.aF];omega) [-ao,-aB,-ai,-au,-List.map_map];omega)
          |(simp;omega)
      · skip
        cases cE:eG z.c5[i].q9 0 ((z.br.length:Int)-1)
        · skip
          simp(disch:=first|omega|simp only[DI.aF];omega) [Di,F2,IJ,IK,bl,hO,nv,hk,kq,hW,hp,jP,aJ,bj,bn,bc,gr,hd,gv,mn,Hc,ck,cE,-ao,-aB,-ai,-au,-List.map_map];refine aZ _ _ ⟨t.next+4+4,λk aa ay=>kN (b:=u k) (fF (d:=5) ?_ ?_ ?_ ?_ ?_ ?_ k aa ay) (h0 k aa ay),?_,?_,?_,.inr (by omega),?_,λb K eO=> ?_,?_,?_,?_⟩
          all_goals first
            |(intro ay;first|(exact absurd rfl ay)|(simp;done))
            |(rw[K];simp[nE,ck,cE];done)
            |(rw[<-ia];simp(disch:=first|omega|simp only[DI.aF];omega) [-ao,-aB,-ai,-au,-List.map_map];done)
            | (have oH:b≠o:=by rcases eS with rfl|b6<;>omega
               rw[<-e2 b K eO];simp(disch:=first|omega|simp only[DI.aF];omega) [-ao,-aB,-ai,-au,-List.map_map];done)
            |(simp(disch:=first|omega|simp only[DI.aF];omega) [-ao,-aB,-ai,-au,-List.map_map];done)
            |(simp(disch:=first|omega|simp only[DI.aF];omega) [hW,hp,-ao,-aB,-ai,-au,-List.map_map];done)
            |(simp(disch:=first|omega|simp only[DI.aF];omega) [-ao,-aB,-ai,-au,-List.map_map];omega)
            |(simp;omega)
        · skip
          have xK:=rT.1 cE;obtain⟨aU,jb⟩:=xp xK.1;have Fo:aU<z.br.length:=(by omega);have oG:(aU:Int)<z.br.length:=(by omega);have bz:z.br[aU]?=some z.br[aU]:=c0 Fo;have aN:Ol z.br (aU:Int)=decide (z.br[aU].g3=4):=(by unfold Ol;rw[u6,bz]);rw[jb]at cE;by_cases e8:z.br[aU].g3=4
          · skip
            simp(disch:=first|omega|simp only[DI.aF];omega) [Di,F2,IJ,IK,bl,hO,nv,hk,kq,hW,hp,jP,aJ,bj,bn,bc,gr,hd,gv,mn,Hc,eL,ck,cE,jb,oG,e8,-ao,-aB,-ai,-au,-List.map_map];refine aZ _ _ ⟨t.next+4+4,λk aa ay=>kN (b:=u k) (fF (d:=5) ?_ ?_ ?_ ?_ ?_ ?_ k aa ay) (h0 k aa ay),?_,?_,?_,.inr (by omega),?_,λb K eO=> ?_,?_,?_,?_⟩
            all_goals first
              |(intro ay;first|(exact absurd rfl ay)|(simp;done))
              |(rw[K];simp[nE,aN,ck,cE,jb,e8];done)
              |(rw[<-ia];simp(disch:=first|omega|simp only[DI.aF];omega) [-ao,-aB,-ai,-au,-List.map_map];done)
              | (have oH:b≠o:=by rcases eS with rfl|b6<;>omega
                 rw[<-e2 b K eO];simp(disch:=first|omega|simp only[DI.aF];omega) [-ao,-aB,-ai,-au,-List.map_map];done)
              |(simp(disch:=first|omega|simp only[DI.aF];omega) [-ao,-aB,-ai,-au,-List.map_map];done)
              |(simp(disch:=first|omega|simp only[DI.aF];omega) [hW,hp,-ao,-aB,-ai,-au,-List.map_map];done)
              |(simp(disch:=first|omega|simp only[DI.aF];omega) [-ao,-aB,-ai,-au,-List.map_map];omega)
              |(simp;omega)
          · skip
            simp(disch:=first|omega|simp only[DI.aF];omega) [Di,F2,IJ,IK,bl,hO,nv,hk,kq,hW,hp,jP,aJ,bj,bn,bc,gr,hd,gv,mn,Hc,eL,ck,cE,jb,oG,e8,-ao,-aB,-ai,-au,-List.map_map];refine aZ _ _ ⟨t.next+4+4,λk aa ay=>kN (b:=u k) (fF (d:=5) ?_ ?_ ?_ ?_ ?_ ?_ k aa ay) (h0 k aa ay),?_,?_,?_,.inr (by omega),?_,λb K eO=> ?_,?_,?_,?_⟩
            all_goals first
              |(intro ay;first|(exact absurd rfl ay)|(simp;done))
              |(rw[K];simp[nE,aN,ck,cE,jb,e8];done)
              |(rw[<-ia];simp(disch:=first|omega|simp only[DI.aF];omega) [-ao,-aB,-ai,-au,-List.map_map];done)
              | (have oH:b≠o:=by rcases eS with rfl|b6<;>omega
                 rw[<-e2 b K eO];simp(disch:=first|omega|simp only[DI.aF];omega) [-ao,-aB,-ai,-au,-List.map_map];done)
              |(simp(disch:=first|omega|simp only[DI.aF];omega) [-ao,-aB,-ai,-au,-List.map_map];done)
              |(simp(disch:=first|omega|simp only[DI.aF];omega) [hW,hp,-ao,-aB,-ai,-au,-List.map_map];done)
              |(simp(disch:=first|omega|simp only[DI.aF];omega) [-ao,-aB,-ai,-au,-List.map_map];omega)
              |(simp;omega)
  · rintro u t ⟨o,h0,hk,kq,bj,eS,hR,e2,hW,hp,jP⟩;rw[kM]at bj hk;simp(disch:=first|omega|simp only[DI.aF];omega) [Di,F2,hp,jP,-ao,-aB,-ai,-au,-List.map_map];refine a1 _ _ o (λk aa ay=>kN (b:=u k) (fF (d:=5) ?_ ?_ ?_ ?_ ?_ ?_ k aa ay) (h0 k aa ay)) ?_ ?_ bj eS hR e2
    all_goals first
      |(intro ay;simp;done)
      |(simp[hk];done)
      |(simp[kq];done)
theorem aMm{z:a4}(h:a4.dP z){bF:aM}{bS:E}{cG:Nat}{cj:List ByteArray}{dB:Bool}(pS:cj.length<=10000)(my:bS.U 0=some ⟨bl z,true⟩)(jl:bS.U cG=some ⟨e3 cj,true⟩)(ho:cG≠0)(aw:bF 1=cb 0)(hq:bF 6= .slice (some ⟨cG,0,none⟩) cj.length 1)(ch:bF 8= .bool dB)
    (jt:bF 174=aQ (z.bT.map eR) 17) (iC:bF 175=X z.bT.length) (gg:bF 176=X 0) {Q:dp->aM->E->Prop}
    (a1: ∀u t o,(∀k∈nW,k≠6->u k=bF k)->u 8= .bool (dB&&z.bT.all (k8 · z.aR.length))->u 6= .slice (some ⟨o,0,none⟩) (cj.length+z.bT.length) 1->t.U o=some ⟨e3 (cj++z.bT.map (·.name)),true⟩->(o=cG\/bS.next<=o)->bS.next<=t.next->(∀b,b<bS.next->b≠cG->t.U b=bS.U b)->Q (.bw 8) u t):gD Z (.loop IM) bF bS Q:=by
  have tM:=aO my;have Gw:=aO jl;have fN:z.bT.length<=1000:=h.je;refine hC (a0:=⟨[agx z.aR.length (by have:=h.de;omega)],[]⟩) (λi u t=> ∃o,(∀k∈nW,k≠6->u k=bF k)/\u 8= .bool (dB&&(z.bT.take i).all (k8 · z.aR.length))/\u 6= .slice (some ⟨o,0,none⟩) (cj.length+i) 1/\t.U o=some ⟨e3 (cj++(z.bT.take i).map (·.name)),true⟩/\(o=cG\/bS.next<=o)/\bS.next<=t.next/\(∀b,b<bS.next->b≠cG->t.U b=bS.U b)/\u 174=aQ (z.bT.map eR) 17/\u 175=X z.bT.length/\u 176=X i) z.bT.length ?_ ?_ 0 bF bS (hf _) ⟨cG,λ_ _ _=>rfl,by simpa using ch,by simpa using hq,by simpa using jl,.inl rfl,eB _,λ_ _ _=>rfl,jt,iC,gg⟩
  · rintro i u t ag ⟨o,h0,hk,kq,bj,eS,hR,e2,hW,hp,jP⟩ cp aZ;have F:z.bT[i]?=some z.bT[i]:=c0 ag;have bc:=e7 (n:=i) (by omega);have bn:(i:Int)<z.bT.length:=(by omega);have nv:u 1=cb 0:=(h0 1 (by decide) (by decide)).trans aw;have aJ:t.U 0=some ⟨bl z,true⟩:=(by rw[e2 0 tM (Ne.symm ho)];exact my);have et:=aO aJ;have cK:=aO bj;have j8:o≠0:=(by rcases eS with rfl|b6<;>omega);obtain⟨iT,ob⟩: ∃c,c=e3 (cj++(z.bT.take i).map (·.name)):=⟨_,rfl⟩;rw[<-ob]at bj;have gr:iT.length=cj.length+i:=(by rw[ob,w4,mo,jZ,k9];omega);have hd:iT.take (cj.length+i)=iT:=fw (by omega);have gv:(cj.length+i+1)*16<=140737488355328/\cj.length+i<=9223372036854775806:=(by omega);have ia:iT++[ei z.bT[i].name]=e3 (cj++(z.bT.take (i+1)).map (·.name)):=(by rw[l6 F,oy,<-ug,n0,wj,BN,ob]);have ck:=h.bT _ (qM ag);have K:=KH (p:=(k8 · z.aR.length)) (b:=dB) F;obtain⟨a9,dt⟩: ∃a9,a9=(dB&&(z.bT.take i).all (k8 · z.aR.length)):=⟨_,rfl⟩;rw[<-dt]at hk K;cases a9
    · skip
      simp(disch:=first|omega|simp only[DI.aF];omega) [IM,M0,Sb,Sc,eR,hk,kq,hW,hp,jP,bj,bn,bc,gr,hd,gv,-ao,-aB,-ai,-au,-List.map_map];refine aZ _ _ ⟨t.next+4+4,λk aa ay=>kN (b:=u k) (fF (d:=6) ?_ ?_ ?_ ?_ ?_ ?_ k aa ay) (h0 k aa ay),?_,?_,?_,.inr (by omega),?_,λb K eO=> ?_,?_,?_,?_⟩
      all_goals first
        |(intro ay;first|(exact absurd rfl ay)|(simp;done))
        |(rw[K];simp[];done)
        |(rw[<-ia];simp(disch:=first|omega|simp only[DI.aF];omega) [-ao,-aB,-ai,-au,-List.map_map];done)
        | (have oH:b≠o:=by rcases eS with rfl|b6<;>omega
           rw[<-e2 b K eO];simp(disch:=first|omega|simp only[DI.aF];omega) [-ao,-aB,-ai,-au,-List.map_map];done)
        |(simp(disch:=first|omega|simp only[DI.aF];omega) [-ao,-aB,-ai,-au,-List.map_map];done)
        |(simp(disch:=first|omega|simp only[DI.aF];omega) [hW,hp,-ao,-aB,-ai,-au,-List.map_map];done)
        |(simp(disch:=first|omega|simp only[DI.aF];omega) [-ao,-aB,-ai,-au,-List.map_map];omega)
        |(simp;omega)
    · skip
      cases cE:k8 z.bT[i] z.aR.length
      · skip
        simp(disch:=first|omega|simp only[DI.aF];omega) [IM,M0,Sb,Sc,bl,eR,nv,hk,kq,hW,hp,jP,aJ,bj,bn,bc,gr,hd,gv,cE,-ao,-aB,-ai,-au,-List.map_map];refine aZ _ _ ⟨t.next+4+4,λk aa ay=>kN (b:=u k) (fF (d:=6) ?_ ?_ ?_ ?_ ?_ ?_ k aa ay) (h0 k aa ay),?_,?_,?_,.inr (by omega),?_,λb K eO=> ?_,?_,?_,?_⟩
        all_goals first
          |(intro ay;first|(exact absurd rfl ay)|(simp;done))
          |(rw[K];simp[cE];done)
          |(rw[<-ia];simp(disch:=first|omega|simp only[DI.aF];omega) [-ao,-aB,-ai,-au,-List.map_map];done)
          | (have oH:b≠o:=by rcases eS with rfl|b6<;>omega
             rw[<-e2 b K eO];simp(disch:=first|omega|simp only[DI.aF];omega) [-ao,-aB,-ai,-au,-List.map_map];done)
          |(simp(disch:=first|omega|simp only[DI.aF];omega) [-ao,-aB,-ai,-au,-List.map_map];done)
          |(simp(disch:=first|omega|simp only[DI.aF];omega) [hW,hp,-ao,-aB,-ai,-au,-List.map_map];done)
          |(simp(disch:=first|omega|simp only[DI.aF];omega) [-ao,-aB,-ai,-au,-List.map_map];omega)
          |(simp;omega)
      · skip
        simp(disch:=first|omega|simp only[DI.aF];omega) [IM,M0,Sb,Sc,bl,eR,nv,hk,kq,hW,hp,jP,aJ,bj,bn,bc,gr,hd,gv,cE,-ao,-aB,-ai,-au,-List.map_map];refine aZ _ _ ⟨t.next+4+4,λk aa ay=>kN (b:=u k) (fF (d:=6) ?_ ?_ ?_ ?_ ?_ ?_ k aa ay) (h0 k aa ay),?_,?_,?_,.inr (by omega),?_,λb K eO=> ?_,?_,?_,?_⟩
        all_goals first
          |(intro ay;first|(exact absurd rfl ay)|(simp;done))
          |(rw[K];simp[cE];done)
          |(rw[<-ia];simp(disch:=first|omega|simp only[DI.aF];omega) [-ao,-aB,-ai,-au,-List.map_map];done)
          | (have oH:b≠o:=by rcases eS with rfl|b6<;>omega
             rw[<-e2 b K eO];simp(disch:=first|omega|simp only[DI.aF];omega) [-ao,-aB,-ai,-au,-List.map_map];done)
          |(simp(disch:=first|omega|simp only[DI.aF];omega) [-ao,-aB,-ai,-au,-List.map_map];done)
          |(simp(disch:=first|omega|simp only[DI.aF];omega) [hW,hp,-ao,-aB,-ai,-au,-List.map_map];done)
          |(simp(disch:=first|omega|simp only[DI.aF];omega) [-ao,-aB,-ai,-au,-List.map_map];omega)
          |(simp;omega)
  · rintro u t ⟨o,h0,hk,kq,bj,eS,hR,e2,hW,hp,jP⟩;rw[kM]at bj hk;simp(disch:=first|omega|simp only[DI.aF];omega) [IM,M0,hp,jP,-ao,-aB,-ai,-au,-List.map_map];refine a1 _ _ o (λk aa ay=>kN (b:=u k) (fF (d:=6) ?_ ?_ ?_ ?_ ?_ ?_ k aa ay) (h0 k aa ay)) ?_ ?_ bj eS hR e2
    all_goals first
      |(intro ay;simp;done)
      |(simp[hk];done)
      |(simp[kq];done)
theorem aMn{z:a4}(h:a4.dP z){bF:aM}{bS:E}{cG:Nat}{cj:List ByteArray}{dB:Bool}(pS:cj.length<=10000)(my:bS.U 0=some ⟨bl z,true⟩)(jl:bS.U cG=some ⟨e3 cj,true⟩)(ho:cG≠0)(aw:bF 1=cb 0)(hq:bF 7= .slice (some ⟨cG,0,none⟩) cj.length 1)(ch:bF 8= .bool dB)
    (jt:bF 195=aQ (z.cP.map iy) 2) (iC:bF 196=X z.cP.length) (gg:bF 197=X 0) {Q:dp->aM->E->Prop}
    (a1: ∀u t o,(∀k∈nW,k≠7->u k=bF k)->u 8= .bool (dB&&z.cP.all (sd z.bT.length))->u 7= .slice (some ⟨o,0,none⟩) (cj.length+z.cP.length) 1->t.U o=some ⟨e3 (cj++z.cP.map (·.name)),true⟩->(o=cG\/bS.next<=o)->bS.next<=t.next->(∀b,b<bS.next->b≠cG->t.U b=bS.U b)->Q (.bw 10) u t):gD Z (.loop IN) bF bS Q:=by
  have tM:=aO my;have Gw:=aO jl;have fN:z.cP.length<=1000:=h.zX;refine hC (a0:=⟨[vZ],[]⟩) (λi u t=> ∃o,(∀k∈nW,k≠7->u k=bF k)/\u 8= .bool (dB&&(z.cP.take i).all (sd z.bT.length))/\u 7= .slice (some ⟨o,0,none⟩) (cj.length+i) 1/\t.U o=some ⟨e3 (cj++(z.cP.take i).map (·.name)),true⟩/\(o=cG\/bS.next<=o)/\bS.next<=t.next/\(∀b,b<bS.next->b≠cG->t.U b=bS.U b)/\u 195=aQ (z.cP.map iy) 2/\u 196=X z.cP.length/\u 197=X i) z.cP.length ?_ ?_ 0 bF bS (hf _) ⟨cG,λ_ _ _=>rfl,by simpa using ch,by simpa using hq,by simpa using jl,.inl rfl,eB _,λ_ _ _=>rfl,jt,iC,gg⟩
  · rintro i u t ag ⟨o,h0,hk,kq,bj,eS,hR,e2,hW,hp,jP⟩ cp aZ;have F:z.cP[i]?=some z.cP[i]:=c0 ag;have bc:=e7 (n:=i) (by omega);have bn:(i:Int)<z.cP.length:=(by omega);have nv:u 1=cb 0:=(h0 1 (by decide) (by decide)).trans aw;have aJ:t.U 0=some ⟨bl z,true⟩:=(by rw[e2 0 tM (Ne.symm ho)];exact my);have et:=aO aJ;have cK:=aO bj;have j8:o≠0:=(by rcases eS with rfl|b6<;>omega);obtain⟨iT,ob⟩: ∃c,c=e3 (cj++(z.cP.take i).map (·.name)):=⟨_,rfl⟩;rw[<-ob]at bj;have gr:iT.length=cj.length+i:=(by rw[ob,w4,mo,jZ,k9];omega);have hd:iT.take (cj.length+i)=iT:=fw (by omega);have gv:(cj.length+i+1)*16<=140737488355328/\cj.length+i<=9223372036854775806:=(by omega);have ia:iT++[ei z.cP[i].name]=e3 (cj++(z.cP.take (i+1)).map (·.name)):=(by rw[l6 F,oy,<-ug,n0,wj,BN,ob]);have mn:IntKind.i64.wrap ((z.bT.length:Int)-1)=(z.bT.length:Int)-1:=fo (by omega) (by have:=h.je;omega);have K:=KH (p:=(sd z.bT.length)) (b:=dB) F;obtain⟨a9,dt⟩: ∃a9,a9=(dB&&(z.cP.take i).all (sd z.bT.length)):=⟨_,rfl⟩;rw[<-dt]at hk K;cases a9
    · skip
      simp(disch:=first|omega|simp only[DI.aF];omega) [IN,M1,Sd,Se,iy,hk,kq,hW,hp,jP,bj,bn,bc,gr,hd,gv,-ao,-aB,-ai,-au,-List.map_map];refine aZ _ _ ⟨t.next+4+4,λk aa ay=>kN (b:=u k) (fF (d:=7) ?_ ?_ ?_ ?_ ?_ ?_ k aa ay) (h0 k aa ay),?_,?_,?_,.inr (by omega),?_,λb K eO=> ?_,?_,?_,?_⟩
      all_goals first
        |(intro ay;first|(exact absurd rfl ay)|(simp;done))
        |(rw[K];simp[];done)
        |(rw[<-ia];simp(disch:=first|omega|simp only[DI.aF];omega) [-ao,-aB,-ai,-au,-List.map_map];done)
        | (have oH:b≠o:=by rcases eS with rfl|b6<;>omega
           rw[<-e2 b K eO];simp(disch:=first|omega|simp only[DI.aF];omega) [-ao,-aB,-ai,-au,-List.map_map];done)
        |(simp(disch:=first|omega|simp only[DI.aF];omega) [-ao,-aB,-ai,-au,-List.map_map];done)
        |(simp(disch:=first|omega|simp only[DI.aF];omega) [hW,hp,-ao,-aB,-ai,-au,-List.map_map];done)
        |(simp(disch:=first|omega|simp only[DI.aF];omega) [-ao,-aB,-ai,-au,-List.map_map];omega)
        |(simp;omega)
    · skip
      cases ck:eG z.cP[i].w9 0 ((z.bT.length:Int)-1)
      · skip
        simp(disch:=first|omega|simp only[DI.aF];omega) [IN,M1,Sd,Se,bl,iy,nv,hk,kq,hW,hp,jP,aJ,bj,bn,bc,gr,hd,gv,mn,ck,-ao,-aB,-ai,-au,-List.map_map];refine aZ _ _ ⟨t.next+4+4,λk aa ay=>kN (b:=u k) (fF (d:=7) ?_ ?_ ?_ ?_ ?_ ?_ k aa ay) (h0 k aa ay),?_,?_,?_,.inr (by omega),?_,λb K eO=> ?_,?_,?_,?_⟩
        all_goals first
          |(intro ay;first|(exact absurd rfl ay)|(simp;done))
          |(rw[K];simp[sd,ck];done)
          |(rw[<-ia];simp(disch:=first|omega|simp only[DI.aF];omega) [-ao,-aB,-ai,-au,-List.map_map];done)
          | (have oH:b≠o:=by rcases eS with rfl|b6<;>omega
             rw[<-e2 b K eO];simp(disch:=first|omega|simp only[DI.aF];omega) [-ao,-aB,-ai,-au,-List.map_map];done)
          |(simp(disch:=first|omega|simp only[DI.aF];omega) [-ao,-aB,-ai,-au,-List.map_map];done)
          |(simp(disch:=first|omega|simp only[DI.aF];omega) [hW,hp,-ao,-aB,-ai,-au,-List.map_map];done)
          |(simp(disch:=first|omega|simp only[DI.aF];omega) [-ao,-aB,-ai,-au,-List.map_map];omega)
          |(simp;omega)
      · skip
        simp(disch:=first|omega|simp only[DI.aF];omega) [IN,M1,Sd,Se,bl,iy,nv,hk,kq,hW,hp,jP,aJ,bj,bn,bc,gr,hd,gv,mn,ck,-ao,-aB,-ai,-au,-List.map_map];refine aZ _ _ ⟨t.next+4+4,λk aa ay=>kN (b:=u k) (fF (d:=7) ?_ ?_ ?_ ?_ ?_ ?_ k aa ay) (h0 k aa ay),?_,?_,?_,.inr (by omega),?_,λb K eO=> ?_,?_,?_,?_⟩
        all_goals first
          |(intro ay;first|(exact absurd rfl ay)|(simp;done))
          |(rw[K];simp[sd,ck];done)
          |(rw[<-ia];simp(disch:=first|omega|simp only[DI.aF];omega) [-ao,-aB,-ai,-au,-List.map_map];done)
          | (have oH:b≠o:=by rcases eS with rfl|b6<;>omega
             rw[<-e2 b K eO];simp(disch:=first|omega|simp only[DI.aF];omega) [-ao,-aB,-ai,-au,-List.map_map];done)
          |(simp(disch:=first|omega|simp only[DI.aF];omega) [-ao,-aB,-ai,-au,-List.map_map];done)
          |(simp(disch:=first|omega|simp only[DI.aF];omega) [hW,hp,-ao,-aB,-ai,-au,-List.map_map];done)
          |(simp(disch:=first|omega|simp only[DI.aF];omega) [-ao,-aB,-ai,-au,-List.map_map];omega)
          |(simp;omega)
  · rintro u t ⟨o,h0,hk,kq,bj,eS,hR,e2,hW,hp,jP⟩;rw[kM]at bj hk;simp(disch:=first|omega|simp only[DI.aF];omega) [IN,M1,hp,jP,-ao,-aB,-ai,-au,-List.map_map];refine a1 _ _ o (λk aa ay=>kN (b:=u k) (fF (d:=7) ?_ ?_ ?_ ?_ ?_ ?_ k aa ay) (h0 k aa ay)) ?_ ?_ bj eS hR e2
    all_goals first
      |(intro ay;simp;done)
      |(simp[hk];done)
      |(simp[kq];done)
structure gw(z:a4)(b:Bool)(bE:Nat->Nat)(bN:Nat->List ByteArray)(u:aM)(t:E):Prop where
  aw:u 1=cb 0
  ch:u 8= .bool b
  aJ:t.U 0=some ⟨bl z,true⟩
  nV: ∀k,3<=k->k<=7->u k= .slice (some ⟨bE k,0,none⟩) (bN k).length 1
  g: ∀k,3<=k->k<=7->t.U (bE k)=some ⟨e3 (bN k),true⟩
  inj: ∀i j,3<=i->i<=7->3<=j->j<=7->bE i=bE j->i=j
  qC: ∀k,3<=k->k<=7->bE k≠0
theorem gw.kD{z:a4}{b:Bool}{bE:Nat->Nat}{bN:Nat->List ByteArray}{u ae:aM}{t:E}(h:gw z b bE bN u t)(iV:ae 8=u 8)(M: ∀k∈nW,k≠0->ae k=u k):gw z b bE bN ae t:=
  ⟨(M 1 (by decide) (by decide)).trans h.aw,iV.trans h.ch,h.aJ,λk B H=>by have:k=3\/k=4\/k=5\/k=6\/k=7:=(by omega);have aN:k∈nW:=(by rcases this with rfl|rfl|rfl|rfl|rfl<;>decide);exact(M k aN (by omega)).trans (h.nV k B H),h.g,h.inj,h.qC⟩
theorem gw.step{z:a4}{dB cM:Bool}{bE:Nat->Nat}{bN:Nat->List ByteArray}{bF u:aM}{bS t:E}(h:gw z dB bE bN bF bS)(d:Nat)(af:3<=d)(hh:d<=7){o:Nat}{ko:List ByteArray}{n:Nat}(av:ko.length=n)
    (h0: ∀k∈nW,k≠d->u k=bF k) (iV:u 8= .bool cM) (hq:u d= .slice (some ⟨o,0,none⟩) ((bN d).length+n) 1) (bj:t.U o=some ⟨e3 (bN d++ko),true⟩) (eS:o=bE d\/bS.next<=o) (hR:bS.next<=t.next) (e2: ∀b,b<bS.next->b≠bE d->t.U b=bS.U b):
    gw z cM (ed bE d o) (ed bN d (bN d++ko)) u t:=by
  have fa: ∀k,3<=k->k<=7->bE k<bS.next:= λk a b=>aO (h.g k a b)
  have et:=aO h.aJ;refine⟨(h0 1 (by decide) (by omega)).trans h.aw,iV,?_,λk a b=> ?_,λk a b=> ?_,λi j a b c e a2=> ?_,λk a b=> ?_⟩
  · rw[e2 0 et (Ne.symm (h.qC d af hh))];exact h.aJ
  · by_cases e:k=d
    · subst e;rw[ua,ua,hq,mo,av]
    · rw[ny e,ny e];have:k=3\/k=4\/k=5\/k=6\/k=7:=(by omega);have aN:k∈nW:=(by rcases this with rfl|rfl|rfl|rfl|rfl<;>decide);exact(h0 k aN e).trans (h.nV k a b)
  · by_cases e:k=d
    · subst e;rw[ua,ua];exact bj
    · rw[ny e,ny e,e2 _ (fa k a b) (λa2=>e (h.inj k d a b af hh a2))];exact h.g k a b
  · by_cases aX:i=d
    · by_cases bg:j=d
      · omega
      · rw[aX,ua,ny bg]at a2;rcases eS with b6|b6
        · rw[b6]at a2;have:=h.inj d j af hh c e a2;omega
        · have:=fa j c e;omega
    · by_cases bg:j=d
      · rw[bg,ua,ny aX]at a2;rcases eS with b6|b6
        · rw[b6]at a2;have:=h.inj i d a b af hh a2;omega
        · have:=fa i a b;omega
      · rw[ny aX,ny bg]at a2;exact h.inj i j a b c e a2
  · by_cases e:k=d
    · subst e;rw[ua];rcases eS with b6|b6
      · rw[b6];exact h.qC k a b
      · omega
    · rw[ny e];exact h.qC k a b
theorem atb{z:a4}{c:J}{u:aM}{t:E}{Q:dp->aM->E->Prop}(aw:u 1=cb 0)(ch:u 8= .bool true)(bA:u 3= .slice none 0 0)(fv:u 4= .slice none 0 0)(cv:u 5= .slice none 0 0)(dn:u 6= .slice none 0 0)(c7:u 7= .slice none 0 0)
    (aJ:t.U 0=some ⟨bl z,true⟩) (h: ∀ae bu bE,gw z true bE (λ_=>[]) ae bu->(∀k,8<k->ae k=u k)->gD Z c ae bu Q):gD Z c u t Q:=by
  have et:=aO aJ;obtain⟨bX,mE⟩: ∃bX,t.next=bX:=⟨_,rfl⟩
  refine Kk 3 1 bA λB8 aHE h3 pg=> ?_;refine Kk 4 1 (by simpa using fv) λPh aqm jk qv=> ?_;refine Kk 5 1 (by simpa using cv) λagR aUo lf adW=> ?_;refine Kk 6 1 (by simpa using dn) λagS aUp lz UE=> ?_;refine Kk 7 1 (by simpa using c7) λEi aUn n4 Oa=> ?_;have rD:B8.next=bX+1:=by omega
  have vf:Ph.next=bX+2:=by omega
  have ER:agR.next=bX+3:=by omega
  have KM:agS.next=bX+4:=by omega
  rw[mE]at h3;rw[rD]at jk;rw[vf]at lf;rw[ER]at lz;rw[KM]at n4;rw[mE,rD,vf,ER,KM];refine h _ _ (λk=>bX+(k-3)) ⟨by simpa using aw,by simpa using ch,?_,λk a b=> ?_,λk a b=> ?_,λi j a b c d e=>by omega,λk a b=>by omega⟩ (λk aa=>by simp only[p4,show¬k=3 by omega,show¬k=4 by omega,show¬k=5 by omega,show¬k=6 by omega,show¬k=7 by omega,if_false])
  · rw[Oa 0 (by omega),UE 0 (by omega),adW 0 (by omega),qv 0 (by omega),pg 0 (by omega)];exact aJ
  · have:k=3\/k=4\/k=5\/k=6\/k=7:=(by omega);rcases this with rfl|rfl|rfl|rfl|rfl<;>simp
  · have:k=3\/k=4\/k=5\/k=6\/k=7:=(by omega);rcases this with rfl|rfl|rfl|rfl|rfl
    · show Ei.U bX=_;rw[Oa bX (by omega),UE bX (by omega),adW bX (by omega),qv bX (by omega)];exact h3
    · show Ei.U (bX+1)=_;rw[Oa _ (by omega),UE _ (by omega),adW _ (by omega)];exact jk
    · show Ei.U (bX+2)=_;rw[Oa _ (by omega),UE _ (by omega)];exact lf
    · show Ei.U (bX+3)=_;rw[Oa _ (by omega)];exact lz
    · exact n4
noncomputable def g6(z:a4):Bool:=eG z.ext 1 4&&(decide (z.bO.length<=4)&&(decide (z.aR.length<=4)&&(decide (z.br.length<=40)&&(decide (z.c5.length<=24)&&(decide (z.bT.length<=4)&&(decide (z.cP.length<=12)&&(tn z.br&&(z.bO.all dY.oj&&(z.aR.all (nO z.bO.length)&&(z.c5.all (nE z.aR.length z.br)&&(z.bT.all (k8 · z.aR.length)&&(z.cP.all (sd z.bT.length)&&(fS (z.bO.map (·.name))&&(fS (z.aR.map (·.name))&&(fS (z.br.tail.map (·.name)++z.c5.map (·.name))&&(fS (z.bT.map (·.name))&&fS (z.cP.map (·.name))))))))))))))))))
theorem V9{z:a4}(h:a4.dP z):c4 Z 14 [.agg (bl z).toArray] (X (if g6 z then 0 else 1)):=by
  refine gR (ga (a0:=⟨[vZ,agv z h,ags],[]⟩) aCo (by kernel_rfl) (by simp[yb]) ?_);cases B:eG z.ext 1 4
  · have ar:g6 z=false:=(by simp[g6,B]);simp(disch:=first|omega|simp only[DI.aF];omega) [yb,zr,zs,bl,B,ar]
  by_cases eI:(4:Int)<z.bO.length
  · have ar:g6 z=false:=by
      have: ¬z.bO.length<=4:=(by omega);simp[g6,this]
    simp(disch:=first|omega|simp only[DI.aF];omega) [yb,zr,zs,bl,B,eI,ar]
  have et:z.bO.length<=4:=by omega
  by_cases bY:(4:Int)<z.aR.length
  · have ar:g6 z=false:=by
      have: ¬z.aR.length<=4:=(by omega);simp[g6,this]
    simp(disch:=first|omega|simp only[DI.aF];omega) [yb,zr,zs,bl,B,eI,bY,ar]
  have fP:z.aR.length<=4:=by omega
  by_cases cN:(40:Int)<z.br.length
  · have ar:g6 z=false:=by
      have: ¬z.br.length<=40:=(by omega);simp[g6,this]
    simp(disch:=first|omega|simp only[DI.aF];omega) [yb,zr,zs,bl,B,eI,bY,cN,ar]
  have dX:z.br.length<=40:=by omega
  by_cases dI:(24:Int)<z.c5.length
  · have ar:g6 z=false:=by
      have: ¬z.c5.length<=24:=(by omega);simp[g6,this]
    simp[yb,zr,zs,bl,B,eI,bY,cN,dI,ar,-ao,-aB,-ai,-au,-List.map_map]
  have DJ:z.c5.length<=24:=by omega
  by_cases ew:(4:Int)<z.bT.length
  · have ar:g6 z=false:=by
      have: ¬z.bT.length<=4:=(by omega);simp[g6,this]
    simp[yb,zr,zs,bl,B,eI,bY,cN,dI,ew,ar,-ao,-aB,-ai,-au,-List.map_map]
  have adZ:z.bT.length<=4:=by omega
  by_cases gE:(12:Int)<z.cP.length
  · have ar:g6 z=false:=by
      have: ¬z.cP.length<=12:=(by omega);simp[g6,this]
    simp[yb,zr,zs,bl,B,eI,bY,cN,dI,ew,gE,ar,-ao,-aB,-ai,-au,-List.map_map]
  have aGy:z.cP.length<=12:=by omega
  cases ay:tn z.br
  · have ar:g6 z=false:=(by simp[g6,ay]);simp[yb,zr,zs,bl,B,eI,bY,cN,dI,ew,gE,ay,ar,-ao,-aB,-ai,-au,-List.map_map]
  obtain⟨R,ds,iN⟩: ∃R ds,z.br=R::ds:=by
    cases bz:z.br with
    |nil=>rw[bz]at ay;cases ay
    |cons R ds=>exact⟨R,ds,rfl⟩
  have ze:ds.length<=1000:=by rw[iN]at dX;simp at dX;omega
  simp[yb,zr,zs,alT,alV,alW,bl,B,eI,bY,cN,dI,ew,gE,ay,-ao,-aB,-ai,-au,-List.map_map];refine atb (z:=z) (by simp) (by simp) (by simp) (by simp) (by simp) (by simp) (by simp) (by simp[bl,-ao,-aB,-ai,-au,-List.map_map]) λu t bE Y aa=> ?_;have jt:=aa 67 (by decide);have iC:=aa 68 (by decide);have gg:=aa 69 (by decide);refine aMi h (cj:=[]) (by simp) Y.aJ (Y.g 3 (by decide) (by decide)) (Y.qC 3 (by decide) (by decide)) Y.aw (Y.nV 3 (by decide) (by decide)) Y.ch (by rw[jt];simp) (by rw[iC];simp) (by rw[gg];simp) λcC eu cA bC qG cq cZ fR gA jC=> ?_;have Y:=gw.step Y 3 (by decide) (by decide) (ko:=z.bO.map (·.name)) (by simp) bC qG cq cZ fR gA jC;simp(disch:=omega) [alX,bl,Y.aw,Y.aJ];refine aMj h (cj:=_) (by simp[ed]) Y.aJ (Y.g 4 (by decide) (by decide)) (Y.qC 4 (by decide) (by decide)) (by simp[Y.aw]) (by simp[Y.nV 4 (by decide) (by decide)]) (kN (by simp) Y.ch) (by simp) (by simp) (by simp) λev ks dG bC qG cq cZ fR gA jC=> ?_;have Y:=gw.step (Y.kD (by simp) (fF (d:=0) (λ_=>by simp) (λ_=>by simp) (λ_=>by simp) (λ_=>by simp) (λ_=>by simp) (λ_=>by simp))) 4 (by decide) (by decide) (ko:=z.aR.map (·.name)) (by simp) bC qG cq cZ fR gA jC;have Xm:(List.take z.br.length (z.br.map eL)).tail=ds.map eL:=by rw[fw (by simp),iN];rfl
  have Xn:z.br.length-1=ds.length:=by rw[iN];rfl
  have Yv:1<=z.br.length:=by rw[iN];simp
  have Yw:(1:Int)<=z.br.length:=by omega
  simp(disch:=omega) [alP,bl,Y.aw,Y.aJ,Yw];rw[Xm,Xn];refine aMk h ze (cj:=_) (by simp[ed]) Y.aJ (Y.g 5 (by decide) (by decide)) (Y.qC 5 (by decide) (by decide)) (by simp[Y.aw]) (by simp[Y.nV 5 (by decide) (by decide)]) (kN (by simp) Y.ch) (by simp) (by simp) (by simp) λn2 ps e1 bC qG cq cZ fR gA jC=> ?_;have Y:=gw.step (Y.kD (by simp) (fF (d:=0) (λ_=>by simp) (λ_=>by simp) (λ_=>by simp) (λ_=>by simp) (λ_=>by simp) (λ_=>by simp))) 5 (by decide) (by decide) (ko:=ds.map (·.name)) (by simp) bC qG cq cZ fR gA jC;simp(disch:=omega) [alR,bl,Y.aw,Y.aJ];refine aMl h (cj:=_) (by simp[ed]<;>omega) Y.aJ (Y.g 5 (by decide) (by decide)) (Y.qC 5 (by decide) (by decide)) (by simp[Y.aw]) (by simp[Y.nV 5 (by decide) (by decide)]) (kN (by simp) Y.ch) (by simp) (by simp) (by simp) λa1f Pg hb bC qG cq cZ fR gA jC=> ?_;have Y:=gw.step (Y.kD (by simp) (fF (d:=0) (λ_=>by simp) (λ_=>by simp) (λ_=>by simp) (λ_=>by simp) (λ_=>by simp) (λ_=>by simp))) 5 (by decide) (by decide) (ko:=z.c5.map (·.name)) (by simp) bC qG cq cZ fR gA jC;simp(disch:=omega) [alS,bl,Y.aw,Y.aJ];refine aMm h (cj:=_) (by simp[ed]) Y.aJ (Y.g 6 (by decide) (by decide)) (Y.qC 6 (by decide) (by decide)) (by simp[Y.aw]) (by simp[Y.nV 6 (by decide) (by decide)]) (kN (by simp) Y.ch) (by simp) (by simp) (by simp) λa1g J9 gU bC qG cq cZ fR gA jC=> ?_;have Y:=gw.step (Y.kD (by simp) (fF (d:=0) (λ_=>by simp) (λ_=>by simp) (λ_=>by simp) (λ_=>by simp) (λ_=>by simp) (λ_=>by simp))) 6 (by decide) (by decide) (ko:=z.bT.map (·.name)) (by simp) bC qG cq cZ fR gA jC;simp(disch:=omega) [alU,bl,Y.aw,Y.aJ];refine aMn h (cj:=_) (by simp[ed]) Y.aJ (Y.g 7 (by decide) (by decide)) (Y.qC 7 (by decide) (by decide)) (by simp[Y.aw]) (by simp[Y.nV 7 (by decide) (by decide)]) (kN (by simp) Y.ch) (by simp) (by simp) (by simp) λED B8 ic bC qG cq cZ fR gA jC=> ?_;have Y:=gw.step (Y.kD (by simp) (fF (d:=0) (λ_=>by simp) (λ_=>by simp) (λ_=>by simp) (λ_=>by simp) (λ_=>by simp) (λ_=>by simp))) 7 (by decide) (by decide) (ko:=z.cP.map (·.name)) (by simp) bC qG cq cZ fR gA jC;obtain⟨a9,dt⟩: ∃a9,ED 8= .bool a9/\a9=(z.bO.all dY.oj&&(z.aR.all (nO z.bO.length)&&(z.c5.all (nE z.aR.length z.br)&&(z.bT.all (k8 · z.aR.length)&&z.cP.all (sd z.bT.length))))):=⟨_,Y.ch,by simp[Es]⟩;obtain⟨ch,dt⟩:=dt;have S:g6 z=(a9&&(fS (z.bO.map (·.name))&&(fS (z.aR.map (·.name))&&(fS (ds.map (·.name)++z.c5.map (·.name))&&(fS (z.bT.map (·.name))&&fS (z.cP.map (·.name))))))):=by rw[dt];simp[g6,B,et,fP,dX,DJ,adZ,aGy,ay,Es];rw[iN];rfl
  obtain⟨gK,Kx,gC,cD,dU⟩: ∃o L,ED 3= .slice (some ⟨o,0,none⟩) L.length 1/\B8.U o=some ⟨e3 L,true⟩/\L=z.bO.map (·.name):=⟨_,_,Y.nV 3 (by decide) (by decide),Y.g 3 (by decide) (by decide),by simp[ed]⟩;have qK:Kx.length<1000000:=by rw[dU];simp<;>omega
  obtain⟨E4,E5,E6⟩:=JK (l:=Kx) (n:=Kx.length) rfl;obtain⟨aP0,QZ⟩: ∃c,c=e3 Kx:=⟨_,rfl⟩;rw[<-QZ]at cD E4 E5 E6;rw[<-dU]at S;clear dU;obtain⟨iB,Ky,iA,fs,ha⟩: ∃o L,ED 4= .slice (some ⟨o,0,none⟩) L.length 1/\B8.U o=some ⟨e3 L,true⟩/\L=z.aR.map (·.name):=⟨_,_,Y.nV 4 (by decide) (by decide),Y.g 4 (by decide) (by decide),by simp[ed]⟩;have sc:Ky.length<1000000:=by rw[ha];simp<;>omega
  obtain⟨HL,HM,HN⟩:=JK (l:=Ky) (n:=Ky.length) rfl;obtain⟨aP1,qj⟩: ∃c,c=e3 Ky:=⟨_,rfl⟩;rw[<-qj]at fs HL HM HN;rw[<-ha]at S;clear ha;obtain⟨l2,Kz,hA,iU,kF⟩: ∃o L,ED 5= .slice (some ⟨o,0,none⟩) L.length 1/\B8.U o=some ⟨e3 L,true⟩/\L=ds.map (·.name)++z.c5.map (·.name):=⟨_,_,Y.nV 5 (by decide) (by decide),Y.g 5 (by decide) (by decide),by simp[ed]⟩;have Ac:Kz.length<1000000:=by rw[kF];simp<;>omega
  obtain⟨Ll,Lm,Ln⟩:=JK (l:=Kz) (n:=Kz.length) rfl;obtain⟨aP2,ayD⟩: ∃c,c=e3 Kz:=⟨_,rfl⟩;rw[<-ayD]at iU Ll Lm Ln;rw[<-kF]at S;clear kF;obtain⟨r7,KA,iW,mc,ni⟩: ∃o L,ED 6= .slice (some ⟨o,0,none⟩) L.length 1/\B8.U o=some ⟨e3 L,true⟩/\L=z.bT.map (·.name):=⟨_,_,Y.nV 6 (by decide) (by decide),Y.g 6 (by decide) (by decide),by simp[ed]⟩;have B9:KA.length<1000000:=by rw[ni];simp<;>omega
  obtain⟨QH,QI,QJ⟩:=JK (l:=KA) (n:=KA.length) rfl;obtain⟨aP3,ayE⟩: ∃c,c=e3 KA:=⟨_,rfl⟩;rw[<-ayE]at mc QH QI QJ;rw[<-ni]at S;clear ni;obtain⟨z0,KB,q8,wB,vn⟩: ∃o L,ED 7= .slice (some ⟨o,0,none⟩) L.length 1/\B8.U o=some ⟨e3 L,true⟩/\L=z.cP.map (·.name):=⟨_,_,Y.nV 7 (by decide) (by decide),Y.g 7 (by decide) (by decide),by simp[ed]⟩;have V3:KB.length<1000000:=by rw[vn];simp<;>omega
  obtain⟨XB,XC,XD⟩:=JK (l:=KB) (n:=KB.length) rfl;obtain⟨aP4,ayF⟩: ∃c,c=e3 KB:=⟨_,rfl⟩;rw[<-ayF]at wB XB XC XD;rw[<-vn]at S;clear vn;cases a9
  · have ar:g6 z=false:=(by rw[S];rfl);simp(disch:=omega) [Df,Dg,ar,ch]
  cases s3:fS Kx
  · have ar:g6 z=false:=(by rw[S];simp[s3]);simp(disch:=first|omega|simp only[DI.aF];omega) [Df,Dg,ar,s3,ch,gC,cD,E4,E5,E6,ss,sS]
  cases wb:fS Ky
  · have ar:g6 z=false:=(by rw[S];simp[wb]);simp(disch:=first|omega|simp only[DI.aF];omega) [Df,Dg,ar,wb,s3,ch,gC,cD,E4,E5,E6,iA,fs,HL,HM,HN,ss,sS]
  cases Ae:fS Kz
  · have ar:g6 z=false:=(by rw[S];simp[Ae]);simp(disch:=first|omega|simp only[DI.aF];omega) [Df,Dg,ar,Ae,s3,wb,ch,gC,cD,E4,E5,E6,iA,fs,HL,HM,HN,hA,iU,Ll,Lm,Ln,ss,sS]
  cases Cc:fS KA
  · have ar:g6 z=false:=(by rw[S];simp[Cc]);simp(disch:=first|omega|simp only[DI.aF];omega) [Df,Dg,ar,Cc,s3,wb,Ae,ch,gC,cD,E4,E5,E6,iA,fs,HL,HM,HN,hA,iU,Ll,Lm,Ln,iW,mc,QH,QI,QJ,ss,sS]
  cases V4:fS KB
  · have ar:g6 z=false:=(by rw[S];simp[V4]);simp(disch:=first|omega|simp only[DI.aF];omega) [Df,Dg,ar,V4,s3,wb,Ae,Cc,ch,gC,cD,E4,E5,E6,iA,fs,HL,HM,HN,hA,iU,Ll,Lm,Ln,iW,mc,QH,QI,QJ,q8,wB,XB,XC,XD,ss,sS]
  have ar:g6 z=true:=by rw[S];simp[s3,wb,Ae,Cc,V4]
  simp(disch:=omega) [Df,Dg,ar,s3,wb,Ae,Cc,V4,ch,gC,cD,E4,E5,E6,iA,fs,HL,HM,HN,hA,iU,Ll,Lm,Ln,iW,mc,QH,QI,QJ,q8,wB,XB,XC,XD,ss,sS]
open Go Go.DI
def aos:J:= .D (.G [ct 0 26 7 2,ct 2 28 7 2,wW 1 27 14 26 2 2,cF 3 29 18 [I 28],eJ 4 30 .eql (I 27) (I 29),A 5 31 30,gT 6 32 31 6,gT 7 33 31 8,Bx 8 34 31 32 33,dd 9 35 31 34,A 10 36 35,jM 11 37 36 6 5,jM 12 38 36 6 7,tK 13 39 36 19 37 38,dd 14 40 36 39,A 15 41 40,jM 16 42 41 7 2,jM 17 43 41 7 3,jM 19 45 41 7 2,jM 20 46 41 7 3,⟨18,some 44,some (41,true),.gl 20 [I 42,I 43],[(I 3,I 3),(I 2,I 2)]⟩,tK 21 47 41 13 45 46,ef 22 48 41 true (.gL .eql .bool (I 44) (I 47)),dd 23 49 41 48,A 24 50 49,jM 25 51 50 7 2,jM 26 52 50 7 2,tK 27 53 50 20 51 52,dd 28 54 50 53,A 29 55 54,ef 30 56 55 true (.gl 8 []),dd 31 57 55 56,A 32 4 57]) (.aT)
def aor:J:= .D (.G [ct 0 22 7 2,cF 1 23 17 [I 22],A 2 21 23,dN 3 24 0 21,dN 4 25 1 21,bV 5 7 (.eC [bd,aW,aW,aW,aW,aW]),c9 6 6 7 24,A 7 8 25]) aos
def aoq:J:= .D (.G [ct 0 17 7 2,cF 1 18 16 [I 17],A 2 16 18,dN 3 19 0 16,dN 4 20 1 16,bV 5 5 (.eC [bd,aW,aW,aW,aW,aW]),c9 6 6 5 19,A 7 6 20]) aor
def TD:J:= .D (.D (.G [ct 0 9 7 2,cF 1 10 15 [I 9],A 2 11 10,kH 3 12 11 7 3,kI 4 13 11 15 12,dx 5 14 11 13]) (.a8 (I 14) (.D (.G [cF 0 15 8 [],A 1 4 15]) (.aT)) (.skip))) aoq
def TC:J:=
  .D (
  .G [
 ft 0 2 0,
 ft 1 3 1,
 ca 2 4 false]) TD
def Nr:cR:=⟨58,[.bq 4],TC⟩
theorem aEr:cO Z 5=some Nr:=by kernel_rfl
def T1:J:= .D (.block 1 (.G [A 0 17 3,A 1 18 0,A 2 19 4,b9 3 20 3 18 19,aY 4 21 1 20,aP 5 22 21,bZ 6 23 22,jm 7 24 17 23,A 8 25 0,A 9 26 4,b9 10 27 3 25 26,aY 11 28 2 27,aP 12 29 28,bZ 13 30 29,jm 14 31 24 30,A 15 3 31])) (.G [A 0 15 4,dA 1 16 15,A 2 4 16])
def NP:J:= .D (.D (.G [A 0 7 4,A 1 8 0,bZ 2 9 8,dR 3 10 7 9,A 4 11 10,gT 5 12 11 3,ef 6 13 11 true (.gL .lss .ir (I 12) (.const (.int .i64 400))),dd 7 14 11 13]) (.a8 (I 14) (.skip) (.bw 0))) T1
def aoH:J:= .D (.G [A 0 32 3,A 1 2 32]) (.aT)
def aoG:J:= .D (.D (.G [b0 0 4 0]) (.block 0 (.loop NP))) aoH
def aoF:J:= .D (.G [A 0 5 0,bZ 1 6 5,A 2 3 6]) aoG
def aoE:J:=
  .D (
  .G [
 b0 0 2 0]) aoF
def acT:cR:=⟨33,[.bq 2],aoE⟩
theorem aEC:cO Z 6=some acT:=by kernel_rfl
def T8:J:= .D (.block 1 (.G [A 0 17 3,A 1 18 0,A 2 19 4,b9 3 20 1 18 19,aP 4 21 20,cF 5 22 6 [I 21],jm 6 23 17 22,A 7 3 23])) (.G [A 0 15 4,dA 1 16 15,A 2 4 16])
def NT:J:= .D (.D (.G [A 0 7 4,A 1 8 0,bZ 2 9 8,dR 3 10 7 9,A 4 11 10,gT 5 12 11 3,ef 6 13 11 true (.gL .lss .ir (I 12) (.const (.int .i64 400))),dd 7 14 11 13]) (.a8 (I 14) (.skip) (.bw 0))) T8
def aoR:J:= .D (.G [A 0 24 3,A 1 2 24]) (.aT)
def aoQ:J:= .D (.D (.G [b0 0 4 0]) (.block 0 (.loop NT))) aoR
def aoP:J:= .D (.G [A 0 5 0,bZ 1 6 5,A 2 3 6]) aoQ
def aoO:J:=
  .D (
  .G [
 b0 0 2 0]) aoP
def adg:cR:=⟨25,[.bq 2],aoO⟩
theorem aFe:cO Z 7=some adg:=by kernel_rfl
def ao4:J:= .D (.G [A 0 22 2,lY 1 23 22 0,A 2 24 23,dk 3 25 24 0 1,dF 4 26 24 25,wX 5 27 24 26 2,dd 6 28 24 27,A 7 29 28,dk 8 30 29 3 1,dF 9 31 29 30,pf 10 32 29 31,wX 11 33 29 32 1,dd 12 34 29 33,A 13 35 34,dk 14 36 35 3 1,dF 15 37 35 36,ef 16 38 35 true (.sC 7 (I 37) (.const bd)),dk 17 39 35 2 38,dF 18 40 35 39,ef 19 41 35 true (.gL .eql .ir (I 40) (.const (.int .i64 (-1)))),dd 20 42 35 41,A 21 43 42,gT 22 44 43 5,wX 23 45 43 44 7,dd 24 46 43 45,A 25 47 46,jM 26 48 47 2 6,ef 27 49 47 true (.hg [bd,bd] [(0,1,.const (.int .i64 3)),(1,1,.const (.int .i64 4))]),ef 28 50 47 true (.pL false [.int,.int] (I 48) (I 49)),dd 29 51 47 50,A 30 52 51,jM 31 53 52 7 1,nr 32 54 52 14 53,wX 33 55 52 54 0,dd 34 56 52 55,A 35 57 56,ef 36 58 57 true (.hg [bd,aW,aW,aW,aW,aW,aW] []),nr 37 59 57 14 58,wX 38 60 57 59 1,dd 39 61 57 60,A 40 0 61]) (.aT)
def ao3:J:= .D (.G [bV 0 14 (.hg [bd,bd] [(0,1,.const (.int .i64 3)),(1,1,.const (.int .i64 4))]),bV 1 15 (.hg [.string ⟨#[]⟩,bd,bd,.string ⟨#[]⟩,bd,bd] [(0,1,.const (.string ⟨#[109]⟩)),(1,1,.const (.int .i64 1)),(2,1,.const (.int .i64 1)),(3,1,.const (.string ⟨#[120]⟩)),(4,2,I 14)]),UD 2 16 15,bV 3 17 (.hg [bd,aW,aW,aW,aW,aW] [(0,1,.const (.int .i64 1)),(2,1,I 16)]),cF 4 18 11 [I 17],A 5 13 18,dN 6 19 0 13,dN 7 20 1 13,dN 8 21 2 13,bV 9 4 (.eC [bd,aW,aW,aW,aW,aW,aW]),bV 10 6 (.eC [bd,bd]),c9 11 7 4 19,A 12 5 20,c9 13 2 6 21]) ao4
def ao2:J:= .D (.G [bV 0 8 (.hg [bd,aW,aW,aW,aW,aW] [(0,1,.const (.int .i64 2))]),cF 1 9 11 [I 8],A 2 7 9,dN 3 10 0 7,dN 4 11 1 7,dN 5 12 2 7,bV 6 1 (.eC [bd,aW,aW,aW,aW,aW,aW]),bV 7 3 (.eC [bd,bd]),c9 8 7 1 10,A 9 2 11,c9 10 2 3 12]) ao3
def ao1:J:=
  .D (
  .G [
 ca 0 0 false]) ao2
def adw:cR:=⟨62,[.bq 0],ao1⟩
theorem aFU:cO Z 8=some adw:=by kernel_rfl
def aaN:J:= .D (.block 1 (.G [A 0 49 3,aY 1 50 1 1,aP 2 51 50,A 3 52 4,b9 4 53 4 51 52,aY 5 54 1 53,aP 6 55 54,aY 9 58 1 1,aP 10 59 58,A 11 60 4,b9 12 61 4 59 60,aY 13 62 3 61,aP 14 63 62,aY 17 66 1 1,aP 18 67 66,A 19 68 4,b9 20 69 4 67 68,aY 21 70 2 69,aP 22 71 70,pc 7 56 (.gl 6 [I 55]) [(I 70,I 70),(I 66,I 66),(I 62,I 62),(I 58,I 58)],jm 8 57 49 56,pc 15 64 (.gl 6 [I 63]) [(I 70,I 70),(I 66,I 66)],jm 16 65 57 64,cF 23 72 7 [I 71],jm 24 73 65 72,A 25 3 73])) (.G [A 0 47 4,dA 1 48 47,A 2 4 48])
def Sx:J:= .D (.D (.G [A 0 42 4,aY 1 43 1 1,aP 2 44 43,bZ 3 45 44,dR 4 46 42 45]) (.a8 (I 46) (.skip) (.bw 0))) aaN
def aaO:J:= .D (.block 3 (.G [A 0 81 3,aY 1 82 3 1,aP 2 83 82,A 3 84 5,b9 4 85 7 83 84,aY 5 86 4 85,ct 6 87 3 86,N5 7 88 87,cF 8 89 6 [I 88],jm 9 90 81 89,A 10 3 90])) (.G [A 0 79 5,dA 1 80 79,A 2 5 80])
def Sy:J:= .D (.D (.G [A 0 74 5,aY 1 75 3 1,aP 2 76 75,bZ 3 77 76,dR 4 78 74 77]) (.a8 (I 78) (.skip) (.bw 2))) aaO
def aaP:J:= .D (.block 5 (.D (.G [aY 0 98 5 1,aP 1 99 98,A 2 100 6,b9 3 101 17 99 100,ct 4 102 17 101,bV 5 7 (.eC [.string ⟨#[]⟩,bd,bd,bd,bd,bd,bd,bd,bd,aW,aW,.bool false,aW,aW,.bool false,aW,aW]),c9 6 17 7 102]) (.G [A 0 103 3,aY 1 104 10 7,aP 2 105 104,aY 5 108 11 7,ct 6 109 3 108,aY 7 110 14 7,ct 8 111 3 110,aY 12 115 9 7,aP 13 116 115,bZ 14 117 116,pc 3 106 (.gl 6 [I 105]) [(I 115,I 115),(I 110,I 110),(I 108,I 108)],jm 4 107 103 106,bV 9 112 (.jx 3 2 [.bool false,aW,aW,.bool false,aW,aW] [(0,3,I 109),(3,3,I 111)]),wW 10 113 6 112 115 115,jm 11 114 107 113,jm 15 118 114 117,A 16 3 118]))) (.G [A 0 96 6,dA 1 97 96,A 2 6 97])
def Sz:J:= .D (.D (.G [A 0 91 6,aY 1 92 5 1,aP 2 93 92,bZ 3 94 93,dR 4 95 91 94]) (.a8 (I 95) (.skip) (.bw 4))) aaP
def aaQ:J:= .D (.G [A 0 119 3,pV 1 120 119 600,A 2 2 120]) (.aT)
def al7:J:= .D (.D (.G [b0 0 6 0]) (.block 4 (.loop Sz))) aaQ
def al6:J:= .D (.D (.G [b0 0 5 0]) (.block 2 (.loop Sy))) al7
def al5:J:= .D (.D (.G [b0 0 4 0]) (.block 0 (.loop Sx))) al6
def al4:J:= .D (.G [b0 0 3 0]) al5
def Dk:J:= .D (.D (.G [aY 0 8 1 1,aP 1 9 8,bZ 2 10 9,pV 3 11 10 10,A 4 12 11,dr 5 13 12 2 1,dZ 6 14 12 13,iq 7 15 12 14,pW 8 16 12 15 10,dx 9 17 12 16,A 10 18 17,dr 11 19 18 3 1,dZ 12 20 18 19,iq 13 21 18 20,pW 14 22 18 21 50,dx 15 23 18 22,A 16 24 23,dr 17 25 24 4 1,dZ 18 26 24 25,iq 19 27 24 26,pW 20 28 24 27 40,dx 21 29 24 28,A 22 30 29,dr 23 31 30 5 1,dZ 24 32 30 31,iq 25 33 30 32,pW 26 34 30 33 10,dx 27 35 30 34,A 28 36 35,dr 29 37 36 6 1,dZ 30 38 36 37,iq 31 39 36 38,pW 32 40 36 39 20,dx 33 41 36 40]) (.a8 (I 41) (.D (.G [ca 0 2 true]) (.aT)) (.skip))) al4
def Dj:J:=
  .D (
  .G [
 ft 0 1 0,
 ca 1 2 false]) Dk
def Be:cR:=⟨121,[.bq 2],Dj⟩
theorem aC0:cO Z 15=some Be:=by kernel_rfl
theorem c4.args{f:Nat}{xs ys:List Value}{r:Value}(h:c4 Z f ys r)(aS:wo xs ys):c4 Z f xs r:= λz m mO dD aC=>h z m mO dD (aS.qy aC)
abbrev ea:Value:= .slice none 0 0
abbrev Hs:Value:=aQ [[ei ⟨#[109]⟩,X 1,X 1,ei ⟨#[120]⟩,X 3,X 4]] 6
abbrev Cr(b:Bool):Value:= .agg #[X (if b then 2 else 1),ea,if b then ea else Hs,ea,ea,ea]
theorem aLL{x:Int}{v:Value}(S:v=ea\/v=Hs):c4 Z 36 [.agg #[X x,ea,v,ea,ea,ea]] (.bool true):=by
  refine gR (ga (a0:=⟨[],[]⟩) aD5 (by kernel_rfl) (by simp[acz]) ?_);rcases S with rfl|rfl
  all_goals
    simp[acz,anK,anL,anM];refine ru (a0:=⟨[],[]⟩) λcp aZ=> ?_;simp[anN,acA,acB,acC,acC,acA,acB]
noncomputable def O5:cf Z:= .ek 36 Bool (λ_=>True) (λb=>[Cr b]) (λ_=> .bool true) λb _=>aLL (by cases b<;>simp)
@[simp] theorem aYD:O5.f=36:=rfl
@[simp] theorem aYB:O5.fn [.agg #[X 2,ea,ea,ea,ea,ea]]=some (.bool true):=cf.eP (x:=true) trivial λy ab=>by
  cases y
  · simp[Cr]at ab
  · rfl
@[simp] theorem aYC:O5.fn [.agg #[X 1,ea,Hs,ea,ea,ea]]=some (.bool true):=cf.eP (x:=false) trivial λy ab=>by
  cases y
  · rfl
  · simp[Cr]at ab
theorem awT{x:Nat×Nat}{t:E}{aI:Value->E->Prop}(h:aI (.tuple #[]) t):iE Z 37 [cb x.1,ea,.func (.func x.2) #[cb x.1] #[]] t aI:=by refine ga (a0:=⟨[],[]⟩) aD6 (by kernel_rfl) (by simp[acD]) ?_;simp[acD,anO];refine ru (a0:=⟨[],[]⟩) λcp aZ=> ?_;simp[anS,anP,anQ,anR];exact h
noncomputable def Rn:ly Z:= .ek 37 (Nat×Nat) (λx=>[cb x.1,ea,.func (.func x.2) #[cb x.1] #[]]) (λ_ t=>some (.tuple #[],t)) λ_ _ _ _ e _ h=>by cases e;exact awT h
@[simp] theorem aSe:Rn.f=37:=rfl
@[simp] theorem aSf{c g:Nat}{t:E}:Rn.fn [cb c,.slice none 0 0,.func (.func g) #[cb c] #[]] t=some (.tuple #[],t):=ly.eP (enc:= λx:Nat×Nat=>[cb x.1,ea,.func (.func x.2) #[cb x.1] #[]]) (x:=(c,g)) λ⟨gk,h6⟩ ab=>by simp at ab;obtain⟨rfl,rfl,_⟩:=ab;rfl
theorem awU{x:Nat×Nat}{t:E}{aI:Value->E->Prop}(h:aI (.tuple #[]) t):iE Z 39 [cb x.1,ea,.func (.func x.2) #[cb x.1] #[]] t aI:=by refine ga (a0:=⟨[],[]⟩) anT (by kernel_rfl) (by simp[Nm]) ?_;simp[Nm,acE];refine ru (a0:=⟨[],[]⟩) λcp aZ=> ?_;simp[Ts,Tp,Tq,Tr];exact h
noncomputable def Zh:ly Z:= .ek 39 (Nat×Nat) (λx=>[cb x.1,ea,.func (.func x.2) #[cb x.1] #[]]) (λ_ t=>some (.tuple #[],t)) λ_ _ _ _ e _ h=>by cases e;exact awU h
@[simp] theorem aSg:Zh.f=39:=rfl
@[simp] theorem aSh{c g:Nat}{t:E}:Zh.fn [cb c,.slice none 0 0,.func (.func g) #[cb c] #[]] t=some (.tuple #[],t):=ly.eP (enc:= λx:Nat×Nat=>[cb x.1,ea,.func (.func x.2) #[cb x.1] #[]]) (x:=(c,g)) λ⟨gk,h6⟩ ab=>by simp at ab;obtain⟨rfl,rfl,_⟩:=ab;rfl
theorem awV{x:Nat×Nat}{t:E}{aI:Value->E->Prop}(h:aI (.tuple #[]) t):iE Z 41 [cb x.1,ea,.func (.func x.2) #[cb x.1] #[]] t aI:=by refine ga (a0:=⟨[],[]⟩) aD8 (by kernel_rfl) (by simp[acG]) ?_;simp[acG,anZ];refine ru (a0:=⟨[],[]⟩) λcp aZ=> ?_;simp[an3,an0,an1,an2];exact h
noncomputable def Ro:ly Z:= .ek 41 (Nat×Nat) (λx=>[cb x.1,ea,.func (.func x.2) #[cb x.1] #[]]) (λ_ t=>some (.tuple #[],t)) λ_ _ _ _ e _ h=>by cases e;exact awV h
@[simp] theorem aSi:Ro.f=41:=rfl
@[simp] theorem aSj{c g:Nat}{t:E}:Ro.fn [cb c,.slice none 0 0,.func (.func g) #[cb c] #[]] t=some (.tuple #[],t):=ly.eP (enc:= λx:Nat×Nat=>[cb x.1,ea,.func (.func x.2) #[cb x.1] #[]]) (x:=(c,g)) λ⟨gk,h6⟩ ab=>by simp at ab;obtain⟨rfl,rfl,_⟩:=ab;rfl
theorem awW{x:Nat×Nat}{t:E}{aI:Value->E->Prop}(h:aI (.tuple #[]) t):iE Z 43 [cb x.1,ea,.func (.func x.2) #[cb x.1] #[]] t aI:=by refine ga (a0:=⟨[],[]⟩) aD9 (by kernel_rfl) (by simp[acH]) ?_;simp[acH,an4];refine ru (a0:=⟨[],[]⟩) λcp aZ=> ?_;simp[an8,an5,an6,an7];exact h
noncomputable def Rp:ly Z:= .ek 43 (Nat×Nat) (λx=>[cb x.1,ea,.func (.func x.2) #[cb x.1] #[]]) (λ_ t=>some (.tuple #[],t)) λ_ _ _ _ e _ h=>by cases e;exact awW h
@[simp] theorem aSk:Rp.f=43:=rfl
@[simp] theorem aSl{c g:Nat}{t:E}:Rp.fn [cb c,.slice none 0 0,.func (.func g) #[cb c] #[]] t=some (.tuple #[],t):=ly.eP (enc:= λx:Nat×Nat=>[cb x.1,ea,.func (.func x.2) #[cb x.1] #[]]) (x:=(c,g)) λ⟨gk,h6⟩ ab=>by simp at ab;obtain⟨rfl,rfl,_⟩:=ab;rfl
theorem awX{x:Nat×Nat}{t:E}{aI:Value->E->Prop}(h:aI (.tuple #[]) t):iE Z 45 [cb x.1,ea,.func (.func x.2) #[cb x.1] #[]] t aI:=by refine ga (a0:=⟨[],[]⟩) aEa (by kernel_rfl) (by simp[acI]) ?_;simp[acI,an9];refine ru (a0:=⟨[],[]⟩) λcp aZ=> ?_;simp[aod,aoa,aob,aoc];exact h
noncomputable def Rq:ly Z:= .ek 45 (Nat×Nat) (λx=>[cb x.1,ea,.func (.func x.2) #[cb x.1] #[]]) (λ_ t=>some (.tuple #[],t)) λ_ _ _ _ e _ h=>by cases e;exact awX h
@[simp] theorem aSm:Rq.f=45:=rfl
@[simp] theorem aSn{c g:Nat}{t:E}:Rq.fn [cb c,.slice none 0 0,.func (.func g) #[cb c] #[]] t=some (.tuple #[],t):=ly.eP (enc:= λx:Nat×Nat=>[cb x.1,ea,.func (.func x.2) #[cb x.1] #[]]) (x:=(c,g)) λ⟨gk,h6⟩ ab=>by simp at ab;obtain⟨rfl,rfl,_⟩:=ab;rfl
theorem aiR{t:E}{b o l O:Nat}:DI.eg 7 t (.slice (some ⟨b,o,none⟩) l O)=match t.U b with
  | some x=>if o+l*O<=x.cells.length then(match gV (gV (DI.eg 6 t)) (n5 O l (x.cells.drop o))with
    |some bW=>some (aQ bW O)
    |none=>none)else none
  |none=>none:=QF
theorem auw:c4 Z 11 [Cr true] (.tuple #[.agg #[X 2,ea,ea,aQ [eL z6] 7,ea,ea,ea],X 0,.agg #[X 0,X 0]]):=by refine gR (ga (a0:=⟨[vZ,OY,O5],[FM,Rn,Zh,Ro,Rp,Rq]⟩) akP (by kernel_rfl) (by simp[MK]) ?_);have B:eG 2 1 4=true:=rfl;simp[MK,ZH,ZI,ZK,ZL,ZM,ZN,ZO,ZP,ZQ,ZR,ZJ,B,eL,z6,aiR,-ao,-aB,-ai,-au,-List.map_map]
theorem aHR:pl ⟨#[109]⟩=true:=aet (by first|decide|(unfold de;decide)|simp[de])
abbrev auu:List Value:=[ei ⟨#[109]⟩,X 1,X 1,ei ⟨#[120]⟩,X 3,X 4]
abbrev PY(w v:Value)(e l k:Int):List Value:=[X 1,ea,w,v,ea,ea,ea,.map (some 4),.map (some 5),.map (some 6),.map (some 7),.map (some 8),X 0,X (-1),X (-1),X (-1),X (-1),X e,X l,X k]
theorem aus{v:Value}{t:E}(aq:t.U 10=some ⟨PY ea v 0 0 0,true⟩)(aE:t.fg 4=some [])(aN:t.fg 5=some []){aI:Value->E->Prop}
    (h: ∀bu,t.next<=bu.next->(∀b,b<t.next->b≠10->b≠5->bu.U b=t.U b)-> ∀w,bu.U 10=some ⟨PY w v 7 3 4,true⟩->aI (.tuple #[]) bu):iE Z 40 [cb 10,.agg auu.toArray] t aI:=by
  refine ga (a0:=⟨[vZ],[FM,Zg]⟩) aD7 (by kernel_rfl) (by simp[acF]) ?_;have ad3:=aO aq;have bC: ¬10=t.next:=by omega
  have cq: ¬t.next=10:=by omega
  have cZ: ¬5=t.next:=by omega
  have fR: ¬4=t.next:=by omega
  have apV:5<t.next:=by omega
  have av:=aHR;have aa:mD .str (ei ⟨#[109]⟩) []=true:=rfl;have rM:mD .str (ei ⟨#[120]⟩) []=true:=rfl;have aj8:eG 1 1 16=true:=rfl;have Ih:eG 1 1 64=true:=rfl;simp(disch:=first|omega|simp only[b3];omega) [acF,anU,anV,anW,anX,anY,aq,aN,aE,av,rM,OK,aIR,KQ,-m2,-mD,aj8,Ih,-ao,-aB,-ai,-au,-List.map_map];refine h _ (by first|omega|(simp<;>omega)) (λb K du dV=> ?_) _ (cW (by first|omega|(simp<;>omega)));simp(disch:=omega)
theorem aur{v:Value}{t:E}(aq:t.U 10=some ⟨PY ea v 0 0 0,true⟩)(aE:t.fg 4=some [])(aN:t.fg 5=some []){aI:Value->E->Prop}
    (h: ∀bu,t.next<=bu.next->(∀b,b<t.next->b≠10->b≠5->bu.U b=t.U b)-> ∀w,bu.U 10=some ⟨PY w v 7 3 4,true⟩->aI (.tuple #[]) bu):iE Z 39 [cb 10,Hs,.func (.func 40) #[cb 10] #[]] t aI:=by
  refine ga (a0:=⟨[],[]⟩) anT (by kernel_rfl) (by simp[Nm]) ?_;have ad3:=aO aq;simp[Nm,acE];refine ru (a0:=⟨[],[]⟩) λcp aZ=> ?_;simp(disch:=first|omega|simp only[b3];omega) [Ts,Tp,Tq,Tr,aq,-ao,-aB,-ai,-au,-List.map_map];refine aus (v:=v) (by simp(disch:=first|omega|simp only[b3];omega) [aq,-ao,-aB,-ai,-au,-List.map_map]) (by simp(disch:=first|omega|simp only[b3];omega) [aE,-ao,-aB,-ai,-au,-List.map_map]) (by simp(disch:=first|omega|simp only[b3];omega) [aN,-ao,-aB,-ai,-au,-List.map_map]) λbu n f w g=> ?_;simp;refine aZ _ _ (ru (a0:=⟨[],[]⟩) λcp aZ=> ?_);simp[Ts,Tp,Tq,Tr];refine h bu (by simp at n;omega) (λb K du dV=> ?_) w g;rw[f b (by simp;omega) du dV];simp(disch:=omega)
theorem auy:c4 Z 11 [Cr false] (.tuple #[.agg #[X 0,ea,ea,ea,ea,ea,ea],X 7,.agg #[X 3,X 4]]):=by
  refine gR (ga (a0:=⟨[vZ,OY,O5],[FM,Rn,Ro,Rp,Rq]⟩) akP (by kernel_rfl) (by simp[MK]) ?_);have B:eG 1 1 4=true:=rfl;simp(disch:=first|omega|simp only[b3];omega) [MK,ZH,ZI,ZK,ZL,ZM,ZN,ZO,B,-ao,-aB,-ai,-au,-List.map_map];refine aur (v:= .slice (some ⟨17,0,none⟩) 1 7) (by simp(disch:=first|omega|simp only[b3];omega) [-ao,-aB,-ai,-au,-List.map_map]) (by simp(disch:=first|omega|simp only[b3];omega) [-ao,-aB,-ai,-au,-List.map_map]) (by simp(disch:=first|omega|simp only[b3];omega) [-ao,-aB,-ai,-au,-List.map_map]) λbu n f w g=> ?_;have aj:bu.U 1=some ⟨[X 0,ea,ea,ea,ea,ea,ea],true⟩:=by rw[f 1 (by simp) (by decide) (by decide)];simp(disch:=first|omega|simp only[b3];omega) [-ao,-aB,-ai,-au,-List.map_map]
  have cD:bu.U 3=some ⟨[X 0,X 0],true⟩:=by rw[f 3 (by simp) (by decide) (by decide)];simp(disch:=first|omega|simp only[b3];omega) [-ao,-aB,-ai,-au,-List.map_map]
  have aJ:bu.U 0=some ⟨[X 1,ea,Hs,ea,ea,ea],true⟩:=by rw[f 0 (by simp) (by decide) (by decide)];simp(disch:=first|omega|simp only[b3];omega) [-ao,-aB,-ai,-au,-List.map_map]
  have et:=aO g;clear f n;simp(disch:=first|omega|simp only[b3];omega) [ZP,ZQ,ZR,ZJ,g,aJ,aj,cD,-ao,-aB,-ai,-au,-List.map_map]
def QA:a4:=⟨2,[],[],[z6],[],[],[]⟩
theorem aJK:a4.dP QA:=⟨nofun,λx F=>by simp[QA]at F;subst F;exact KX (x:=⟨false,0,1⟩) (by decide) (by decide) (Int.lt_trans (by decide) JM) JM,nofun,by decide,by decide,by decide,by decide,by decide,by decide⟩
theorem aJJ:a4.dP a4.nil:=⟨nofun,nofun,nofun,by decide,by decide,by decide,by decide,by decide,by decide⟩
theorem aMp:g6 QA=true:=by
  have e:(aV.mk false (bL 0) (bL 1)).bG=⟨false,0,1⟩:=W4 (x:=⟨false,0,1⟩) (by decide) (by decide);have s:(bp.mk false 0 1).small=true:=by decide
  simp[g6,QA,tn,rn,z6,fS,eG,e,s]
theorem aMo:g6 a4.nil=false:=by simp[g6,a4.nil,eG]
abbrev PZ(b:Bool):Value:= .agg #[X (if b then 2 else 0),ea,ea,if b then aQ [eL z6] 7 else ea,ea,ea,ea]
theorem aut:(b:Bool)->c4 Z 14 [PZ b] (X (if b then 0 else 1))
  | true=>by have h:=V9 aJK;rw[aMp]at h;exact c4.args h ⟨td.agg (xs:=[_,_,_,_,_,_,_]) (ys:=[_,_,_,_,_,_,_]) ⟨.refl _,.nil,.nil,.refl _,.nil,.nil,.nil,trivial⟩,trivial⟩
  | false=>by have h:=V9 aJJ;rw[aMo]at h;exact c4.args h ⟨td.agg (xs:=[_,_,_,_,_,_,_]) (ys:=[_,_,_,_,_,_,_]) ⟨.refl _,.nil,.nil,.nil,.nil,.nil,.nil,trivial⟩,trivial⟩
noncomputable def VA:cf Z:= .ek 11 Bool (λ_=>True) (λb=>[Cr b]) (λb=>if b then .tuple #[.agg #[X 2,ea,ea,aQ [eL z6] 7,ea,ea,ea],X 0,.agg #[X 0,X 0]]else .tuple #[.agg #[X 0,ea,ea,ea,ea,ea,ea],X 7,.agg #[X 3,X 4]]) λb _=>match b with|true=>auw|false=>auy
@[simp] theorem aWb:VA.f=11:=rfl
@[simp] theorem aV9:VA.fn [.agg #[X 2,ea,ea,ea,ea,ea]]=some (.tuple #[.agg #[X 2,ea,ea,aQ [eL z6] 7,ea,ea,ea],X 0,.agg #[X 0,X 0]]):=cf.eP (x:=true) trivial λy ab=>by
  cases y
  · simp[Cr]at ab
  · rfl
@[simp] theorem aWa:VA.fn [.agg #[X 1,ea,Hs,ea,ea,ea]]=some (.tuple #[.agg #[X 0,ea,ea,ea,ea,ea,ea],X 7,.agg #[X 3,X 4]]):=cf.eP (x:=false) trivial λy ab=>by
  cases y
  · rfl
  · simp[Cr]at ab
noncomputable def OX:cf Z:= .ek 14 Bool (λ_=>True) (λb=>[PZ b]) (λb=>X (if b then 0 else 1)) λb _=>aut b
@[simp] theorem aWe:OX.f=14:=rfl
@[simp] theorem aKN:OX.fn [.agg #[X 2,ea,ea,aQ [eL z6] 7,ea,ea,ea]]=some (X 0):=cf.eP (x:=true) trivial λy ab=>by
  cases y
  · simp[PZ]at ab
  · rfl
@[simp] theorem aWd:OX.fn [.agg #[X 2,ea,ea,aQ [[ei ⟨#[]⟩,X 0,X (-1),X 0,.bool false,dy (bL 0),dy (bL 1)]] 7,ea,ea,ea]]=some (X 0):=aKN
@[simp] theorem aWc:OX.fn [.agg #[X 0,ea,ea,ea,ea,ea,ea]]=some (X 1):=cf.eP (x:=false) trivial λy ab=>by
  cases y
  · rfl
  · simp[PZ]at ab
theorem auv:c4 Z 8 [] (.bool true):=by
  refine gR (ga (a0:=⟨[VA,OX],[]⟩) aFU (by kernel_rfl) (by simp[adw]) ?_);simp[adw,ao1,ao2];have bs:o6 (.tuple #[.agg #[X 0,ea,ea,ea,ea,ea,ea],X 7,.agg #[X 3,X 4]])=false:=by first|rfl|decide|simp[o6,fy]
  simp[ao3,bs,XA,ae8];simp[ao4,eL,z6]
end Go.Proofs.YtkpifdkccdndcaaGreat
