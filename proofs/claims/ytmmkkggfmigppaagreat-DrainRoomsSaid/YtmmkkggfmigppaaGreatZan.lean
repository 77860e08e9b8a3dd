/-
  A part of the proof of the statement, in texts that tools of ours (wip/shrink.py, irpack.py, relax.py, minify.py, join.py, lay.py) have shortened.
-/
import Derived.Test.YtmmkkggfmigppaaGreatZam
set_option linter.all false
set_option maxRecDepth 8000
set_option maxHeartbeats 16000000
namespace Go.Proofs.YtmmkkggfmigppaaGreat
open Go Go.DI Go.Big
theorem agx{u:bm}(h:k2 u){gq:Int}(cR:0<=gq){Q:du->aM->W->Prop}: ∀(k i:Nat) (z:aM) (t:W),i<u.a1.length->ho u i<=gq+k->t.X 0=some ⟨aU u,true⟩->z 3=cF 0->z 7=Z i->z 2=Z gq->(∀ae aJ,ae 7=Z (km u gq k i)->Q (.bh 0) ae aJ)->fl al (.loop Gk) z t Q:=by
  intro k;induction k with
  | zero=>intro i z t ak aa aO dJ eV eU bT;refine eu (aB:=⟨[],[]⟩) λcx bk=> ?_;obtain⟨d,G⟩:=jz ak;have e8:=(eB.1 G).2;have e:ho u i=d.hn:=(by simp only[ho,G]);have bY:(i:Int)<u.a1.length:=(by omega);have aF: ¬gq<d.hn:=(by omega);have fW:=bn aO;simp(disch:=first|omega|simp only[aW];omega) [Gk,dJ,eV,eU,aO,aU,ef,bY,e8,aF,-O,-U,-N,-S,-List.map_map];exact bT _ _ (by simp[eV,km])
  | succ k cc=>
    intro i z t ak aa aO dJ eV eU bT;refine eu (aB:=⟨[],[]⟩) λcx bk=> ?_;obtain⟨d,G⟩:=jz ak;have e8:=(eB.1 G).2;have e:ho u i=d.hn:=(by simp only[ho,G]);have aR:oO u i=d.parent.toNat:=(by simp only[oO,G]);have bY:(i:Int)<u.a1.length:=(by omega);have fW:=bn aO;by_cases aF:gq<d.hn
    · obtain⟨a,b,c⟩:=h.pC ak (by omega);obtain⟨p,ai⟩:=k1 (h.kn i d c G).1;have kM:oO u i=p:=(by rw[aR,ai];rfl);rw[kM]at a b;simp(disch:=first|omega|simp only[aW];omega) [Gk,dJ,eV,eU,aO,aU,ef,bY,e8,aF,ai,-O,-U,-N,-S,-List.map_map];refine bk _ _ (cc p _ _ (by omega) (by omega) (by simp(disch:=first|omega|simp only[aW];omega) [aO,aU,-O,-U,-N,-S,-List.map_map]) (by simp[dJ]) (by simp) (by simp[eU]) λae aJ M=>bT ae aJ ?_);rw[M,km,if_pos (by omega),kM]
    · simp(disch:=first|omega|simp only[aW];omega) [Gk,dJ,eV,eU,aO,aU,ef,bY,e8,aF,-O,-U,-N,-S,-List.map_map];exact bT _ _ (by rw[km,if_neg (by omega)];simp[eV])
theorem agy{u:bm}(h:k2 u){d:Nat}(ay:d<u.a5.length){gq:Int}(cR:0<=gq):bK al 180 [.agg (aU u).toArray,Z d,Z gq] (Z (km u gq 5 (pA u d))):=by
  refine et (dM (aB:=⟨[],[]⟩) ZB (by kernel_rfl) (by simp[KF]) ?_);obtain⟨x,G⟩:=jz ay;have e8:=(eB.1 G).2;obtain⟨bw,bJ,cb,eI,fm⟩:=h.yR d x G;obtain⟨m,av⟩:=k1 cb;have xt:pA u d=m:=by simp only[pA,G,av];rfl
  have bY:(d:Int)<u.a5.length:=by omega
  rw[av]at fm;simp(disch:=first|omega|simp only[aW];omega) [KF,ZA,ZC,ZD,ZE,aU,gp,bY,e8,av,-O,-U,-N,-S,-List.map_map];refine agx h cR 5 m _ _ (by omega) (by have:ho u m=4:=fm;omega) (by simp(disch:=first|omega|simp only[aW];omega) [aU,-O,-U,-N,-S,-List.map_map]) (by simp) (by simp) (by simp) λae aJ M=> ?_;rw[xt];simp(disch:=first|omega|simp only[aW];omega) [M,-O,-U,-N,-S,-List.map_map]
noncomputable def M8(u:bm)(h:k2 u):bE al:= .dR 180 (Nat×Int) (λx=>x.1<u.a5.length/\0<=x.2) (λx=>[.agg (aU u).toArray,Z x.1,Z x.2]) (λx=>Z (km u x.2 5 (pA u x.1))) λx G=>agy h G.1 G.2
@[simp] theorem aJp{u:bm}{h:k2 u}:(M8 u h).f=180:=rfl
@[simp] theorem aJq{u:bm}{h:k2 u}{d:Nat}{gq:Int}(ay:d<u.a5.length/\0<=gq):(M8 u h).fn [.agg #[Z u.ext,aw (u.cH.map gZ) 4,aw (u.bf.map gO) 4,aw (u.a1.map ef) 7,aw (u.a5.map gp) 3,aw (u.cI.map fi) 17,aw (u.cM.map hQ) 2],Z d,Z gq]=some (Z (km u gq 5 (pA u d))):=bE.eH (x:=(d,gq)) ay λ⟨og,kD⟩ ag=>by simp at ag⊢;omega
structure fT(u:bm):Prop where
  ok:k2 u
  fD:bm.fD u
noncomputable def AN(u:bm)(h:bm.fD u):bE al:= .dR 62 Unit (λ_=>True) (λ_=>[.agg (aU u).toArray]) (λ_=>Z (if gg u then 0 else 1)) λ_ _=>Ul h
@[simp] theorem aKb{u:bm}{h:bm.fD u}:(AN u h).f=62:=rfl
@[simp] theorem aKc{u:bm}{h:bm.fD u}:(AN u h).fn [.agg #[Z u.ext,aw (u.cH.map gZ) 4,aw (u.bf.map gO) 4,aw (u.a1.map ef) 7,aw (u.a5.map gp) 3,aw (u.cI.map fi) 17,aw (u.cM.map hQ) 2]]=some (Z (if gg u then 0 else 1)):=bE.eH (x:=()) trivial λ_ _=>rfl
noncomputable def AO(u:bm)(h:bm.fD u):bE al:= .dR 66 Unit (λ_=>True) (λ_=>[.agg (aU u).toArray]) (λ_=>Z (if gg u then 0 else 1)) λ_ _=>axt h
@[simp] theorem aKd{u:bm}{h:bm.fD u}:(AO u h).f=66:=rfl
@[simp] theorem aKe{u:bm}{h:bm.fD u}:(AO u h).fn [.agg #[Z u.ext,aw (u.cH.map gZ) 4,aw (u.bf.map gO) 4,aw (u.a1.map ef) 7,aw (u.a5.map gp) 3,aw (u.cI.map fi) 17,aw (u.cM.map hQ) 2]]=some (Z (if gg u then 0 else 1)):=bE.eH (x:=()) trivial λ_ _=>rfl
theorem awl{u:bm}(h:bm.fD u):bK al 115 [.agg (aU u).toArray] (.bool (gg u)):=by
  refine et (dM (aB:=⟨[AN u h],[]⟩) Yt (by kernel_rfl) (by simp[FQ]) ?_);cases ad:gg u
  · simp(disch:=first|omega|simp only[aW];omega) [FQ,Qr,Qs,aU,ad,-O,-U,-N,-S,-List.map_map]
  · simp(disch:=first|omega|simp only[aW];omega) [FQ,Qr,Qs,aU,ad,-O,-U,-N,-S,-List.map_map]
noncomputable def Dv(u:bm)(h:bm.fD u):bE al:= .dR 115 Unit (λ_=>True) (λ_=>[.agg (aU u).toArray]) (λ_=> .bool (gg u)) λ_ _=>awl h
@[simp] theorem aJn{u:bm}{h:bm.fD u}:(Dv u h).f=115:=rfl
@[simp] theorem aJo{u:bm}{h:bm.fD u}:(Dv u h).fn [.agg #[Z u.ext,aw (u.cH.map gZ) 4,aw (u.bf.map gO) 4,aw (u.a1.map ef) 7,aw (u.a5.map gp) 3,aw (u.cI.map fi) 17,aw (u.cM.map hQ) 2]]=some (.bool (gg u)):=bE.eH (x:=()) trivial λ_ _=>rfl
theorem avg{I e:Int}(h:0<=e):(if e<(if I<0 then 0 else I)then e else(if I<0 then 0 else I))=max 0 (min I e):=by split<;>split at* <;>omega
theorem avh{I e:Int}(h:0<=e):(if 0<(if e<I then e else I)then(if e<I then e else I)else 0)=max 0 (min I e):=by split<;>split at* <;>omega
def lF(u:bm)(gC:List Int)(d:Nat):Int:=if gC.length=u.a5.length then max 0 (min (gC.getD d 0) (rE u d))else rE u d
theorem HS{u:bm}{gC:List Int}:pI u gC=jd u.a5.length (lF u gC):=rfl
theorem sZ{l:List Int}: ∀r∈l.map (λx=>[Z x]),r.length=1/\ ∀v∈r,gN v=true:= λr az=>by obtain⟨x,_,rfl⟩:=g4.1 az;exact⟨rfl,λv ad=>by simp at ad;subst ad;rfl⟩
theorem qZ{l:List Int}:(l.map (λx=>[Z x])).flatten=l.map Z:=by
  induction l with
  |nil=>rfl
  |cons x l cc=>simp[cc]
theorem Qb{l:List Int}: ∀v∈l.map Z,gN v=true:= λv ad=>by obtain⟨x,_,rfl⟩:=g4.1 ad;rfl
theorem awc{u:bm}(h:fT u){gC:List Int}:fA al 63 [.agg (aU u).toArray,cn gC] g6 λv bF=> ∃o,v=ee o u.a5.length 1/\bF.X o=some ⟨(pI u gC).map Z,true⟩:=by
  refine dM (aB:=⟨[Dv u h.fD],[]⟩) acK (by kernel_rfl) (by simp[LI]) ?_;have ad:=h.ok.yz;have kt:=h.ok.mh;have fO:(u.a5.length:Int)*8<=140737488355328/\u.a5.length<=140737488355328/\(u.a5.length:Int)<=140737488355328/\(u.a5.length:Int)<=9223372036854775807:=by omega
  simp(disch:=first|omega|simp only[aW];omega) [LI,acJ,acL,acM,acN,acO,aU,ad,fO,-O,-U,-N,-S,-List.map_map];refine h4 (aB:=⟨[Dv u h.fD],[]⟩) (λi z t=>t.X 0=some ⟨aU u,true⟩/\t.X 5=some ⟨jd u.a5.length (λj=>if j<i then Z (lF u gC j)else Z 0),true⟩/\z 1=cn gC/\z 2=cF 0/\z 5=ee 5 u.a5.length 1/\z 15=Z u.a5.length/\z 16=Z i) u.a5.length ?_ ?_ 0 _ _ (hx _) ⟨by simp(disch:=first|omega|simp only[aW];omega) [aU,-O,-U,-N,-S,-List.map_map],by simp(disch:=first|omega|simp only[aW];omega) [-O,-U,-N,-S,-List.map_map];exact awK,by simp,by simp,by simp,by simp,by simp⟩
  · rintro i z t ak ⟨aO,gi,bl,eU,ct,Dq,tr⟩ cx bk;obtain⟨x,G⟩:=jz ak;have e8:=(eB.1 G).2;obtain⟨bw,bJ,cb,eI,fm⟩:=h.ok.yR i x G;obtain⟨m,av⟩:=k1 bw;have vC:m<u.bf.length:=(by omega);obtain⟨y,ag⟩:=jz vC;have zw:=(eB.1 ag).2;have gQ:rE u i=y.ext:=(by simp only[rE,G,av,pR,ag]);have hb:=h.ok.MD m y ag;have bY:(i:Int)<u.a5.length:=(by omega);have a3:(m:Int)<u.bf.length:=(by omega);have n1:i+1<=u.a5.length:=ak;have bZ:=g3 (n:=i) (by omega);have fW:=bn aO;have Hp:=bn gi;by_cases az:gC.length=u.a5.length
    · have sR:(gC.length:Int)=u.a5.length:=(by omega);have BU:i<gC.length:=(by omega);have aj0:(i:Int)<gC.length:=(by omega);obtain⟨I,bD⟩:=jz BU;have P4:=(eB.1 bD).2;have vF:lF u gC i=max 0 (min I y.ext):=(by unfold lF;rw[if_pos az,gQ,mV,bD];rfl);simp(disch:=first|omega|simp only[aW];omega) [LN,LJ,LK,LL,LM,aU,gp,gO,bl,eU,ct,Dq,tr,aO,gi,bY,a3,bZ,e8,av,zw,az,P4,HR,MY,BM,n1,-O,-U,-N,-S,-List.map_map];refine bk _ _ ⟨by simp(disch:=first|omega|simp only[aW];omega) [aO,aU,-O,-U,-N,-S,-List.map_map],?_,by simp[bl],by simp[eU],by simp[ct],by simp[Dq],by simp⟩;simp(disch:=first|omega|simp only[aW];omega) [-O,-U,-N,-S,-List.map_map];refine r8 λj b1=> ?_;by_cases e:j=i
      · subst e;have m4:j<j+1:=(by omega);rw[if_pos rfl,if_pos m4,vF];exact congrArg Z (avg (by omega))
      · by_cases c:j<i
        · have ch:j<i+1:=(by omega);simp only[if_neg e,if_pos c,if_pos ch]
        · have ch: ¬j<i+1:=(by omega);simp only[if_neg e,if_neg c,if_neg ch]
    · have sR: ¬(gC.length:Int)=u.a5.length:=(by omega);have vF:lF u gC i=y.ext:=(by unfold lF;rw[if_neg az,gQ]);simp(disch:=first|omega|simp only[aW];omega) [LN,LJ,LK,LL,LM,aU,gp,gO,bl,eU,ct,Dq,tr,aO,gi,bY,a3,bZ,e8,av,zw,sR,MY,n1,-O,-U,-N,-S,-List.map_map];refine bk _ _ ⟨by simp(disch:=first|omega|simp only[aW];omega) [aO,aU,-O,-U,-N,-S,-List.map_map],?_,by simp[bl],by simp[eU],by simp[ct],by simp[Dq],by simp⟩;simp(disch:=first|omega|simp only[aW];omega) [-O,-U,-N,-S,-List.map_map];refine r8 λj b1=> ?_;by_cases e:j=i
      · subst e;have m4:j<j+1:=(by omega);rw[if_pos rfl,if_pos m4,vF]
      · by_cases c:j<i
        · have ch:j<i+1:=(by omega);simp only[if_neg e,if_pos c,if_pos ch]
        · have ch: ¬j<i+1:=(by omega);simp only[if_neg e,if_neg c,if_neg ch]
  · rintro z t ⟨aO,gi,bl,eU,ct,Dq,tr⟩;simp(disch:=first|omega|simp only[aW];omega) [LN,LJ,LK,LL,LM,ct,Dq,tr,-O,-U,-N,-S,-List.map_map];rw[gi,HS,Dp];rw[r8 (g:= λj=>Z (lF u gC j)) λj b1=>if_pos b1]
theorem awX{u:bm}(h:fT u){gC:List Int}:fA al 52 [.agg (aU u).toArray,cn gC] g6 λv bF=> ∃o,v=ee o u.a5.length 1/\bF.X o=some ⟨(pI u gC).map Z,true⟩:=by
  refine dM (aB:=⟨[AM u h.fD],[]⟩) RJ (by kernel_rfl) (by simp[CF]) ?_;have ad:=h.ok.yz;have kt:=h.ok.mh;simp(disch:=first|omega|simp only[aW];omega) [CF,RI,RK,RL,RM,RN,aU,ad,-O,-U,-N,-S,-List.map_map];refine yB (d:=5) (I:=1) (by simp) ?_;refine h4 (aB:=⟨[AM u h.fD],[]⟩) (λi z t=>t.X 0=some ⟨aU u,true⟩/\(∃o,o≠0/\z 5=ee o i 1/\t.X o=some ⟨jd i (λj=>Z (lF u gC j)),true⟩)/\z 1=cn gC/\z 2=cF 0/\z 6=Z i) u.a5.length ?_ ?_ 0 _ _ (hx _) ⟨by simp(disch:=first|omega|simp only[aW];omega) [aU,-O,-U,-N,-S,-List.map_map],⟨2,by decide,by simp,by simp(disch:=first|omega|simp only[aW];omega) [jd,-O,-U,-N,-S,-List.map_map]⟩,by simp,by simp,by simp⟩
  · rintro i z t ak ⟨aO,⟨o,aC,ct,bd⟩,bl,eU,fu⟩ cx bk;obtain⟨x,G⟩:=jz ak;have e8:=(eB.1 G).2;obtain⟨bw,bJ,cb,eI,fm⟩:=h.ok.yR i x G;obtain⟨m,av⟩:=k1 bw;have vC:m<u.bf.length:=(by omega);obtain⟨y,ag⟩:=jz vC;have zw:=(eB.1 ag).2;have gQ:rE u i=y.ext:=(by simp only[rE,G,av,pR,ag]);have hb:=h.ok.MD m y ag;have bY:(i:Int)<u.a5.length:=(by omega);have a3:(m:Int)<u.bf.length:=(by omega);have n1:i+1<=u.a5.length:=ak;have bZ:=g3 (n:=i) (by omega);have fW:=bn aO;have cp:=bn bd;have fO:(i+1)*8<=140737488355328/\i<=9223372036854775806:=(by omega);by_cases az:gC.length=u.a5.length
    · have sR:(gC.length:Int)=u.a5.length:=(by omega);have BU:i<gC.length:=(by omega);have aj0:(i:Int)<gC.length:=(by omega);obtain⟨I,bD⟩:=jz BU;have P4:=(eB.1 bD).2;have vF:lF u gC i=max 0 (min I y.ext):=(by unfold lF;rw[if_pos az,gQ,mV,bD];rfl);have e7: ¬y.ext<0:=(by omega);simp(disch:=first|omega|simp only[aW];omega) [CI,CG,CH,aU,gp,gO,bl,eU,ct,fu,aO,bd,bY,a3,bZ,e8,av,zw,az,P4,fO,-O,-U,-N,-S,-List.map_map];refine bk _ _ ⟨by simp(disch:=first|omega|simp only[aW];omega) [aO,aU,-O,-U,-N,-S,-List.map_map],⟨t.next+3,by omega,by simp,?_⟩,by simp[bl],by simp[eU],by simp⟩;rw[ej (by simp),jh (by simp),Tb,vF];simp only[ll,fq.mk.injEq,and_true,List.append_cancel_left_eq,so];exact congrArg Z (avh (by omega))
    · have sR: ¬(gC.length:Int)=u.a5.length:=(by omega);have vF:lF u gC i=y.ext:=(by unfold lF;rw[if_neg az,gQ]);simp(disch:=first|omega|simp only[aW];omega) [CI,CG,CH,aU,gp,gO,bl,eU,ct,fu,aO,bd,bY,a3,bZ,e8,av,zw,sR,fO,-O,-U,-N,-S,-List.map_map];refine bk _ _ ⟨by simp(disch:=first|omega|simp only[aW];omega) [aO,aU,-O,-U,-N,-S,-List.map_map],⟨t.next+3,by omega,by simp,?_⟩,by simp[bl],by simp[eU],by simp⟩;rw[ej (by simp),jh (by simp),Tb,vF]
  · rintro z t ⟨aO,⟨o,aC,ct,bd⟩,bl,eU,fu⟩;have fW:=bn aO;simp(disch:=first|omega|simp only[aW];omega) [CI,CG,CH,aU,aO,eU,ct,fu,-O,-U,-N,-S,-List.map_map];rw[bd,HS,Dp]
noncomputable def FB(u:bm)(h:fT u):iQ al:= .EO 63 (List Int) (λ_=>True) (λx=>[.agg (aU u).toArray,cn x]) (λ_=>u.a5.length) (λ_=>1) (λx=>(pI u x).map Z) λ_ _=>NT (λv ad=>by simp at ad;rcases ad with rfl|rfl<;>rfl) Qb (awc h)
@[simp] theorem aE3{u:bm}{h:fT u}:(FB u h).f=63:=rfl
@[simp] theorem aE4{u:bm}{h:fT u}{l:List Int}{t:W}:(FB u h).fn [.agg #[Z u.ext,aw (u.cH.map gZ) 4,aw (u.bf.map gO) 4,aw (u.a1.map ef) 7,aw (u.a5.map gp) 3,aw (u.cI.map fi) 17,aw (u.cM.map hQ) 2],aw (l.map λx=>[Z x]) 1] t=some (.slice (some ⟨t.next,0,none⟩) u.a5.length 1,(t.dp 1).a0 t.next (some ⟨(pI u l).map Z,true⟩)):=iQ.OU (x:=l) trivial λy ag=>by simpa using ag
noncomputable def FC(u:bm)(h:fT u):iQ al:= .EO 52 (List Int) (λ_=>True) (λx=>[.agg (aU u).toArray,cn x]) (λ_=>u.a5.length) (λ_=>1) (λx=>(pI u x).map Z) λ_ _=>NT (λv ad=>by simp at ad;rcases ad with rfl|rfl<;>rfl) Qb (awX h)
@[simp] theorem aE7{u:bm}{h:fT u}:(FC u h).f=52:=rfl
@[simp] theorem aE8{u:bm}{h:fT u}{l:List Int}{t:W}:(FC u h).fn [.agg #[Z u.ext,aw (u.cH.map gZ) 4,aw (u.bf.map gO) 4,aw (u.a1.map ef) 7,aw (u.a5.map gp) 3,aw (u.cI.map fi) 17,aw (u.cM.map hQ) 2],aw (l.map λx=>[Z x]) 1] t=some (.slice (some ⟨t.next,0,none⟩) u.a5.length 1,(t.dp 1).a0 t.next (some ⟨(pI u l).map Z,true⟩)):=iQ.OU (x:=l) trivial λy ag=>by simpa using ag
def lS(r:List Int):List Value:=[cn r]
abbrev pf(L:List (List Int)):Value:=aw (L.map lS) 1
@[simp] theorem aID{l de:List (List Int)}:l.map lS=de.map lS↔l=de:=x6 λx y h=>by simpa[lS]using h
theorem Wv{u:bm}(h:k2 u){v:Nat}(ad:v<u.cM.length): ∃x p q,u.cM[v]?=some x/\x.pF=(p:Nat)/\p<u.cI.length/\u.cI[p]?=some q/\p6 u v=q.k+q.m/\1<=q.k/\0<=q.m/\q.k+q.m<=8:=by
  obtain⟨x,G⟩:=jz ad;obtain⟨a,b⟩:=h.ay7 v x G;obtain⟨p,ai⟩:=k1 a;have k9:p<u.cI.length:=by omega
  obtain⟨q,bc⟩:=jz k9;have au:=(h.pF p q bc).1;simp only[ld,aY,eO]at au;have D:=vI au.1;have H:=vI au.2.1;refine⟨x,p,q,G,ai,k9,bc,?_,D.1,H.1,au.2.2.1⟩;have e:x.pF.toNat=p:=by omega
  unfold p6;rw[G];simp only[e,bc]
theorem Ww{u:bm}(h:k2 u){v:Nat}(ad:v<u.cM.length):1<=p6 u v/\p6 u v<=8:=by obtain⟨x,p,q,_,_,_,_,e,a,b,c⟩:=Wv h ad;rw[e];omega
theorem Wq{n:Nat}{p:Nat->Bool}:(List.range (n+1)).filter p=(List.range n).filter p++if p n then[n]else[]:=by rw[List.range_succ,List.filter_append];cases h:p n<;>simp[h]
theorem av2{u:bm}(h:fT u){n:Nat}(au:n<u.a1.length):bK al 116 [.agg (aU u).toArray,Z n] (cn (xc u n)):=by
  refine et (dM (aB:=⟨[Dv u h.fD,M8 u h.ok],[]⟩) Yv (by kernel_rfl) (by simp[Kn]) ?_);have ad:=h.ok.yz;have kt:=h.ok.mh;have hS:=h.ok.js;obtain⟨d,G⟩:=jz au;have e8:=(eB.1 G).2;have e:ho u n=d.hn:=by simp only[ho,G]
  have J7:=(h.ok.gq au).1;have bY:(n:Int)<u.a1.length:=by omega
  have br: ¬(n:Int)<0:=by omega
  have bX: ¬u.a1.length<=n:=by omega
  simp(disch:=first|omega|simp only[aW];omega) [Kn,Yu,Yw,Yx,Yy,aU,ad,br,bX,-O,-U,-N,-S,-List.map_map];refine yB (d:=5) (I:=1) (by simp) ?_;refine h4 (aB:=⟨[Dv u h.fD,M8 u h.ok],[]⟩) (λi z t=>t.X 0=some ⟨aU u,true⟩/\(∃o l,o≠0/\l=((List.range i).filter λd=>decide (km u (ho u n) 5 (pA u d)=n))/\z 5=ee o l.length 1/\t.X o=some ⟨l.map (λd:Nat=>Z d),true⟩)/\z 1=Z n/\z 2=cF 0/\z 24=Z u.a5.length/\z 25=Z i) u.a5.length ?_ ?_ 0 _ _ (hx _) ⟨by simp(disch:=first|omega|simp only[aW];omega) [aU,-O,-U,-N,-S,-List.map_map],⟨2,[],by decide,rfl,by simp,by simp(disch:=first|omega|simp only[aW];omega) [-O,-U,-N,-S,-List.map_map]⟩,by simp,by simp,by simp,by simp⟩
  · rintro i z t ak ⟨aO,⟨o,l,aC,aD,ct,bd⟩,bl,eU,Dr,sb⟩ cx bk;have a3:(i:Int)<u.a5.length:=(by omega);have bZ:=g3 (n:=i) (by omega);have fW:=bn aO;have cp:=bn bd;have BT:i<u.a5.length/\0<=d.hn:=⟨ak,by omega⟩;have BQ:l.length<=i:=(by rw[aD];exact kZ (List.length_filter_le _ _) (by simp));have fO:(l.length+1)*8<=140737488355328/\l.length<=9223372036854775806:=(by omega);by_cases c:(km u d.hn 5 (pA u i):Nat)=n
    · have ch:(km u d.hn 5 (pA u i):Int)=(n:Int):=(by omega);simp(disch:=first|omega|simp only[aW];omega) [Ko,FR,FT,FU,FV,aU,ef,bl,eU,ct,Dr,sb,aO,bd,bY,a3,e8,c,bZ,fO,-O,-U,-N,-S,-List.map_map];refine bk _ _ ⟨by simp(disch:=first|omega|simp only[aW];omega) [aO,aU,-O,-U,-N,-S,-List.map_map],⟨t.next+3,l++[i],by omega,?_,by simp,?_⟩,by simp[bl],by simp[eU],by simp[Dr],by simp⟩
      · rw[Wq,<-aD,e,decide_eq_true c];rfl
      · rw[ej (by simp),jh (by simp)];simp
    · have ch: ¬(km u d.hn 5 (pA u i):Int)=(n:Int):=(by omega);simp(disch:=first|omega|simp only[aW];omega) [Ko,FR,FT,FU,FV,aU,ef,bl,eU,Dr,sb,aO,bY,a3,e8,ch,bZ,-O,-U,-N,-S,-List.map_map];refine bk _ _ ⟨by simp(disch:=first|omega|simp only[aW];omega) [aO,aU,-O,-U,-N,-S,-List.map_map],⟨o,l,aC,?_,by simp[ct],by simp(disch:=first|omega|simp only[aW];omega) [bd,-O,-U,-N,-S,-List.map_map]⟩,by simp[bl],by simp[eU],by simp[Dr],by simp⟩;rw[Wq,<-aD,e,yI c];simp
  · rintro z t ⟨aO,⟨o,l,aC,aD,ct,bd⟩,bl,eU,Dr,sb⟩;have fW:=bn aO;have aR:xc u n=l.map λd:Nat=>(d:Int):=by rw[aD];rfl
    rw[aR];simp(disch:=first|omega|simp only[aW];omega) [Ko,FR,FT,FU,FV,FV,FR,FT,FU,ct,Dr,sb,-O,-U,-N,-S,-List.map_map];have:=sG (t:=t) (n:=8) (o:=o) (l:=l.length) (I:=1) (w:=true) (a8:=(l.map λd:Nat=>(d:Int)).map λx=>[Z x]) (by rw[qZ,bd];simp) (by simp) sZ;rw[this]
noncomputable def Ts(u:bm)(h:fT u):bE al:= .dR 116 Nat (λn=>n<u.a1.length) (λn=>[.agg (aU u).toArray,Z n]) (λn=>cn (xc u n)) λn au=>av2 h au
@[simp] theorem aIQ{u:bm}{h:fT u}:(Ts u h).f=116:=rfl
@[simp] theorem aIR{u:bm}{h:fT u}{n:Nat}(au:n<u.a1.length):(Ts u h).fn [.agg #[Z u.ext,aw (u.cH.map gZ) 4,aw (u.bf.map gO) 4,aw (u.a1.map ef) 7,aw (u.a5.map gp) 3,aw (u.cI.map fi) 17,aw (u.cM.map hQ) 2],Z n]=some (cn (xc u n)):=bE.eH (x:=n) au λy ag=>by simp at ag⊢;omega
open Go Go.DI
def Ls:J:= .B (.block 1 (.F [A 0 39 11,A 1 40 1,A 2 41 12,bH 3 42 1 40 41,aA 4 43 42,aL 5 44 0 9,aL 6 45 3 44,aA 7 46 45,bO 8 47 46,aL 9 48 0 9,aL 10 49 4 48,aA 11 50 49,bO 12 51 50,gI 13 52 47 51,da 14 53 52,dr 15 54 19 43 53,q2 16 55 54,iC 17 56 1 8 39 55,A 18 11 56])) (.F [A 0 37 12,da 1 38 37,A 2 12 38])
def RE:J:= .B (.B (.F [A 0 33 12,A 1 34 1,bO 2 35 34,dq 3 36 33 35]) (.aV (E 36) (.skip) (.bh 0))) Ls
def Lu:J:= .B (.F [b7 0 60 17 [],A 1 61 60,ea 2 62 61 0 9,iE 3 63 61 7 62,ea 4 64 61 8 9,ep 5 65 61 64,e0 6 66 61 1,ea 8 68 61 0 9,iE 9 69 61 7 68,ea 10 70 61 8 9,ep 11 71 61 70,e0 12 72 61 1,⟨7,some 67,some (61,true),.dm 21 [E 63,E 65,E 66],[(E 70,E 70),(E 68,E 68)]⟩,cw 13 73 61 true (.dm 22 [E 69,E 71,E 72]),cw 14 74 61 true (.dm 20 [E 67,E 73]),di 15 75 61 74,A 16 76 75,ea 17 77 76 0 9,iE 18 78 76 7 77,ea 19 79 76 8 9,ep 20 80 76 79,e0 21 81 76 11,ea 23 83 76 0 9,iE 24 84 76 7 83,ea 25 85 76 8 9,ep 26 86 76 85,e0 27 87 76 11,⟨22,some 82,some (76,true),.dm 21 [E 78,E 80,E 81],[(E 85,E 85),(E 83,E 83)]⟩,cw 28 88 76 true (.dm 22 [E 84,E 86,E 87]),cw 29 89 76 true (.dm 20 [E 82,E 88]),di 30 90 76 89,A 31 91 90,ea 32 92 91 0 9,iE 33 93 91 7 92,iE 34 94 91 2 13,ea 36 96 91 0 9,iE 37 97 91 7 96,iE 38 98 91 2 13,⟨35,some 95,some (91,true),.dm 23 [E 93,E 94],[(E 13,E 13),(E 96,E 96)]⟩,cw 39 99 91 true (.dm 24 [E 97,E 98]),cw 40 100 91 true (.fg .eql .bool (E 95) (E 99)),di 41 101 91 100,A 42 102 101,cw 43 103 102 true (.eY [aP,aG,aG,aG,aG,aG,aG] []),ea 44 104 102 8 9,ep 45 105 102 104,e0 46 106 102 1,cw 47 107 102 true (.dm 21 [E 103,E 105,E 106]),lA 48 108 102 107,s5 49 109 102 108 0,di 50 110 102 109,A 51 111 110,cw 52 112 111 true (.eY [aP,aG,aG,aG,aG,aG,aG] []),iE 53 113 111 2 13,cw 54 114 111 true (.dm 23 [E 112,E 113]),rZ 55 115 111 114,di 56 116 111 115,A 57 8 116]) (.aI)
def Lt:J:= .B (.F [A 0 57 2,A 1 58 3,a2 2 59 (.eY [aG,aG] [(0,1,E 57),(1,1,E 58)]),a2 3 13 (.dz [aG,aG]),b4 4 2 13 59]) Lu
def ab8:J:= .B (.B (.F [ba 0 12 0]) (.block 0 (.loop RE))) Lt
def ab7:J:= .B (.F [eN 0 11]) ab8
def ab6:J:= .B (.F [A 0 29 0,b7 1 30 18 [E 29],A 2 28 30,cE 3 31 0 28,cE 4 32 1 28,a2 5 9 (.dz [aP,aG,aG,aG,aG,aG,aG,aG,aG]),b4 6 9 9 31,A 7 10 32]) ab7
def GQ:J:= .B (.B (.F [A 0 14 1,bO 1 15 14,kO 2 16 15 20,A 3 17 16,dG 4 18 17 2,iM 5 19 17 18,lB 6 20 17 19 20,cZ 7 21 17 20,A 8 22 21,dG 9 23 22 3,iM 10 24 22 23,lB 11 25 22 24 20,cZ 12 26 22 25]) (.aV (E 26) (.B (.F [b7 0 27 17 [],A 1 8 27]) (.aI)) (.skip))) ab6
def GP:J:=
  .B (
  .F [
 cu 0 8 false]) GQ
def CD:bU:=⟨117,[.bL 8],GP⟩
theorem asb:b3 al 3=some CD:=by kernel_rfl
def anl:J:= .B (.F [A 0 68 4,jC 1 69 68 0,A 2 70 69,e0 3 71 70 6,s5 4 72 70 71 0,di 5 73 70 72,A 6 74 73,e0 7 75 74 8,s5 8 76 74 75 0,di 9 77 74 76,A 10 78 77,iE 11 79 78 2 5,cw 12 80 78 true (.fR 1 1 [aP] [(0,1,.const (.int .i64 4))]),cw 13 81 78 true (.fR 1 1 [aP] [(0,1,.const (.int .i64 5))]),cw 14 82 78 true (.eY [aG,aG] [(0,1,E 80),(1,1,E 81)]),cw 15 83 78 true (.dm 27 [E 79,E 82]),di 16 84 78 83,A 17 85 84,ea 18 86 85 0 7,ep 19 87 85 86,s5 20 88 85 87 4,di 21 89 85 88,A 22 90 89,iE 23 91 90 7 2,cw 24 92 90 true (.fR 1 3 [aP,aP,aP] [(0,1,.const aP),(1,1,.const aP),(2,1,.const (.int .i64 2))]),ea 25 93 90 1 7,iE 26 94 90 3 93,cw 27 95 90 true (.dm 31 [E 91,E 92,E 94]),di 28 96 90 95,A 29 0 96]) (.aI)
def ank:J:= .B (.F [b2 0 63 7 2,b2 1 64 2 5,b7 2 65 29 [E 63,.const (aG),E 64,.const (.int .i64 5)],A 3 62 65,cE 4 66 0 62,cE 5 67 1 62,a2 6 7 (.dz [aP,aG,aG,aG]),b4 7 4 7 66,A 8 8 67]) anl
def anj:J:= .B (.F [b2 0 57 7 2,b2 1 58 2 3,b7 2 59 36 [E 57,.const (aG),E 58,.const (.int .i64 5)],A 3 56 59,cE 4 60 0 56,cE 5 61 1 56,a2 6 5 (.dz [aG,aG]),b4 7 2 5 60,A 8 6 61]) ank
def ani:J:= .B (.F [b2 0 51 7 2,a2 1 52 (.eY [aG,aG] []),b7 2 53 36 [E 51,.const (aG),E 52,.const (.int .i64 4)],A 3 50 53,cE 4 54 0 50,cE 5 55 1 50,a2 6 3 (.dz [aG,aG]),b4 7 2 3 54,A 8 4 55]) anj
def anh:J:= .B (.F [b2 2 12 3 1,a2 9 19 (.eY [.string ⟨#[]⟩,aP,aP,aP] [(0,1,.const (.string ⟨#[109]⟩)),(1,1,.const (.int .i64 2)),(2,1,.const (.int .i64 1))]),b2 11 21 3 1,Sd 12 22 21,b2 13 23 3 1,a2 14 24 (.eY [.string ⟨#[]⟩,aP,aP,aP,.bool false,aG,aG] [(0,1,.const (.string ⟨#[97]⟩)),(1,1,.const (.int .i64 1)),(3,1,.const (.int .i64 1)),(4,3,E 23)]),b2 15 25 3 1,C5 16 26 98 2 1 25,b2 17 27 3 1,C5 18 28 99 3 2 27,b2 19 29 3 1,C5 20 30 100 4 3 29,b2 21 31 3 1,C5 22 32 101 4 3 31,b2 23 33 3 1,C5 24 34 102 4 3 33,Mi 26 36 120 4,Mi 27 37 121 5,Mi 28 38 122 6,b2 33 43 3 1,b2 34 44 3 1,a2 37 47 (.eY [.string ⟨#[]⟩,aP] [(0,1,.const (.string ⟨#[118]⟩))]),Mj 0 10 1,Mj 5 15 2,Mj 31 41 1,vW 1 11 10,vW 3 13 12,a2 4 14 (.fR 1 1 [aG] [(0,1,E 13)]),vW 6 16 15,a2 7 17 (.eY [.string ⟨#[]⟩,aG,aG,aG] [(0,1,.const (.string ⟨#[108]⟩)),(1,1,E 11),(2,1,E 14),(3,1,E 16)]),a2 8 18 (.fR 4 1 [.string ⟨#[]⟩,aG,aG,aG] [(0,4,E 17)]),a2 10 20 (.fR 4 1 [.string ⟨#[]⟩,aP,aP,aP] [(0,4,E 19)]),a2 25 35 (.fR 7 7 [.string ⟨#[]⟩,aP,aP,aP,.bool false,aG,aG,.string ⟨#[]⟩,aP,aP,aP,.bool false,aG,aG,.string ⟨#[]⟩,aP,aP,aP,.bool false,aG,aG,.string ⟨#[]⟩,aP,aP,aP,.bool false,aG,aG,.string ⟨#[]⟩,aP,aP,aP,.bool false,aG,aG,.string ⟨#[]⟩,aP,aP,aP,.bool false,aG,aG,.string ⟨#[]⟩,aP,aP,aP,.bool false,aG,aG] [(0,7,E 22),(7,7,E 24),(14,7,E 26),(21,7,E 28),(28,7,E 30),(35,7,E 32),(42,7,E 34)]),a2 29 39 (.fR 3 3 [.string ⟨#[]⟩,aP,aP,.string ⟨#[]⟩,aP,aP,.string ⟨#[]⟩,aP,aP] [(0,3,E 36),(3,3,E 37),(6,3,E 38)]),a2 30 40 (.fR 1 1 [aP] [(0,1,.const aP)]),vW 32 42 41,a2 35 45 (.eY [.string ⟨#[]⟩,aP,aP,aP,aP,aP,aP,aP,aP,aG,aG,.bool false,aG,aG,.bool false,aG,aG] [(0,1,.const (.string ⟨#[112]⟩)),(1,1,.const (.int .i64 1)),(2,1,.const (.int .i64 1)),(3,1,.const (.int .i64 1)),(9,1,E 40),(10,1,E 42),(11,3,E 43),(14,3,E 44)]),Sc 36 46 45,a2 38 48 (.fR 2 1 [.string ⟨#[]⟩,aP] [(0,2,E 47)]),a2 39 49 (.eY [aP,aG,aG,aG,aG,aG,aG] [(0,1,.const (.int .i64 1)),(1,1,E 18),(2,1,E 20),(3,1,E 35),(4,1,E 39),(5,1,E 46),(6,1,E 48)]),a2 40 2 (.dz [aP,aG,aG,aG,aG,aG,aG]),b4 41 7 2 49]) ani
def ang:J:= .B (.F [vX 0 9 59 0 1,a2 1 1 (.dz [.bool false,aG,aG]),b4 2 3 1 9]) anh
def ane:J:=
  .B (
  .F [
 cu 0 0 false]) ang
def Zk:bU:=⟨97,[.bL 0],ane⟩
theorem anf:b3 al 17=some Zk:=by kernel_rfl
def Q9:J:= .B (.block 3 (.B (.F [bH 0 38 1 34 36,aA 1 39 38,A 2 11 39]) (.F [A 0 40 7,A 1 41 11,bH 2 42 1 40 41,pt 3 (.store 1 (E 42) (.const aP))]))) (.F [da 0 43 36,A 1 36 43])
def Q8:J:= .B (.aV (E 37) (.skip) (.bh 2)) Q9
def Ra:J:= .B (.F [dq 0 37 36 35]) Q8
def Cq:J:= .B (.F [b2 0 32 7 3,A 1 33 9,dr 2 34 65 32 33,bO 3 35 34,ba 4 36 0]) (.block 2 (.loop Ra))
def Cp:J:= .B (.B (.F [A 0 24 9,jC 1 25 24 0,A 2 26 25,mH 3 27 26 7 3,dG 4 28 26 9,cw 5 29 26 false (.dm 64 [E 27,E 28]),iF 6 30 26 29,cZ 7 31 26 30]) (.aV (E 31) (.bh 1) (.skip))) Cq
def Co:J:= .B (.block 1 (.B (.F [bH 0 22 1 18 20,aA 1 23 22,A 2 9 23]) Cp)) (.F [da 0 44 20,A 1 20 44])
def Cn:J:= .B (.aV (E 21) (.skip) (.bh 0)) Co
def GA:J:= .B (.F [dq 0 21 20 19]) Cn
def Q5:J:= .B (.F [A 0 45 7,A 1 6 45]) (.aI)
def Q7:J:= .B (.B (.F [A 0 18 2,bO 1 19 18,ba 2 20 0]) (.block 0 (.loop GA))) Q5
def Q6:J:= .B (.F [b2 0 15 7 3,A 1 16 1,dr 2 17 63 15 16,A 3 7 17]) Q7
def Q4:J:= .B (.B (.F [b2 0 12 7 3,b7 1 13 62 [E 12],r0 2 14 13]) (.aV (E 14) (.B (.F [eN 0 6]) (.aI)) (.skip))) Q6
def Q2:J:=
  .B (
  .F [
 dT 0 3 0,
 eN 1 6]) Q4
def Cm:bU:=⟨46,[.bL 6],Q2⟩
theorem Q3:b3 al 21=some Cm:=by kernel_rfl
def La:J:= .B (.block 3 (.B (.F [b2 0 28 7 3,A 1 29 8,A 2 30 2,A 3 31 9,bH 4 32 1 30 31,aA 5 33 32,b7 6 34 67 [E 28,E 29,E 33]]) (.aV (E 34) (.F [A 0 35 7,A 1 36 8,bH 2 37 1 35 36,pt 3 (.store 1 (E 37) (.const aP))]) (.skip)))) (.F [A 0 26 9,da 1 27 26,A 2 9 27])
def Lb:J:= .B (.B (.F [A 0 22 9,A 1 23 2,bO 2 24 23,dq 3 25 22 24]) (.aV (E 25) (.skip) (.bh 2))) La
def K9:J:= .B (.block 1 (.B (.F [ba 0 9 0]) (.block 2 (.loop Lb)))) (.F [A 0 20 8,da 1 21 20,A 2 8 21])
def Ri:J:= .B (.B (.F [A 0 16 8,A 1 17 7,bO 2 18 17,dq 3 19 16 18]) (.aV (E 19) (.skip) (.bh 0))) K9
def aaU:J:= .B (.F [A 0 38 7,A 1 6 38]) (.aI)
def aaT:J:= .B (.B (.F [ba 0 8 0]) (.block 0 (.loop Ri))) aaU
def aaS:J:= .B (.F [b2 0 13 7 3,A 1 14 1,dr 2 15 52 13 14,A 3 7 15]) aaT
def aaR:J:= .B (.B (.F [b2 0 10 7 3,b7 1 11 66 [E 10],r0 2 12 11]) (.aV (E 12) (.B (.F [eN 0 6]) (.aI)) (.skip))) aaS
def aaQ:J:=
  .B (
  .F [
 dT 0 3 0,
 eN 1 6]) aaR
def Rb:bU:=⟨39,[.bL 6],aaQ⟩
theorem aoW:b3 al 22=some Rb:=by kernel_rfl
def zM:J:= .B (.B (.F [A 0 23 7,jC 1 24 23 0,A 2 25 24,mH 3 26 25 7 2,dG 4 27 25 7,cw 5 28 25 false (.dm 64 [E 26,E 27]),iF 6 29 25 28,cZ 7 30 25 29,A 8 31 30,dG 9 32 31 5,dG 10 33 31 7,cw 11 34 31 false (.nd (.int .i64) (.bool false) false (E 32) (E 33)),cZ 12 35 31 34]) (.aV (E 35) (.B (.F [cu 0 4 false]) (.aI)) (.skip))) (.F [A 0 36 5,A 1 37 7,pt 2 (.lR (.int .i64) (E 36) (E 37) (.const (.bool true)))])
def zL:J:= .B (.block 1 (.B (.F [bH 0 21 1 17 19,aA 1 22 21,A 2 7 22]) zM)) (.F [da 0 38 19,A 1 19 38])
def zK:J:= .B (.aV (E 20) (.skip) (.bh 0)) zL
def Cw:J:= .B (.F [dq 0 20 19 18]) zK
def xI:J:= .B (.F [cu 0 4 true]) (.aI)
def Rp:J:= .B (.B (.F [aL 0 12 0 3,aA 1 13 12,aL 2 14 1 3,aA 3 15 14,a2 4 16 (.fR 1 2 [aG,aG] [(0,1,E 13),(1,1,E 15)]),b7 5 17 68 [E 16],bO 6 18 17,ba 7 19 0]) (.block 0 (.loop Cw))) xI
def Ro:J:= .B (.F [a2 0 11 (.nc),A 1 5 11]) Rp
def Rn:J:= .B (.B (.F [b2 0 8 7 2,b7 1 9 62 [E 8],r0 2 10 9]) (.aV (E 10) (.B (.F [cu 0 4 false]) (.aI)) (.skip))) Ro
def Rl:J:=
  .B (
  .F [
 dT 0 2 0,
 dT 1 3 1,
 cu 2 4 false]) Rn
def Ct:bU:=⟨39,[.bL 4],Rl⟩
theorem Rm:b3 al 23=some Ct:=by kernel_rfl
def GM:J:= .B (.block 1 (.B (.F [b2 0 22 7 2,A 1 23 5,A 2 24 6,bH 3 25 1 23 24,aA 4 26 25,dr 5 27 69 22 26,ht 6 28 27,A 7 29 28,dG 8 30 29 5,dG 9 31 29 6,cw 10 32 29 false (.mQ 1 (E 30) none (some (E 31))),dG 11 33 29 5,dG 12 34 29 6,py 13 35 29 1 33 34,dZ 14 36 29 35,cw 15 37 29 false (.dm 70 [E 32,E 36]),cZ 16 38 29 37]) (.aV (E 38) (.B (.F [cu 0 4 false]) (.aI)) (.skip)))) (.F [A 0 20 6,da 1 21 20,A 2 6 21])
def zN:J:= .B (.B (.F [A 0 16 6,A 1 17 5,bO 2 18 17,dq 3 19 16 18]) (.aV (E 19) (.skip) (.bh 0))) GM
def GN:J:= .B (.F [cu 0 4 true]) (.aI)
def GL:J:= .B (.B (.F [ba 0 6 0]) (.block 0 (.loop zN))) GN
def GK:J:= .B (.F [aL 0 10 0 3,aA 1 11 10,aL 3 13 1 3,aA 4 14 13,iv 2 12 (.app 1 8 (.const (aG)) (E 11)) [(E 13,.const (aG))],iC 5 15 1 8 12 14,A 6 5 15]) GL
def GJ:J:= .B (.B (.F [b2 0 7 7 2,b7 1 8 66 [E 7],r0 2 9 8]) (.aV (E 9) (.B (.F [cu 0 4 false]) (.aI)) (.skip))) GK
def GI:J:=
  .B (
  .F [
 dT 0 2 0,
 dT 1 3 1,
 cu 2 4 false]) GJ
def Cx:bU:=⟨39,[.bL 4],GI⟩
theorem ap4:b3 al 24=some Cx:=by kernel_rfl
def aqF:J:= .B (.F [A 0 37 9,A 1 38 8,A 2 39 10,bH 3 40 1 38 39,aA 4 41 40,q2 5 42 41,b7 6 43 73 [E 37,.const aP,E 42],A 7 9 43]) (.F [A 0 44 8,A 1 45 10,n4 2 46 44 45,A 3 8 46])
def aqL:J:= .B (.B (.F [A 0 24 8,bO 1 25 24,kO 2 26 25 0,A 3 27 26,iE 4 28 27 7 3,e0 5 29 27 1,e0 6 30 27 8,cw 7 31 27 true (.dm 72 [E 28,E 29,E 30]),rZ 8 32 27 31,di 9 33 27 32]) (.aV (E 33) (.skip) (.bh 0))) (.block 1 (.B (.F [A 0 34 8,bO 1 35 34,h6 2 36 35 1,A 3 10 36]) aqF))
def aqJ:J:= .B (.F [b2 0 54 7 3,A 1 55 1,A 2 56 8,A 3 57 12,iv 4 58 (.dm 74 [E 56,E 57]) [(E 3,E 3)],b7 5 59 72 [E 54,E 55,E 58]]) (.aV (E 59) (.F [A 0 60 8,A 1 61 12,dr 2 62 74 60 61,A 3 63 9,A 4 64 12,dr 5 65 75 63 64,A 6 8 62,A 7 9 65]) (.skip))
def aqI:J:= .B (.block 3 (.B (.F [bH 0 52 1 48 50,aA 1 53 52,A 2 12 53]) aqJ)) (.F [da 0 66 50,A 1 50 66])
def aqH:J:= .B (.aV (E 51) (.skip) (.bh 2)) aqI
def aqM:J:= .B (.F [dq 0 51 50 49]) aqH
def aqK:J:= .B (.F [A 0 67 8,A 1 68 9,a2 2 69 (.eY [aG,aG] [(0,1,E 67),(1,1,E 68)]),b4 3 2 6 69,ba 4 7 0]) (.aI)
def aqG:J:= .B (.B (.F [A 0 47 9,b7 1 48 71 [E 47],bO 2 49 48,ba 3 50 0]) (.block 2 (.loop aqM))) aqK
def aqE:J:= .B (.block 0 (.loop aqL)) aqG
def aqD:J:= .B (.F [aL 0 18 0 5,aA 1 19 18,aL 3 21 1 5,aA 4 22 21,iv 2 20 (.dm 71 [E 19]) [(E 21,E 21)],b7 5 23 71 [E 22],A 6 8 20,A 7 9 23]) aqE
def aqC:J:= .B (.B (.F [b2 0 13 7 3,b2 1 14 2 5,dr 2 15 23 13 14,ht 3 16 15]) (.aV (E 16) (.B (.F [a2 0 17 (.eY [aG,aG] []),b4 1 2 6 17,ba 2 7 1]) (.aI)) (.skip))) aqD
def aqA:J:=
  .B (
  .F [
 dT 0 3 0,
 dT 1 5 2,
 a2 2 6 (.dz [aG,aG]),
 ba 3 7 0]) aqC
def abp:bU:=⟨70,[.hZ 6 true 2,.bL 7],aqA⟩
theorem aqB:b3 al 25=some abp:=by kernel_rfl
def arA:J:= .B (.F [aL 0 5 0 2,aA 1 6 5,aL 2 7 0 3,aA 3 8 7,dr 4 9 20 6 8,A 5 10 9,ea 6 11 10 1 2,ep 7 12 10 11,ea 8 13 10 1 3,ep 9 14 10 13,cw 10 15 10 true (.dm 20 [E 12,E 14]),di 11 16 10 15,A 12 4 16]) (.aI)
def ary:J:=
  .B (
  .F [
 dT 0 2 0,
 dT 1 3 1,
 cu 2 4 false]) arA
def abP:bU:=⟨17,[.bL 4],ary⟩
theorem arz:b3 al 27=some abP:=by kernel_rfl
def arK:J:= .B (.F [b2 0 47 7 4,A 1 48 1,aL 2 49 0 6,aA 3 50 49,A 4 51 13,A 6 53 3,iv 5 52 (.dm 75 [E 50,E 51]) [(E 4,E 4)],iv 7 54 (.dm 74 [E 52,E 53]) [(E 4,E 4)],b7 8 55 72 [E 47,E 48,E 54]]) (.aV (E 55) (.B (.F [A 0 56 13,b2 1 57 3 10,a2 2 58 (.eY [aP,aG,aG,aG] [(0,1,E 56),(1,3,E 57)]),b4 3 4 8 58,ba 4 9 0]) (.aI)) (.skip))
def arJ:J:= .B (.block 1 (.B (.F [bH 0 45 1 41 43,aA 1 46 45,A 2 13 46]) arK)) (.F [da 0 59 43,A 1 43 59])
def arI:J:= .B (.aV (E 44) (.skip) (.bh 0)) arJ
def arM:J:= .B (.F [dq 0 44 43 42]) arI
def arL:J:= .B (.F [b2 0 60 3 10,a2 1 61 (.eY [aP,aG,aG,aG] [(0,1,.const (.int .i64 (-1))),(1,3,E 60)]),b4 2 4 8 61,ba 3 9 0]) (.aI)
def arH:J:= .B (.B (.F [aL 0 40 0 6,aA 1 41 40,bO 2 42 41,ba 3 43 0]) (.block 0 (.loop arM))) arL
def arG:J:= .B (.B (.F [A 0 37 11,ht 1 38 37]) (.aV (E 38) (.B (.F [a2 0 39 (.eY [aP,aG,aG,aG] []),b4 1 4 8 39,ba 2 9 110]) (.aI)) (.skip))) arH
def arF:J:= .B (.F [b2 0 26 7 4,b2 1 27 7 4,A 2 28 1,aL 3 29 0 6,aA 4 30 29,A 5 31 3,vY 6 32 74 30 31 4 4 4 4,iv 7 33 (.dm 21 [E 27,E 28,E 32]) [(E 4,E 4)],dr 8 34 79 26 33,A 9 25 34,cE 10 35 0 25,cE 11 36 1 25,a2 12 10 (.dz [aG,aG,aG]),b4 13 3 10 35,A 14 11 36]) arG
def arE:J:= .B (.B (.F [aL 0 19 1 6,aA 1 20 19,A 2 21 3,dr 3 22 78 20 21,ht 4 23 22]) (.aV (E 23) (.B (.F [a2 0 24 (.eY [aP,aG,aG,aG] []),b4 1 4 8 24,ba 2 9 110]) (.aI)) (.skip))) arF
def arD:J:= .B (.B (.F [b2 0 14 7 4,b2 1 15 2 6,dr 2 16 23 14 15,ht 3 17 16]) (.aV (E 17) (.B (.F [a2 0 18 (.eY [aP,aG,aG,aG] []),b4 1 4 8 18,ba 2 9 1]) (.aI)) (.skip))) arE
def arB:J:=
  .B (
  .F [
 dT 0 4 0,
 dT 1 6 2,
 a2 2 8 (.dz [aP,aG,aG,aG]),
 ba 3 9 0]) arD
def ab3:bU:=⟨62,[.hZ 8 true 4,.bL 9],arB⟩
theorem arC:b3 al 29=some ab3:=by kernel_rfl
def asa:J:= .B (.F [b2 0 41 7 4,A 1 42 1,b2 2 43 2 6,b7 3 44 25 [E 41,E 42,E 43],cE 4 45 0 44,cE 5 46 1 44,b4 6 2 8 45,A 7 9 46]) (.aI)
def ar9:J:= .B (.F [aL 0 36 1 6,aA 1 37 36,A 2 38 3,dr 3 39 74 37 38,aL 4 40 1 6,b4 5 1 40 39]) asa
def ar8:J:= .B (.B (.F [aL 0 25 0 6,aA 1 26 25,A 2 27 3,dr 3 28 78 26 27,A 4 29 28,ew 5 30 29 1 6,dZ 6 31 29 30,dG 7 32 29 3,cw 8 33 29 false (.dm 78 [E 31,E 32]),cZ 9 34 29 33]) (.aV (E 34) (.B (.F [a2 0 35 (.eY [aG,aG] []),b4 1 2 8 35,ba 2 9 8]) (.aI)) (.skip))) ar9
def ar7:J:= .B (.B (.F [b2 0 10 7 4,b2 1 11 2 6,dr 2 12 23 10 11,ht 3 13 12,A 4 14 13,dG 5 15 14 3,z8 6 16 14 15,cZ 7 17 14 16,A 8 18 17,mH 9 19 18 7 4,dG 10 20 18 3,cw 11 21 18 false (.dm 64 [E 19,E 20]),iF 12 22 18 21,cZ 13 23 18 22]) (.aV (E 23) (.B (.F [a2 0 24 (.eY [aG,aG] []),b4 1 2 8 24,ba 2 9 1]) (.aI)) (.skip))) ar8
def ar5:J:=
  .B (
  .F [
 dT 0 4 0,
 dT 1 6 2,
 a2 2 8 (.dz [aG,aG]),
 ba 3 9 0]) ar7
def ab5:bU:=⟨47,[.hZ 8 true 2,.bL 9],ar5⟩
theorem ar6:b3 al 36=some ab5:=by kernel_rfl
def R2:J:= .B (.F [A 0 5 1,oG 1 6 5 0,A 2 7 6,e0 3 8 7 1,ea 4 9 7 3 2,ep 5 10 7 9,lA 6 11 7 10,ea 7 12 7 4 2,ep 8 13 7 12,lA 9 14 7 13,cw 10 15 7 true (.fg .add .gl (E 11) (E 14)),cw 11 16 7 true (.fg .lss .gl (E 8) (E 15)),di 12 17 7 16,A 13 4 17]) (.aI)
def R1:J:=
  .B (
  .F [
 dT 0 2 0,
 cu 1 4 false]) R2
def G5:bU:=⟨18,[.bL 4],R1⟩
theorem acP:b3 al 64=some G5:=by kernel_rfl
def R5:J:= .B (.F [b2 0 16 7 2,A 1 17 1,dr 2 18 116 16 17,A 3 4 18]) (.aI)
def R4:J:= .B (.B (.F [A 0 5 1,aL 1 6 3 2,aA 2 7 6,bO 3 8 7,c9 4 9 .geq (E 5) (E 8)]) (.aV (E 9) (.B (.F [A 0 10 1,aL 1 11 3 2,aA 2 12 11,bO 3 13 12,c9 4 14 .sub (E 10) (E 13),q2 5 15 14,A 6 4 15]) (.aI)) (.skip))) R5
def R3:J:=
  .B (
  .F [
 dT 0 2 0,
 eN 1 4]) R4
def G6:bU:=⟨19,[.bL 4],R3⟩
theorem acQ:b3 al 65=some G6:=by kernel_rfl
def G9:J:= .B (.B (.F [A 0 30 7,A 1 31 2,c9 2 32 .gtr (E 30) (E 31)]) (.aV (E 32) (.skip) (.bh 0))) (.block 1 (.F [aL 0 33 3 3,aA 1 34 33,A 2 35 7,bH 3 36 7 34 35,aL 4 37 2 36,aA 5 38 37,A 6 7 38]))
def acT:J:= .B (.F [A 0 39 7,A 1 40 2,c9 2 41 .eql (E 39) (E 40),A 3 6 41]) (.aI)
def acS:J:= .B (.block 0 (.loop G9)) acT
def acR:J:= .B (.F [aL 0 24 4 3,aA 1 25 24,A 2 26 1,bH 3 27 3 25 26,aL 4 28 2 27,aA 5 29 28,A 6 7 29]) acS
def LP:J:= .B (.B (.F [A 0 15 2,c9 1 16 .leq (E 15) (.const aP),A 2 17 16,dG 3 18 17 2,ew 4 19 17 3 3,dZ 5 20 17 19,iM 6 21 17 20,z7 7 22 17 18 21,cZ 8 23 17 22]) (.aV (E 23) (.B (.F [cu 0 6 false]) (.aI)) (.skip))) acR
def G8:J:= .B (.B (.F [A 0 8 2,aL 1 9 3 3,aA 2 10 9,bO 3 11 10,A 4 12 1,gI 5 13 11 12,c9 6 14 .eql (E 8) (E 13)]) (.aV (E 14) (.B (.F [cu 0 6 true]) (.aI)) (.skip))) LP
def G7:J:=
  .B (
  .F [
 dT 0 3 0,
 cu 1 6 false]) G8
def CS:bU:=⟨42,[.bL 6],G7⟩
theorem asi:b3 al 67=some CS:=by kernel_rfl
def Sa:J:= .B (.F [A 0 5 1,kO 1 6 5 0,A 2 7 6,e0 3 8 7 1,ea 4 9 7 3 2,ep 5 10 7 9,lA 6 11 7 10,ea 7 12 7 4 2,ep 8 13 7 12,lA 9 14 7 13,cw 10 15 7 true (.fg .add .gl (E 11) (E 14)),cw 11 16 7 true (.fg .lss .gl (E 8) (E 15)),di 12 17 7 16,A 13 4 17]) (.aI)
def R9:J:=
  .B (
  .F [
 dT 0 2 0,
 cu 1 4 false]) Sa
def LW:bU:=⟨18,[.bL 4],R9⟩
theorem asj:b3 al 69=some LW:=by kernel_rfl
def Hb:J:= .B (.block 1 (.B (.F [A 0 12 0,A 1 13 5,bH 2 14 1 12 13,aA 3 15 14,A 4 16 1,c9 5 17 .eql (E 15) (E 16)]) (.aV (E 17) (.B (.F [cu 0 4 true]) (.aI)) (.skip)))) (.F [A 0 10 5,da 1 11 10,A 2 5 11])
def LX:J:= .B (.B (.F [A 0 6 5,A 1 7 0,bO 2 8 7,dq 3 9 6 8]) (.aV (E 9) (.skip) (.bh 0))) Hb
def Hc:J:= .B (.F [cu 0 4 false]) (.aI)
def acZ:J:= .B (.B (.F [ba 0 5 0]) (.block 0 (.loop LX))) Hc
def acY:J:=
  .B (
  .F [
 cu 0 4 false]) acZ
def Sb:bU:=⟨18,[.bL 4],acY⟩
theorem asl:b3 al 70=some Sb:=by kernel_rfl
def asr:J:= .B (.F [A 0 18 8,jC 1 19 18 0,A 2 6 19]) (.aI)
def asq:J:= .B (.F [b2 0 10 7 3,b2 1 11 7 3,A 2 12 1,A 3 13 2,iv 4 14 (.dm 21 [E 11,E 12,E 13]) [(E 3,E 3)],dr 5 15 118 10 14,A 6 9 15,cE 7 16 0 9,cE 8 17 1 9,A 9 7 16,A 10 8 17]) asr
def aso:J:=
  .B (
  .F [
 dT 0 3 0,
 cu 1 6 false]) asq
def ac0:bU:=⟨20,[.bL 6],aso⟩
theorem asp:b3 al 72=some ac0:=by kernel_rfl
def asu:J:= .B (.F [A 0 5 0,b7 1 6 71 [E 5],A 2 7 1,q2 3 8 7,iC 4 9 1 8 6 8,A 5 4 9]) (.aI)
def ass:J:=
  .B (
  .F [
 eN 0 4]) asu
def ac1:bU:=⟨10,[.bL 4],ass⟩
theorem ast:b3 al 74=some ac1:=by kernel_rfl
def asx:J:= .B (.F [A 0 5 0,b7 1 6 71 [E 5],a2 2 7 (.td (.func 122) [] [E 3]),dr 3 8 121 6 7,A 4 4 8]) (.aI)
def asv:J:=
  .B (
  .F [
 dT 0 3 1,
 eN 1 4]) asx
def ac2:bU:=⟨9,[.bL 4],asv⟩
theorem asw:b3 al 75=some ac2:=by kernel_rfl
def ala:J:= .B (.F [A 0 4 0,aA 1 5 1,c9 2 6 .eql (E 4) (E 5),A 3 3 6]) (.aI)
def ak8:J:=
  .B (
  .F [
 cu 0 3 false]) ala
def YB:bU:=⟨7,[.bL 3],ak8⟩
theorem ak9:b3 al 122=some YB:=by kernel_rfl
def CW:J:= .B (.F [A 0 19 3,lz 1 20 19 0]) (.aV (E 20) (.F [a2 0 21 (.wc 9 (.const (.string ⟨#[108,101,110,32,111,117,116,32,111,102,32,114,97,110,103,101]⟩))),pt 1 (.ti (.const (.pointer none)))]) (.skip))
def CV:J:= .B (.F [A 0 15 3,A 1 16 5,bO 2 17 16,gI 3 18 15 17,A 4 3 18]) CW
def CU:J:= .B (.block 1 (.B (.F [bH 0 13 1 9 11,aA 1 14 13,A 2 5 14]) CV)) (.F [da 0 22 11,A 1 11 22])
def CT:J:= .B (.aV (E 12) (.skip) (.bh 0)) CU
def LV:J:= .B (.F [dq 0 12 11 10]) CT
def LR:J:= .B (.block 3 (.B (.F [bH 0 29 1 25 27,aA 1 30 29,A 2 8 30]) (.F [A 0 31 6,A 1 32 8,iC 2 33 1 8 31 32,A 3 6 33]))) (.F [da 0 34 27,A 1 27 34])
def LU:J:= .B (.aV (E 28) (.skip) (.bh 2)) LR
def Ha:J:= .B (.F [dq 0 28 27 26]) LU
def LS:J:= .B (.F [A 0 35 6,A 1 2 35]) (.aI)
def CY:J:= .B (.B (.F [A 0 25 0,bO 1 26 25,ba 2 27 0]) (.block 2 (.loop Ha))) LS
def CX:J:= .B (.F [A 0 23 3,b7 1 24 117 [.const (aG),E 23],A 2 6 24]) CY
def acX:J:= .B (.B (.F [A 0 9 0,bO 1 10 9,ba 2 11 0]) (.block 0 (.loop LV))) CX
def acW:J:= .B (.F [ba 0 3 0]) acX
def acU:J:=
  .B (
  .F [
 eN 0 2]) acW
def LQ:bU:=⟨36,[.bL 2],acU⟩
theorem acV:b3 al 68=some LQ:=by kernel_rfl
def LZ:J:= .B (.F [a2 0 5 (.fR 1 0 [] []),A 1 6 0,iC 2 7 1 8 5 6,A 3 2 7]) (.aI)
def LY:J:= .B (.B (.F [A 0 3 0,a2 1 4 (.fg .eql .slice (E 3) (.const (aG)))]) (.aV (E 4) (.B (.F [eN 0 2]) (.aI)) (.skip))) LZ
def Hd:J:=
  .B (
  .F [
 eN 0 2]) LY
def asm:bU:=⟨8,[.bL 2],Hd⟩
theorem asn:b3 al 71=some asm:=by kernel_rfl
theorem VJ{args:List Value}{m:W}{cd:Value->W->Prop}(h:args.length<=8):gd al 71 args m cd=hG al Hd (jl args) m (ra [.bL 2] cd):=si asn h
def asA:J:= .B (.F [A 0 5 0,A 1 6 1,dr 2 7 123 5 6,oG 3 8 7 0,A 4 4 8]) (.aI)
def asy:J:=
  .B (
  .F [
 cu 0 4 false]) asA
def ac3:bU:=⟨9,[.bL 4],asy⟩
theorem asz:b3 al 78=some ac3:=by kernel_rfl
def Qx:J:= .B (.F [A 0 15 1,kO 1 16 15 0]) (.aV (E 16) (.F [A 0 17 0,A 1 18 0,a2 2 19 (.vl (E 18)),n4 3 20 17 19,A 4 21 1,a2 5 22 (.lZ 1 8 [aP] (E 20) (E 21)),A 6 23 0,bO 7 24 23,n4 8 25 22 24,A 9 0 25]) (.skip))
def Qy:J:= .B (.F [A 0 26 0,A 1 4 26]) (.aI)
def Qw:J:= .B (.B (.F [A 0 8 1,A 1 9 0,a2 2 10 (.vl (E 9)),A 3 11 0,bO 4 12 11,c9 5 13 .sub (E 10) (E 12),c9 6 14 .sub (E 8) (E 13),A 7 1 14]) Qx) Qy
def Qv:J:= .B (.B (.F [A 0 5 1,lz 1 6 5 0]) (.aV (E 6) (.F [a2 0 7 (.wc 9 (.const (.string ⟨#[99,97,110,110,111,116,32,98,101,32,110,101,103,97,116,105,118,101]⟩))),pt 1 (.ti (.const (.pointer none)))]) (.skip))) Qw
def Qt:J:=
  .B (
  .F [
 eN 0 4]) Qv
def Ca:bU:=⟨27,[.bL 4],Qt⟩
theorem Qu:b3 al 117=some Ca:=by kernel_rfl
-- iG aDS for 119
def ak4:J:= .B (.F [A 0 26 1,A 1 27 7,a2 2 28 (.iy (E 26) [E 27]),ht 3 29 28]) (.aV (E 29) (.B (.F [A 0 30 0,A 1 31 5,A 2 32 7,bH 3 33 1 30 31,b4 4 1 33 32]) (.F [A 0 34 5,da 1 35 34,A 2 5 35])) (.skip))
def ak3:J:= .B (.block 1 (.B (.F [A 0 22 0,A 1 23 6,bH 2 24 1 22 23,aA 3 25 24,A 4 7 25]) ak4)) (.F [A 0 20 6,da 1 21 20,A 2 6 21])
def ak7:J:= .B (.B (.F [A 0 16 6,A 1 17 0,bO 2 18 17,dq 3 19 16 18]) (.aV (E 19) (.skip) (.bh 0))) ak3
def ak6:J:= .B (.F [A 0 39 0,A 1 40 5,n4 2 41 39 40,A 3 4 41]) (.aI)
def ak5:J:= .B (.F [A 0 36 0,A 1 37 5,a2 2 38 (.mQ 1 (E 36) (some (E 37)) none),pt 3 (.hl [aP] (E 38))]) ak6
def ak2:J:= .B (.B (.F [A 0 14 5,da 1 15 14,A 2 6 15]) (.block 0 (.loop ak7))) ak5
def ak1:J:= .B (.B (.F [A 0 11 5,c9 1 12 .eql (E 11) (.const (.int .i64 (-1)))]) (.aV (E 12) (.B (.F [A 0 13 0,A 1 4 13]) (.aI)) (.skip))) ak2
def ak0:J:= .B (.F [A 0 8 0,A 1 9 1,dr 2 10 182 8 9,A 3 5 10]) ak1
def akY:J:=
  .B (
  .F [
 eN 0 4]) ak0
def YA:bU:=⟨42,[.bL 4],akY⟩
theorem akZ:b3 al 121=some YA:=by kernel_rfl
def alg:J:= .B (.F [A 0 11 1,A 1 12 0,A 2 13 5,bH 3 14 1 12 13,aA 4 15 14,c9 5 16 .eql (E 11) (E 15)]) (.aV (E 16) (.B (.F [A 0 17 5,A 1 4 17]) (.aI)) (.skip))
def alf:J:= .B (.block 1 (.B (.F [A 0 10 8,A 1 5 10]) alg)) (.F [da 0 18 8,A 1 8 18])
def ale:J:= .B (.aV (E 9) (.skip) (.bh 0)) alf
def ali:J:= .B (.F [dq 0 9 8 7]) ale
def alh:J:= .B (.F [ba 0 4 (-1)]) (.aI)
def ald:J:= .B (.B (.F [A 0 6 0,bO 1 7 6,ba 2 8 0]) (.block 0 (.loop ali))) alh
def alb:J:=
  .B (
  .F [
 ba 0 4 0]) ald
def YC:bU:=⟨19,[.bL 4],alb⟩
theorem alc:b3 al 123=some YC:=by kernel_rfl
def anr:J:= .B (.F [A 0 11 1,A 1 12 0,A 2 13 5,bH 3 14 1 12 13,aA 4 15 14,a2 5 16 (.iy (E 11) [E 15])]) (.aV (E 16) (.B (.F [A 0 17 5,A 1 4 17]) (.aI)) (.skip))
def anq:J:= .B (.block 1 (.B (.F [A 0 10 8,A 1 5 10]) anr)) (.F [da 0 18 8,A 1 8 18])
def anp:J:= .B (.aV (E 9) (.skip) (.bh 0)) anq
def ant:J:= .B (.F [dq 0 9 8 7]) anp
def ans:J:= .B (.F [ba 0 4 (-1)]) (.aI)
def ano:J:= .B (.B (.F [A 0 6 0,bO 1 7 6,ba 2 8 0]) (.block 0 (.loop ant))) ans
def anm:J:=
  .B (
  .F [
 ba 0 4 0]) ano
def ZF:bU:=⟨19,[.bL 4],anm⟩
theorem ann:b3 al 182=some ZF:=by kernel_rfl
def mL(u:bm)(n:Int):Bool:=decide (0<=n)&&decide (n<(u.a1.length:Int)+u.a5.length)
theorem av4{u:bm}(D:u.a1.length<=1000)(H:u.a5.length<=1000){n:Int}:bK al 64 [.agg (aU u).toArray,Z n] (.bool (mL u n)):=by
  refine et (dM (aB:=⟨[],[]⟩) acP (by kernel_rfl) (by simp[G5]) ?_);have bZ:IntKind.i64.wrap ((u.a1.length:Int)+u.a5.length)=(u.a1.length:Int)+u.a5.length:=fx (by omega) (by omega);by_cases c:0<=n
  · simp(disch:=first|omega|simp only[aW];omega) [G5,R1,R2,aU,c,bZ,mL,-O,-U,-N,-S,-List.map_map]
  · simp(disch:=first|omega|simp only[aW];omega) [G5,R1,R2,aU,c,mL,-O,-U,-N,-S,-List.map_map]
noncomputable def AL(u:bm)(D:u.a1.length<=1000)(H:u.a5.length<=1000):bE al:= .dR 64 Int (λ_=>True) (λn=>[.agg (aU u).toArray,Z n]) (λn=> .bool (mL u n)) λ_ _=>av4 D H
@[simp] theorem aJf{u:bm}{D:u.a1.length<=1000}{H:u.a5.length<=1000}:(AL u D H).f=64:=rfl
@[simp] theorem aJg{u:bm}{D:u.a1.length<=1000}{H:u.a5.length<=1000}{n:Int}:(AL u D H).fn [.agg #[Z u.ext,aw (u.cH.map gZ) 4,aw (u.bf.map gO) 4,aw (u.a1.map ef) 7,aw (u.a5.map gp) 3,aw (u.cI.map fi) 17,aw (u.cM.map hQ) 2],Z n]=some (.bool (mL u n)):=bE.eH (x:=n) trivial λy ag=>by simpa using ag
def k4(u:bm)(n:Int):List Int:=if(u.a1.length:Int)<=n then[n-u.a1.length]else xc u n.toNat
theorem ad7{u:bm}{n:Int}(h:mL u n=true):0<=n/\n<(u.a1.length:Int)+u.a5.length:=by simpa[mL]using h
theorem av1{u:bm}(h:fT u){n:Int}(au:mL u n=true):bK al 65 [.agg (aU u).toArray,Z n] (cn (k4 u n)):=by
  refine et (dM (aB:=⟨[Ts u h],[]⟩) acQ (by kernel_rfl) (by simp[G6]) ?_);have hS:=h.ok.js;have kt:=h.ok.mh;obtain⟨g7,gk⟩:=ad7 au;obtain⟨dn,mB⟩:=k1 g7;subst mB;by_cases c:u.a1.length<=dn
  · have ch:(u.a1.length:Int)<=dn:=(by omega);have bZ:IntKind.i64.wrap ((dn:Int)-u.a1.length)=(dn:Int)-u.a1.length:=fx (by omega) (by omega);have e:k4 u dn=[(dn:Int)-u.a1.length]:=(by unfold k4;rw[if_pos ch]);rw[e];simp(disch:=first|omega|simp only[aW];omega) [G6,R3,R4,R5,aU,ch,bZ,-O,-U,-N,-S,-List.map_map];exact sG (n:=8) (l:=1) (I:=1) (w:=true) (a8:=[[Z ((dn:Int)-u.a1.length)]]) (by simp(disch:=first|omega|simp only[aW];omega) [-O,-U,-N,-S,-List.map_map]) rfl (λr az=>by simp at az;subst az;exact⟨rfl,λv ad=>by simp at ad;subst ad;rfl⟩)
  · have ch: ¬(u.a1.length:Int)<=dn:=(by omega);have c6:dn<u.a1.length:=(by omega);have e:k4 u dn=xc u dn:=(by unfold k4;rw[if_neg ch];rfl);rw[e];simp(disch:=first|omega|simp only[aW];omega) [G6,R3,R4,R5,aU,ch,-O,-U,-N,-S,-List.map_map]
noncomputable def HZ(u:bm)(h:fT u):bE al:= .dR 65 Int (λn=>mL u n=true) (λn=>[.agg (aU u).toArray,Z n]) (λn=>cn (k4 u n)) λ_ au=>av1 h au
@[simp] theorem aIL{u:bm}{h:fT u}:(HZ u h).f=65:=rfl
@[simp] theorem aIM{u:bm}{h:fT u}{n:Int}(au:mL u n=true):(HZ u h).fn [.agg #[Z u.ext,aw (u.cH.map gZ) 4,aw (u.bf.map gO) 4,aw (u.a1.map ef) 7,aw (u.a5.map gp) 3,aw (u.cI.map fi) 17,aw (u.cM.map hQ) 2],Z n]=some (cn (k4 u n)):=bE.eH (x:=n) au λy ag=>by simpa using ag
theorem aww{u:bm}(h:k2 u){n:Nat}(au:n<u.a1.length){Q:du->aM->W->Prop}: ∀(k i:Nat) (z:aM) (t:W),i<u.a1.length->i<=n+k->t.X 0=some ⟨aU u,true⟩->z 3=cF 0->z 7=Z i->z 2=Z n->(∀ae aJ,ae 7=Z (l4 u n k i)->ae 2=Z n->Q (.bh 0) ae aJ)->fl al (.loop G9) z t Q:=by
  intro k;induction k with
  | zero=>intro i z t ak aa aO dJ eV eU bT;refine eu (aB:=⟨[],[]⟩) λcx bk=> ?_;have aF: ¬(n:Int)<i:=(by omega);have Px: ¬n<i:=(by omega);simp(disch:=first|omega|simp only[aW];omega) [G9,eV,eU,aF,-O,-U,-N,-S,-List.map_map];exact bT _ _ (by simp[eV,l4]) (by simp[eU])
  | succ k cc=>
    intro i z t ak aa aO dJ eV eU bT;refine eu (aB:=⟨[],[]⟩) λcx bk=> ?_;obtain⟨d,G⟩:=jz ak;have e8:=(eB.1 G).2;have aR:oO u i=d.parent.toNat:=(by simp only[oO,G]);have bY:(i:Int)<u.a1.length:=(by omega);have fW:=bn aO;by_cases Px:n<i
    · have aF:(n:Int)<i:=(by omega);obtain⟨a,b,c⟩:=h.pC ak (h.Ay ak (by omega));obtain⟨p,ai⟩:=k1 (h.kn i d c G).1;have kM:oO u i=p:=(by rw[aR,ai];rfl);rw[kM]at a b;simp(disch:=first|omega|simp only[aW];omega) [G9,dJ,eV,eU,aO,aU,ef,bY,e8,aF,ai,-O,-U,-N,-S,-List.map_map];refine bk _ _ (cc p _ _ (by omega) (by omega) (by simp(disch:=first|omega|simp only[aW];omega) [aO,aU,-O,-U,-N,-S,-List.map_map]) (by simp[dJ]) (by simp) (by simp[eU]) λae aJ M hB=>bT ae aJ ?_ hB);rw[M,l4,if_pos Px,kM]
    · have aF: ¬(n:Int)<i:=(by omega);simp(disch:=first|omega|simp only[aW];omega) [G9,eV,eU,aF,-O,-U,-N,-S,-List.map_map];exact bT _ _ (by rw[l4,if_neg Px];simp[eV]) (by simp[eU])
theorem awx{u:bm}(h:fT u){d:Nat}(ay:d<u.a5.length){n:Int}:bK al 67 [.agg (aU u).toArray,Z d,Z n] (.bool (kH u d n)):=by
  refine et (dM (aB:=⟨[],[]⟩) asi (by kernel_rfl) (by simp[CS]) ?_);have hS:=h.ok.js;have kt:=h.ok.mh;obtain⟨x,G⟩:=jz ay;have e8:=(eB.1 G).2;obtain⟨bw,bJ,cb,eI,fm⟩:=h.ok.yR d x G;obtain⟨m,av⟩:=k1 cb;have bY:(d:Int)<u.a5.length:=by omega
  have bZ:IntKind.i64.wrap ((u.a1.length:Int)+d)=(u.a1.length:Int)+d:=fx (by omega) (by omega);by_cases ch:n=(u.a1.length:Int)+d
  · have e:kH u d n=true:=(by simp[kH,G,ch]);rw[e];simp(disch:=first|omega|simp only[aW];omega) [CS,G7,G8,aU,bZ,eq_true ch,-O,-U,-N,-S,-List.map_map]
  by_cases c6:n<=0
  · have e:kH u d n=false:=by
      have: ¬0<n:=(by omega);simp[kH,G,ch,this]
    rw[e];simp(disch:=first|omega|simp only[aW];omega) [CS,G7,G8,LP,aU,bZ,ch,c6,-O,-U,-N,-S,-List.map_map]
  by_cases iq:(u.a1.length:Int)<=n
  · have e:kH u d n=false:=by
      have: ¬n<u.a1.length:=(by omega);simp[kH,G,ch,this]
    rw[e];simp(disch:=first|omega|simp only[aW];omega) [CS,G7,G8,LP,aU,bZ,ch,c6,iq,-O,-U,-N,-S,-List.map_map]
  obtain⟨dn,mB⟩:=k1 (show 0<=n by omega);subst mB;have iS:dn<u.a1.length:=by omega
  have l2: ¬u.a1.length<=dn:=by omega
  have p0:0<dn:=by omega
  have ahq:(dn:Int)<u.a1.length:=by omega
  have e:kH u d dn=decide (l4 u dn u.a1.length m=dn):=by simp[kH,G,ch,p0,ahq,av]
  have ahr: ¬dn=0:=by omega
  rw[e];simp(disch:=first|omega|simp only[aW];omega) [CS,G7,G8,LP,acR,acS,acT,aU,gp,bZ,ch,iq,ahr,bY,e8,av,-O,-U,-N,-S,-List.map_map];refine aww h.ok iS u.a1.length m _ _ (by omega) (by omega) (by simp(disch:=first|omega|simp only[aW];omega) [aU,-O,-U,-N,-S,-List.map_map]) (by simp) (by simp) (by simp) λae aJ M hB=> ?_;by_cases I:l4 u dn u.a1.length m=dn
  · have tE:(l4 u dn u.a1.length m:Int)=(dn:Int):=(by omega);simp(disch:=first|omega|simp only[aW];omega) [M,hB,I,-O,-U,-N,-S,-List.map_map]
  · have tE: ¬(l4 u dn u.a1.length m:Int)=(dn:Int):=(by omega);simp(disch:=first|omega|simp only[aW];omega) [M,hB,I,tE,-O,-U,-N,-S,-List.map_map]
noncomputable def H6(u:bm)(h:fT u):bE al:= .dR 67 (Nat×Int) (λx=>x.1<u.a5.length) (λx=>[.agg (aU u).toArray,Z x.1,Z x.2]) (λx=> .bool (kH u x.1 x.2)) λ_ ay=>awx h ay
@[simp] theorem aJr{u:bm}{h:fT u}:(H6 u h).f=67:=rfl
@[simp] theorem aJs{u:bm}{h:fT u}{d:Nat}{n:Int}(ay:d<u.a5.length):(H6 u h).fn [.agg #[Z u.ext,aw (u.cH.map gZ) 4,aw (u.bf.map gO) 4,aw (u.a1.map ef) 7,aw (u.a5.map gp) 3,aw (u.cI.map fi) 17,aw (u.cM.map hQ) 2],Z d,Z n]=some (.bool (kH u d n)):=bE.eH (x:=(d,n)) ay λ⟨og,kD⟩ ag=>by simp at ag⊢;omega
theorem adE{u:bm}(h:k2 u){n:Int}(au:mL u n=true){x:Int}:x∈k4 u n↔ ∃d:Nat,x=d/\d<u.a5.length/\(n=0\/kH u d n=true):=by
  obtain⟨g7,gk⟩:=ad7 au;obtain⟨dn,mB⟩:=k1 g7;subst mB;have cW:=h.mK;by_cases c:(u.a1.length:Int)<=dn
  · unfold k4;rw[if_pos c];simp only[oX];constructor
    · intro G;refine⟨dn-u.a1.length,by omega,by omega,.inr ?_⟩;have ay:dn-u.a1.length<u.a5.length:=(by omega);have e:(dn:Int)=(u.a1.length:Int)+((dn-u.a1.length:Nat):Int):=(by omega);simp only[kH,dD ay];rw[decide_eq_true e];rfl
    · rintro⟨d,rfl,ay,D|D⟩
      · omega
      · simp only[kH,dD ay]at D;simp only[rq,aY,eO]at D;omega
  · unfold k4;rw[if_neg c];have mB:dn<u.a1.length:=(by omega);simp only[xc,g4,List.mem_filter,qz,eO,pR];have adB: ∀d,d<u.a5.length->pA u d<u.a1.length/\ho u (pA u d)=4:= λd ay=>by
      obtain⟨x,G⟩:=jz ay;obtain⟨bw,bJ,cb,eI,fm⟩:=h.yR d x G;simp only[pA,G];exact⟨by omega,fm⟩
    have hb: ∀d,d<u.a5.length->(kH u d dn=true↔(0<dn/\l4 u dn u.a1.length (pA u d)=dn)):= λd ay=>by obtain⟨x,G⟩:=jz ay;simp only[kH,pA,G,rq,aY,eO,pR];omega
    have J7:=h.gq mB;constructor
    · rintro⟨d,⟨ay,ax⟩,rfl⟩;refine⟨d,rfl,ay,?_⟩;by_cases bD:dn=0
      · left;omega
      · right;obtain⟨bg,dH⟩:=adB d ay;exact(hb d ay).2 ⟨by omega,(Oe h mB bg (by omega) (by omega)).1 ax⟩
    · rintro⟨d,rfl,ay,D⟩;refine⟨d,⟨ay,?_⟩,rfl⟩;obtain⟨bg,dH⟩:=adB d ay;rcases D with D|D
      · have bD:dn=0:=(by omega);subst bD
        -- pM only domain dR hn 0
        have ayK: ∀{k i:Nat},i<u.a1.length->ho u i<=k->km u (ho u 0) k i=0:=by
          intro k;induction k with
          | zero=>
            intro i ak aa;unfold km;by_cases bD:i=0
            · exact bD
            · have:=h.Ay ak (by omega);omega
          | succ k cc=>
            intro i ak aa;unfold km;have cR:=h.n9.1;split
            · next aF=>obtain⟨a,b,c⟩:=h.pC ak (by omega);exact cc (by omega) (by omega)
            · by_cases bD:i=0
              · exact bD
              · have:=h.Ay ak (by omega);omega
        exact ayK bg (by omega)
      · exact(Oe h mB bg (by omega) (by omega)).2 ((hb d ay).1 D).2
theorem ahh{u:bm}(h:fT u){n:Int}:(k4 u n).length<=1000000:=by
  have kt:=h.ok.mh;unfold k4;split
  · simp
  · unfold xc;rw[jg];refine kZ (List.length_filter_le _ _) ?_;rw[List.length_range];omega
def lY(n d:Int):Prop:=(n=0/\d=1)\/(n=1/\d=1)\/(n=1/\d=2)\/(n=1/\d=1000)\/(n=30/\d=1)\/(n=1/\100<=d/\d<200)
def fp(n d:Int):bS:=⟨false,if n=0 then[]else[n],[d]⟩
theorem Wu{n d:Int}(h:lY n d):bK al 59 [Z n,Z d] (dw (fp n d)):=by
  rcases h with⟨rfl,rfl⟩|⟨rfl,rfl⟩|⟨rfl,rfl⟩|⟨rfl,rfl⟩|⟨rfl,rfl⟩|⟨rfl,D,H⟩
  · exact aiw
  · exact aix
  · exact aiy
  · exact aiz
  · exact aiA
  · exact aiB (by omega) H
noncomputable def wC:bE al:= .dR 59 (Int×Int) (λx=>lY x.1 x.2) (λx=>[Z x.1,Z x.2]) (λx=>dw (fp x.1 x.2)) λx h=>Wu h
@[simp] theorem aIU:wC.f=59:=rfl
@[simp] theorem aIV{n d:Int}(h:lY n d):wC.fn [Z n,Z d]=some (dw (fp n d)):=bE.eH (x:=(n,d)) h λ⟨og,kD⟩ ag=>by simpa using ag
def jZ(c n:Nat):ByteArray:=⟨#[c.toUInt8,(97+n/26%26).toUInt8,(97+n%26).toUInt8]⟩
theorem avi{c n:Nat}(ar:c<256)(au:n<1000000):bK al 109 [.int .u8 c,Z n] (.string (jZ c n)):=by
  refine et (dM (aB:=⟨[],[]⟩) akD (by kernel_rfl) (by simp[Qf]) ?_);have bw:IntKind.i64.wrap ((n:Int)/26)=((n/26:Nat):Int):=by rw[fx (by omega) (by omega)];omega
  have bJ:((n/26:Nat):Int).tmod 26=((n/26%26:Nat):Int):=by rw[Int.tmod_eq_emod_of_nonneg (by omega)];omega
  have cb:(n:Int).tmod 26=((n%26:Nat):Int):=by rw[Int.tmod_eq_emod_of_nonneg (by omega)];omega
  have w: ∀k:Nat,k<26->IntKind.u8.wrap (IntKind.i64.wrap (97+(k:Int)))=((97+k:Nat):Int):= λk aa=>by rw[fx (by omega) (by omega)];show(97+(k:Int))%256=_;omega
  have c3:=w (n/26%26) (by omega);have e3:=w (n%26) (by omega);simp(disch:=first|omega|simp only[aW];omega) [Qf,Yi,Yj,-O,-U,-N,-S,-List.map_map];rw[bw,bJ,cb,c3,e3];simp only[toBytes,jZ,ln,wV];rfl
noncomputable def lT:bE al:= .dR 109 (Nat×Nat) (λx=>x.1<256/\x.2<1000000) (λx=>[.int .u8 x.1,Z x.2]) (λx=> .string (jZ x.1 x.2)) λx h=>avi h.1 h.2
@[simp] theorem aJc:lT.f=109:=rfl
@[simp] theorem M7{c:Int}{C n:Nat}(ar:c=C)(h:C<256/\n<1000000):lT.fn [.int .u8 c,Z n]=some (.string (jZ C n)):=by subst ar;exact bE.eH (x:=(C,n)) h λ⟨og,kD⟩ ag=>by simp at ag⊢;omega
def n6(x n:Int):Int:=if n<1 then 0 else if x.tmod n<0 then x.tmod n+n else x.tmod n
theorem avj{x n:Int}(h:1<=n):0<=n6 x n/\n6 x n<n:=by have D:=Int.tmod_lt_of_pos x (show 0<n by omega);have H:=Int.lt_tmod_of_pos x (show 0<n by omega);unfold n6;rw[if_neg (by omega)];split<;>omega
theorem SC{x n:Int}(h:n<1):n6 x n=0:=by unfold n6;rw[if_pos h]
def ND(l:List Int)(i:Nat):Int:=match l[i]? with|some x=>x|none=>(i:Int)%3
def e9(l:List Int)(i:Nat)(n:Int):Int:=n6 (ND l i) n
theorem kz{l:List Int}{i:Nat}{n:Int}(h:1<=n):0<=e9 l i n/\e9 l i n<n:=avj h
theorem avy{o i:Nat}{l:List Int}{n:Int}{t:W}(ak:i<1000000)(aD:l.length<=140737488355328)(au:n<=1000000)(aC:t.X o=some ⟨[cn l,Z i],true⟩){cd:Value->W->Prop}
    (jB:cd (Z (e9 l i n)) (t.a0 o (some ⟨[cn l,Z (i+1:Nat)],true⟩))):fA al 49 [.pointer (some ⟨o,0,none⟩),Z n] t cd:=by
  refine dM (aB:=⟨[],[]⟩) asd (by kernel_rfl) (by simp[xJ]) ?_;have cp:=bn aC;have bZ:=g3 (n:=i) (by omega);have cB:(i:Int).tmod 3=(i:Int)%3:=by rw[Int.tmod_eq_emod_of_nonneg (by omega)]
  have Xy:(some (fq.mk [cn l,Z ((i:Int)+1)] true))=some ⟨[cn l,Z (i+1:Nat)],true⟩:=by simp
  have m0: ∀x:Int,ND l i=x-> ∀mr:Prop,(n<1->e9 l i n=0->mr)->(1<=n-> ¬n<1-> ¬n=0->x.tmod n<0->IntKind.i64.wrap (x.tmod n+n)=e9 l i n->mr)->(1<=n-> ¬n<1-> ¬n=0-> ¬x.tmod n<0->x.tmod n=e9 l i n->mr)->mr:= λx G mr db dx f3=>by
    by_cases c:n<1
    · exact db c (by unfold e9;exact SC c)
    · have D:=Int.tmod_lt_of_pos x (show 0<n by omega);have H:=Int.lt_tmod_of_pos x (show 0<n by omega);by_cases c6:x.tmod n<0
      · exact dx (by omega) c (by omega) c6 (by rw[fx (by omega) (by omega)];unfold e9 n6;rw[G,if_neg c,if_pos c6])
      · exact f3 (by omega) c (by omega) c6 (by unfold e9 n6;rw[G,if_neg c,if_neg c6])
  by_cases q:i<l.length
  · have a3:(i:Int)<l.length:=(by omega);obtain⟨x,G⟩:=jz q;have e8:=(eB.1 G).2;refine m0 x (by unfold ND;rw[G]) _ (λc e=> ?_) (λch c jT c6 e=> ?_) λch c jT c6 e=> ?_
    · rw[e]at jB;simp(disch:=first|omega|simp only[aW];omega) [xJ,zO,zP,zQ,zR,zS,zT,zU,zV,aC,bZ,cB,a3,e8,c,-O,-U,-N,-S,-List.map_map];simpa using jB
    · rw[<-e]at jB;simp(disch:=first|omega|simp only[aW];omega) [xJ,zO,zP,zQ,zR,zS,zT,zU,zV,aC,bZ,cB,a3,e8,c,jT,c6,-O,-U,-N,-S,-List.map_map];simpa using jB
    · rw[<-e]at jB;simp(disch:=first|omega|simp only[aW];omega) [xJ,zO,zP,zQ,zR,zS,zT,zU,zV,aC,bZ,cB,a3,e8,c,jT,c6,-O,-U,-N,-S,-List.map_map];simpa using jB
  · have a3: ¬(i:Int)<l.length:=(by omega);refine m0 ((i:Int)%3) (by unfold ND;rw[pP (by omega)]) _ (λc e=> ?_) (λch c jT c6 e=> ?_) λch c jT c6 e=> ?_
    · rw[e]at jB;simp(disch:=first|omega|simp only[aW];omega) [xJ,zO,zP,zQ,zR,zS,zT,zU,zV,aC,bZ,cB,a3,c,-O,-U,-N,-S,-List.map_map];simpa using jB
    · rw[<-e]at jB;simp(disch:=first|omega|simp only[aW];omega) [xJ,zO,zP,zQ,zR,zS,zT,zU,zV,aC,bZ,cB,a3,c,jT,c6,-O,-U,-N,-S,-List.map_map];simpa using jB
    · rw[<-e]at jB;simp(disch:=first|omega|simp only[aW];omega) [xJ,zO,zP,zQ,zR,zS,zT,zU,zV,aC,bZ,cB,a3,c,jT,c6,-O,-U,-N,-S,-List.map_map];simpa using jB
open Classical in
noncomputable def De(o:Nat)(n:Int)(t:W)(b:Option fq):Option (Value×W):=
  if h: ∃p:List Int×Nat,b=some ⟨[cn p.1,Z p.2],true⟩/\p.2<1000000/\p.1.length<=140737488355328/\n<=1000000 then some (Z (e9 h.choose.1 h.choose.2 n),t.a0 o (some ⟨[cn h.choose.1,Z (h.choose.2+1:Nat)],true⟩))else none
@[simp] theorem avx{o i:Nat}{n:Int}{t:W}{l:List Int}(h:i<1000000/\l.length<=140737488355328/\n<=1000000):De o n t (some ⟨[aw (l.map λx=>[Z x]) 1,.int .i64 i],true⟩)=some (Z (e9 l i n),t.a0 o (some ⟨[cn l,Z (i+1:Nat)],true⟩)):=by
  have gQ: ∃p:List Int×Nat,(some (fq.mk [cn l,Z i] true))=some ⟨[cn p.1,Z p.2],true⟩/\p.2<1000000/\p.1.length<=140737488355328/\n<=1000000:=⟨(l,i),rfl,h⟩;unfold De;rw[dif_pos gQ];have this:=gQ.choose_spec.1;generalize gQ.choose=p at this⊢;obtain⟨fX,g1⟩:=p;simp only[ll,fq.mk.injEq,so,and_true,XX,adh,Value.int.injEq,true_and]at this;obtain⟨rfl,H⟩:=this;have:i=g1:=by omega
  rw[this]
noncomputable def iY:iQ al:= .dR 49 (Nat×Int) (λx=>[.pointer (some ⟨x.1,0,none⟩),Z x.2]) (λx t=>De x.1 x.2 t (t.X x.1)) λ⟨o,n⟩ t r aJ h cd jB=>by
  simp only[De]at h;split at h
  · next G=>obtain⟨a,b,c,d⟩:=G.choose_spec;cases h;exact avy b c d a jB
  · cases h
@[simp] theorem aE1:iY.f=49:=rfl
@[simp] theorem aE2{o:Nat}{n:Int}{t:W}:iY.fn [.pointer (some ⟨o,0,none⟩),.int .i64 n] t=De o n t (t.X o):=iQ.eH (x:=(o,n)) λ⟨kD,tD⟩ ag=>by simp at ag⊢;omega
theorem azl{x n:Int}(au:n<=1000000):bK al 19 [Z x,Z n] (Z (n6 x n)):=by
  refine et (dM (aB:=⟨[],[]⟩) aou (by kernel_rfl) (by simp[Gs]) ?_);by_cases c:n<1
  · rw[SC c];simp(disch:=first|omega|simp only[aW];omega) [Gs,KQ,KR,KS,KT,KU,c,-O,-U,-N,-S,-List.map_map]
  · have D:=Int.tmod_lt_of_pos x (show 0<n by omega);have H:=Int.lt_tmod_of_pos x (show 0<n by omega);have jT: ¬n=0:=(by omega);have ch:1<=n:=(by omega);have w:IntKind.i64.wrap (x.tmod n+n)=x.tmod n+n:=fx (by omega) (by omega);by_cases c6:x.tmod n<0
    · have e:n6 x n=x.tmod n+n:=(by unfold n6;rw[if_neg c,if_pos c6]);rw[e];simp(disch:=first|omega|simp only[aW];omega) [Gs,KQ,KR,KS,KT,KU,c,jT,c6,w,-O,-U,-N,-S,-List.map_map]
    · have e:n6 x n=x.tmod n:=(by unfold n6;rw[if_neg c,if_neg c6]);rw[e];simp(disch:=first|omega|simp only[aW];omega) [Gs,KQ,KR,KS,KT,KU,c,jT,c6,-O,-U,-N,-S,-List.map_map]
noncomputable def Ia:bE al:= .dR 19 (Int×Int) (λx=>x.2<=1000000) (λx=>[Z x.1,Z x.2]) (λx=>Z (n6 x.1 x.2)) λ_ h=>azl h
@[simp] theorem aKn:Ia.f=19:=rfl
@[simp] theorem aKo{x n:Int}(h:n<=1000000):Ia.fn [Z x,Z n]=some (Z (n6 x n)):=bE.eH (x:=(x,n)) h λ⟨og,kD⟩ ag=>by simpa using ag
theorem ahY{l:List gm}:(l.map ef).flatten.length=l.length*7:=by rw[rG (I:=7) λr az=>by obtain⟨x,_,rfl⟩:=g4.1 az;rfl,jg]
def hu(n:Nat)(gq pC il:Int):gm:=⟨jZ 110 n,gq,pC,il,fp 0 1⟩
theorem afc:lY 0 1:=by unfold lY;omega
theorem ahU{rH h8:Nat}{ds:List gm}{jT ch c6 iS l2 p0:Value}{t:W}(h1:t.X rH=some ⟨[jT,ch,c6,ee h8 ds.length 7,iS,l2,p0],true⟩)(rJ:t.X h8=some ⟨(ds.map ef).flatten,true⟩)(cW:h8≠rH)(au:ds.length<1000){gq pC il:Int}{cd:Value->W->Prop}
    (jB: ∀aJ Hy,t.next<=Hy->t.next<=aJ.next->aJ.X rH=some ⟨[jT,ch,c6,ee Hy (ds++[hu ds.length gq pC il]).length 7,iS,l2,p0],true⟩->aJ.X Hy=some ⟨((ds++[hu ds.length gq pC il]).map ef).flatten,true⟩->(∀b,b<t.next->b≠rH->b≠h8->aJ.X b=t.X b)->cd (Z ds.length) aJ):
    fA al 108 [.pointer (some ⟨rH,0,none⟩),Z gq,Z pC,Z il] t cd:=by
  refine dM (aB:=⟨[lT,wC],[]⟩) akC (by kernel_rfl) (by simp[Qe]) ?_;have v8:=bn h1;have auE:=bn rJ;have jV:lT.fn [.int .u8 110,Z ds.length]=some (.string (jZ 110 ds.length)):=M7 (C:=110) rfl ⟨by decide,by omega⟩;have ayr:=afc;have fC:=ahY (l:=ds);have aEO:rH≠h8:=cW.symm;have fO:(ds.length+1)*96<=140737488355328/\ds.length<=9223372036854775806:=by omega
  simp(disch:=first|omega|simp only[aW];omega) [Qe,Ye,Yf,Yg,Yh,h1,rJ,jV,fC,fO,dS,-O,-U,-N,-S,-List.map_map];refine jB _ (t.next+13) (by omega) (by simp) ?_ ?_ ?_
  · rw[ej (by simp;omega)];simp
  · rw[bW (by omega),ej (by simp),jh (by omega)];simp[ef,hu]
  · intro b hb D H;rw[bW D,bW (by omega),bW H,bW (by omega),W.e6]
def j9(ds:List gm)(k:Nat)(v:Int):Prop:= ∃q,ds[k]?=some q/\q.hn=v
theorem j9.app{ds:List gm}{k:Nat}{v:Int}{x:gm}(h:j9 ds k v):j9 (ds++[x]) k v:=by obtain⟨q,D,H⟩:=h;exact⟨q,by rw[tH (eB.1 D).1];exact D,H⟩
theorem j9.c2{ds:List gm}{k:Nat}{v:Int}(h:j9 ds k v):k<ds.length:=by obtain⟨q,D,_⟩:=h;exact(eB.1 D).1
structure pU(ds:List gm):Prop where
  n9:ds[0]?=some ⟨⟨#[]⟩,0,-1,0,fp 0 1⟩
  kn: ∀(i:Nat) (d:gm),0<i->ds[i]?=some d->d.name=jZ 110 i/\0<=d.parent/\d.parent<i/\j9 ds d.parent.toNat (d.hn-1)/\1<=d.hn/\d.hn<=4/\1<=d.il/\d.il<=64/\d.nO=fp 0 1
theorem pU.Ay{ds:List gm}(h:pU ds):0<ds.length:=(eB.1 h.n9).1
theorem pU.add{ds:List gm}(h:pU ds){gq il:Int}{p:Nat}(ai:j9 ds p (gq-1))(D:1<=gq)(H:gq<=4)(aq:1<=il)(aE:il<=64):pU (ds++[hu ds.length gq p il]) where
  n9:=by rw[tH h.Ay];exact h.n9
  kn i d ak G:=by
    by_cases c:i<ds.length
    · rw[tH c]at G;obtain⟨bw,bJ,cb,eI,fm⟩:=h.kn i d ak G;exact⟨bw,bJ,cb,eI.app,fm⟩
    · have aD:=(eB.1 G).1;simp only[jI,pS,wT]at aD;have e:i=ds.length:=(by omega);subst e;rw[u0 (dW _)]at G;simp at G;subst G;have:=ai.c2;exact⟨rfl,by simp[hu],by simp[hu];omega,by simpa[hu]using ai.app,D,H,aq,aE,rfl⟩
theorem uD{ds:List gm}{gq il:Int}{p:Int}:j9 (ds++[hu ds.length gq p il]) ds.length gq:=⟨hu ds.length gq p il,by simp,rfl⟩
def o5(ds:List gm)(cl:List mu):Prop:= ∀(i:Nat) (x:mu),cl[i]?=some x->x.name=jZ 100 i/\0<=x.model/\x.model<2/\ ∃m:Nat,x.tb=m/\j9 ds m 4
theorem o5.app{ds:List gm}{cl:List mu}(h:o5 ds cl){d:gm}:o5 (ds++[d]) cl:= λi x G=>by obtain⟨a,b,c,m,e,f⟩:=h i x G;exact⟨a,b,c,m,e,f.app⟩
theorem o5.add{ds:List gm}{cl:List mu}(h:o5 ds cl){m:Nat}(av:j9 ds m 4){y:Int}(cR:0<=y)(D:y<2):o5 ds (cl++[⟨jZ 100 cl.length,y,m⟩]):= λi x G=>by
  by_cases c:i<cl.length
  · rw[tH c]at G;exact h i x G
  · have aD:=(eB.1 G).1;simp only[jI,pS,wT]at aD;have e:i=cl.length:=(by omega);subst e;rw[u0 (dW _)]at G;simp at G;subst G;exact⟨rfl,cR,D,m,rfl,av⟩
def x9:List Value:=[Z 0,.slice none 0 0,.slice none 0 0,.slice none 0 0,.slice none 0 0,.slice none 0 0,.slice none 0 0]
structure agt(l:List Int)(i:Nat)(K:Int)(fE fF hY gP:Value)(ds:List gm)(cl:List mu)(h8 or:Nat)(t:W):Prop where
  aO:t.X 0=some ⟨[cn l,Z i],true⟩
  aQ:t.X 1=some ⟨x9,true⟩
  fj:t.X 6=some ⟨[Z K,fE,fF,ee h8 ds.length 7,ee or cl.length 3,hY,gP],true⟩
  rJ:t.X h8=some ⟨(ds.map ef).flatten,true⟩
  iU:t.X or=some ⟨(cl.map gp).flatten,true⟩
  gk:h8≠0/\h8≠1/\h8≠6
  hp:or≠0/\or≠1/\or≠6
  tg:h8≠or
def kk(l:List Int)(i:Nat)(K:Int)(fE fF hY gP:Value)(ds:List gm)(cl:List mu)(t:W):Prop:= ∃h8 or,agt l i K fE fF hY gP ds cl h8 or t
theorem ah4{l:List mu}:(l.map gp).flatten.length=l.length*3:=by rw[rG (I:=3) λr az=>by obtain⟨x,_,rfl⟩:=g4.1 az;rfl,jg]
def Ic:List Nat:=[0,1,4,5,6,7,8,9,10,11]
theorem Nv{z ae:aM}(cR:ae 0=z 0)(D:ae 1=z 1)(aE:ae 4=z 4)(bq:ae 5=z 5)(cP:ae 6=z 6)(fB:ae 7=z 7)(hA:ae 8=z 8)(iz:ae 9=z 9)(xh:ae 10=z 10)(JS:ae 11=z 11): ∀k∈Ic,ae k=z k:= λk aa=>by simp only[Ic,gT,iP,or_false]at aa;rcases aa with rfl|rfl|rfl|rfl|rfl|rfl|rfl|rfl|rfl|rfl<;>assumption
theorem ah2{l:List Int}(aD:l.length<=140737488355328){K:Int}{fE fF hY gP:Value}{ds:List gm}{m:Nat}(av:j9 ds m 4): ∀(k i:Nat) (cl:List mu),o5 ds cl->cl.length<=9->i+k<1000000->
    ∃ ju dc,o5 ds ju/\ju.length<=9/\min (cl.length+min k 1) 9<=ju.length/\dc<=i+k/\ ∀(z:aM) (t:W) (Q:du->aM->W->Prop),z 0=cF 0->z 5=cF 6->z 11=Z m->z 12=Z k->kk l i K fE fF hY gP ds cl t->
      (∀ae aJ,(∀s∈Ic,ae s=z s)->kk l dc K fE fF hY gP ds ju aJ->Q (.bh 2) ae aJ)->fl al (.loop zW) z t Q:=by
  intro k;induction k with
  | zero=>intro i cl az iz ak;refine⟨cl,i,az,iz,by omega,by omega,λz t Q cX ct pJ uO jN bT=> ?_⟩;refine eu (aB:=⟨[lT],[iY]⟩) λcx bk=> ?_;simp(disch:=first|omega|simp only[aW];omega) [zW,GW,GX,uO,-O,-U,-N,-S,-List.map_map];exact bT _ _ (Nv (by simp) (by simp) (by simp) (by simp) (by simp) (by simp) (by simp) (by simp) (by simp) (by simp)) jN
  | succ k cc=>
    intro i cl az iz ak;have bZ:IntKind.i64.wrap (k:Int)=(k:Int):=fx (by omega) (by omega);have bY:(0:Int)<(k:Int)+1:=(by omega);by_cases aC9:cl.length<9
    case neg=>refine⟨cl,i,az,iz,by omega,by omega,λz t Q cX ct pJ uO jN bT=> ?_⟩;refine eu (aB:=⟨[lT],[iY]⟩) λcx bk=> ?_;obtain⟨h8,or,k8⟩:=jN;have fj:=k8.fj;have uA:=bn fj;have Je: ¬(cl.length:Int)<9:=(by omega);simp(disch:=first|omega|simp only[aW];omega) [zW,GW,GX,ct,uO,bY,Je,fj,-O,-U,-N,-S,-List.map_map];exact bT _ _ (Nv (by simp) (by simp) (by simp) (by simp) (by simp) (by simp) (by simp) (by simp) (by simp) (by simp)) ⟨h8,or,k8⟩
    obtain⟨y,ag⟩: ∃y:Int,y=if e9 l i 4=0 then 1 else 0:=⟨_,rfl⟩
    have Fy:0<=y/\y<2:=(by rw[ag];split<;>omega);obtain⟨ju,dc,bw,bJ,cb,eI,fm⟩:=cc (i+1) (cl++[⟨jZ 100 cl.length,y,m⟩]) (az.add av Fy.1 Fy.2) (by simp;omega) (by omega);refine⟨ju,dc,bw,bJ,by simp only[jI,pS,wT]at cb;omega,by omega,λz t Q cX ct pJ uO jN bT=> ?_⟩;obtain⟨h8,or,⟨aO,aQ,fj,rJ,iU,gk,hp,tg⟩⟩:=jN;refine eu (aB:=⟨[lT],[iY]⟩) λcx bk=> ?_;have Je:(cl.length:Int)<9:=(by omega);have fW:=bn aO;have jo:=bn aQ;have uA:=bn fj;have auE:=bn rJ;have ta:=bn iU;obtain⟨SG,adY,MG⟩:=hp;obtain⟨MF,SE,SF⟩:=gk;have aGY:0≠or:= λe=>SG e.symm;have aGZ:6≠or:= λe=>MG e.symm;have jW:i<1000000/\l.length<=140737488355328/\(4:Int)<=1000000:=⟨by omega,aD,by decide⟩;have jV:lT.fn [.int .u8 100,Z cl.length]=some (.string (jZ 100 cl.length)):=M7 (C:=100) rfl ⟨by decide,by omega⟩;have fC:=ah4 (l:=cl);have fO:(cl.length+1)*32<=140737488355328/\cl.length<=9223372036854775806:=by omega
    have m0: ∀(bI:aM) (bF:W),(∀s∈Ic,bI s=z s)->bI 12=Z k->bF.X 0=some ⟨[cn l,Z (i+1:Nat)],true⟩->bF.X 1=t.X 1->bF.X 6=some ⟨[Z K,fE,fF,ee h8 ds.length 7,ee (t.next+10) (cl.length+1) 3,hY,gP],true⟩->bF.X h8=t.X h8->
        bF.X (t.next+10)=some ⟨(cl.map gp).flatten++[fQ (jZ 100 cl.length),Z y,Z m],true⟩->fl al (.loop zW) bI bF Q:= λbI bF M E3 h5 aK kp rC ow=>by
      refine fm bI bF Q ((M 0 (by decide)).trans cX) ((M 5 (by decide)).trans ct) ((M 11 (by decide)).trans pJ) E3 ⟨h8,t.next+10,⟨h5,aK.trans aQ,?_,rC.trans rJ,?_,⟨MF,SE,SF⟩,⟨by omega,by omega,by omega⟩,by omega⟩⟩ λae aJ uj=>bT ae aJ λs fh=>(uj s fh).trans (M s fh)
      · rw[kp];simp
      · rw[ow];simp[gp]
    by_cases p4:e9 l i 4=0
    · rw[if_pos p4]at ag;subst ag;simp(disch:=first|omega|simp only[aW];omega) [zW,GW,GX,cX,ct,pJ,uO,bY,Je,aO,fj,iU,jV,fC,fO,p4,bZ,-O,-U,-N,-S,-List.map_map];refine bk _ _ (m0 _ _ (Nv (by simp) (by simp) (by simp) (by simp) (by simp) (by simp) (by simp) (by simp) (by simp) (by simp)) (by simp[]) ?_ ?_ ?_ ?_ ?_)
      · simp(disch:=first|omega|simp only[aW];omega) [-O,-U,-N,-S,-List.map_map]
      · simp(disch:=first|omega|simp only[aW];omega) [-O,-U,-N,-S,-List.map_map]
      · simp(disch:=first|omega|simp only[aW];omega) [-O,-U,-N,-S,-List.map_map]
      · simp(disch:=first|omega|simp only[aW];omega) [-O,-U,-N,-S,-List.map_map]
      · simp(disch:=first|omega|simp only[aW];omega) [-O,-U,-N,-S,-List.map_map];exact jh (by omega)
    · rw[if_neg p4]at ag;subst ag;simp(disch:=first|omega|simp only[aW];omega) [zW,GW,GX,cX,ct,pJ,uO,bY,Je,aO,fj,iU,jV,fC,fO,p4,bZ,-O,-U,-N,-S,-List.map_map];refine bk _ _ (m0 _ _ (Nv (by simp) (by simp) (by simp) (by simp) (by simp) (by simp) (by simp) (by simp) (by simp) (by simp)) (by simp[]) ?_ ?_ ?_ ?_ ?_)
      · simp(disch:=first|omega|simp only[aW];omega) [-O,-U,-N,-S,-List.map_map]
      · simp(disch:=first|omega|simp only[aW];omega) [-O,-U,-N,-S,-List.map_map]
      · simp(disch:=first|omega|simp only[aW];omega) [-O,-U,-N,-S,-List.map_map]
      · simp(disch:=first|omega|simp only[aW];omega) [-O,-U,-N,-S,-List.map_map]
      · simp(disch:=first|omega|simp only[aW];omega) [-O,-U,-N,-S,-List.map_map];exact jh (by omega)
theorem lb{o:Nat}{n I:Int}{t:W}{l:List Int}(h:0<=I/\I<1000000/\l.length<=140737488355328/\n<=1000000):De o n t (some ⟨[aw (l.map λx=>[Z x]) 1,.int .i64 I],true⟩)=some (Z (e9 l I.toNat n),t.a0 o (some ⟨[cn l,Z (I+1)],true⟩)):=by obtain⟨i,rfl⟩:=k1 h.1;rw[pR];exact avx (i:=i) ⟨by omega,h.2.2⟩
section
variable {l:List Int} {i:Nat} {K:Int} {fE fF hY gP:Value} {ds:List gm} {cl:List mu} {t:W}
theorem kk.at(h:kk l i K fE fF hY gP ds cl t){I:Int}{dc:Nat}(bD:I=dc):kk l dc K fE fF hY gP ds cl (t.a0 0 (some ⟨[cn l,Z I],true⟩)):=by subst bD;obtain⟨h8,or,⟨aO,aQ,fj,rJ,iU,gk,hp,tg⟩⟩:=h;exact⟨h8,or,ej (bn aO),by rw[bW (by decide)];exact aQ,by rw[bW (by decide)];exact fj,by rw[bW gk.1];exact rJ,by rw[bW hp.1];exact iU,gk,hp,tg⟩
theorem xb(h:kk l i K fE fF hY gP ds cl t)(au:ds.length<1000){gq pC il:Int}{cd:Value->W->Prop}(jB: ∀aJ,kk l i K fE fF hY gP (ds++[hu ds.length gq pC il]) cl aJ->cd (Z ds.length) aJ):fA al 108 [cF 6,Z gq,Z pC,Z il] t cd:=by
  obtain⟨h8,or,⟨aO,aQ,fj,rJ,iU,gk,hp,tg⟩⟩:=h;refine ahU fj rJ gk.2.2 au λaJ Hy aC G kp rC vq=>jB aJ ⟨Hy,or,?_,?_,kp,rC,?_,?_,hp,?_⟩
  · rw[vq 0 (bn aO) (by decide) (λe=>gk.1 e.symm)];exact aO
  · rw[vq 1 (bn aQ) (by decide) (λe=>gk.2.1 e.symm)];exact aQ
  · rw[vq or (bn iU) hp.2.2 (λe=>tg e.symm)];exact iU
  · have:=bn fj;exact⟨by omega,by omega,by omega⟩
  · have:=bn iU;omega
end
def Ii:List Nat:=[0,1,4,5,6,7,8,9,10]
theorem ayn: ∀k∈Ii,k∈Ic:=by decide
theorem aLs{z ae:aM}(cR:ae 0=z 0)(D:ae 1=z 1)(aE:ae 4=z 4)(bq:ae 5=z 5)(cP:ae 6=z 6)(fB:ae 7=z 7)(hA:ae 8=z 8)(iz:ae 9=z 9)(xh:ae 10=z 10): ∀k∈Ii,ae k=z k:= λk aa=>by simp only[Ii,gT,iP,or_false]at aa;rcases aa with rfl|rfl|rfl|rfl|rfl|rfl|rfl|rfl|rfl<;>assumption
theorem My{l:List Int}(aD:l.length<=140737488355328){K:Int}{fE fF hY gP:Value}{ds:List gm}{cl:List mu}{i q8:Nat}(ay:pU ds)(az:o5 ds cl)(iz:cl.length<=9)(ak:i+10<1000000)(aa:j9 ds q8 3)(au:ds.length<900):
    ∃ fH ju dc,pU fH/\o5 fH ju/\(ju.length<=9/\1<=ju.length)/\fH.length=ds.length+1/\dc<=i+4/\(∀a v,j9 ds a v->j9 fH a v)/\ ∀(z:aM) (t:W) (Q:du->aM->W->Prop),z 0=cF 0->z 5=cF 6->z 9=Z q8->kk l i K fE fF hY gP ds cl t->
      (∀ae aJ,(∀s∈Ii,ae s=z s)->kk l dc K fE fF hY gP fH ju aJ->Q .er ae aJ)->iR (P:=al) ⟨[lT],[iY]⟩ RP z t Q:=by
  have fL:=kz (l:=l) (i:=i) (n:=9) (by decide);have g8:=kz (l:=l) (i:=i+1) (n:=2) (by decide);obtain⟨bo,aS⟩: ∃bo,bo=8+e9 l i 9:=⟨_,rfl⟩;obtain⟨k,xp⟩:=k1 (show 0<=1+e9 l (i+1) 2 by omega);have ajg:=ay.add (gq:=4) (il:=bo) (p:=q8) aa (by decide) (by decide) (by omega) (by omega);obtain⟨ju,dc,bw,bJ,cb,eI,fm⟩:=ah2 (l:=l) aD (K:=K) (fE:=fE) (fF:=fF) (hY:=hY) (gP:=gP) (ds:=ds++[hu ds.length 4 q8 bo]) (m:=ds.length) uD k (i+2) cl az.app iz (by omega);refine⟨_,ju,dc,ajg,bw,⟨bJ,by omega⟩,by simp,by omega,λa v h=>h.app,λz t Q cX ct gD jN bT=> ?_⟩;obtain⟨h8,or,av⟩:=jN;have aO:=av.aO;have fW:=bn aO;have azf:IntKind.i64.wrap (8+e9 l i 9)=8+e9 l i 9:=fx (by omega) (by omega);simp(disch:=first|omega|simp only[aW];omega) [RP,ack,cX,ct,gD,aO,lb,azf,-O,-U,-N,-S,-List.map_map];rw[<-aS];refine xb (kk.at ⟨h8,or,av⟩ (dc:=i+1) (by omega)) (by omega) λbF D=> ?_;obtain⟨Hz,HG,k8⟩:=D;obtain⟨ku,n1⟩: ∃ku,ku=i+1:=⟨_,rfl⟩;have aQ:=k8.aO;rw[<-n1]at aQ k8 xp g8;have jo:=bn aQ;have c3:IntKind.i64.wrap (1+e9 l ku 2)=(k:Int):=by rw[xp];exact fx (by omega) (by omega)
  simp(disch:=first|omega|simp only[aW];omega) [cX,aQ,lb,c3,-O,-U,-N,-S,-List.map_map];refine fm _ _ _ (by simp[cX]) (by simp[ct]) (by simp) (by simp) (kk.at ⟨Hz,HG,k8⟩ (dc:=i+2) (by omega)) λae aJ M qW=> ?_;simp(disch:=first|omega|simp only[aW];omega) [-O,-U,-N,-S,-List.map_map];exact bT _ _ (λs fh=>(M s (ayn s fh)).trans (by simp only[Ii,gT,iP,or_false]at fh;rcases fh with rfl|rfl|rfl|rfl|rfl|rfl|rfl|rfl|rfl<;>simp)) qW
end Go.Proofs.YtmmkkggfmigppaaGreat
