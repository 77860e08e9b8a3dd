/-
  For every input the law returns true, and each argument reads behind the call as it read before. The last part of the proof; tools of ours have shortened it.
-/
import Derived.ProofKit
import Derived.ShutString
import Derived.Below
import Derived.Carry
import Derived.Test.YtkpifdkccdndcaaGreatZat
set_option linter.all false
set_option maxRecDepth 8000
set_option maxHeartbeats 16000000
namespace Go.Proofs.YtkpifdkccdndcaaGreat
open Go Go.DI Go.Big
theorem aGG(x:dY):(fH x).length=4/\ ∀v∈fH x,il v=true:=⟨rfl,λv S=>by simp[fH]at S;rcases S with rfl|rfl|rfl|rfl<;>rfl⟩
theorem aLd{z a5:a4}(h:a4.dP z)(b6:a4.dP a5):c4 Z 72 [aQ (z.bO.map fH) 4,aQ (a5.bO.map fH) 4,.func (.func 73) #[] #[]] (.bool (dJ hj z.bO a5.bO)):=
  xe (df:=true) (O:=4) (enc:=fH) (cj:= λx=>x.bD) aEH (by decide) (λh=>by cases h) aGG (λx y F ab=>axo ⟨F,ab⟩) (h.bO) (b6.bO) (by have:=h.r1;omega) (by have:=b6.r1;omega)
noncomputable def agl(z a5:a4):cf Z:= .ek 72 Unit (λ_=>a4.dP z/\a4.dP a5) (λ_=>[aQ (z.bO.map fH) 4,aQ (a5.bO.map fH) 4,.func (.func 73) #[] #[]]) (λ_=> .bool (dJ hj z.bO a5.bO)) λ_ h=>aLd h.1 h.2
@[simp] theorem aYn{z a5:a4}:(agl z a5).f=72:=rfl
@[simp] theorem aYo{z a5:a4}(h:a4.dP z/\a4.dP a5):(agl z a5).fn [aQ (z.bO.map fH) 4,aQ (a5.bO.map fH) 4,.func (.func 73) #[] #[]]=some (.bool (dJ hj z.bO a5.bO)):=cf.eP (x:=()) h λ_ _=>rfl
theorem axv(x:o1):(hD x).length=4/\ ∀v∈hD x,il v=true:=⟨rfl,λv S=>by simp[hD]at S;rcases S with rfl|rfl|rfl|rfl<;>rfl⟩
theorem aLe{z a5:a4}(h:a4.dP z)(b6:a4.dP a5):c4 Z 75 [aQ (z.aR.map hD) 4,aQ (a5.aR.map hD) 4,.func (.func 76) #[] #[]] (.bool (dJ cY z.aR a5.aR)):=
  xe (df:=true) (O:=4) (enc:=hD) (cj:= λ_=>True) aET (by decide) (λh=>by cases h) axv (λx y F ab=>axx) (λ_ _=>trivial) (λ_ _=>trivial) (by have:=h.de;omega) (by have:=b6.de;omega)
noncomputable def agm(z a5:a4):cf Z:= .ek 75 Unit (λ_=>a4.dP z/\a4.dP a5) (λ_=>[aQ (z.aR.map hD) 4,aQ (a5.aR.map hD) 4,.func (.func 76) #[] #[]]) (λ_=> .bool (dJ cY z.aR a5.aR)) λ_ h=>aLe h.1 h.2
@[simp] theorem aYp{z a5:a4}:(agm z a5).f=75:=rfl
@[simp] theorem aYq{z a5:a4}(h:a4.dP z/\a4.dP a5):(agm z a5).fn [aQ (z.aR.map hD) 4,aQ (a5.aR.map hD) 4,.func (.func 76) #[] #[]]=some (.bool (dJ cY z.aR a5.aR)):=cf.eP (x:=()) h λ_ _=>rfl
theorem axd(x:gp):(eL x).length=7/\ ∀v∈eL x,il v=true:=⟨rfl,λv S=>by simp[eL]at S;rcases S with rfl|rfl|rfl|rfl|rfl|rfl|rfl<;>rfl⟩
theorem aLb{z a5:a4}(h:a4.dP z)(b6:a4.dP a5):c4 Z 77 [aQ (z.br.map eL) 7,aQ (a5.br.map eL) 7,.func (.func 78) #[] #[]] (.bool (dJ lo z.br a5.br)):=
  xe (df:=true) (O:=7) (enc:=eL) (cj:= λx=>x.ju.bD) aE4 (by decide) (λh=>by cases h) axd (λx y F ab=>axf ⟨F,ab⟩) (h.br) (b6.br) (by have:=h.lk;omega) (by have:=b6.lk;omega)
noncomputable def agj(z a5:a4):cf Z:= .ek 77 Unit (λ_=>a4.dP z/\a4.dP a5) (λ_=>[aQ (z.br.map eL) 7,aQ (a5.br.map eL) 7,.func (.func 78) #[] #[]]) (λ_=> .bool (dJ lo z.br a5.br)) λ_ h=>aLb h.1 h.2
@[simp] theorem aYj{z a5:a4}:(agj z a5).f=77:=rfl
@[simp] theorem aYk{z a5:a4}(h:a4.dP z/\a4.dP a5):(agj z a5).fn [aQ (z.br.map eL) 7,aQ (a5.br.map eL) 7,.func (.func 78) #[] #[]]=some (.bool (dJ lo z.br a5.br)):=cf.eP (x:=()) h λ_ _=>rfl
theorem axh(x:pB):(hO x).length=3/\ ∀v∈hO x,il v=true:=⟨rfl,λv S=>by simp[hO]at S;rcases S with rfl|rfl|rfl<;>rfl⟩
theorem aLc{z a5:a4}(h:a4.dP z)(b6:a4.dP a5):c4 Z 80 [aQ (z.c5.map hO) 3,aQ (a5.c5.map hO) 3,.func (.func 81) #[] #[]] (.bool (dJ cY z.c5 a5.c5)):=
  xe (df:=true) (O:=3) (enc:=hO) (cj:= λ_=>True) aFh (by decide) (λh=>by cases h) axh (λx y F ab=>axj) (λ_ _=>trivial) (λ_ _=>trivial) (by have:=h.r2;omega) (by have:=b6.r2;omega)
noncomputable def agk(z a5:a4):cf Z:= .ek 80 Unit (λ_=>a4.dP z/\a4.dP a5) (λ_=>[aQ (z.c5.map hO) 3,aQ (a5.c5.map hO) 3,.func (.func 81) #[] #[]]) (λ_=> .bool (dJ cY z.c5 a5.c5)) λ_ h=>aLc h.1 h.2
@[simp] theorem aYl{z a5:a4}:(agk z a5).f=80:=rfl
@[simp] theorem aYm{z a5:a4}(h:a4.dP z/\a4.dP a5):(agk z a5).fn [aQ (z.c5.map hO) 3,aQ (a5.c5.map hO) 3,.func (.func 81) #[] #[]]=some (.bool (dJ cY z.c5 a5.c5)):=cf.eP (x:=()) h λ_ _=>rfl
theorem axB(x:hr):(eR x).length=17/\ ∀v∈eR x,il v=true:=⟨rfl,λv S=>by simp[eR]at S;rcases S with rfl|rfl|rfl|rfl|rfl|rfl|rfl|rfl|rfl|rfl|rfl|rfl|rfl|rfl|rfl|rfl|rfl<;>rfl⟩
theorem aLf{z a5:a4}(h:a4.dP z)(b6:a4.dP a5):c4 Z 82 [aQ (z.bT.map eR) 17,aQ (a5.bT.map eR) 17,.func (.func 83) #[] #[]] (.bool (dJ jq z.bT a5.bT)):=
  xe (df:=true) (O:=17) (enc:=eR) (cj:=hr.dP) aFs (by decide) (λh=>by cases h) axB (λx y F ab=>axD ⟨F,ab⟩) (h.bT) (b6.bT) (by have:=h.je;omega) (by have:=b6.je;omega)
noncomputable def agn(z a5:a4):cf Z:= .ek 82 Unit (λ_=>a4.dP z/\a4.dP a5) (λ_=>[aQ (z.bT.map eR) 17,aQ (a5.bT.map eR) 17,.func (.func 83) #[] #[]]) (λ_=> .bool (dJ jq z.bT a5.bT)) λ_ h=>aLf h.1 h.2
@[simp] theorem aYr{z a5:a4}:(agn z a5).f=82:=rfl
@[simp] theorem aYs{z a5:a4}(h:a4.dP z/\a4.dP a5):(agn z a5).fn [aQ (z.bT.map eR) 17,aQ (a5.bT.map eR) 17,.func (.func 83) #[] #[]]=some (.bool (dJ jq z.bT a5.bT)):=cf.eP (x:=()) h λ_ _=>rfl
theorem axK(x:uj):(iy x).length=2/\ ∀v∈iy x,il v=true:=⟨rfl,λv S=>by simp[iy]at S;rcases S with rfl|rfl<;>rfl⟩
theorem aLi{z a5:a4}(h:a4.dP z)(b6:a4.dP a5):c4 Z 84 [aQ (z.cP.map iy) 2,aQ (a5.cP.map iy) 2,.func (.func 85) #[] #[]] (.bool (dJ cY z.cP a5.cP)):=
  xe (df:=true) (O:=2) (enc:=iy) (cj:= λ_=>True) aFD (by decide) (λh=>by cases h) axK (λx y F ab=>axM) (λ_ _=>trivial) (λ_ _=>trivial) (by have:=h.zX;omega) (by have:=b6.zX;omega)
noncomputable def agp(z a5:a4):cf Z:= .ek 84 Unit (λ_=>a4.dP z/\a4.dP a5) (λ_=>[aQ (z.cP.map iy) 2,aQ (a5.cP.map iy) 2,.func (.func 85) #[] #[]]) (λ_=> .bool (dJ cY z.cP a5.cP)) λ_ h=>aLi h.1 h.2
@[simp] theorem aYv{z a5:a4}:(agp z a5).f=84:=rfl
@[simp] theorem aYw{z a5:a4}(h:a4.dP z/\a4.dP a5):(agp z a5).fn [aQ (z.cP.map iy) 2,aQ (a5.cP.map iy) 2,.func (.func 85) #[] #[]]=some (.bool (dJ cY z.cP a5.cP)):=cf.eP (x:=()) h λ_ _=>rfl
theorem aIr{z a5:a4}(h:a4.dP z/\a4.dP a5):c4 Z 20 [.agg (bl z).toArray,.agg (bl a5).toArray] (.bool (hZ z a5)):=by
  refine gR (ga (a0:=⟨[agl z a5,agm z a5,agj z a5,agk z a5,agn z a5,agp z a5],[]⟩) aDG (by kernel_rfl) (by simp[zy]) ?_);cases uu:cY z.ext a5.ext
  · skip
    have a2: ¬z.ext=a5.ext:=(by simpa using uu);have ar:hZ z a5=false:=(by simp only[hZ,uu,Ao]);simp(disch:=first|omega|simp only[DI.aF];omega) [zy,Bg,Bh,bl,a2,ar]
  have a2:z.ext=a5.ext:=by simpa using uu
  cases ma:dJ hj z.bO a5.bO
  · skip
    have ar:hZ z a5=false:=(by simp only[hZ,uu,ma,Et,Ao]);simp(disch:=first|omega|simp only[DI.aF];omega) [zy,Bg,Bh,bl,a2,ar,ma]
  cases gE:dJ cY z.aR a5.aR
  · skip
    have ar:hZ z a5=false:=(by simp only[hZ,uu,ma,gE,Et,Ao]);simp(disch:=first|omega|simp only[DI.aF];omega) [zy,Bg,Bh,bl,a2,ar,ma,gE]
  cases ew:dJ lo z.br a5.br
  · skip
    have ar:hZ z a5=false:=(by simp only[hZ,uu,ma,gE,ew,Et,Ao]);simp(disch:=first|omega|simp only[DI.aF];omega) [zy,Bg,Bh,bl,a2,ar,ma,gE,ew]
  cases dI:dJ cY z.c5 a5.c5
  · skip
    have ar:hZ z a5=false:=(by simp only[hZ,uu,ma,gE,ew,dI,Et,Ao]);simp(disch:=first|omega|simp only[DI.aF];omega) [zy,Bg,Bh,bl,a2,ar,ma,gE,ew,dI]
  cases cN:dJ jq z.bT a5.bT
  · skip
    have ar:hZ z a5=false:=(by simp only[hZ,uu,ma,gE,ew,dI,cN,Et,Ao]);simp(disch:=first|omega|simp only[DI.aF];omega) [zy,Bg,Bh,bl,a2,ar,ma,gE,ew,dI,cN]
  cases bY:dJ cY z.cP a5.cP
  · skip
    have ar:hZ z a5=false:=(by simp only[hZ,uu,ma,gE,ew,dI,cN,bY,Et]);simp(disch:=first|omega|simp only[DI.aF];omega) [zy,Bg,Bh,bl,a2,ar,ma,gE,ew,dI,cN,bY]
  have ar:hZ z a5=true:=by simp only[hZ,uu,ma,gE,ew,dI,cN,bY,Bool.and_self]
  simp(disch:=first|omega|simp only[DI.aF];omega) [zy,Bg,Bh,bl,a2,ar,ma,gE,ew,dI,cN,bY]
theorem E2{α:Type}{p:α->α->Bool}{a b:List α}{i:Nat}{x y:α}(F:a[i]?=some x)(ab:b[i]?=some y)(gf: ∀(j:Nat) x y,j<i->a[j]?=some x->b[j]?=some y->p x y=true)(Y:p x y=true): ∀(j:Nat) x y,j<i+1->a[j]?=some x->b[j]?=some y->p x y=true:= λj hY oX c6 aX bg=>by
  by_cases e:j=i
  · subst e;rw[F]at aX;rw[ab]at bg;cases aX;cases bg;exact Y
  · exact gf j hY oX (by omega) aX bg
theorem E1{α:Type}{p:α->α->Bool}{a b:List α}(aE:a.length=b.length)(gf: ∀(j:Nat) x y,j<a.length->a[j]?=some x->b[j]?=some y->p x y=true):dJ p a b=true:=CB aE λi x y B H=>gf i x y (dg.1 B).1 B H
theorem O1{a b:List aV}(h:jG a/\jG b):Ea.fn [aQ (a.map ec) 3,aQ (b.map ec) 3]=some (.bool (dJ fL a b)):=aKU ⟨⟨h.1.2,h.2.2⟩,h.1.1,h.2.1⟩
theorem aIX{x y:dY}(h:x.bD/\y.bD):c4 Z 59 [nZ x,nZ y] (.bool (hj x y)):=by
  refine gR (ga (a0:=⟨[Ea],[]⟩) aEq (by kernel_rfl) (by simp[Ga]) ?_);obtain⟨⟨bh,bt,c1,e0,hK,h3,jk⟩,⟨cM,dq,jw,kQ,ti,rD,vf⟩⟩:=h;obtain⟨n,s,bf,e⟩:=x;obtain⟨cz,iu,ot,eD⟩:=y;simp only at bh bt c1 e0 hK h3 jk cM dq jw kQ ti rD vf;have B:jG s/\jG iu:=⟨⟨bh,by omega⟩,cM,by omega⟩;have eh:=O1 B;have af:jG e/\jG eD:=⟨⟨c1,by omega⟩,jw,by omega⟩;have g1:=O1 af;by_cases ew:n=cz
  case neg=>have ar:hj (dY.mk n s bf e) (dY.mk cz iu ot eD)=false:=(by simp[hj,ew]);simp(disch:=first|omega|simp only[DI.aF];omega) [Ga,I1,I2,I3,Bj,fH,ar,ew,-ao,-aB,-ai,-au,-List.map_map]
  subst ew;cases dI:dJ fL s iu
  · skip
    have ar:hj (dY.mk n s bf e) (dY.mk n iu ot eD)=false:=(by simp[hj,dI]);simp(disch:=first|omega|simp only[DI.aF];omega) [Ga,I1,I2,I3,Bj,fH,eh,ar,dI,-ao,-aB,-ai,-au,-List.map_map]
  cases cN:dJ fL e eD
  · skip
    have ar:hj (dY.mk n s bf e) (dY.mk n iu ot eD)=false:=(by simp[hj,cN]);simp(disch:=first|omega|simp only[DI.aF];omega) [Ga,I1,I2,I3,Bj,fH,eh,g1,ar,dI,cN,-ao,-aB,-ai,-au,-List.map_map]
  by_cases aE:bf.length=ot.length
  case neg=>have ar:hj (dY.mk n s bf e) (dY.mk n iu ot eD)=false:=(by simp[hj,vo (p:=dJ fL) aE]);have kl: ¬(bf.length:Int)=ot.length:=(by omega);simp(disch:=first|omega|simp only[DI.aF];omega) [Ga,I1,I2,I3,Bj,fH,eh,g1,ar,dI,cN,kl,-ao,-aB,-ai,-au,-List.map_map]
  have kl:(bf.length:Int)=ot.length:=by omega
  have a2:hj (dY.mk n s bf e) (dY.mk n iu ot eD)=dJ (dJ fL) bf ot:=by simp[hj,dI,cN]
  simp(disch:=first|omega|simp only[DI.aF];omega) [Ga,I1,I2,I3,fH,eh,g1,dI,cN,kl,a2,-ao,-aB,-ai,-au,-List.map_map];refine hC (a0:=⟨[Ea],[]⟩) (λi u t=>(∀(j:Nat) x y,j<i->bf[j]?=some x->ot[j]?=some y->dJ fL x y=true)/\t.U 0=some ⟨fH ⟨n,s,bf,e⟩,true⟩/\t.U 1=some ⟨fH ⟨n,iu,ot,eD⟩,true⟩/\u 2=cb 0/\u 3=cb 1/\u 5=X i) bf.length ?_ ?_ 0 _ _ (hf _) ⟨λj x y h=>by omega,by simp(disch:=first|omega|simp only[DI.aF];omega) [fH,-ao,-aB,-ai,-au,-List.map_map],by simp(disch:=first|omega|simp only[DI.aF];omega) [fH,-ao,-aB,-ai,-au,-List.map_map],by simp,by simp,by simp⟩
  · rintro i u t ag ⟨gf,aJ,aj,bR,bA,cv⟩ cp aZ;obtain⟨x,F⟩:=kS ag;obtain⟨y,ab⟩: ∃y,ot[i]?=some y:=⟨_,c0 (by omega)⟩;have eA:=(dg.1 F).2;have gX:=(dg.1 ab).2;have bc:=e7 (n:=i) (by omega);have bn:(i:Int)<bf.length:=(by omega);have bC:(i:Int)<ot.length:=(by omega);have aN:=fT F;have rN:=fT ab;have bs:=O1 (a:=x) (b:=y) ⟨⟨bt x aN,by have:=jk x aN;omega⟩,dq y rN,by have:=vf y rN;omega⟩;have et:=aO aJ;have fP:=aO aj;cases Y:dJ fL x y
    · have ar:=uy F ab Y;simp(disch:=first|omega|simp only[DI.aF];omega) [TB,NB,Bj,fH,aJ,aj,bR,bA,cv,bn,bC,eA,gX,Y,ar,bs,-ao,-aB,-ai,-au,-List.map_map]
    · have mE:=E2 F ab gf Y;simp(disch:=first|omega|simp only[DI.aF];omega) [TB,NB,Bj,fH,aJ,aj,bR,bA,cv,bn,bC,bc,eA,gX,Y,bs,-ao,-aB,-ai,-au,-List.map_map];exact aZ _ _ ⟨mE,aJ,aj,by simp[bR],by simp[bA],by simp⟩
  · rintro u t ⟨gf,aJ,aj,bR,bA,cv⟩;have et:=aO aJ;have fP:=aO aj;have cg: ¬(((bf.length:Nat):Int)<bf.length):=(by omega);have ar:=E1 aE gf;simp(disch:=first|omega|simp only[DI.aF];omega) [TB,NB,Bj,Bj,NB,fH,aJ,bR,cv,cg,ar,-ao,-aB,-ai,-au,-List.map_map]
noncomputable def O0:cf Z:= .ek 59 (dY×dY) (λp=>p.1.bD/\p.2.bD) (λp=>[nZ p.1,nZ p.2]) (λp=> .bool (hj p.1 p.2)) λ_ h=>aIX h
@[simp] theorem aXC:O0.f=59:=rfl
@[simp] theorem aKR{x y:dY}(h:x.bD/\y.bD):O0.fn [.agg #[ei x.name,aQ (x.s.map ec) 3,aQ (x.bf.map λr=>[dQ r]) 1,aQ (x.e.map ec) 3],.agg #[ei y.name,aQ (y.s.map ec) 3,aQ (y.bf.map λr=>[dQ r]) 1,aQ (y.e.map ec) 3]]=some (.bool (hj x y)):=cf.eP (x:=(x,y)) h λ⟨⟨du,aw,eT,aX⟩,⟨dV,bR,fk,bg⟩⟩ ab=>by obtain⟨bo,eu,bC,ck⟩:=x;obtain⟨cc,ks,cq,cE⟩:=y;simp[fH]at ab;obtain⟨⟨rfl,rfl,rfl,rfl⟩,rfl,rfl,rfl,rfl⟩:=ab;rfl
theorem axy{x y:o1}:cY x y=(cY x.name y.name&&(cY x.ext y.ext&&(cY x.BS y.BS&&(cY x.qw y.qw)))):=by obtain⟨fm,bh,bt,c1⟩:=x;obtain⟨dB,cM,dq,jw⟩:=y;simp only[cY,o1.mk.injEq,Hg]
theorem axg{x y:pB}:cY x y=(cY x.name y.name&&(cY x.model y.model&&(cY x.q9 y.q9))):=by obtain⟨fm,bh,bt⟩:=x;obtain⟨dB,cM,dq⟩:=y;simp only[cY,pB.mk.injEq,Hg]
theorem axN{x y:uj}:cY x y=(cY x.name y.name&&(cY x.w9 y.w9)):=by obtain⟨fm,bh⟩:=x;obtain⟨dB,cM⟩:=y;simp only[cY,uj.mk.injEq,Hg]
theorem aJs{z a5:a4}(h:a4.dP z/\a4.dP a5):c4 Z 13 [.agg (bl z).toArray,.agg (bl a5).toArray] (.bool (hZ z a5)):=by
  refine gR (ga (a0:=⟨[],[]⟩) aB9 (by kernel_rfl) (by simp[zq]) ?_);obtain⟨h,b6⟩:=h;by_cases a2:z.ext=a5.ext
  case neg=>have ar:hZ z a5=false:=(by simp[hZ,a2]);simp(disch:=first|omega|simp only[DI.aF];omega) [zq,Bb,Bc,Bd,bl,a2,ar,-ao,-aB,-ai,-au,-List.map_map]
  by_cases DR:z.bO.length=a5.bO.length
  case neg=>have ar:hZ z a5=false:=(by simp[hZ,vo (p:=hj) DR]);have av: ¬(z.bO.length:Int)=a5.bO.length:=(by omega);simp(disch:=first|omega|simp only[DI.aF];omega) [zq,Bb,Bc,Bd,bl,a2,av,ar,-ao,-aB,-ai,-au,-List.map_map]
  have aUb:(z.bO.length:Int)=a5.bO.length:=by omega
  by_cases GF:z.aR.length=a5.aR.length
  case neg=>have ar:hZ z a5=false:=(by simp[hZ,vo (p:=cY) GF]);have av: ¬(z.aR.length:Int)=a5.aR.length:=(by omega);simp(disch:=first|omega|simp only[DI.aF];omega) [zq,Bb,Bc,Bd,bl,a2,DR,av,ar,-ao,-aB,-ai,-au,-List.map_map]
  have aUc:(z.aR.length:Int)=a5.aR.length:=by omega
  by_cases JF:z.br.length=a5.br.length
  case neg=>have ar:hZ z a5=false:=(by simp[hZ,vo (p:=lo) JF]);have av: ¬(z.br.length:Int)=a5.br.length:=(by omega);simp(disch:=first|omega|simp only[DI.aF];omega) [zq,Bb,Bc,Bd,bl,a2,DR,GF,av,ar,-ao,-aB,-ai,-au,-List.map_map]
  have aT9:(z.br.length:Int)=a5.br.length:=by omega
  by_cases On:z.c5.length=a5.c5.length
  case neg=>have ar:hZ z a5=false:=(by simp[hZ,vo (p:=cY) On]);have av: ¬(z.c5.length:Int)=a5.c5.length:=(by omega);simp(disch:=first|omega|simp only[DI.aF];omega) [zq,Bb,Bc,Bd,bl,a2,DR,GF,JF,av,ar,-ao,-aB,-ai,-au,-List.map_map]
  have aUa:(z.c5.length:Int)=a5.c5.length:=by omega
  by_cases UY:z.bT.length=a5.bT.length
  case neg=>have ar:hZ z a5=false:=(by simp[hZ,vo (p:=jq) UY]);have av: ¬(z.bT.length:Int)=a5.bT.length:=(by omega);simp(disch:=first|omega|simp only[DI.aF];omega) [zq,Bb,Bc,Bd,bl,a2,DR,GF,JF,On,av,ar,-ao,-aB,-ai,-au,-List.map_map]
  have aUd:(z.bT.length:Int)=a5.bT.length:=by omega
  by_cases aen:z.cP.length=a5.cP.length
  case neg=>have ar:hZ z a5=false:=(by simp[hZ,vo (p:=cY) aen]);have av: ¬(z.cP.length:Int)=a5.cP.length:=(by omega);simp(disch:=first|omega|simp only[DI.aF];omega) [zq,Bb,Bc,Bd,bl,a2,DR,GF,JF,On,UY,av,ar,-ao,-aB,-ai,-au,-List.map_map]
  have aUe:(z.cP.length:Int)=a5.cP.length:=by omega
  simp(disch:=first|omega|simp only[DI.aF];omega) [zq,Bb,Bc,Bd,bl,a2,DR,GF,JF,On,UY,aen,-ao,-aB,-ai,-au,-List.map_map];refine hC (a0:=⟨[O0],[]⟩) (λi u t=>(∀(j:Nat) x y,j<i->z.bO[j]?=some x->a5.bO[j]?=some y->hj x y=true)/\t.U 0=some ⟨bl z,true⟩/\t.U 1=some ⟨bl a5,true⟩/\u 2=cb 0/\u 3=cb 1/\u 5=X i) z.bO.length ?_ ?_ 0 _ _ (hf _) ⟨λj x y h=>by omega,by simp(disch:=first|omega|simp only[DI.aF];omega) [bl,a2,-ao,-aB,-ai,-au,-List.map_map],by simp(disch:=first|omega|simp only[DI.aF];omega) [bl,-ao,-aB,-ai,-au,-List.map_map],by simp,by simp,by simp⟩
  · rintro i u t ag ⟨gf,aJ,aj,bR,bA,cv⟩ cp aZ;obtain⟨x,F⟩:=kS ag;obtain⟨y,ab⟩: ∃y,a5.bO[i]?=some y:=⟨_,c0 (by omega)⟩;have eA:=(dg.1 F).2;have gX:=(dg.1 ab).2;have bc:=e7 (n:=i) (by have:=h.r1;omega);have bn:(i:Int)<z.bO.length:=(by omega);have bC:(i:Int)<a5.bO.length:=(by omega);have et:=aO aJ;have fP:=aO aj;have aN:=fT F;have rN:=fT ab;have lQ:hj x y=false->hZ z a5=false:= λY=>by simp[hZ,uy (p:=hj) F ab Y]
    have yq:= λY=>E2 (p:=hj) F ab gf Y;have a3:=h.bO x aN;have aIU:=b6.bO y rN;have OH:x.bD/\y.bD:=⟨a3,aIU⟩;cases Y:hj x y
    · have ar:=lQ Y;simp(disch:=first|omega|simp only[DI.aF];omega) [R5,aao,MU,FY,vD,tG,np,mB,bl,fH,aJ,aj,bR,bA,cv,bn,bC,eA,gX,Y,ar,-ao,-aB,-ai,-au,-List.map_map]
    · have mE:=yq Y;simp(disch:=first|omega|simp only[DI.aF];omega) [R5,aao,MU,FY,vD,tG,np,mB,bl,fH,aJ,aj,bR,bA,cv,bn,bC,bc,eA,gX,Y,-ao,-aB,-ai,-au,-List.map_map];exact aZ _ _ ⟨mE,by simp(disch:=first|omega|simp only[DI.aF];omega) [aJ,bl,-ao,-aB,-ai,-au,-List.map_map],by simp(disch:=first|omega|simp only[DI.aF];omega) [aj,bl,-ao,-aB,-ai,-au,-List.map_map],by simp[bR],by simp[bA],by simp⟩
  rintro u t ⟨gf,aJ,aj,bR,bA,cv⟩;have et:=aO aJ;have fP:=aO aj;have aL7:=E1 DR gf;clear gf;simp(disch:=first|omega|simp only[DI.aF];omega) [MU,R5,MU,bl,aJ,bR,cv,-ao,-aB,-ai,-au,-List.map_map];refine hC (a0:=⟨[],[]⟩) (λi u t=>(∀(j:Nat) x y,j<i->z.aR[j]?=some x->a5.aR[j]?=some y->cY x y=true)/\t.U 0=some ⟨bl z,true⟩/\t.U 1=some ⟨bl a5,true⟩/\u 2=cb 0/\u 3=cb 1/\u 6=X i) z.aR.length ?_ ?_ 0 _ _ (hf _) ⟨λj x y h=>by omega,aJ,aj,by simp[bR],by simp[bA],by simp⟩
  · rintro i u t ag ⟨gf,aJ,aj,bR,bA,dn⟩ cp aZ;obtain⟨x,F⟩:=kS ag;obtain⟨y,ab⟩: ∃y,a5.aR[i]?=some y:=⟨_,c0 (by omega)⟩;have eA:=(dg.1 F).2;have gX:=(dg.1 ab).2;have bc:=e7 (n:=i) (by have:=h.de;omega);have bn:(i:Int)<z.aR.length:=(by omega);have bC:(i:Int)<a5.aR.length:=(by omega);have et:=aO aJ;have fP:=aO aj;have aN:=fT F;have rN:=fT ab;have lQ:cY x y=false->hZ z a5=false:= λY=>by simp[hZ,uy (p:=cY) F ab Y]
    have yq:= λY=>E2 (p:=cY) F ab gf Y;cases Y:cY x y
    · have ar:=lQ Y;have ay:=Y;rw[axy]at ay;simp(disch:=first|omega|simp only[DI.aF];omega) [R6,aap,FY,vD,tG,np,mB,bl,hD,aJ,aj,bR,bA,dn,bn,bC,eA,gX,ay,ar,iM,kj,g9,-ao,-aB,-ai,-au,-List.map_map]
    · have mE:=yq Y;have ay:=Y;simp only[cY,fU]at ay;subst ay;simp(disch:=first|omega|simp only[DI.aF];omega) [R6,aap,FY,vD,tG,np,mB,bl,hD,aJ,aj,bR,bA,dn,bn,bC,bc,eA,gX,iM,kj,g9,-ao,-aB,-ai,-au,-List.map_map];exact aZ _ _ ⟨mE,by simp(disch:=first|omega|simp only[DI.aF];omega) [aJ,bl,-ao,-aB,-ai,-au,-List.map_map],by simp(disch:=first|omega|simp only[DI.aF];omega) [aj,bl,-ao,-aB,-ai,-au,-List.map_map],by simp[bR],by simp[bA],by simp⟩
  rintro u t ⟨gf,aJ,aj,bR,bA,dn⟩;have et:=aO aJ;have fP:=aO aj;have aL8:=E1 GF gf;clear gf;simp(disch:=first|omega|simp only[DI.aF];omega) [FY,R6,FY,bl,aJ,bR,dn,-ao,-aB,-ai,-au,-List.map_map];refine hC (a0:=⟨[B4],[]⟩) (λi u t=>(∀(j:Nat) x y,j<i->z.br[j]?=some x->a5.br[j]?=some y->lo x y=true)/\t.U 0=some ⟨bl z,true⟩/\t.U 1=some ⟨bl a5,true⟩/\u 2=cb 0/\u 3=cb 1/\u 7=X i) z.br.length ?_ ?_ 0 _ _ (hf _) ⟨λj x y h=>by omega,aJ,aj,by simp[bR],by simp[bA],by simp⟩
  · rintro i u t ag ⟨gf,aJ,aj,bR,bA,c7⟩ cp aZ;obtain⟨x,F⟩:=kS ag;obtain⟨y,ab⟩: ∃y,a5.br[i]?=some y:=⟨_,c0 (by omega)⟩;have eA:=(dg.1 F).2;have gX:=(dg.1 ab).2;have bc:=e7 (n:=i) (by have:=h.lk;omega);have bn:(i:Int)<z.br.length:=(by omega);have bC:(i:Int)<a5.br.length:=(by omega);have et:=aO aJ;have fP:=aO aj;have aN:=fT F;have rN:=fT ab;have lQ:lo x y=false->hZ z a5=false:= λY=>by simp[hZ,uy (p:=lo) F ab Y]
    have yq:= λY=>E2 (p:=lo) F ab gf Y;have a3:x.ju.bD/\y.ju.bD:=⟨h.br x aN,b6.br y rN⟩;obtain⟨bh,bt,c1,e0,⟨l9,nc,lP⟩⟩:=x;obtain⟨cM,dq,jw,kQ,⟨nh,nd,nf⟩⟩:=y;simp only at a3;by_cases eI:bh=cM
    case neg=>have ar:=lQ (by simp[lo,eI]);simp(disch:=first|omega|simp only[DI.aF];omega) [De,FZ,F0,vD,tG,np,mB,bl,eL,aJ,aj,bR,bA,c7,bn,bC,eA,gX,ar,eI,-ao,-aB,-ai,-au,-List.map_map]
    subst eI;by_cases eI:bt=dq
    case neg=>have ar:=lQ (by simp[lo,eI]);simp(disch:=first|omega|simp only[DI.aF];omega) [De,FZ,F0,vD,tG,np,mB,bl,eL,aJ,aj,bR,bA,c7,bn,bC,eA,gX,ar,eI,-ao,-aB,-ai,-au,-List.map_map]
    subst eI;by_cases eI:c1=jw
    case neg=>have ar:=lQ (by simp[lo,eI]);simp(disch:=first|omega|simp only[DI.aF];omega) [De,FZ,F0,vD,tG,np,mB,bl,eL,aJ,aj,bR,bA,c7,bn,bC,eA,gX,ar,eI,-ao,-aB,-ai,-au,-List.map_map]
    subst eI;by_cases eI:e0=kQ
    case neg=>have ar:=lQ (by simp[lo,eI]);simp(disch:=first|omega|simp only[DI.aF];omega) [De,FZ,F0,vD,tG,np,mB,bl,eL,aJ,aj,bR,bA,c7,bn,bC,eA,gX,ar,eI,-ao,-aB,-ai,-au,-List.map_map]
    subst eI;cases hN:fL ⟨l9,nc,lP⟩ ⟨nh,nd,nf⟩
    · skip
      have ar:=lQ (by simp[lo,hN]);simp(disch:=first|omega|simp only[DI.aF];omega) [De,FZ,F0,vD,tG,np,mB,bl,eL,aJ,aj,bR,bA,c7,bn,bC,eA,gX,ar,hN,-ao,-aB,-ai,-au,-List.map_map]
    have mE:=yq (by simp[lo,hN]);simp(disch:=first|omega|simp only[DI.aF];omega) [De,FZ,F0,vD,tG,np,mB,bl,eL,aJ,aj,bR,bA,c7,bn,bC,bc,eA,gX,hN,-ao,-aB,-ai,-au,-List.map_map];exact aZ _ _ ⟨mE,by simp(disch:=first|omega|simp only[DI.aF];omega) [aJ,bl,-ao,-aB,-ai,-au,-List.map_map],by simp(disch:=first|omega|simp only[DI.aF];omega) [aj,bl,-ao,-aB,-ai,-au,-List.map_map],by simp[bR],by simp[bA],by simp⟩
  rintro u t ⟨gf,aJ,aj,bR,bA,c7⟩;have et:=aO aJ;have fP:=aO aj;have aL5:=E1 JF gf;clear gf;simp(disch:=first|omega|simp only[DI.aF];omega) [vD,De,vD,bl,aJ,bR,c7,-ao,-aB,-ai,-au,-List.map_map];refine hC (a0:=⟨[],[]⟩) (λi u t=>(∀(j:Nat) x y,j<i->z.c5[j]?=some x->a5.c5[j]?=some y->cY x y=true)/\t.U 0=some ⟨bl z,true⟩/\t.U 1=some ⟨bl a5,true⟩/\u 2=cb 0/\u 3=cb 1/\u 10=X i) z.c5.length ?_ ?_ 0 _ _ (hf _) ⟨λj x y h=>by omega,aJ,aj,by simp[bR],by simp[bA],by simp⟩
  · rintro i u t ag ⟨gf,aJ,aj,bR,bA,jE⟩ cp aZ;obtain⟨x,F⟩:=kS ag;obtain⟨y,ab⟩: ∃y,a5.c5[i]?=some y:=⟨_,c0 (by omega)⟩;have eA:=(dg.1 F).2;have gX:=(dg.1 ab).2;have bc:=e7 (n:=i) (by have:=h.r2;omega);have bn:(i:Int)<z.c5.length:=(by omega);have bC:(i:Int)<a5.c5.length:=(by omega);have et:=aO aJ;have fP:=aO aj;have aN:=fT F;have rN:=fT ab;have lQ:cY x y=false->hZ z a5=false:= λY=>by simp[hZ,uy (p:=cY) F ab Y]
    have yq:= λY=>E2 (p:=cY) F ab gf Y;cases Y:cY x y
    · have ar:=lQ Y;have ay:=Y;rw[axg]at ay;simp(disch:=first|omega|simp only[DI.aF];omega) [R7,aam,tG,np,mB,bl,hO,aJ,aj,bR,bA,jE,bn,bC,eA,gX,ay,ar,iM,kj,g9,-ao,-aB,-ai,-au,-List.map_map]
    · have mE:=yq Y;have ay:=Y;simp only[cY,fU]at ay;subst ay;simp(disch:=first|omega|simp only[DI.aF];omega) [R7,aam,tG,np,mB,bl,hO,aJ,aj,bR,bA,jE,bn,bC,bc,eA,gX,iM,kj,g9,-ao,-aB,-ai,-au,-List.map_map];exact aZ _ _ ⟨mE,by simp(disch:=first|omega|simp only[DI.aF];omega) [aJ,bl,-ao,-aB,-ai,-au,-List.map_map],by simp(disch:=first|omega|simp only[DI.aF];omega) [aj,bl,-ao,-aB,-ai,-au,-List.map_map],by simp[bR],by simp[bA],by simp⟩
  rintro u t ⟨gf,aJ,aj,bR,bA,jE⟩;have et:=aO aJ;have fP:=aO aj;have aL6:=E1 On gf;clear gf;simp(disch:=first|omega|simp only[DI.aF];omega) [tG,R7,tG,bl,aJ,bR,jE,-ao,-aB,-ai,-au,-List.map_map];refine hC (a0:=⟨[B4,Ea,af9],[]⟩) (λi u t=>(∀(j:Nat) x y,j<i->z.bT[j]?=some x->a5.bT[j]?=some y->jq x y=true)/\t.U 0=some ⟨bl z,true⟩/\t.U 1=some ⟨bl a5,true⟩/\u 2=cb 0/\u 3=cb 1/\u 11=X i) z.bT.length ?_ ?_ 0 _ _ (hf _) ⟨λj x y h=>by omega,aJ,aj,by simp[bR],by simp[bA],by simp⟩
  · rintro i u t ag ⟨gf,aJ,aj,bR,bA,hc⟩ cp aZ;obtain⟨x,F⟩:=kS ag;obtain⟨y,ab⟩: ∃y,a5.bT[i]?=some y:=⟨_,c0 (by omega)⟩;have eA:=(dg.1 F).2;have gX:=(dg.1 ab).2;have bc:=e7 (n:=i) (by have:=h.je;omega);have bn:(i:Int)<z.bT.length:=(by omega);have bC:(i:Int)<a5.bT.length:=(by omega);have et:=aO aJ;have fP:=aO aj;have aN:=fT F;have rN:=fT ab;have lQ:jq x y=false->hZ z a5=false:= λY=>by simp[hZ,uy (p:=jq) F ab Y]
    have yq:= λY=>E2 (p:=jq) F ab gf Y;obtain⟨cx,c8,eM,gY⟩:=h.bT x aN;obtain⟨gk,h6,px,s4⟩:=b6.bT y rN;obtain⟨bh,bt,c1,e0,kP,tf,tg,⟨l9,nc,lP⟩,⟨iT,rE,cJ⟩⟩:=x;obtain⟨cM,dq,jw,kQ,qP,tk,tl,⟨nh,nd,nf⟩,⟨kR,qS,qT⟩⟩:=y;simp only at cx c8 eM gY gk h6 px s4;have B:=O1 (a:=tg) (b:=tl) ⟨⟨cx.1,by have:=cx.2;omega⟩,gk.1,by have:=gk.2;omega⟩;have H:tf.length<1000000000000000/\tk.length<1000000000000000:=⟨by omega,by omega⟩;have af:(aV.mk l9 nc lP).bD/\(aV.mk nh nd nf).bD:=⟨c8,h6⟩;have aL:(aV.mk iT rE cJ).bD/\(aV.mk kR qS qT).bD:=⟨eM,px⟩;by_cases eI:bh=cM
    case neg=>have ar:=lQ (by simp[jq,eI]);simp(disch:=first|omega|simp only[DI.aF];omega) [wR,x9,ya,np,mB,bl,eR,aJ,aj,bR,bA,hc,bn,bC,eA,gX,ar,eI,-ao,-aB,-ai,-au,-List.map_map]
    subst eI;by_cases eI:bt=dq
    case neg=>have ar:=lQ (by simp[jq,eI]);simp(disch:=first|omega|simp only[DI.aF];omega) [wR,x9,ya,np,mB,bl,eR,aJ,aj,bR,bA,hc,bn,bC,eA,gX,ar,eI,-ao,-aB,-ai,-au,-List.map_map]
    subst eI;by_cases eI:c1=jw
    case neg=>have ar:=lQ (by simp[jq,eI]);simp(disch:=first|omega|simp only[DI.aF];omega) [wR,x9,ya,np,mB,bl,eR,aJ,aj,bR,bA,hc,bn,bC,eA,gX,ar,eI,-ao,-aB,-ai,-au,-List.map_map]
    subst eI;by_cases eI:e0=kQ
    case neg=>have ar:=lQ (by simp[jq,eI]);simp(disch:=first|omega|simp only[DI.aF];omega) [wR,x9,ya,np,mB,bl,eR,aJ,aj,bR,bA,hc,bn,bC,eA,gX,ar,eI,-ao,-aB,-ai,-au,-List.map_map]
    subst eI;by_cases eI:kP=qP
    case neg=>have ar:=lQ (by simp[jq,eI]);have M:(cY kP.a qP.a&&(cY kP.b qP.b&&(cY kP.c qP.c&&(cY kP.d qP.d&&cY kP.e qP.e))))=false:=(by rw[<-ar4];simpa using eI);simp(disch:=first|omega|simp only[DI.aF];omega) [wR,x9,ya,np,mB,bl,eR,aJ,aj,bR,bA,hc,bn,bC,eA,gX,iM,kj,g9,ar,M,-ao,-aB,-ai,-au,-List.map_map]
    subst eI;cases hN:dJ cY tf tk
    · skip
      have ar:=lQ (by simp[jq,hN]);simp(disch:=first|omega|simp only[DI.aF];omega) [wR,x9,ya,np,mB,bl,eR,aJ,aj,bR,bA,hc,bn,bC,eA,gX,iM,kj,g9,ar,hN,-ao,-aB,-ai,-au,-List.map_map]
    cases wq:dJ fL tg tl
    · skip
      have ar:=lQ (by simp[jq,wq]);simp(disch:=first|omega|simp only[DI.aF];omega) [wR,x9,ya,np,mB,bl,eR,aJ,aj,bR,bA,hc,bn,bC,eA,gX,B,iM,kj,g9,ar,hN,wq,-ao,-aB,-ai,-au,-List.map_map]
    cases K5:fL ⟨l9,nc,lP⟩ ⟨nh,nd,nf⟩
    · skip
      have ar:=lQ (by simp[jq,K5]);simp(disch:=first|omega|simp only[DI.aF];omega) [wR,x9,ya,np,mB,bl,eR,aJ,aj,bR,bA,hc,bn,bC,eA,gX,B,iM,kj,g9,ar,hN,wq,K5,-ao,-aB,-ai,-au,-List.map_map]
    cases Qj:fL ⟨iT,rE,cJ⟩ ⟨kR,qS,qT⟩
    · skip
      have ar:=lQ (by simp[jq,Qj]);simp(disch:=first|omega|simp only[DI.aF];omega) [wR,x9,ya,np,mB,bl,eR,aJ,aj,bR,bA,hc,bn,bC,eA,gX,B,iM,kj,g9,ar,hN,wq,K5,Qj,-ao,-aB,-ai,-au,-List.map_map]
    have mE:=yq (by simp[jq,hN,wq,K5,Qj]);simp(disch:=first|omega|simp only[DI.aF];omega) [wR,x9,ya,np,mB,bl,eR,aJ,aj,bR,bA,hc,bn,bC,bc,eA,gX,B,iM,kj,g9,hN,wq,K5,Qj,-ao,-aB,-ai,-au,-List.map_map];exact aZ _ _ ⟨mE,by simp(disch:=first|omega|simp only[DI.aF];omega) [aJ,bl,-ao,-aB,-ai,-au,-List.map_map],by simp(disch:=first|omega|simp only[DI.aF];omega) [aj,bl,-ao,-aB,-ai,-au,-List.map_map],by simp[bR],by simp[bA],by simp⟩
  rintro u t ⟨gf,aJ,aj,bR,bA,hc⟩;have et:=aO aJ;have fP:=aO aj;have aL9:=E1 UY gf;clear gf;simp(disch:=first|omega|simp only[DI.aF];omega) [np,wR,np,bl,aJ,bR,hc,-ao,-aB,-ai,-au,-List.map_map];refine hC (a0:=⟨[],[]⟩) (λi u t=>(∀(j:Nat) x y,j<i->z.cP[j]?=some x->a5.cP[j]?=some y->cY x y=true)/\t.U 0=some ⟨bl z,true⟩/\t.U 1=some ⟨bl a5,true⟩/\u 2=cb 0/\u 3=cb 1/\u 14=X i) z.cP.length ?_ ?_ 0 _ _ (hf _) ⟨λj x y h=>by omega,aJ,aj,by simp[bR],by simp[bA],by simp⟩
  · rintro i u t ag ⟨gf,aJ,aj,bR,bA,ie⟩ cp aZ;obtain⟨x,F⟩:=kS ag;obtain⟨y,ab⟩: ∃y,a5.cP[i]?=some y:=⟨_,c0 (by omega)⟩;have eA:=(dg.1 F).2;have gX:=(dg.1 ab).2;have bc:=e7 (n:=i) (by have:=h.zX;omega);have bn:(i:Int)<z.cP.length:=(by omega);have bC:(i:Int)<a5.cP.length:=(by omega);have et:=aO aJ;have fP:=aO aj;have aN:=fT F;have rN:=fT ab;have lQ:cY x y=false->hZ z a5=false:= λY=>by simp[hZ,uy (p:=cY) F ab Y]
    have yq:= λY=>E2 (p:=cY) F ab gf Y;cases Y:cY x y
    · have ar:=lQ Y;have ay:=Y;rw[axN]at ay;simp(disch:=first|omega|simp only[DI.aF];omega) [R8,aan,mB,bl,iy,aJ,aj,bR,bA,ie,bn,bC,eA,gX,ay,ar,iM,kj,g9,-ao,-aB,-ai,-au,-List.map_map]
    · have mE:=yq Y;have ay:=Y;simp only[cY,fU]at ay;subst ay;simp(disch:=first|omega|simp only[DI.aF];omega) [R8,aan,mB,bl,iy,aJ,aj,bR,bA,ie,bn,bC,bc,eA,gX,iM,kj,g9,-ao,-aB,-ai,-au,-List.map_map];exact aZ _ _ ⟨mE,by simp(disch:=first|omega|simp only[DI.aF];omega) [aJ,bl,-ao,-aB,-ai,-au,-List.map_map],by simp(disch:=first|omega|simp only[DI.aF];omega) [aj,bl,-ao,-aB,-ai,-au,-List.map_map],by simp[bR],by simp[bA],by simp⟩
  rintro u t ⟨gf,aJ,aj,bR,bA,ie⟩;have et:=aO aJ;have fP:=aO aj;have aMa:=E1 aen gf;clear gf;have ar:hZ z a5=true:=by simp only[hZ,a2,aL7,aL8,aL5,aL6,aL9,aMa,HE,Bool.and_self]
  simp(disch:=first|omega|simp only[DI.aF];omega) [mB,R8,mB,bl,aJ,bR,ie,ar,-ao,-aB,-ai,-au,-List.map_map]
structure pD.aiz(s:pD):Prop where
  bO: ∀x∈s.bO,x.qw.bD
  qA: ∀x∈s.qA,x.ju.bD
  bT: ∀x∈s.bT,jG x.hz/\x.kU.bD/\x.eS.bD/\x.aR.length<1000000000000000
  r1:s.bO.length<1000000000
  de:s.aR.length<1000000000
  vS:s.qA.length<1000000000
  je:s.bT.length<1000000000
  zX:s.cP.length<1000000000
theorem aKS{x:dY}(h:x.bD):O0.fn [.agg #[ei x.name,aQ (x.s.map ec) 3,aQ (x.bf.map λr=>[dQ r]) 1,aQ (x.e.map ec) 3],.agg #[ei x.name,aQ (x.s.map ec) 3,aQ (x.bf.map λr=>[dQ r]) 1,aQ (x.e.map ec) 3]]=some (.bool true):=by rw[aKR ⟨h,h⟩,apL]
theorem af8{n:Bool}{a b:List Int}(h:(aV.mk n a b).bD):B4.fn [.agg #[.bool n,dy a,dy b],.agg #[.bool n,dy a,dy b]]=some (.bool true):=by rw[aKT ⟨h,h⟩,QB]
theorem aKV{a:List aV}(h:jG a):Ea.fn [aQ (a.map ec) 3,aQ (a.map ec) 3]=some (.bool true):=by rw[O1 ⟨h,h⟩,Lh]
theorem aKX{a:List ByteArray}(h:a.length<1000000000000000):VI.fn [aQ (a.map λd=>[ei d]) 1,aQ (a.map λd=>[ei d]) 1]=some (.bool true):=by rw[aKW ⟨h,h⟩,AQ λa _=>HE a]
theorem aKe{s:pD}(h:pD.aiz s):c4 Z 19 [.agg (jQ s).toArray,.agg (jQ s).toArray] (.bool true):=by
  refine gR (ga (a0:=⟨[],[]⟩) aDF (by kernel_rfl) (by simp[ab1]) ?_);simp[ab1,ana,anb,ang,jQ];refine hC (a0:=⟨[O0],[]⟩) (λi u t=>t.U 0=some ⟨jQ s,true⟩/\t.U 1=some ⟨jQ s,true⟩/\u 2=cb 0/\u 3=cb 1/\u 5=X i) s.bO.length ?_ ?_ 0 _ _ (hf _) ⟨by simp[jQ],by simp[jQ],by simp,by simp,by simp⟩
  · rintro i u t ag ⟨aJ,aj,bR,bA,cv⟩ cp aZ;obtain⟨x,F⟩:=kS ag;have eA:=(dg.1 F).2;have aN:=fT F;have bc:=e7 (n:=i) (by have:=h.r1;omega);have bn:(i:Int)<s.bO.length:=(by omega);have et:=aO aJ;have fP:=aO aj;have uV:=aKS (h.bO x aN);simp(disch:=first|omega|simp only[DI.aF];omega) [ab2,anh,S6,Nh,IU,F7,Dl,jQ,mI,aJ,aj,bR,bA,cv,bn,bc,eA,uV];exact aZ _ _ ⟨by simp[aJ,jQ,-ao,-aB,-ai,-au,-List.map_map],by simp[aj,jQ,-ao,-aB,-ai,-au,-List.map_map],by simp[bR],by simp[bA],by simp⟩
  rintro u t ⟨aJ,aj,bR,bA,cv⟩;have et:=aO aJ;have fP:=aO aj;simp[S6,ab2,S6,jQ,aJ,bR,cv];refine hC (a0:=⟨[],[]⟩) (λi u t=>t.U 0=some ⟨jQ s,true⟩/\t.U 1=some ⟨jQ s,true⟩/\u 2=cb 0/\u 3=cb 1/\u 6=X i) s.aR.length ?_ ?_ 0 _ _ (hf _) ⟨aJ,aj,by simp[bR],by simp[bA],by simp⟩
  · rintro i u t ag ⟨aJ,aj,bR,bA,dn⟩ cp aZ;obtain⟨x,F⟩:=kS ag;have eA:=(dg.1 F).2;have aN:=fT F;have bc:=e7 (n:=i) (by have:=h.de;omega);have bn:(i:Int)<s.aR.length:=(by omega);have et:=aO aJ;have fP:=aO aj;simp(disch:=first|omega|simp only[DI.aF];omega) [ab3,ani,anj,Nh,IU,F7,Dl,jQ,mJ,aJ,aj,bR,bA,dn,bn,bc,eA];exact aZ _ _ ⟨by simp(disch:=first|omega|simp only[DI.aF];omega) [aJ,jQ,-ao,-aB,-ai,-au,-List.map_map],by simp(disch:=first|omega|simp only[DI.aF];omega) [aj,jQ,-ao,-aB,-ai,-au,-List.map_map],by simp[bR],by simp[bA],by simp⟩
  rintro u t ⟨aJ,aj,bR,bA,dn⟩;have et:=aO aJ;have fP:=aO aj;simp[Nh,ab3,Nh,jQ,aJ,bR,dn];refine hC (a0:=⟨[B4],[]⟩) (λi u t=>t.U 0=some ⟨jQ s,true⟩/\t.U 1=some ⟨jQ s,true⟩/\u 2=cb 0/\u 3=cb 1/\u 9=X i) s.qA.length ?_ ?_ 0 _ _ (hf _) ⟨aJ,aj,by simp[bR],by simp[bA],by simp⟩
  · rintro i u t ag ⟨aJ,aj,bR,bA,e4⟩ cp aZ;obtain⟨x,F⟩:=kS ag;have eA:=(dg.1 F).2;have aN:=fT F;have bc:=e7 (n:=i) (by have:=h.vS;omega);have bn:(i:Int)<s.qA.length:=(by omega);have et:=aO aJ;have fP:=aO aj;have uV:=af8 (h.qA x aN);simp(disch:=first|omega|simp only[DI.aF];omega) [ab4,ank,anl,IU,F7,Dl,jQ,qJ,aJ,aj,bR,bA,e4,bn,bc,eA,uV];exact aZ _ _ ⟨by simp(disch:=first|omega|simp only[DI.aF];omega) [aJ,jQ,-ao,-aB,-ai,-au,-List.map_map],by simp(disch:=first|omega|simp only[DI.aF];omega) [aj,jQ,-ao,-aB,-ai,-au,-List.map_map],by simp[bR],by simp[bA],by simp⟩
  rintro u t ⟨aJ,aj,bR,bA,e4⟩;have et:=aO aJ;have fP:=aO aj;simp[IU,ab4,IU,jQ,aJ,bR,e4];refine hC (a0:=⟨[B4,Ea,VI],[]⟩) (λi u t=>t.U 0=some ⟨jQ s,true⟩/\t.U 1=some ⟨jQ s,true⟩/\u 2=cb 0/\u 3=cb 1/\u 12=X i) s.bT.length ?_ ?_ 0 _ _ (hf _) ⟨aJ,aj,by simp[bR],by simp[bA],by simp⟩
  · rintro i u t ag ⟨aJ,aj,bR,bA,kA⟩ cp aZ;obtain⟨x,F⟩:=kS ag;have eA:=(dg.1 F).2;have aN:=fT F;have bc:=e7 (n:=i) (by have:=h.je;omega);have bn:(i:Int)<s.bT.length:=(by omega);have et:=aO aJ;have fP:=aO aj;have OH:=h.bT x aN;have ez:=aKV OH.1;have fj:=af8 OH.2.1;have gK:=af8 OH.2.2.1;have iB:=aKX OH.2.2.2;simp(disch:=first|omega|simp only[DI.aF];omega) [ab5,anc,ane,F7,Dl,jQ,nx,aJ,aj,bR,bA,kA,bn,bc,eA,ez,fj,gK,iB,iM,kj,g9];exact aZ _ _ ⟨by simp(disch:=first|omega|simp only[DI.aF];omega) [aJ,jQ,-ao,-aB,-ai,-au,-List.map_map],by simp(disch:=first|omega|simp only[DI.aF];omega) [aj,jQ,-ao,-aB,-ai,-au,-List.map_map],by simp[bR],by simp[bA],by simp⟩
  rintro u t ⟨aJ,aj,bR,bA,kA⟩;have et:=aO aJ;have fP:=aO aj;simp[F7,ab5,F7,jQ,aJ,bR,kA];refine hC (a0:=⟨[],[]⟩) (λi u t=>t.U 0=some ⟨jQ s,true⟩/\t.U 1=some ⟨jQ s,true⟩/\u 2=cb 0/\u 3=cb 1/\u 15=X i) s.cP.length ?_ ?_ 0 _ _ (hf _) ⟨aJ,aj,by simp[bR],by simp[bA],by simp⟩
  · rintro i u t ag ⟨aJ,aj,bR,bA,hH⟩ cp aZ;obtain⟨x,F⟩:=kS ag;have eA:=(dg.1 F).2;have aN:=fT F;have bc:=e7 (n:=i) (by have:=h.zX;omega);have bn:(i:Int)<s.cP.length:=(by omega);have et:=aO aJ;have fP:=aO aj;simp(disch:=omega) [ab6,anf,Dl,jQ,l5,aJ,aj,bR,bA,hH,bn,bc,eA];exact aZ _ _ ⟨by simp[aJ,jQ],by simp[aj,jQ],by simp[bR],by simp[bA],by simp⟩
  rintro u t ⟨aJ,aj,bR,bA,hH⟩;have et:=aO aJ;have fP:=aO aj;simp[Dl,ab6,Dl,jQ,aJ,bR,hH]
theorem aeU:(0:Int)<a3 512:=Int.lt_trans (by decide) JM
theorem aM8:atn.bD:=KX (x:=⟨false,0,1⟩) (by decide) (by decide) aeU JM
theorem Og{x:aV}(h:x.bD):(hE x).bD:=by
  cases ah:x.bG.ok
  · unfold hE rl;rw[ah];show(qQ bp.zero).bD;exact KX (x:=bp.zero) (by decide) (by decide) aeU aeU
  · exact(aG8 h ah).2
theorem aG9{l:List aV}(h:jG l):jG (l.map hE):=⟨λx F=>by obtain⟨y,ab,rfl⟩:=iK.1 F;exact Og (h.1 y ab),by rw[jZ];exact h.2⟩
theorem aG7{x:dY}(h:x.bD):(tN x).bD:=by
  obtain⟨bh,bt,c1,e0,hK,h3,jk⟩:=h;have aE: ∀{l:List aV},(∀r∈l,r.bD)-> ∀r∈l.map hE,r.bD:= λh r aH=>by obtain⟨y,ab,rfl⟩:=iK.1 aH;exact Og (h y ab)
  refine⟨aE bh,λl lG=> ?_,aE c1,by simpa[tN]using e0,by simpa[tN]using hK,by simpa[tN]using h3,λl lG=> ?_⟩
  · obtain⟨y,ab,rfl⟩:=iK.1 lG;exact aE (bt y ab)
  · obtain⟨y,ab,rfl⟩:=iK.1 lG;rw[jZ];exact jk y ab
theorem aqs{z:a4}(h:a4.dP z): ∀n d,∀x∈nu z n d,x.ju.bD
  |0,d=> λx F=>by cases F
  | n+1,d=> λx F=>by
    rw[aew]at F;unfold sL kz at F;rcases mM.1 F with F|F
    · rcases mM.1 F with F|F
      · unfold sw at F;split at F
        · cases F
        · split at F
          · next y ab=>simp at F;subst F;exact Og (h.br y (fT ab))
          · cases F
      · obtain⟨k,_,aa⟩:=Al.1 F;exact aqs h n k x aa
    · obtain⟨y,_,rfl⟩:=iK.1 F;exact aM8
theorem aLz{z:a4}(h:a4.dP z):pD.aiz (kL z):=by
  cases S:g6 z
  · have e:kL z=pD.nil:=(by unfold kL;rw[S];rfl);rw[e];exact⟨nofun,nofun,nofun,by decide,by decide,by decide,by decide,by decide⟩
  · have e:kL z=VT z:=(by unfold kL;rw[S];rfl);rw[e];have qn:=S;unfold g6 at qn;simp only[bK,fU]at qn;obtain⟨_,py,u3,u4,Km,Wk,Wl,_⟩:=qn;have av:=U3 u4 Km 5 0;have K:=Wv (n:=5) (by decide);refine⟨λx F=> ?_,aqs h 5 0,λx F=> ?_,?_,?_,?_,?_,?_⟩
    · obtain⟨y,ab,rfl⟩:=iK.1 F;exact aG7 (h.bO y ab)
    · obtain⟨y,ab,rfl⟩:=iK.1 F;obtain⟨ez,fj,gK,iB⟩:=h.bT y ab;exact⟨aG9 ⟨ez.1,by have:=ez.2;omega⟩,Og fj,Og gK,by show(List.map _ _).length<_;rw[jZ];omega⟩
    · show(List.map _ _).length<_;rw[jZ];omega
    · show(List.map _ _).length<_;rw[jZ];omega
    · show(nu z 5 0).length<_;omega
    · show(List.map _ _).length<_;rw[jZ];omega
    · show(List.map _ _).length<_;rw[jZ];omega
abbrev aep:fZ:= .slice (.int .u32)
abbrev kv:fZ:= .g5 .bool (.g5 aep (.g5 aep .unit))
abbrev w2:fZ:= .g5 .str (.g5 (.slice kv) (.g5 (.slice (.slice kv)) (.g5 (.slice kv) .unit)))
abbrev WL:fZ:= .g5 (.int .i64) (.g5 (.int .i64) (.g5 (.int .i64) (.g5 (.int .i64) (.g5 (.int .i64) .unit))))
def toRw(d:kv.cn):aV:=⟨d.1,d.2.1,d.2.2.1⟩
def toRws(l:List kv.cn):List aV:=l.map toRw
def toLaw(d:w2.cn):dY:=⟨d.1,toRws d.2.1,(jv (e:= .slice kv) d.2.2.1).map λl=>toRws l,toRws d.2.2.2.1⟩
def toSp5(d:WL.cn):j2:=⟨d.1,d.2.1,d.2.2.1,d.2.2.2.1,d.2.2.2.2.1⟩
theorem aw2(l:List kv.cn):l.map (kk kv)=(toRws l).map ec:=by unfold toRws;rw[Ap];exact uf λx _=>rfl
theorem Qr(l:List kv.cn):aQ (l.map (kk kv)) kv.cells=dQ (toRws l):=by rw[aw2];rfl
theorem aw1(d:w2.cn):kk w2 d=fH (toLaw d):=by
  obtain⟨de,s,bf,e,aG⟩:=d;have B:=Qr s;have H:=Qr e;have af:(jv (e:= .slice kv) bf).map (kk (.slice kv))=((jv (e:= .slice kv) bf).map λl=>toRws l).map λr=>[dQ r]:=by rw[Ap];refine uf λx _=> ?_;show[aQ (List.map (kk kv) x) kv.cells]=[dQ (toRws x)];rw[Qr]
  show[Value.string de]++([aQ (List.map (kk kv) s) kv.cells]++([aQ ((jv (e:= .slice kv) bf).map (kk (.slice kv))) 1]++([aQ (List.map (kk kv) e) kv.cells]++[])))=_;rw[B,H,af];rfl
theorem UZ{l:List Int}(h:yr aep l):dT l/\l.length<35184372087809:=by
  refine⟨λx F=> ?_,?_⟩
  · have cm:(Lit.int .u32 x).wf=true:=h.2 x F;simp only[Lit.wf,bK,fU]at cm;obtain⟨a,b⟩:=cm;have aX:IntKind.u32.min=0:=(by decide);have bg:IntKind.u32.max=4294967295:=(by decide);rw[aX]at a;rw[bg]at b;omega
  · have B:l.length*4<=reachBytes:=h.1;simp only[reachBytes]at B;omega
theorem QC{d:kv.cn}(h:yr kv d):(toRw d).bD:=by obtain⟨_,B,H,_⟩:=h;exact⟨(UZ B).1,(UZ H).1,(UZ B).2,(UZ H).2⟩
theorem ad5{e:fZ}{l:List e.cn}(h:yr (.slice e) l):l.length<=140737488355328:=by have:=e.aGY h.1;simp only[reachBytes]at this;exact nC this (by omega)
theorem HJ{l:List kv.cn}(h:yr (.slice kv) l):(∀r∈toRws l,r.bD)/\(toRws l).length<=140737488355328:=by refine⟨λr aH=> ?_,by unfold toRws;rw[jZ];exact ad5 (e:=kv) h⟩;unfold toRws at aH;obtain⟨d,ay,rfl⟩:=iK.1 aH;exact QC (h.2 d ay)
theorem aGJ{d:w2.cn}(h:yr w2 d):(toLaw d).raw:=by
  obtain⟨_,B,H,af,_⟩:=h;have bh:=HJ B;have c1:=HJ af;refine⟨bh.1,λl aE=> ?_,c1.1,bh.2,?_,c1.2,λl aE=> ?_⟩
  · obtain⟨x,F,rfl⟩:=iK.1 aE;exact(HJ (H.2 x F)).1
  · show(List.map _ _).length<=_;rw[jZ];exact ad5 (e:= .slice kv) H
  · obtain⟨x,F,rfl⟩:=iK.1 aE;exact(HJ (H.2 x F)).2
theorem Da{α:Type}{f:α->List Value}(bs: ∀x y,f x=f y->x=y){a b:List α}{O:Nat}(h:aQ (a.map f) O=aQ (b.map f) O):a=b:=by
  have b6:a.map f=b.map f:=by simpa using h
  exact(List.map_inj_right bs).1 b6
theorem awZ{a b:List Int}(h:lS a=lS b):a=b:=Da (λx y e=>by simpa using e) h
theorem awY{a b:List aV}(h:dQ a=dQ b):a=b:=Da (λx y=>GP.1) h
theorem axw(x y:o1)(h:hD x=hD y):x=y:=by obtain⟨a,b,c,d⟩:=x;obtain⟨cI,b7,eH,o4⟩:=y;simpa[hD]using h
theorem axe(x y:gp)(h:eL x=eL y):x=y:=by obtain⟨a,b,c,d,s⟩:=x;obtain⟨cI,b7,eH,o4,iu⟩:=y;simp only[eL,ox,Value.string.injEq,Value.int.injEq,true_and,and_true]at h;obtain⟨rfl,rfl,rfl,rfl,B⟩:=h;cases GP.1 (show ec s=ec iu from by simp only[ec,ox,and_true];exact B);rfl
theorem axi(x y:pB)(h:hO x=hO y):x=y:=by obtain⟨a,b,c⟩:=x;obtain⟨cI,b7,eH⟩:=y;simpa[hO]using h
theorem axL(x y:uj)(h:iy x=iy y):x=y:=by obtain⟨a,b⟩:=x;obtain⟨cI,b7⟩:=y;simpa[iy]using h
theorem axC(x y:hr)(h:eR x=eR y):x=y:=by obtain⟨a,b,c,d,⟨aX,bg,dU,ha,kF⟩,hG,r,s,aG⟩:=x;obtain⟨cI,b7,eH,o4,⟨ck,cE,eo,e8,f5⟩,aUm,hy,iu,kB⟩:=y;simp only[eR,ox,Value.string.injEq,Value.int.injEq,true_and,and_true]at h;obtain⟨rfl,rfl,rfl,rfl,rfl,rfl,rfl,rfl,rfl,B,H,af,aL,cm,dK,hh,iV⟩:=h;cases awZ B;cases awY H;cases GP.1 (show ec s=ec iu from by simp only[ec,ox,and_true];exact⟨af,aL,cm⟩);cases GP.1 (show ec aG=ec kB from by simp only[ec,ox,and_true];exact⟨dK,hh,iV⟩);rfl
theorem axt{z a5:a4}(h:bl z=bl a5):z=a5:=by obtain⟨a,b,c,d,e,f,g⟩:=z;obtain⟨cI,b7,eH,o4,eD,aiE,aiV⟩:=a5;simp only[bl,ox,Value.int.injEq,true_and,and_true]at h;obtain⟨rfl,B,H,af,aL,cm,dK⟩:=h;cases Da (λx y=>aGH.1) B;cases Da axw H;cases Da axe af;cases Da axi aL;cases Da axC cm;cases Da axL dK;rfl
theorem Xy{z a5:a4}(h:(Value.agg (bl z).toArray)= .agg (bl a5).toArray):z=a5:=axt (by simpa using h)
noncomputable def afL:cf Z:= .ek 15 a4 a4.raw (λz=>[.agg (bl z).toArray]) (λz=> .bool (oc z)) λ_ h=>ayM h
@[simp] theorem aWC:afL.f=15:=rfl
@[simp] theorem aWD{z:a4}(h:a4.raw z):afL.fn [.agg #[X z.ext,aQ (z.bO.map fH) 4,aQ (z.aR.map hD) 4,aQ (z.br.map eL) 7,aQ (z.c5.map hO) 3,aQ (z.bT.map eR) 17,aQ (z.cP.map iy) 2]]=some (.bool (oc z)):=cf.eP (x:=z) h λy ab=>by have e:=Xy (z:=y) (a5:=z) (List.cons.inj ab).1;rw[e]
noncomputable def agq(z a5:a4):cf Z:= .ek 16 Unit (λ_=>a4.dP z) (λ_=>[.agg (bl z).toArray]) (λ_=>yy z) λ_ h=>aIH h
@[simp] theorem aYx{z a5:a4}:(agq z a5).f=16:=rfl
@[simp] theorem aYy{z a5:a4}(h:a4.dP z):(agq z a5).fn [.agg #[X z.ext,aQ (z.bO.map fH) 4,aQ (z.aR.map hD) 4,aQ (z.br.map eL) 7,aQ (z.c5.map hO) 3,aQ (z.bT.map eR) 17,aQ (z.cP.map iy) 2]]=some (.tuple #[.agg #[X (kL z).ext,aQ ((kL z).bO.map mI) 6,aQ ((kL z).aR.map mJ) 6,aQ ((kL z).qA.map qJ) 9,aQ ((kL z).bT.map nx) 19,aQ ((kL z).cP.map l5) 4],X (if g6 z then 0 else 1)]):=cf.eP (x:=()) h λ_ _=>rfl
noncomputable def agr(z a5:a4):cf Z:= .ek 17 Unit (λ_=>a4.dP z) (λ_=>[.agg (bl z).toArray]) (λ_=>yy z) λ_ h=>aJ8 h
@[simp] theorem aYz{z a5:a4}:(agr z a5).f=17:=rfl
@[simp] theorem aYA{z a5:a4}(h:a4.dP z):(agr z a5).fn [.agg #[X z.ext,aQ (z.bO.map fH) 4,aQ (z.aR.map hD) 4,aQ (z.br.map eL) 7,aQ (z.c5.map hO) 3,aQ (z.bT.map eR) 17,aQ (z.cP.map iy) 2]]=some (.tuple #[.agg #[X (kL z).ext,aQ ((kL z).bO.map mI) 6,aQ ((kL z).aR.map mJ) 6,aQ ((kL z).qA.map qJ) 9,aQ ((kL z).bT.map nx) 19,aQ ((kL z).cP.map l5) 4],X (if g6 z then 0 else 1)]):=cf.eP (x:=()) h λ_ _=>rfl
noncomputable def agt(z a5:a4):cf Z:= .ek 14 Unit (λ_=>a4.dP z) (λ_=>[.agg (bl z).toArray]) (λ_=>X (if g6 z then 0 else 1)) λ_ h=>V9 h
@[simp] theorem aYI{z a5:a4}:(agt z a5).f=14:=rfl
@[simp] theorem aYJ{z a5:a4}(h:a4.dP z):(agt z a5).fn [.agg #[X z.ext,aQ (z.bO.map fH) 4,aQ (z.aR.map hD) 4,aQ (z.br.map eL) 7,aQ (z.c5.map hO) 3,aQ (z.bT.map eR) 17,aQ (z.cP.map iy) 2]]=some (X (if g6 z then 0 else 1)):=cf.eP (x:=()) h λ_ _=>rfl
noncomputable def agu(z a5:a4):cf Z:= .ek 18 Unit (λ_=>a4.dP z) (λ_=>[.agg (bl z).toArray]) (λ_=>X (if g6 z then 0 else 1)) λ_ h=>aKI h
@[simp] theorem aYK{z a5:a4}:(agu z a5).f=18:=rfl
@[simp] theorem aYL{z a5:a4}(h:a4.dP z):(agu z a5).fn [.agg #[X z.ext,aQ (z.bO.map fH) 4,aQ (z.aR.map hD) 4,aQ (z.br.map eL) 7,aQ (z.c5.map hO) 3,aQ (z.bT.map eR) 17,aQ (z.cP.map iy) 2]]=some (X (if g6 z then 0 else 1)):=cf.eP (x:=()) h λ_ _=>rfl
noncomputable def afH(z a5:a4):cf Z:= .ek 19 Unit (λ_=>a4.dP z) (λ_=>[.agg (jQ (kL z)).toArray,.agg (jQ (kL z)).toArray]) (λ_=> .bool true) λ_ h=>aKe (aLz h)
@[simp] theorem aWr{z a5:a4}:(afH z a5).f=19:=rfl
@[simp] theorem aWs{z a5:a4}(h:a4.dP z):(afH z a5).fn [.agg #[X (kL z).ext,aQ ((kL z).bO.map mI) 6,aQ ((kL z).aR.map mJ) 6,aQ ((kL z).qA.map qJ) 9,aQ ((kL z).bT.map nx) 19,aQ ((kL z).cP.map l5) 4],.agg #[X (kL z).ext,aQ ((kL z).bO.map mI) 6,aQ ((kL z).aR.map mJ) 6,aQ ((kL z).qA.map qJ) 9,aQ ((kL z).bT.map nx) 19,aQ ((kL z).cP.map l5) 4]]=some (.bool true):=cf.eP (x:=()) h λ_ _=>rfl
noncomputable def afG(z a5:a4):cf Z:= .ek 13 Unit (λ_=>a4.dP z/\a4.dP a5) (λ_=>[.agg (bl z).toArray,.agg (bl a5).toArray]) (λ_=> .bool (hZ z a5)) λ_ h=>aJs h
@[simp] theorem aWp{z a5:a4}:(afG z a5).f=13:=rfl
@[simp] theorem aWq{z a5:a4}(h:a4.dP z/\a4.dP a5):(afG z a5).fn [.agg #[X z.ext,aQ (z.bO.map fH) 4,aQ (z.aR.map hD) 4,aQ (z.br.map eL) 7,aQ (z.c5.map hO) 3,aQ (z.bT.map eR) 17,aQ (z.cP.map iy) 2],.agg #[X a5.ext,aQ (a5.bO.map fH) 4,aQ (a5.aR.map hD) 4,aQ (a5.br.map eL) 7,aQ (a5.c5.map hO) 3,aQ (a5.bT.map eR) 17,aQ (a5.cP.map iy) 2]]=some (.bool (hZ z a5)):=cf.eP (x:=()) h λ_ _=>rfl
noncomputable def afF:cf Z:= .ek 20 (a4×a4) (λp=>a4.dP p.1/\a4.dP p.2) (λp=>[.agg (bl p.1).toArray,.agg (bl p.2).toArray]) (λp=> .bool (hZ p.1 p.2)) λ_ h=>aIr h
@[simp] theorem aWn:afF.f=20:=rfl
@[simp] theorem aWo{z a5:a4}(h:a4.dP z/\a4.dP a5):afF.fn [.agg #[X z.ext,aQ (z.bO.map fH) 4,aQ (z.aR.map hD) 4,aQ (z.br.map eL) 7,aQ (z.c5.map hO) 3,aQ (z.bT.map eR) 17,aQ (z.cP.map iy) 2],.agg #[X a5.ext,aQ (a5.bO.map fH) 4,aQ (a5.aR.map hD) 4,aQ (a5.br.map eL) 7,aQ (a5.c5.map hO) 3,aQ (a5.bT.map eR) 17,aQ (a5.cP.map iy) 2]]=some (.bool (hZ z a5)):=cf.eP (x:=(z,a5)) h λ⟨gk,h6⟩ ab=>by have e:=List.cons.inj ab;have aX:=Xy (z:=gk) (a5:=z) e.1;have bg:=Xy (z:=h6) (a5:=a5) (List.cons.inj e.2).1;subst aX;subst bg;rfl
theorem axr{z a5:a4}(h:a4.raw z)(b6:a4.raw a5):c4 Z 5 [.agg (bl z).toArray,.agg (bl a5).toArray] (.bool true):=by
  refine gR (ga (a0:=⟨[afL,afC,agq z a5,agr z a5,agt z a5,agu z a5,afH z a5,afG z a5,afF],[]⟩) aEr (by kernel_rfl) (by simp[Nr]) ?_);cases bY:oc z
  case true=>simp(disch:=first|omega|simp only[DI.aF];omega) [Nr,TC,TD,bl,bY,-ao,-aB,-ai,-au,-List.map_map]
  cases cN:oc a5
  case true=>simp(disch:=first|omega|simp only[DI.aF];omega) [Nr,TC,TD,bl,bY,cN,-ao,-aB,-ai,-au,-List.map_map]
  have aa:=arj h bY;have rM:=arj b6 cN;have Y:a4.dP z/\a4.dP a5:=⟨aa,rM⟩;have wK:a4.dP z/\a4.dP z:=⟨aa,aa⟩;have M:=axu z;simp(disch:=first|omega|simp only[DI.aF];omega) [Nr,TC,TD,aoq,aor,aos,bl,bY,cN,M]
abbrev CI:fZ:= .g5 .str (.g5 (.int .i64) (.g5 (.int .i64) (.g5 (.int .i64) .unit)))
abbrev CD:fZ:= .g5 .str (.g5 (.int .i64) (.g5 (.int .i64) (.g5 (.int .i64) (.g5 kv .unit))))
abbrev CE:fZ:= .g5 .str (.g5 (.int .i64) (.g5 (.int .i64) .unit))
abbrev y3:fZ:= .g5 .str (.g5 (.int .i64) (.g5 (.int .i64) (.g5 (.int .i64) (.g5 WL (.g5 (.slice (.int .i64)) (.g5 (.slice kv) (.g5 kv (.g5 kv .unit))))))))
abbrev CL:fZ:= .g5 .str (.g5 (.int .i64) .unit)
abbrev xM:fZ:= .g5 (.int .i64) (.g5 (.slice w2) (.g5 (.slice CI) (.g5 (.slice CD) (.g5 (.slice CE) (.g5 (.slice y3) (.g5 (.slice CL) .unit))))))
def toFModel(d:CI.cn):o1:=⟨d.1,d.2.1,d.2.2.1,d.2.2.2.1⟩
def toFDom(d:CD.cn):gp:=⟨d.1,d.2.1,d.2.2.1,d.2.2.2.1,toRw d.2.2.2.2.1⟩
def toFDrv(d:CE.cn):pB:=⟨d.1,d.2.1,d.2.2.1⟩
def toFPol(d:y3.cn):hr:=⟨d.1,d.2.1,d.2.2.1,d.2.2.2.1,toSp5 d.2.2.2.2.1,d.2.2.2.2.2.1,toRws d.2.2.2.2.2.2.1,toRw d.2.2.2.2.2.2.2.1,toRw d.2.2.2.2.2.2.2.2.1⟩
def toFVol(d:CL.cn):uj:=⟨d.1,d.2.1⟩
def toFlt(d:xM.cn):a4:=⟨d.1,(jv (e:=w2) d.2.1).map toLaw,(jv (e:=CI) d.2.2.1).map toFModel,(jv (e:=CD) d.2.2.2.1).map toFDom,(jv (e:=CE) d.2.2.2.2.1).map toFDrv,(jv (e:=y3) d.2.2.2.2.2.1).map toFPol,(jv (e:=CL) d.2.2.2.2.2.2.1).map toFVol⟩
theorem aw0(d:y3.cn):kk y3 d=eR (toFPol d):=by obtain⟨de,k,m,q,a0,hG,hz,aLQ,ah,aG⟩:=d;have B:=Qr hz;show[Value.string de]++([X k]++([X m]++([X q]++(kk WL a0++([aQ ((jv (e:= .int .i64) hG).map (kk (.int .i64))) 1]++([aQ (List.map (kk kv) hz) kv.cells]++(kk kv aLQ++(kk kv ah++[]))))))))=_;rw[B];rfl
theorem aiy(d:xM.cn):kk xM d=bl (toFlt d):=by
  obtain⟨x,bN,hG,ds,bf,en,dh,aG⟩:=d;have B:(jv (e:=w2) bN).map (kk w2)=((jv (e:=w2) bN).map toLaw).map fH:=by rw[Ap];exact uf λy _=>aw1 y
  have H:(jv (e:=CI) hG).map (kk CI)=((jv (e:=CI) hG).map toFModel).map hD:=by rw[Ap];exact uf λy _=>rfl
  have af:(jv (e:=CD) ds).map (kk CD)=((jv (e:=CD) ds).map toFDom).map eL:=by rw[Ap];exact uf λy _=>rfl
  have aL:(jv (e:=CE) bf).map (kk CE)=((jv (e:=CE) bf).map toFDrv).map hO:=by rw[Ap];exact uf λy _=>rfl
  have cm:(jv (e:=y3) en).map (kk y3)=((jv (e:=y3) en).map toFPol).map eR:=by rw[Ap];exact uf λy _=>aw0 y
  have dK:(jv (e:=CL) dh).map (kk CL)=((jv (e:=CL) dh).map toFVol).map iy:=by rw[Ap];exact uf λy _=>rfl
  show[X x]++([aQ ((jv (e:=w2) bN).map (kk w2)) 4]++([aQ ((jv (e:=CI) hG).map (kk CI)) 4]++([aQ ((jv (e:=CD) ds).map (kk CD)) 7]++([aQ ((jv (e:=CE) bf).map (kk CE)) 3]++([aQ ((jv (e:=y3) en).map (kk y3)) 17]++([aQ ((jv (e:=CL) dh).map (kk CL)) 2]++[]))))))=_;rw[B,H,af,aL,cm,dK];rfl
theorem aiM{d:xM.cn}(h:yr xM d):(toFlt d).raw:=by
  obtain⟨_,B,H,af,aL,cm,_⟩:=h;refine⟨λx F=> ?_,λx F=> ?_,λx F=> ?_⟩
  · obtain⟨y,ab,rfl⟩:=iK.1 F;exact aGJ (B.2 y ab)
  · obtain⟨y,ab,rfl⟩:=iK.1 F;obtain⟨_,_,_,_,g,_⟩:=af.2 y ab;exact QC g
  · obtain⟨y,ab,rfl⟩:=iK.1 F;obtain⟨_,_,_,_,_,aj,ba,cD,fs,_⟩:=cm.2 y ab;exact⟨(HJ ba).1,QC cD,QC fs,(HJ ba).2,ad5 (e:= .int .i64) aj⟩
theorem axq(m:E)(fl:List Value)(h:xw m [xM,xM] fl):bU Z 5 fl m λr _=>r= .bool true:=by
  refine aGK (λts bm=> ?_) m fl h;cases bm with
  | @cons _ d _ dh ok M=>
    cases M with
    | @cons _ o4 _ asM aey qm=>cases qm;have e:KI xM d= .agg (bl (toFlt d)).toArray:=(by rw[<-aiy];rfl);have eD:KI xM o4= .agg (bl (toFlt o4)).toArray:=(by rw[<-aiy];rfl);rw[e,eD];exact axr (aiM ok) (aiM aey)
end Go.Proofs.YtkpifdkccdndcaaGreat
namespace Go.Proofs.YtkpifdkccdndcaaGreat.fleetValidateDone
open Go.ChangeShapes Go.WideShapes Go.ChangeAt Go.RowKit
theorem own:ownKnob Tryz.prog.godebug=none:=by kernel_rfl
theorem laidOut:laidOutB Tryz.prog=true:=by kernel_rfl
theorem mixed:Tryz.prog.follows .mixedOrders=true:=by kernel_rfl
set_option maxRecDepth 100000 in
theorem lifted(os:Os)(agF:os.Started)(kt:Type)(enc:TypeId×Value->kt):
    ReturnsInHanded {} Tryz.checked os 5 .any (Rows.fleetValidateSpec.pre6 enc Tryz.prog Tryz.f5 Rows.fleetValidateRow.domain false) (Rows.fleetValidateSpec.post enc Tryz.prog Tryz.f5 false true false false):=by
  refine returnsInHanded_of_change_sized (C:=Tryz.checked) own agF (by kernel_rfl) Tryz.func5
    (ChangeSpec.witness6 (enc:=enc) (C:=Tryz.checked) false ⟨#[],#[.agg #[.int .i64 0,.slice none 0 0,.slice none 0 0,.slice none 0 0,.slice none 0 0,.slice none 0 0,.slice none 0 0],.agg #[.int .i64 0,.slice none 0 0,.slice none 0 0,.slice none 0 0,.slice none 0 0,.slice none 0 0,.slice none 0 0]],[]⟩ 8 (by kernel_rfl) (by kernel_rfl) (by kernel_rfl) (by kernel_rfl)) ?_
  intro db base args ds aja auC akj kT aRL azV _;have q0: ∀(j:Nat) t v,Tryz.f5.params[j]?=some t->args[j]?=some v->Value.okWide Tryz.prog db .any base t v:=akj;have ayy:=kT;obtain⟨p,q,LK,jT,rfl,zf,lp⟩:=kT;have ayX:aja=[]:=(trodVars_none jT).1;have uK: ∀n∈DataW.weightsEach Tryz.prog Tryz.f5.params.toList ds,n<=reachBytes:= λn av=>by have jc:(DataW.weightsEach Tryz.prog (Tryz.f5.params.toList++Rows.fleetValidateSpec.plain.varTypes Tryz.prog) (ds++aja)).all (· <=reachBytes)=true:=azV;have:=hJ.1 jc n (by rw[ayX];simpa[Rows.fleetValidateSpec,ChangeSpec.plain,DataSpec.varTypes]using av);simpa using this
  have lF:DataW.TrodAll enc Tryz.prog db 0 (λ_=>true) true Tryz.f5.params.toList args.toList ds p:=LK;have A1:=Go.DI.aGI (f:=5) (n:=12) mixed (ts:=Tryz.f5.params.toList) (m7:=[xM,xM]) (by kernel_rfl) (λj t v B H=>q0 j t v (by simpa using B) H) lF uK (λm fl h=>axq m fl h);rw[Tryz.params5]at lF q0;obtain⟨ag1,a0s,hN,aQD,po,bn,aRE,rfl,rfl,bH,p2⟩:=trodAll_cons lF;obtain⟨uc,a0t,j5,aQE,ez,bC,rfl,rfl,rfl,B,eT⟩:=trodAll_cons p2;obtain⟨rfl,rfl,rfl⟩:=trodAll_nil eT;obtain rfl:args= #[ag1,uc]:=by cases args;simp_all
  obtain⟨rfl,rfl⟩:=trodVars_none jT;have aHi: ∀x∈po,x.block<db.heap.size:=by obtain⟨m,aN⟩:=bH;exact DataW.trod_lt m _ _ _ aN
  have aHj: ∀x∈ez,x.block<db.heap.size:=by obtain⟨m,aN⟩:=B;exact DataW.trod_lt m _ _ _ aN
  clear LK akj;refine A1.mono λe aNj ⟨a2,WO⟩=> ?_;subst a2;exact⟨_,rfl,_,_,_,[],_,[],ayy,trodAll_mk1 (shut_bool (by kernel_rfl) _),(trodAll_cons_mk (Below.trod laidOut (by kernel_rfl) (of_decide_eq_true (by kernel_rfl)) bH WO aHi) (trodAll_cons_mk (Below.trod laidOut (by kernel_rfl) (of_decide_eq_true (by kernel_rfl)) B WO aHj) trodAll_mk0)),rfl,WO.frame _,λh=>by cases h⟩
theorem over:Rows.fleetValidateRow.holds Tryz.pinned (OpenSpec.ofChange Rows.fleetValidateSpec):=
  OpenClaim.holds_of_wide 5 Tryz.f5 rfl rfl rfl rfl rfl rfl rfl ⟨rfl,rfl,rfl,rfl,rfl⟩ rfl rfl rfl rfl rfl (by kernel_rfl) Tryz.func5 (by kernel_rfl)
    (of_decide_eq_true (by kernel_rfl)) (by unfold Func.isWrapper;first|(rw[if_pos (by decide+kernel)];kernel_rfl)|(rw[if_neg (by decide+kernel)];exact⟨rfl,rfl⟩))
    (λos agF kt enc _=>lifted os agF kt enc)
theorem proved:Rows.FleetValidateSaid:=over
#print axioms proved
end Go.Proofs.YtkpifdkccdndcaaGreat.fleetValidateDone
