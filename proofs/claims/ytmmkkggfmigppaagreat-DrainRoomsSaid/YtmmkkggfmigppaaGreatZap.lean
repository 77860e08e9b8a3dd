/-
  A part of the proof of the statement, in texts that tools of ours (wip/shrink.py, irpack.py, relax.py, minify.py, join.py, lay.py) have shortened.
-/
import Derived.Test.YtmmkkggfmigppaaGreatZao
set_option linter.all false
set_option maxRecDepth 8000
set_option maxHeartbeats 16000000
namespace Go.Proofs.YtmmkkggfmigppaaGreat
open Go Go.DI Go.Big
def ve(aX:Int)(R:List Int):Prop:= ∀y∈R,0<=y/\y<=aX
theorem ve.set{aX:Int}{R:List Int}(h:ve aX R){k:Nat}{y:Int}(ag:0<=y/\y<=aX):ve aX (R.set k y):= λx G=>by
  rcases List.mem_or_eq_of_mem_set G with q|q
  · exact h x q
  · rw[q];exact ag
theorem awQ{l:List Int}(aD:l.length<=140737488355328){n:Nat}(au:n<=1000){aX:Int}(cK:0<=aX/\aX<=900000): ∀(r k:Nat) (R:List Int) (i:Nat),k+r=n->R.length=n->ve aX R->i+2*r+10<1000000->
    ∃ (vg:List Int) (dc:Nat),vg.length=n/\ve aX vg/\dc<=i+2*r/\ ∀(z:aM) (t:W) (Q:du->aM->W->Prop) (pH:Nat),z 0=cF 0->z 5=ee pH n 1->z 6=Z k->
      t.X 0=some ⟨[cn l,Z i],true⟩->t.X pH=some ⟨R.map Z,true⟩->pH≠0->
      (∀ae aJ,ae 5=ee pH n 1->aJ.X 0=some ⟨[cn l,Z dc],true⟩->aJ.X pH=some ⟨vg.map Z,true⟩->Q (.bh 0) ae aJ)->fl al (.loop CK) z t Q:=by
  intro r;induction r with
  | zero=>intro k R i aa iA ao ak;refine⟨R,i,iA,ao,by omega,λz t Q pH cX ct fu aO iU g7 bT=> ?_⟩;refine eu (aB:=⟨[],[iY]⟩) λcx bk=> ?_;have c: ¬(k:Int)<n:=(by omega);simp(disch:=first|omega|simp only[DI.ab];omega) [CK,G1,ct,fu,c,-O,-U,-N,-S,-List.map_map];exact bT _ _ (by simp[ct]) aO iU
  | succ r cc=>
    intro k R i aa iA ao ak;have Xj:k<R.length:=(by omega);obtain⟨x,G⟩:=jz Xj;have e8:=(eB.1 G).2;have aEW:=ao x (by rw[<-e8];exact nv Xj);have c:(k:Int)<n:=(by omega);have c3:=g3 (n:=k) (by omega);have e3:IntKind.i64.wrap (x+1)=x+1:=fx (by omega) (by omega);have A0:((i:Int)+1).toNat=i+1:=(by omega);have ajt:((R.map Z).drop k).take 1=[Z x]:=by rw[List.drop_eq_getElem_cons (by simp;omega)];simp[e8]
    by_cases jT:e9 l i 9=0
    · obtain⟨vg,dc,dk,ev,gG,gH⟩:=cc (k+1) (R.set k 0) (i+1) (by omega) (by simp[iA]) (ao.set (by omega)) (by omega);refine⟨vg,dc,dk,ev,by omega,λz t Q pH cX ct fu aO iU g7 bT=> ?_⟩;refine eu (aB:=⟨[],[iY]⟩) λcx bk=> ?_;have fW:=bn aO;have ta:=bn iU;have tf: ¬0=pH:= λe=>g7 e.symm;have eS:(R.map Z).length=n:=(by simp[iA]);simp(disch:=first|omega|simp only[DI.ab];omega) [CK,G1,cX,ct,fu,aO,iU,c,jT,c3,lb,eS,-O,-U,-N,-S,-List.map_map];refine⟨by omega,bk _ _ (gH _ _ Q pH (by simp[cX]) (by simp[ct]) (by simp) ?_ ?_ g7 bT)⟩
      · rw[bW tf,ej (by omega)];simp
      · rw[ej (by simp;omega),List.map_set]
    · by_cases ch:e9 l i 9=1
      · have fL:=kz (l:=l) (i:=i+1) (n:=x+1) (by omega);obtain⟨vg,dc,dk,ev,gG,gH⟩:=cc (k+1) (R.set k (e9 l (i+1) (x+1))) (i+2) (by omega) (by simp[iA]) (ao.set (by omega)) (by omega);refine⟨vg,dc,dk,ev,by omega,λz t Q pH cX ct fu aO iU g7 bT=> ?_⟩;refine eu (aB:=⟨[],[iY]⟩) λcx bk=> ?_;have fW:=bn aO;have ta:=bn iU;have tf: ¬0=pH:= λe=>g7 e.symm;have eS:(R.map Z).length=n:=(by simp[iA]);simp(disch:=first|omega|simp only[DI.ab];omega) [CK,G1,cX,ct,fu,aO,iU,c,ch,c3,e3,A0,lb,eS,ajt,-O,-U,-N,-S,-List.map_map];refine⟨by omega,bk _ _ (gH _ _ Q pH (by simp[cX]) (by simp[ct]) (by simp) ?_ ?_ g7 bT)⟩
        · rw[bW tf,ej (by omega)];simp;omega
        · rw[ej (by simp;omega),List.map_set]
      · obtain⟨vg,dc,dk,ev,gG,gH⟩:=cc (k+1) R (i+1) (by omega) iA ao (by omega);refine⟨vg,dc,dk,ev,by omega,λz t Q pH cX ct fu aO iU g7 bT=> ?_⟩;refine eu (aB:=⟨[],[iY]⟩) λcx bk=> ?_;have fW:=bn aO;have ta:=bn iU;have tf: ¬0=pH:= λe=>g7 e.symm;have eS:(R.map Z).length=n:=(by simp[iA]);simp(disch:=first|omega|simp only[DI.ab];omega) [CK,G1,cX,ct,fu,aO,c,jT,ch,c3,lb,-O,-U,-N,-S,-List.map_map];refine bk _ _ (gH _ _ Q pH (by simp[cX]) (by simp[ct]) (by simp) ?_ ?_ g7 bT)
        · rw[ej (by omega)];simp
        · rw[bW g7];exact iU
theorem awW{u:bm}(h:fT u)(aEQ:1<=u.a5.length):fA al 52 [.agg (aU u).toArray,.slice none 0 0] g6 λv bF=> ∃o,v=ee o u.a5.length 1/\bF.X o=some ⟨(pI u []).map Z,true⟩:=by
  refine dM (aB:=⟨[AM u h.fD],[]⟩) RJ (by kernel_rfl) (by simp[CF]) ?_;have ad:=h.ok.yz;have kt:=h.ok.mh;simp(disch:=first|omega|simp only[DI.ab];omega) [CF,RI,RK,RL,RM,RN,aU,ad,-O,-U,-N,-S,-List.map_map];refine yB (d:=5) (I:=1) (by simp) ?_;refine h4 (aB:=⟨[AM u h.fD],[]⟩) (λi z t=>t.X 0=some ⟨aU u,true⟩/\(∃o,o≠0/\z 5=ee o i 1/\t.X o=some ⟨jd i (λj=>Z (lF u [] j)),true⟩)/\z 1= .slice none 0 0/\z 2=cF 0/\z 6=Z i) u.a5.length ?_ ?_ 0 _ _ (hx _) ⟨by simp(disch:=first|omega|simp only[DI.ab];omega) [aU,-O,-U,-N,-S,-List.map_map],⟨2,by decide,by simp,by simp(disch:=first|omega|simp only[DI.ab];omega) [jd,-O,-U,-N,-S,-List.map_map]⟩,by simp,by simp,by simp⟩
  · rintro i z t ak ⟨aO,⟨o,aC,ct,bd⟩,bl,eU,fu⟩ cx bk;obtain⟨x,G⟩:=jz ak;have e8:=(eB.1 G).2;obtain⟨bw,bJ,cb,eI,fm⟩:=h.ok.yR i x G;obtain⟨m,av⟩:=k1 bw;have vC:m<u.bf.length:=(by omega);obtain⟨y,ag⟩:=jz vC;have zw:=(eB.1 ag).2;have gQ:rE u i=y.ext:=(by simp only[rE,G,av,pR,ag]);have hb:=h.ok.MD m y ag;have bY:(i:Int)<u.a5.length:=(by omega);have a3:(m:Int)<u.bf.length:=(by omega);have n1:i+1<=u.a5.length:=ak;have bZ:=g3 (n:=i) (by omega);have fW:=bn aO;have cp:=bn bd;have fO:(i+1)*8<=140737488355328/\i<=9223372036854775806:=(by omega);have sR: ¬(0:Int)=u.a5.length:=(by omega);have Kb: ¬u.a5.length=0:=(by omega);have aEU: ¬0=u.a5.length:=(by omega);have XB: ¬u.a5=[]:= λe=>by rw[e]at Kb;exact Kb rfl
    have vF:lF u [] i=y.ext:=(by unfold lF;rw[if_neg (by simp;omega),gQ]);simp(disch:=first|omega|simp only[DI.ab];omega) [CI,CG,CH,aU,gp,gO,bl,eU,ct,fu,aO,bd,bY,a3,bZ,e8,av,zw,sR,fO,-O,-U,-N,-S,-List.map_map];refine bk _ _ ⟨by simp(disch:=first|omega|simp only[DI.ab];omega) [aO,aU,-O,-U,-N,-S,-List.map_map],⟨t.next+3,by omega,by simp,?_⟩,by simp[bl],by simp[eU],by simp⟩;rw[ej (by simp),jh (by simp),Tb,vF]
  · rintro z t ⟨aO,⟨o,aC,ct,bd⟩,bl,eU,fu⟩;have fW:=bn aO;simp(disch:=first|omega|simp only[DI.ab];omega) [CI,CG,CH,aU,aO,eU,ct,fu,-O,-U,-N,-S,-List.map_map];rw[bd,HS,Dp]
noncomputable def P6(u:bm)(h:fT u)(au:1<=u.a5.length):iQ al:= .EO 52 Unit (λ_=>True) (λ_=>[.agg (aU u).toArray,.slice none 0 0]) (λ_=>u.a5.length) (λ_=>1) (λ_=>(pI u []).map Z) λ_ _=>NT (λv ad=>by simp at ad;rcases ad with rfl|rfl<;>rfl) Qb (awW h au)
@[simp] theorem aE5{u:bm}{h:fT u}{au:1<=u.a5.length}:(P6 u h au).f=52:=rfl
@[simp] theorem aE6{u:bm}{h:fT u}{au:1<=u.a5.length}{t:W}:(P6 u h au).fn [.agg #[Z u.ext,aw (u.cH.map gZ) 4,aw (u.bf.map gO) 4,aw (u.a1.map ef) 7,aw (u.a5.map gp) 3,aw (u.cI.map fi) 17,aw (u.cM.map hQ) 2],.slice none 0 0] t=some (.slice (some ⟨t.next,0,none⟩) u.a5.length 1,(t.dp 1).a0 t.next (some ⟨(pI u []).map Z,true⟩)):=iQ.OU (x:=()) trivial λy ag=>rfl
theorem awP{u:bm}(h:fT u):ve 16 (pI u []):= λy ag=>by
  unfold pI at ag;obtain⟨d,ay,rfl⟩:=g4.1 ag;have xo:d<u.a5.length:=qz.1 ay;have XB: ¬([]:List Int).length=u.a5.length:=by simp;omega
  simp only[if_neg XB];obtain⟨x,G⟩:=jz xo;obtain⟨bw,bJ,cb,eI,fm⟩:=h.ok.yR d x G;obtain⟨m,av⟩:=k1 bw;have vC:m<u.bf.length:=by omega
  obtain⟨y,ag⟩:=jz vC;have gQ:rE u d=y.ext:=by simp only[rE,G,av,pR,ag]
  have hb:=h.ok.MD m y ag;omega
theorem awO{u:bm}:(pI u []).length=u.a5.length:=by unfold pI;simp
theorem awU{l:List Int}(aD:l.length<=140737488355328){i:Nat}(ak:i<600000){u:bm}(h:fT u)(kt:1<=u.a5.length): ∃R dc,R.length=u.a5.length/\ve 16 R/\dc<=i+2*u.a5.length/\fA al 61 [cF 0,.agg (aU u).toArray] (mJ l i) λv aJ=>DI.dO 9 aJ v=some (cn R)/\aJ.X 0=some ⟨[cn l,Z dc],true⟩/\0∉DI.ed 9 aJ v:=by
  have ajL:=h.ok.mh;obtain⟨R,dc,dk,ev,gG,gH⟩:=awQ (l:=l) aD (n:=u.a5.length) (by omega) (aX:=16) (by omega) u.a5.length 0 (pI u []) i (by omega) awO (awP h) (by omega);refine⟨R,dc,dk,ev,gG,?_⟩;refine dM (aB:=⟨[],[iY,P6 u h kt]⟩) asf (by kernel_rfl) (by simp[RZ]) ?_;simp(disch:=first|omega|simp only[DI.ab];omega) [RZ,acw,acx,acy,acz,mJ,aU,-O,-U,-N,-S,-List.map_map];refine gH _ _ _ 3 (by simp) (by simp) (by simp) ?_ ?_ (by decide) λbI bF ct aO aQ=> ?_
  · rw[bW (by decide),e6 (by simp[g6]),bW (by decide),e6 (by simp[g6]),ej (by simp[g6])]
  · exact ej (by simp[g6])
  simp(disch:=first|omega|simp only[DI.ab];omega) [ct,-O,-U,-N,-S,-List.map_map];have e:(R.map Z)=(R.map λx=>[Z x]).flatten:=qZ.symm;rw[e]at aQ;refine⟨?_,aO,MX aQ sZ (by decide)⟩;have:=sG (n:=8) (t:=bF) (l:=u.a5.length) aQ (by simp[dk]) sZ;exact this
open Classical in
noncomputable def z5(f:Nat)(args cs kb:List Value)(r:Value)(ok: ∀(t:W) (o:Nat),t.X o=some ⟨cs,true⟩->fA al f (.pointer (some ⟨o,0,none⟩)::args) t λv aJ=>v=r/\aJ=t.a0 o (some ⟨kb,true⟩)):iQ al:=
  ⟨f,λaf1 t=>if h: ∃o,Value.pointer (some ⟨o,0,none⟩)::args=af1/\t.X o=some ⟨cs,true⟩then some (r,t.a0 h.choose (some ⟨kb,true⟩))else none,λaf1 t dV aJ h cd jB=>by
    split at h
    · next G=>cases h;have:=ok t _ G.choose_spec.2;rw[G.choose_spec.1]at this;exact this.b6 λv aJ ⟨a,b⟩=>by rw[a,b];exact jB
    · cases h⟩
theorem atH{f:Nat}{args cs kb:List Value}{r:Value}{ok: ∀(t:W) (o:Nat),t.X o=some ⟨cs,true⟩->fA al f (.pointer (some ⟨o,0,none⟩)::args) t λv aJ=>v=r/\aJ=t.a0 o (some ⟨kb,true⟩)}{t:W}{o:Nat}(h:t.X o=some ⟨cs,true⟩):
    (z5 f args cs kb r ok).fn (.pointer (some ⟨o,0,none⟩)::args) t=some (r,t.a0 o (some ⟨kb,true⟩)):=by
  have gQ: ∃q,Value.pointer (some ⟨q,0,none⟩)::args=Value.pointer (some ⟨o,0,none⟩)::args/\t.X q=some ⟨cs,true⟩:=⟨o,rfl,h⟩;have e:gQ.choose=o:=by have:=gQ.choose_spec.1;simpa using this
  simp only[z5,dif_pos gQ];rw[e]
theorem DO{l:List Int}{i:Nat}: ∀v∈[cn l,Z i],gN v=true:= λv ad=>by simp at ad;rcases ad with rfl|rfl<;>rfl
theorem ais{l:List Int}(aD:l.length<=140737488355328){i:Nat}(ak:i<500000){kl:Int}(BJ:kl<=100): ∃u dc,IS u kl/\dc<=i+200/\ ∀(t:W) (o:Nat),t.X o=some ⟨[cn l,Z i],true⟩->fA al 60 [cF o,Z kl] t λv aJ=>v= .agg (aU u).toArray/\aJ=t.a0 o (some ⟨[cn l,Z dc],true⟩):=by obtain⟨u,dc,a,b,c⟩:=ait aD ak BJ;exact⟨u,dc,a,b,λt o aC=>UE (by simp) (by simp) DO DO (λv ad=>by simp at ad;subst ad;rfl) c aC⟩
theorem auB{l:List Int}(aD:l.length<=140737488355328){i:Nat}(ak:i<600000){u:bm}(h:fT u)(kt:1<=u.a5.length): ∃L dc,L.length=u.cM.length/\wZ u L/\dc<=i+20*u.cM.length/\ ∀(t:W) (o:Nat),t.X o=some ⟨[cn l,Z i],true⟩->fA al 48 [cF o,.agg (aU u).toArray] t λv aJ=>v=pf L/\aJ=t.a0 o (some ⟨[cn l,Z dc],true⟩):=by obtain⟨L,dc,a,b,ca,c⟩:=auC aD ak h kt;exact⟨L,dc,a,b,ca,λt o aC=>UE (by simp) (by simp) DO DO (λv ad=>by simp at ad;subst ad;rfl) c aC⟩
theorem awT{l:List Int}(aD:l.length<=140737488355328){i:Nat}(ak:i<600000){u:bm}(h:fT u)(kt:1<=u.a5.length): ∃R dc,R.length=u.a5.length/\ve 16 R/\dc<=i+2*u.a5.length/\ ∀(t:W) (o:Nat),t.X o=some ⟨[cn l,Z i],true⟩->fA al 61 [cF o,.agg (aU u).toArray] t λv aJ=>v=cn R/\aJ=t.a0 o (some ⟨[cn l,Z dc],true⟩):=by obtain⟨R,dc,a,b,ca,c⟩:=awU aD ak h kt;exact⟨R,dc,a,b,ca,λt o aC=>UE (by simp) (by simp) DO DO (λv ad=>by simp at ad;subst ad;rfl) c aC⟩
open Go Go.DI
def ZQ:J:= .B (.F [b2 0 15 7 5,A 1 16 6,A 2 17 4,b2 3 18 7 5,A 6 21 4,iv 4 19 (.dm 61 [E 17,E 18]) [(E 5,E 5)],a2 5 20 (.eY [aP,aG,aG,aG,aG,aG,aG,aG,aG] [(0,7,E 15),(7,1,E 16),(8,1,E 19)]),b4 7 9 2 20,A 8 3 21]) (.aI)
def ZP:J:= .B (.F [A 0 12 4,b2 1 13 7 5,dr 2 14 48 12 13,A 3 6 14]) ZQ
def ZO:J:= .B (.F [A 0 10 4,kP 1 11 60 10 3,a2 2 5 (.dz [aP,aG,aG,aG,aG,aG,aG]),b4 3 7 5 11]) ZP
def ZN:J:= .B (.F [A 0 7 0,a2 1 8 (.eY [aG,aP] [(0,1,E 7)]),dT 2 9 8,A 3 4 9]) ZO
def ZM:J:=
  .B (
  .F [
 a2 0 2 (.dz [aP,aG,aG,aG,aG,aG,aG,aG,aG]),
 a2 1 3 (.nf (.const (.pointer none)))]) ZN
def QQ:bU:=⟨22,[.hZ 2 true 9,.bL 3],ZM⟩
theorem an9:b3 al 18=some QQ:=by kernel_rfl
@[simp] theorem aGm{f:Nat}{args cs kb:List Value}{r:Value}{ok: ∀(t:W) (o:Nat),t.X o=some ⟨cs,true⟩->fA al f (.pointer (some ⟨o,0,none⟩)::args) t λv aJ=>v=r/\aJ=t.a0 o (some ⟨kb,true⟩)}:(z5 f args cs kb r ok).f=f:=rfl
theorem Uk{f:Nat}{args cs kb:List Value}{r:Value}{ok: ∀(t:W) (o:Nat),t.X o=some ⟨cs,true⟩->fA al f (.pointer (some ⟨o,0,none⟩)::args) t λv aJ=>v=r/\aJ=t.a0 o (some ⟨kb,true⟩)}{t:W}{o:Nat}(h:t.X o=some ⟨cs,true⟩){k:Value->W->Prop}(aa:k r (t.a0 o (some ⟨kb,true⟩))):
    Uj ((z5 f args cs kb r ok).fn (.pointer (some ⟨o,0,none⟩)::args) t) k:=by
  rw[atH h];exact aa
theorem au5{l:List Int}(aD:l.length<=140737488355328): ∃(u:bm) (L:List (List Int)) (R:List Int) (i:Nat),IS u 3/\L.length=u.cM.length/\wZ u L/\R.length=u.a5.length/\ve 16 R/\i<=1000/\ ∀t:W,fA al 18 [cn l] t λv aJ=>v= .tuple #[.agg (aU u++[pf L,cn R]).toArray,cF (t.next+4)]/\aJ.X (t.next+4)=some ⟨[cn l,Z i],true⟩:=by
  obtain⟨u,ku,bw,bJ,ag5⟩:=ais (l:=l) aD (i:=0) (by decide) (kl:=3) (by decide);have a6:=adC bw (by decide);have kt:1<=u.a5.length/\u.a5.length<=9:=bw.mh;have J8:=a6.ok.wg;obtain⟨L,lx,dk,ev,gG,ahp⟩:=auB (l:=l) aD (i:=ku) (by omega) a6 kt.1;obtain⟨R,P5,ch,c6,iq,ahS⟩:=awT (l:=l) aD (i:=lx) (by omega) a6 kt.1;refine⟨u,L,R,P5,bw,dk,ev,ch,c6,by omega,λt=> ?_⟩;refine dM (aB:=⟨[],[z5 60 [Z 3] _ _ _ ag5,z5 48 [.agg (aU u).toArray] _ _ _ ahp,z5 61 [.agg (aU u).toArray] _ _ _ ahS]⟩) an9 (by kernel_rfl) (by simp[QQ]) ?_;simp(disch:=first|omega|simp only[DI.ab];omega) [QQ,ZM,ZN,ZO,ZP,ZQ,-O,-U,-N,-S,-List.map_map];refine Uk (by simp(disch:=first|omega|simp only[DI.ab];omega) [-O,-U,-N,-S,-List.map_map]) ?_;have fB:(aU u).length=7:=rfl;have hb:gy [Value.int IntKind.i64 0,Value.slice none 0 0,Value.slice none 0 0,Value.slice none 0 0,Value.slice none 0 0,Value.slice none 0 0,Value.slice none 0 0] 0 (aU u)=aU u:=by simp[gy,aU]
  have bt:List.take 7 (aU u)=aU u:=rfl;simp(disch:=first|omega|simp only[DI.ab];omega) [fB,hb,bt,-O,-U,-N,-S,-List.map_map];refine Uk (by simp(disch:=first|omega|simp only[DI.ab];omega) [-O,-U,-N,-S,-List.map_map]) ?_;simp(disch:=first|omega|simp only[DI.ab];omega) [fB,bt,-O,-U,-N,-S,-List.map_map];refine⟨by simp[aU],Uk (by simp(disch:=first|omega|simp only[DI.ab];omega) [V5,-O,-U,-N,-S,-List.map_map]) ?_⟩;simp(disch:=first|omega|simp only[DI.ab];omega) [adl,-O,-U,-N,-S,-List.map_map];exact⟨by simp[gy,aU],by simp[gy,aU],by simp[gy,aU]⟩
def U0(m:W)(v:Value)(l:List Int):Prop:=(v= .slice none 0 0/\l=[])\/ ∃b o cs w,v= .slice (some ⟨b,o,none⟩) l.length 1/\m.X b=some ⟨cs,w⟩/\(cs.drop o).take l.length=l.map Z/\o+l.length<=cs.length
theorem ahJ{m:W}{bo:Value}{l:List Int}(aS:U0 m bo l)(aD:l.length<=1000000):gd al 71 [bo] m λr an=>m.next<=an.next/\(∀b,b<m.next->an.X b=m.X b/\an.mp b=m.mp b)/\
    ((l.length=0/\l.map Z=[]/\r= .slice none 0 0)\/ ∃q,m.next<=q/\q<an.next/\r= .slice (some ⟨q,0,none⟩) l.length 1/\an.X q=some ⟨l.map Z,true⟩):=by
  rcases aS with⟨rfl,rfl⟩|⟨b,o,cs,w,rfl,H,aq,aE⟩
  · rw[VJ (by simp)];simp(disch:=first|omega|simp only[aW];omega) [Hd,LY,LZ]
  · have ek:=W.bn H;rw[VJ (by simp)];by_cases cR:l.length=0
    · obtain rfl:=pO.1 cR;simp(disch:=first|omega|simp only[aW];omega) [Hd,LY,LZ,H];refine⟨by simpa using aE,λca fN=>⟨by simp(disch:=first|omega|simp only[aW];omega),rfl⟩,⟨m.next,by omega,by omega,rfl,by simp(disch:=first|omega|simp only[aW];omega)⟩⟩
    · simp(disch:=first|omega|simp only[aW];omega) [Hd,LY,LZ,H,cR];refine⟨⟨⟨aE,by omega⟩,by omega⟩,λca fN=>⟨by simp(disch:=first|omega|simp only[aW];omega),rfl⟩,m.next+2,by omega,by omega,rfl,by simp(disch:=first|omega|simp only[aW];omega) [aq]⟩
def tR(t:W)(v:Value)(l:List Int):Prop:=kB t 1 v=true/\k5 t 1 v=l.map Z
theorem akz: ∀{l:List Int} {u:fz} {K:eC} {ys:List Value},bj u K (l.map Z) ys->ys=l.map Z:= λ{l u K ys} h=>by
  apply Be;intro i;cases G:(l.map Z)[i]? with
  | none=>have:=List.getElem?_eq_none_iff.1 G;rw[pP (by rw[<-h.1];exact this)]
  | some x=>have ak:=(eB.1 G).1;obtain⟨y,ag⟩: ∃y,ys[i]?=some y:=⟨_,dD (by rw[<-h.1];exact ak)⟩;have ad:=h.2 i x y G ag;rw[qy,rn]at G;obtain⟨n,_,rfl⟩:=G;rw[ag,ad.qe]
theorem tR.at{K:eC}{u:fz}{t m:W}{v bo:Value}{l:List Int}(h:tR t v l)(M:dN K u t m)(ad:bV u K v bo):U0 m bo l:=by
  have D:=Ij M ad h.1;have H:=Jo M ad h.1;rw[h.2]at H;have aq:=akz H;rcases AV D with rfl|⟨b,off,len,x,rfl,G,e7⟩
  · refine .inl ⟨rfl,?_⟩;have:=congrArg List.length aq;simp[fZ]at this;exact pO.1 this.symm
  · have ar:fZ m 1 (.slice (some ⟨b,off,none⟩) len 1)=(x.cells.drop off).take len:=(by simp[fZ,hk,G]);rw[ar]at aq;have eS:len=l.length:=by
      have:=congrArg List.length aq;rw[oZ,List.length_drop,jg]at this;omega
    subst eS;exact .inr ⟨b,off,x.cells,x.own,rfl,G,aq,by omega⟩
theorem tR.inj{t:W}{v:Value}{l de:List Int}(h:tR t v l)(bN:tR t v de):l=de:=by have:=h.2.symm.trans bN.2;exact List.map_inj_right (λa b e=>by simpa using e)|>.1 this
theorem tR.nil{t:W}:tR t (.slice none 0 0) []:=⟨rfl,rfl⟩
theorem tR.own{t:W}{o off n:Nat}{cs:List Value}{w:Bool}{l:List Int}(h:t.X o=some ⟨cs,w⟩)(au:off+n<=cs.length)(aD:(cs.drop off).take n=l.map Z):tR t (.slice (some ⟨o,off,none⟩) n 1) l:=
  ⟨by simp[kB,hD,fP,h,au],by simp[k5,hD,fZ,hk,h,aD]⟩
theorem ahK{t:W}{v:Value}{l:List Int}(h:tR t v l)(aD:l.length<=1000000):fA al 71 [v] t λr aJ=>r=ee t.next l.length 1/\aJ=(t.dp 1).a0 t.next (some ⟨l.map Z,true⟩):=
  azu (by simp[dQ]) λK u e2 m M ax=>by obtain⟨bo,rfl,ad⟩:=ax.ni;exact ahJ (h.at M ad) aD
def FF(l:List Value):Option (List Int):=match l with
  |[]=>some []
  | .int .i64 n::l=>(match FF l with
    |some k=>some (n::k)
    |none=>none)
  |_=>none
theorem X3: ∀{cs:List Value} {l:List Int},FF cs=some l->cs=l.map Z
  |[],l,h=>by cases h;rfl
  | .int .i64 n::cs,l,h=>by
    simp only[FF]at h;cases aa:FF cs with
    |none=>rw[aa]at h;cases h
    |some k=>rw[aa]at h;cases h;rw[X3 aa];rfl
def V0(k:Nat):lH:= λf args ah=>bif Nat.beq f k then(match args with
  | [v]=>if kB (cv ah) 1 v then(match FF (k5 (cv ah) 1 v)with
    | some l=>if Nat.ble l.length 1000000 then(match nK (Bs ah 1) ah.next (some ⟨l.map Z,true⟩)with
      |some cT=>some (ee ah.next l.length 1,cT)
      |none=>none)else none
    |none=>none)else none
  |_=>none)else none
theorem Js:qA al (V0 71):= λf args ah r cg aZ h=>by
  unfold V0 at h;cases hb:Nat.beq f 71 with
  |false=>rw[hb]at h;cases h
  | true=>
    rw[hb]at h;simp only[cond_true]at h;obtain rfl:=Nat.eq_of_beq_eq_true hb;split at h
    · next v=>
      split at h
      · next ao=>
        split at h
        · next l aD=>
          split at h
          · next au=>
            split at h
            · next cT rM=>cases h;obtain⟨c3,aK⟩:=ye (afS aZ) rM;rw[adP aZ]at aK;refine⟨c3,?_⟩;rw[aK];exact ahK ⟨ao,X3 aD⟩ (by simpa using au)
            · cases h
          · cases h
        · cases h
      · cases h
    · cases h
theorem aiL{t:W}:fA al 117 [.slice none 0 0,Z 0] t λv bF=>v= .slice none 0 0/\bF=t:=by refine dM (aB:=⟨[],[]⟩) Qu (by kernel_rfl) (by simp[Ca]) ?_;have bZ:IntKind.i64.wrap 0=0:=fx (by omega) (by omega);simp(disch:=first|omega|simp only[DI.ab];omega) [Ca,Qt,Qv,Qw,Qx,Qy,bZ,xW,-O,-U,-N,-S,-List.map_map]
theorem aiM{n:Nat}(au:n<=1000000)(c:0<n):fA al 117 [.slice none 0 0,Z n] g6 λv bF=> ∃o,v=ee o 0 1/\bF.X o=some ⟨List.replicate n (Z 0),true⟩:=by
  refine dM (aB:=⟨[],[]⟩) Qu (by kernel_rfl) (by simp[Ca]) ?_;have bZ:IntKind.i64.wrap 0=0:=fx (by omega) (by omega);have c3:IntKind.i64.wrap (n:Int)=n:=fx (by omega) (by omega);have ch:(0:Int)<n:=by omega
  have c6:(n:Int)*8<=140737488355328/\(n:Int)<=9223372036854775807:=by omega
  simp(disch:=first|omega|simp only[DI.ab];omega) [Ca,Qt,Qv,Qw,Qx,Qy,bZ,c3,c,c6,xW,-O,-U,-N,-S,-List.map_map]
noncomputable def E2(n:Nat)(t:W):Option (Value×W):=if n=0 then some (.slice none 0 0,t)else if n<=1000000 then some (ee t.next 0 1,(t.dp 1).a0 t.next (some ⟨List.replicate n (Z 0),true⟩))else none
noncomputable def BX:iQ al:= .dR 117 Nat (λn=>[.slice none 0 0,Z n]) E2 λn t r aJ h cd jB=>by
  unfold E2 at h;split at h
  · next c=>cases h;subst c;exact aiL.b6 λv aJ ⟨a,b⟩=>by rw[a,b];exact jB
  · split at h
    · next c c6=>cases h;exact(NT (λv ad=>by simp at ad;rcases ad with rfl|rfl<;>rfl) (λv ad=>by rw[(List.mem_replicate.1 ad).2];rfl) (aiM c6 (by omega)) t).b6 λv aJ ⟨a,b⟩=>by rw[a,b];exact jB
    · cases h
@[simp] theorem aE0:BX.f=117:=rfl
@[simp] theorem akt{n:Nat}{t:W}:BX.fn [.slice none 0 0,.int .i64 n] t=E2 n t:=iQ.eH (x:=n) (t:=t) λy ag=>by simp at ag;omega
theorem NC{eb:List (List Int)}{i:Nat}{r:List Int}(G:eb[i]?=some r):(eb.take (i+1)).flatten=(eb.take i).flatten++r:=by rw[u3,G];simp
theorem ahR{eb:List (List Int)}(D:eb.length<=1000)(H:eb.flatten.length<=1000000):fA al 68 [pf eb] g6 λv bF=> ∃o,v=ee o eb.flatten.length 1/\bF.X o=some ⟨eb.flatten.map Z,true⟩:=by
  refine dM (aB:=⟨[],[BX]⟩) acV (by kernel_rfl) (by simp[LQ]) ?_;have e7: ∀i,(eb.take i).flatten.length<=eb.flatten.length:= λi=>by have:=congrArg List.flatten (List.take_append_drop i eb);rw[List.flatten_append]at this;rw[<-this,jI];omega
  simp(disch:=first|omega|simp only[DI.ab];omega) [LQ,acU,acW,acX,-List.length_flatten,-List.map_flatten,-List.map_take,-O,-U,-N,-S,-List.map_map];refine h4 (aB:=⟨[],[BX]⟩) (λi z t=>t=g6/\z 0=pf eb/\z 3=Z (eb.take i).flatten.length/\z 9=pf eb/\z 10=Z eb.length/\z 11=Z i) eb.length ?_ ?_ 0 _ _ (hx _) ⟨by simp,by simp,by simp,by simp,by simp,by simp⟩
  · rintro i z t ak ⟨bt,cX,dJ,gD,j1,pJ⟩ cx bk;have G:eb[i]?=some eb[i]:=dD ak;have n1:=e7 (i+1);have e:(eb.take (i+1)).flatten.length=(eb.take i).flatten.length+eb[i].length:=(by rw[NC G,jI]);have bZ:=g3 (n:=i) (by omega);have c3:IntKind.i64.wrap (((eb.take i).flatten.length:Int)+eb[i].length)=((eb.take i).flatten.length:Int)+eb[i].length:=fx (by omega) (by omega);have bY:(i:Int)<eb.length:=(by omega);have a3: ¬((eb.take i).flatten.length:Int)+eb[i].length<0:=(by omega);simp(disch:=first|omega|simp only[DI.ab];omega) [LV,CT,CU,CV,CW,CX,CY,LS,dJ,gD,j1,pJ,bY,a3,bZ,c3,lS,-List.length_flatten,-O,-U,-N,-S,-List.map_map];exact bk _ _ ⟨bt,by simp[cX],by rw[e];simp[-List.length_flatten],by simp[gD],by simp[j1],by simp⟩
  · rintro z t ⟨bt,cX,dJ,gD,j1,pJ⟩;subst bt;rw[kj]at dJ;have key: ∀(z:aM) (t:W) (o:Nat) (cs:List Value),z 6=ee o 0 1->t.X o=some ⟨cs,true⟩->z 25=pf eb->z 26=Z eb.length->z 27=Z 0-> ∀Q:du->aM->W->Prop,(cs.length=0\/0<eb.flatten.length)->(∀ae aJ o',ae 6=ee o' eb.flatten.length 1->aJ.X o'=some ⟨eb.flatten.map Z,true⟩->Q (.bh 2) ae aJ)->fl al (.loop Ha) z t Q:=by
      intro z t o cs fu bd sb yi Ds Q cR bT;refine h4 (aB:=⟨[],[BX]⟩) (λi z t=>(∃o cs,z 6=ee o (eb.take i).flatten.length 1/\t.X o=some ⟨cs,true⟩/\cs.take (eb.take i).flatten.length=(eb.take i).flatten.map Z/\(cs.length=(eb.take i).flatten.length\/((eb.take i).flatten.length=0/\0<eb.flatten.length)))/\z 25=pf eb/\z 26=Z eb.length/\z 27=Z i) eb.length ?_ ?_ 0 _ _ (hx _) ⟨⟨o,cs,by simp[fu],bd,by simp,by simpa using cR⟩,sb,yi,Ds⟩
      · rintro i z t ak ⟨⟨o,cs,fu,bd,iL,Pq⟩,sb,yi,Ds⟩ cx bk;have G:eb[i]?=some eb[i]:=dD ak;have n1:=e7 (i+1);have e:(eb.take (i+1)).flatten.length=(eb.take i).flatten.length+eb[i].length:=(by rw[NC G,jI]);have bZ:=g3 (n:=i) (by omega);have bY:(i:Int)<eb.length:=(by omega);have cp:=bn bd;have fO:((eb.take i).flatten.length+eb[i].length)*8<=140737488355328/\(eb.take i).flatten.length+eb[i].length<=9223372036854775807:=(by omega);have aku:(eb[i].map λs=>[Z s]).flatten=eb[i].map Z:=qZ;have b0:(eb.take i).flatten.length<=cs.length:=(by omega);by_cases c:eb[i]=[]
        · have aR:(eb.take (i+1)).flatten=(eb.take i).flatten:=(by rw[NC G,c,u4]);simp(disch:=first|omega|simp only[DI.ab];omega) [Ha,LU,LR,fu,sb,yi,Ds,bY,bZ,lS,bd,b0,c,-List.length_flatten,-List.map_flatten,-List.map_take,-O,-U,-N,-S,-List.map_map];refine⟨by omega,bk _ _ ⟨⟨o,cs,by rw[aR];simp[-List.length_flatten],by rw[W.e6];exact bd,by rw[aR];exact iL,by rw[aR];exact Pq⟩,by simp[sb],by simp[yi],by simp⟩⟩
        · simp(disch:=first|omega|simp only[DI.ab];omega) [Ha,LU,LR,fu,sb,yi,Ds,bY,bZ,lS,bd,iL,b0,fO,aku,c,-List.length_flatten,-List.map_flatten,-List.map_take,-O,-U,-N,-S,-List.map_map];refine bk _ _ ⟨⟨t.next+2,(eb.take (i+1)).flatten.map Z,by rw[e];simp[-List.length_flatten],?_,jh (by rw[jg];exact dW _),.inl (by rw[jg])⟩,by simp[sb],by simp[yi],by simp⟩;rw[NC G,tL];rw[ej (by simp)]
      · rintro z t ⟨⟨o,cs,fu,bd,iL,Pq⟩,sb,yi,Ds⟩;rw[kj]at fu iL Pq;simp(disch:=first|omega|simp only[DI.ab];omega) [Ha,LU,LR,yi,Ds,-List.length_flatten,-List.map_flatten,-List.map_take,-O,-U,-N,-S,-List.map_map];have ar:cs.length=eb.flatten.length:=(by omega);refine bT _ _ o (by simp[fu,-List.length_flatten]) ?_;rw[bd,<-iL,jh (by omega)]
    by_cases c:eb.flatten.length=0
    · have axw:z 3=Z 0:=(by rw[dJ,c];rfl);have aF: ∀t,BX.fn [.slice none 0 0,.int .i64 0] t=some (.slice none 0 0,t):= λt=>akt (n:=0);simp(disch:=first|omega|simp only[DI.ab];omega) [LV,CT,CU,CV,CW,CX,CY,CX,CT,CU,CV,CW,CY,cX,axw,j1,pJ,aF,-List.length_flatten,-List.map_flatten,-List.map_take,-O,-U,-N,-S,-List.map_map];refine yB (d:=6) (I:=1) (by simp) ?_;refine key _ _ g6.next [] (by simp) (by rw[ej (by simp)]) (by simp) (by simp) (by simp) _ (.inl rfl) λae aJ o' fu bd=> ?_
      simp(disch:=first|omega|simp only[DI.ab];omega) [LS,fu,-List.length_flatten,-List.map_flatten,-List.map_take,-O,-U,-N,-S,-List.map_map];exact bd
    · have aF: ∀t,E2 eb.flatten.length t=some (ee t.next 0 1,(t.dp 1).a0 t.next (some ⟨List.replicate eb.flatten.length (Z 0),true⟩)):= λt=>by unfold E2;rw[if_neg c,if_pos H]
      simp(disch:=first|omega|simp only[DI.ab];omega) [LV,CT,CU,CV,CW,CX,CY,CX,CT,CU,CV,CW,CY,cX,dJ,j1,pJ,aF,-List.length_flatten,-List.map_flatten,-List.map_take,-O,-U,-N,-S,-List.map_map];refine key _ _ 0 (List.replicate eb.flatten.length (Z 0)) (by simp) (by rw[ej (by simp[g6])]) (by simp) (by simp) (by simp) _ (.inr (by omega)) λae aJ o' fu bd=> ?_;simp(disch:=first|omega|simp only[DI.ab];omega) [LS,fu,-List.length_flatten,-List.map_flatten,-List.map_take,-O,-U,-N,-S,-List.map_map];exact bd
theorem ahQ{eb:List (List Int)}(D:eb.length<=1000)(H:eb.flatten.length<=1000000):bK al 68 [pf eb] (cn eb.flatten):=
  Uc (n:=eb.flatten.length) (by rw[jg]) sZ (by rw[qZ];exact ahR D H)
noncomputable def M6:bE al:= .dR 68 (List (List Int)) (λeb=>eb.length<=1000/\eb.flatten.length<=1000000) (λeb=>[pf eb]) (λeb=>cn eb.flatten) λeb h=>ahQ h.1 h.2
@[simp] theorem aIP:M6.f=68:=rfl
theorem axy{eb:List (List Int)}(h:eb.length<=1000/\eb.flatten.length<=1000000):M6.fn [aw (eb.map lS) 1]=some (cn eb.flatten):=bE.eH (x:=eb) h λy ag=>by simpa using ag
theorem ayg{l k:List Int}(aD:l.length<=1000000)(aa:k.length<=1000000):bK al 20 [cn l,cn k] (.bool (decide (l=k))):=by
  refine et (dM (aB:=⟨[],[]⟩) Z6 (by kernel_rfl) (by simp[Gv]) ?_);by_cases c:l.length=k.length
  · have VH:(l.length:Int)=k.length:=(by omega);simp(disch:=first|omega|simp only[DI.ab];omega) [Gv,QZ,Q0,Q1,c,-O,-U,-N,-S,-List.map_map];refine h4 (aB:=⟨[],[]⟩) (λi z t=>z 0=cn l/\z 1=cn k/\z 5=Z i/\ ∀j,j<i->l[j]?=k[j]?) l.length ?_ ?_ 0 _ _ (hx _) ⟨by simp,by simp,by simp,λj b1=>absurd b1 (Nat.not_lt_zero _)⟩
    · rintro i z t ak ⟨cX,bl,ct,jU⟩ cx bk;have G:l[i]?=some l[i]:=dD ak;have ke:i<k.length:=(by omega);have ag:k[i]?=some k[i]:=dD ke;have bY:(i:Int)<l.length:=(by omega);have a3:(i:Int)<k.length:=(by omega);have bZ:=g3 (n:=i) (by omega);by_cases e:l[i]=k[i]
      · simp(disch:=first|omega|simp only[DI.ab];omega) [KV,Gw,Gx,cX,bl,ct,a3,bZ,e,c,-O,-U,-N,-S,-List.map_map];refine bk _ _ ⟨by simp[cX],by simp[bl],by simp,λj b1=> ?_⟩;by_cases c6:j=i
        · subst c6;rw[G,ag,e]
        · exact jU j (by omega)
      · have mK: ¬l=k:= λh=>e (by subst h;rfl);simp(disch:=first|omega|simp only[DI.ab];omega) [KV,Gw,Gx,cX,bl,ct,a3,e,c,mK,-O,-U,-N,-S,-List.map_map]
    · rintro z t ⟨cX,bl,ct,jU⟩;have e:l=k:=by
        apply Be;intro j;by_cases b1:j<l.length
        · exact jU j b1
        · rw[pP (by omega),pP (by omega)]
      subst e;simp(disch:=first|omega|simp only[DI.ab];omega) [KV,Gw,Gx,Gx,Gw,cX,ct,-O,-U,-N,-S,-List.map_map]
  · have VH: ¬(l.length:Int)=k.length:=(by omega);have mK: ¬l=k:= λh=>c (by rw[h]);simp(disch:=first|omega|simp only[DI.ab];omega) [Gv,QZ,Q0,Q1,VH,mK,-O,-U,-N,-S,-List.map_map]
noncomputable def Ng:bE al:= .dR 20 (List Int×List Int) (λx=>x.1.length<=1000000/\x.2.length<=1000000) (λx=>[cn x.1,cn x.2]) (λx=> .bool (decide (x.1=x.2))) λ_ h=>ayg h.1 h.2
@[simp] theorem aJ2:Ng.f=20:=rfl
@[simp] theorem aJ3{l k:List Int}(h:l.length<=1000000/\k.length<=1000000):Ng.fn [aw (l.map λx=>[Z x]) 1,aw (k.map λx=>[Z x]) 1]=some (.bool (decide (l=k))):=bE.eH (x:=(l,k)) h λ⟨og,kD⟩ ag=>by simpa using ag
end Go.Proofs.YtmmkkggfmigppaaGreat
namespace Go.Eb
structure u7 where
  f:Int
  t:Int
  c:Int
  k:Int
structure lX where
  yc:Int
  np:Int
  DG:Int
  pa:List u7
def lX.kh(n:lX)(x:Int):Prop:=0<=x/\x<n.yc
def lX.avR(n:lX)(a:u7):Prop:=n.kh a.f/\n.kh a.t/\0<=a.c/\a.c<=2147483647
structure lX.I2(n:lX):Prop where
  hp:2<=n.yc
  avp:n.yc<=700
  aCA:n.pa.length<=2500
  np:n.kh n.np
  DG:n.kh n.DG
  mK:n.np≠n.DG
  Vm: ∀a∈n.pa,n.avR a
def r6(y x gU:Int):Int:=if y=x then gU else 0
def r4:List u7->List Int->Int->Int
  |a::bz,gU::eo,x=>r6 a.f x gU-r6 a.t x gU+r4 bz eo x
  |_,_,_=>0
def agq(n:lX)(fw:List Int):Prop:=fw.length=n.pa.length/\ ∀(i:Nat) (a:u7) (gU:Int),n.pa[i]?=some a->fw[i]?=some gU->0<=gU/\gU<=a.c
structure U1(n:lX)(fw:List Int):Prop where
  aho:agq n fw
  ahO: ∀x,n.kh x->x≠n.np->x≠n.DG->r4 n.pa fw x=0
def value(n:lX)(fw:List Int):Int:=r4 n.pa fw n.np
def w6:List u7->(Int->Bool)->Int
  |a::bz,s=>(if s a.f=true/\s a.t=false then a.c else 0)+w6 bz s
  |[],_=>0
def tW:List u7->List Int->(Int->Bool)->Int
  |a::bz,gU::eo,s=>(if s a.f=true then gU else 0)-(if s a.t=true then gU else 0)+tW bz eo s
  |_,_,_=>0
def nP(s:Int->Bool)(g:Int->Int):Nat->Int
  |0=>0
  |k+1=>nP s g k+(if s k=true then g k else 0)
theorem T7(s:Int->Bool)(g h:Int->Int): ∀k,nP s (λx=>g x+h x) k=nP s g k+nP s h k
  |0=>rfl
  | k+1=>by simp only[nP,T7 s g h k];split<;>omega
theorem T9(s:Int->Bool): ∀k,nP s (λ_=>0) k=0
  |0=>rfl
  |k+1=>by simp[nP,T9 s k]
theorem afp(s:Int->Bool)(y gU:Int): ∀k:Nat,(k:Int)<=y->nP s (λx=>r6 y x gU) k=0
  |0,_=>rfl
  | k+1,h=>by have:=afp s y gU k (by omega);have e:r6 y k gU=0:=if_neg (by omega: ¬y=(k:Int));rw[nP,this,e];split<;>rfl
theorem T8(s:Int->Bool)(y gU:Int)(cR:0<=y): ∀k:Nat,y<k->nP s (λx=>r6 y x gU) k=if s y=true then gU else 0
  |0,h=>by omega
  | k+1,h=>by
    by_cases ag:y=k
    · subst ag;have e:r6 k k gU=gU:=if_pos rfl;rw[nP,afp s (k:Int) gU k (Int.le_refl _),e];split<;>omega
    · have e:r6 y k gU=0:=if_neg ag;rw[nP,T8 s y gU cR k (by omega),e];split<;>split<;>omega
theorem awg(y x gU:Int):r6 y x (-gU)= -r6 y x gU:=by unfold r6;split<;>omega
theorem afo(s:Int->Bool)(dn:Nat): ∀(bz:List u7) (eo:List Int),(∀a∈bz,(0<=a.f/\a.f<dn)/\(0<=a.t/\a.t<dn))->nP s (r4 bz eo) dn=tW bz eo s
  | [],eo,_=>by
    have:r4 [] eo= λ_=>0:=by funext x;simp[r4]
    rw[this,T9];simp[tW]
  | a::bz,[],_=>by
    have:r4 (a::bz) []= λ_=>0:=by funext x;simp[r4]
    rw[this,T9];simp[tW]
  | a::bz,gU::eo,h=>by
    have e:r4 (a::bz) (gU::eo)= λx=>(r6 a.f x gU+r6 a.t x (-gU))+r4 bz eo x:=by funext x;simp only[r4,awg];omega
    obtain⟨D,H⟩:=h a (by simp);rw[e,T7,T7,T8 s _ _ D.1 dn D.2,T8 s _ _ H.1 dn H.2,afo s dn bz eo (λb hb=>h b (by simp[hb]))];simp only[tW];split<;>split<;>omega
theorem afn(s:Int->Bool)(g:Int->Int)(dn:Nat)(y:Int)(aF: ∀x:Int,0<=x->x<dn->s x=true->x≠y->g x=0): ∀k:Nat,k<=dn->(k:Int)<=y->nP s g k=0
  |0,_,_=>rfl
  | k+1,aa,ag=>by
    simp only[nP,afn s g dn y aF k (by omega) (by omega)];split
    · rename_i h;rw[aF k (by omega) (by omega) h (by omega)];rfl
    · rfl
theorem afq(s:Int->Bool)(g:Int->Int)(dn:Nat)(y:Int)(cR:0<=y)(M:s y=true)(aF: ∀x:Int,0<=x->x<dn->s x=true->x≠y->g x=0): ∀k:Nat,k<=dn->y<k->nP s g k=g y
  |0,_,h=>by omega
  | k+1,aa,h=>by
    by_cases ag:y=k
    · subst ag;simp only[nP,afn s g dn k aF k (by omega) (Int.le_refl _),M,if_true];omega
    · simp only[nP,afq s g dn y cR M aF k (by omega) (by omega)];split
      · rename_i bN;rw[aF k (by omega) (by omega) bN (λe=>ag e.symm)];omega
      · omega
theorem lX.I2.aik{n:lX}(h:n.I2): ∀a∈n.pa,(0<=a.f/\a.f<(n.yc.toNat:Int))/\(0<=a.t/\a.t<(n.yc.toNat:Int)):=by intro a ax;obtain⟨⟨D,H⟩,⟨aq,aE⟩,_⟩:=h.Vm a ax;have:=h.hp;omega
theorem ay4{n:lX}(h:n.I2){fw:List Int}(a6:U1 n fw){s:Int->Bool}(D:s n.np=true)(H:s n.DG=false):value n fw=tW n.pa fw s:=by have au:=h.hp;have M:=h.np;unfold lX.kh at M;rw[<-afo s n.yc.toNat n.pa fw h.aik];exact(afq s (r4 n.pa fw) n.yc.toNat n.np (by omega) D (λx ck uZ fV xs=>a6.ahO x ⟨ck,by omega⟩ xs (λe=>by rw[e,H]at fV;cases fV)) n.yc.toNat (dW _) (by omega)).symm
theorem V3{s:Int->Bool}: ∀(bz:List u7) (eo:List Int),(∀(i:Nat) a gU,bz[i]?=some a->eo[i]?=some gU->0<=gU/\gU<=a.c)->(∀a∈bz,0<=a.c)->tW bz eo s<=w6 bz s
  |[],eo,_,_=>by simp[tW,w6]
  | a::bz,[],_,ar=>by
    have: ∀l:List u7,(∀a∈l,0<=a.c)->0<=w6 l s:=by
      intro l;induction l with
      |nil=>intro _;simp[w6]
      |cons b l cc=>intro h;have:=cc (λx G=>h x (by simp[G]));have:=h b (by simp);simp only[w6];split<;>omega
    simp only[tW];exact this _ ar
  | a::bz,gU::eo,h,ar=>by have cR:=h 0 a gU rfl rfl;have:=V3 (s:=s) bz eo (λi a gU ax akr=>h (i+1) a gU (by simpa using ax) (by simpa using akr)) (λa ax=>ar a (by simp[ax]));simp only[tW,w6];cases s a.f<;>cases s a.t<;>simp<;>omega
theorem uX{n:lX}(h:n.I2){fw:List Int}(a6:U1 n fw){s:Int->Bool}(D:s n.np=true)(H:s n.DG=false):value n fw<=w6 n.pa s:=by rw[ay4 h a6 D H];exact V3 _ _ a6.aho.2 (λa ax=>(h.Vm a ax).2.2.1)
abbrev tQ:=Nat×Bool
def AY(n:lX)(e:tQ):Int:=match n.pa[e.1]? with|some a=>if e.2 then a.f else a.t|none=> -1
def AZ(n:lX)(e:tQ):Int:=match n.pa[e.1]? with|some a=>if e.2 then a.t else a.f|none=> -1
def gC(n:lX)(fw:List Int)(e:tQ):Int:=match n.pa[e.1]?,fw[e.1]? with|some a,some gU=>if e.2 then a.c-gU else gU|_,_=>0
theorem awR{n:lX}{fw:List Int}{e:tQ}(h:0<gC n fw e): ∃a gU,n.pa[e.1]?=some a/\fw[e.1]?=some gU:=by
  unfold gC at h;split at h
  · rename_i a gU D H;exact⟨a,gU,D,H⟩
  · omega
structure U3(n:lX)(fw:List Int)(wF:Int->Bool)(iI:Int->tQ):Prop where
  np:wF n.np=true
  ahf: ∃yg:Int->Nat,∀x,wF x=true->x≠n.np->0<gC n fw (iI x)/\AZ n (iI x)=x/\wF (AY n (iI x))=true/\yg (AY n (iI x))<yg x
  aDB: ∀e,0<gC n fw e->wF (AY n e)=true->wF (AZ n e)=true
inductive Ec(n:lX)(iI:Int->tQ):Int->List tQ->Prop
  |np:Ec n iI n.np []
  |cons {x:Int} {l:List tQ} (G:x≠n.np) (bt:AZ n (iI x)=x) (h:Ec n iI (AY n (iI x)) l):Ec n iI x (iI x::l)
theorem U3.path{n:lX}{fw:List Int}{wF:Int->Bool}{iI:Int->tQ}(h:U3 n fw wF iI){x:Int}(G:wF x=true):
    ∃l,Ec n iI x l/\(∀e∈l,0<gC n fw e)/\(l.map Prod.fst).Nodup:=by
  obtain⟨yg,az⟩:=h.ahf;have wb: ∀(k:Nat) (x:Int),yg x<=k->wF x=true-> ∃l,Ec n iI x l/\(∀e∈l,0<gC n fw e)/\(l.map Prod.fst).Nodup/\ ∀e∈l,yg (AZ n e)<=yg x/\yg (AY n e)<yg (AZ n e):=by
    intro k;induction k with
    | zero=>
      intro x aa G;by_cases M:x=n.np
      · subst M;exact⟨[],.np,by simp,by simp,by simp⟩
      · obtain⟨_,_,_,aE⟩:=az x G M;omega
    | succ k cc=>
      intro x aa G;by_cases M:x=n.np
      · subst M;exact⟨[],.np,by simp,by simp,by simp⟩
      · obtain⟨D,H,aq,aE⟩:=az x G M;obtain⟨l,aQ,a7,cD,dI⟩:=cc _ (by omega) aq;refine⟨iI x::l,.cons M H aQ,?_,?_,?_⟩
        · intro e bb;rcases gT.1 bb with rfl|bb
          · exact D
          · exact a7 e bb
        · simp only[ln,List.nodup_cons];refine⟨λav=> ?_,cD⟩;obtain⟨e,bb,ajj⟩:=g4.1 av;obtain⟨a3,br⟩:=dI e bb;have ajm:AZ n e=x\/AY n e=x:=by
            rw[<-H];unfold AZ AY;rw[ajj];obtain⟨a,gU,ax,_⟩:=awR D;rw[ax];cases e.2<;>cases(iI x).2<;>simp
          rcases ajm with aK|aK
          · rw[aK]at a3;omega
          · rw[aK]at br;omega
        · intro e bb;rcases gT.1 bb with rfl|bb
          · rw[H];exact⟨dW _,aE⟩
          · obtain⟨a3,br⟩:=dI e bb;exact⟨by omega,br⟩
  obtain⟨l,aQ,a7,cD,_⟩:=wb _ x (dW _) G;exact⟨l,aQ,a7,cD⟩
def push(fw:List Int)(e:tQ)(d:Int):List Int:=match fw[e.1]? with|some gU=>fw.set e.1 (if e.2 then gU+d else gU-d)|none=>fw
end Go.Eb
namespace Go.Proofs.YtmmkkggfmigppaaGreat
open Go Go.DI Go.Big Go.Eb
end Go.Proofs.YtmmkkggfmigppaaGreat
namespace Go.Big
end Go.Big
namespace Go.Proofs.YtmmkkggfmigppaaGreat
open Go Go.DI Go.Big Go.Eb
def qn(u:bm)(R df:List Int):List Int:=jd u.a5.length λd=>if df.any (λn=>kH u d n)then 0 else lF u R d
theorem Tc{u:bm}{R df:List Int}:(qn u R df).length=u.a5.length:=by rw[qn,awJ]
open Go Go.DI Go.Big
def nF(u:bm)(df:List Int)(d:Nat):Bool:=df.any λn=>kH u d n
theorem Mx{u:bm}{df:List Int}{i d:Nat}{n:Int}(G:df[i]?=some n):nF u (df.take (i+1)) d=(nF u (df.take i) d||kH u d n):=by unfold nF;rw[u3,G];simp
theorem ahg{u:bm}(h:k2 u){d:Nat}(ay:d<u.a5.length){n:Int}(au:n=0\/mL u n=false):kH u d n=false:=by
  have cW:=h.mK;obtain⟨x,G⟩:=jz ay;unfold kH;simp only[G];have D: ¬n=(u.a1.length:Int)+d:=by
    rintro rfl;rcases au with h|h
    · omega
    · simp[mL]at h;omega
  have H: ¬(0<n/\n<(u.a1.length:Int)):=by
    rintro⟨a,b⟩;rcases au with h|h
    · omega
    · simp[mL]at h;omega
  rw[yI D,Bool.false_or];by_cases c:0<n
  · rw[yI (λc6:n<(u.a1.length:Int)=>H ⟨c,c6⟩)];simp
  · rw[yI c];simp
theorem VA{u:bm}(h:k2 u){d:Nat}(ay:d<u.a5.length){n:Int}(cR: ¬n=0)(au:mL u n=true):(d:Int)∈k4 u n↔kH u d n=true:=by
  rw[adE h au];constructor
  · rintro⟨ot,e,D,H|H⟩
    · exact absurd H cR
    · obtain rfl:d=ot:=(by omega);exact H
  · exact λhb=>⟨d,rfl,ay,.inr hb⟩
theorem aeO{u:bm}{R df:List Int}:(qn u R df).map Z=jd u.a5.length λd=>Z (if nF u df d then 0 else lF u R d):=by unfold qn nF;rw[Dp]
theorem awe{u:bm}(h:fT u){R df:List Int}(zm:df.length<=1000000):fA al 21 [.agg (aU u).toArray,cn R,cn df] g6 λv bF=> ∃o,v=ee o u.a5.length 1/\bF.X o=some ⟨(qn u R df).map Z,true⟩:=by
  have ad:=h.ok.yz;have hS:=h.ok.js;have kt:=h.ok.mh;have cW:=h.ok.mK;refine dM (aB:=⟨[AN u h.fD,AL u (by omega) (by omega),HZ u h],[FB u h]⟩) Q3 (by kernel_rfl) (by simp[Cm]) ?_;simp(disch:=first|omega|simp only[DI.ab];omega) [Cm,Q2,Q4,Q6,Q7,Q5,aU,ad,-O,-U,-N,-S,-List.map_map];refine h4 (aB:=⟨[AN u h.fD,AL u (by omega) (by omega),HZ u h],[FB u h]⟩) (λi z t=>(∃o,o≠0/\z 7=ee o u.a5.length 1/\t.X o=some ⟨jd u.a5.length (λd=>Z (if nF u (df.take i) d then 0 else lF u R d)),true⟩)/\t.X 0=some ⟨aU u,true⟩/\z 3=cF 0/\z 18=cn df/\z 19=Z df.length/\z 20=Z i) df.length ?_ ?_ 0 _ _ (hx _) ?_
  · rintro i z t ak ⟨⟨o,aC,eV,bd⟩,aO,dJ,iO,jH,sa⟩ cx bk;obtain⟨n,G⟩:=jz ak;have e8:=(eB.1 G).2;have bY:(i:Int)<df.length:=(by omega);have bZ:=g3 (n:=i) (by omega);have fW:=bn aO;have cp:=bn bd;have skip:(n=0\/mL u n=false)->jd u.a5.length (λd=>Z (if nF u (df.take (i+1)) d then 0 else lF u R d))=jd u.a5.length (λd=>Z (if nF u (df.take i) d then 0 else lF u R d)):= λau=>r8 λd ay=>by rw[Mx G,ahg h.ok ay au,Bool.or_false]
    by_cases c:n=0
    · have e:=skip (.inl c);subst c;simp(disch:=first|omega|simp only[DI.ab];omega) [GA,Cn,Co,Cp,Cq,iO,jH,sa,bY,bZ,e8,-O,-U,-N,-S,-List.map_map];exact bk _ _ ⟨⟨o,aC,by simp[eV],by rw[e];exact bd⟩,aO,by simp[dJ],by simp[iO],by simp[jH],by simp⟩
    cases au:mL u n
    · have e:=skip (.inr au);simp(disch:=first|omega|simp only[DI.ab];omega) [GA,Cn,Co,Cp,Cq,dJ,iO,jH,sa,aO,aU,bY,bZ,e8,c,au,-O,-U,-N,-S,-List.map_map];exact bk _ _ ⟨⟨o,aC,by simp[eV],by rw[e];exact bd⟩,aO,by simp[dJ],by simp[iO],by simp[jH],by simp⟩
    · simp(disch:=first|omega|simp only[DI.ab];omega) [GA,Cn,Co,Cp,Cq,dJ,iO,jH,sa,aO,aU,bY,e8,c,au,-O,-U,-N,-S,-List.map_map];have y7:=ahh h (n:=n);have ai6: ∀x∈k4 u n,∃d:Nat,x=d/\d<u.a5.length:= λx G=>by
        obtain⟨d,a,b,_⟩:=(adE h.ok au).1 G;exact⟨d,a,b⟩
      refine h4 (aB:=⟨[AN u h.fD,AL u (by omega) (by omega),HZ u h],[FB u h]⟩) (λk z t=>t.X o=some ⟨jd u.a5.length (λd=>if(d:Int)∈(k4 u n).take k then Z 0 else Z (if nF u (df.take i) d then 0 else lF u R d)),true⟩/\t.X 0=some ⟨aU u,true⟩/\z 3=cF 0/\z 7=ee o u.a5.length 1/\z 18=cn df/\z 19=Z df.length/\z 20=Z i/\z 34=cn (k4 u n)/\z 35=Z (k4 u n).length/\z 36=Z k) (k4 u n).length ?_ ?_ 0 _ _ (hx _) ?_
      · rintro k z t aa ⟨bd,aO,dJ,eV,iO,jH,sa,To,M0,Tp⟩ U2 BI;have ag:(k4 u n)[k]?=some (k4 u n)[k]:=dD aa;obtain⟨d,ay,xo⟩:=ai6 _ (nv aa);have a3:(k:Int)<(k4 u n).length:=(by omega);have c3:=g3 (n:=k) (by omega);have cp:=bn bd;have xn:d+1<=u.a5.length:=xo;have br:(d:Int)<u.a5.length:=(by omega);rw[ay]at ag;simp(disch:=first|omega|simp only[DI.ab];omega) [Ra,Q8,Q9,eV,To,M0,Tp,bd,a3,br,c3,ay,xn,MY,-O,-U,-N,-S,-List.map_map];refine BI _ _ ⟨?_,by rw[bW (λe=>aC e.symm)];exact aO,by simp[dJ],by simp[eV],by simp[iO],by simp[jH],by simp[sa],by simp[To],by simp[M0],by simp⟩;rw[ej cp];congr 2;refine r8 λj b1=> ?_;by_cases e:j=d
        · subst e;rw[if_pos rfl,if_pos (by rw[u3,ag];simp)]
        · have aR:((j:Int)∈(k4 u n).take (k+1))↔(j:Int)∈(k4 u n).take k:=by
            rw[u3,ag];simp;omega
          rw[if_neg e];simp only[aR]
      · rintro z t ⟨bd,aO,dJ,eV,iO,jH,sa,To,M0,Tp⟩;rw[kj]at bd;simp(disch:=first|omega|simp only[DI.ab];omega) [Ra,Q8,Q9,sa,M0,Tp,bZ,-O,-U,-N,-S,-List.map_map];refine bk _ _ ⟨⟨o,aC,by simp[eV],?_⟩,aO,by simp[dJ],by simp[iO],by simp[jH],by simp⟩;rw[bd];congr 2;refine r8 λd ay=> ?_;rw[Mx G];by_cases e:(d:Int)∈k4 u n
        · rw[if_pos e,(VA h.ok ay c au).1 e,Bool.or_true,if_pos rfl]
        · have aR:kH u d n=false:=by
            cases hb:kH u d n with
            |false=>rfl
            |true=>exact absurd ((VA h.ok ay c au).2 hb) e
          rw[if_neg e,aR,Bool.or_false]
      · exact⟨by simpa using bd,aO,by simp[dJ],by simp[eV],by simp[iO],by simp[jH],by simp[sa],by simp,by simp,by simp⟩
  · rintro z t ⟨⟨o,aC,eV,bd⟩,aO,dJ,iO,jH,sa⟩;rw[kj]at bd;simp(disch:=first|omega|simp only[DI.ab];omega) [GA,Cn,Co,Cp,Cq,Cn,Co,Cp,Cq,eV,jH,sa,-O,-U,-N,-S,-List.map_map];rw[aeO];exact bd
  · refine⟨⟨2,by decide,by simp,?_⟩,by simp(disch:=first|omega|simp only[DI.ab];omega) [aU,-O,-U,-N,-S,-List.map_map],by simp,by simp,by simp,by simp⟩;rw[ej (by simp[g6]),HS,Dp];rfl
theorem awd{u:bm}(h:fT u){R df:List Int}(zm:df.length<=1000000):bK al 21 [.agg (aU u).toArray,cn R,cn df] (cn (qn u R df)):=
  Uc (n:=u.a5.length) (by rw[jg,Tc]) sZ (by rw[qZ];exact awe h zm)
theorem awZ{u:bm}(h:fT u){R df:List Int}(zm:df.length<=1000000):fA al 22 [.agg (aU u).toArray,cn R,cn df] g6 λv bF=> ∃o,v=ee o u.a5.length 1/\bF.X o=some ⟨(qn u R df).map Z,true⟩:=by
  have ad:=h.ok.yz;have kt:=h.ok.mh;refine dM (aB:=⟨[AO u h.fD,H6 u h],[FC u h]⟩) aoW (by kernel_rfl) (by simp[Rb]) ?_;simp(disch:=first|omega|simp only[DI.ab];omega) [Rb,aaQ,aaR,aaS,aaT,aaU,aU,ad,-O,-U,-N,-S,-List.map_map];refine h4 (aB:=⟨[AO u h.fD,H6 u h],[FC u h]⟩) (λi z t=>t.X 2=some ⟨jd u.a5.length (λd=>Z (if d<i/\nF u df d=true then 0 else lF u R d)),true⟩/\t.X 0=some ⟨aU u,true⟩/\z 2=cn df/\z 3=cF 0/\z 7=ee 2 u.a5.length 1/\z 8=Z i) u.a5.length ?_ ?_ 0 _ _ (hx _) ?_
  · rintro i z t ak ⟨bd,aO,eU,dJ,eV,b9⟩ cx bk;have bY:(i:Int)<u.a5.length:=(by omega);have bZ:=g3 (n:=i) (by omega);simp(disch:=first|omega|simp only[DI.ab];omega) [Ri,K9,eV,b9,bY,-O,-U,-N,-S,-List.map_map];refine h4 (aB:=⟨[AO u h.fD,H6 u h],[FC u h]⟩) (λk z t=>t.X 2=some ⟨jd u.a5.length (λd=>Z (if(d<i/\nF u df d=true)\/(d=i/\nF u (df.take k) d=true)then 0 else lF u R d)),true⟩/\t.X 0=some ⟨aU u,true⟩/\z 2=cn df/\z 3=cF 0/\z 7=ee 2 u.a5.length 1/\z 8=Z i/\z 9=Z k) df.length ?_ ?_ 0 _ _ (hx _) ?_
    · rintro k z t aa ⟨bd,aO,eU,dJ,eV,b9,gD⟩ U2 BI;obtain⟨n,G⟩:=jz aa;have e8:=(eB.1 G).2;have a3:(k:Int)<df.length:=(by omega);have c3:=g3 (n:=k) (by omega);have fW:=bn aO;have cp:=bn bd;have xn:i+1<=u.a5.length:=ak;cases hb:kH u i n
      · simp(disch:=first|omega|simp only[DI.ab];omega) [Lb,La,eU,dJ,b9,gD,aO,aU,a3,c3,e8,hb,-O,-U,-N,-S,-List.map_map];refine BI _ _ ⟨?_,aO,by simp[eU],by simp[dJ],by simp[eV],by simp[b9],by simp⟩;show t.X 2=_;rw[bd];congr 2;refine r8 λd ay=> ?_;by_cases e:d=i
        · subst e;rw[Mx G,hb,Bool.or_false]
        · simp only[e,false_and]
      · simp(disch:=first|omega|simp only[DI.ab];omega) [Lb,La,eU,dJ,eV,b9,gD,aO,aU,bY,a3,c3,e8,xn,hb,bd,MY,-O,-U,-N,-S,-List.map_map];refine BI _ _ ⟨?_,by rw[bW (by decide)];exact aO,by simp[eU],by simp[dJ],by simp[eV],by simp[b9],by simp⟩;rw[ej cp];congr 2;refine r8 λd ay=> ?_;by_cases e:d=i
        · subst e;rw[Mx G,hb,Bool.or_true];simp
        · simp only[e,false_and,if_false]
    · rintro z t ⟨bd,aO,eU,dJ,eV,b9,gD⟩;rw[kj]at bd;simp(disch:=first|omega|simp only[DI.ab];omega) [Lb,La,eU,b9,gD,bZ,-O,-U,-N,-S,-List.map_map];refine bk _ _ ⟨?_,aO,by simp[eU],by simp[dJ],by simp[eV],by simp⟩;rw[bd];congr 2;refine r8 λd ay=> ?_;congr 1;by_cases hb:nF u df d=true
      · by_cases e:d<i+1
        · have aR:(d<i/\nF u df d=true)\/(d=i/\nF u df d=true):=by
            rcases Nat.lt_succ_iff_lt_or_eq.1 e with c|c
            · exact .inl ⟨c,hb⟩
            · exact .inr ⟨c,hb⟩
          rw[if_pos aR,if_pos ⟨e,hb⟩]
        · have aR: ¬((d<i/\nF u df d=true)\/(d=i/\nF u df d=true)):=by
            rintro(⟨c,_⟩|⟨c,_⟩)<;>omega
          rw[if_neg aR,if_neg (λc=>e c.1)]
      · rw[if_neg (by simp[hb]),if_neg (by simp[hb])]
    · refine⟨?_,aO,by simp[eU],by simp[dJ],by simp[eV],by simp[b9],by simp⟩;rw[bd];congr 2;refine r8 λd ay=> ?_;congr 1;have e:nF u (df.take 0) d=false:=rfl;simp only[e,jv,and_false,or_false]
  · rintro z t ⟨bd,aO,eU,dJ,eV,b9⟩;simp(disch:=first|omega|simp only[DI.ab];omega) [Ri,K9,K9,eV,b9,-O,-U,-N,-S,-List.map_map];rw[bd,aeO];congr 2;refine r8 λd ay=> ?_;simp only[ay,true_and]
  · refine⟨?_,by simp(disch:=first|omega|simp only[DI.ab];omega) [aU,-O,-U,-N,-S,-List.map_map],by simp,by simp,by simp,by simp⟩;rw[ej (by simp[g6]),HS,Dp];congr 2
theorem awY{u:bm}(h:fT u){R df:List Int}(zm:df.length<=1000000):bK al 22 [.agg (aU u).toArray,cn R,cn df] (cn (qn u R df)):=
  Uc (n:=u.a5.length) (by rw[jg,Tc]) sZ (by rw[qZ];exact awZ h zm)
theorem aej{c4 kF:Type}{f:c4->Option kF}: ∀{l:List c4} {de:List kF},de.length=l.length->(∀(i:Nat) (x:c4) (y:kF),l[i]?=some x->de[i]?=some y->f x=some y)->ft f l=some de
  |[],[],_,_=>rfl
  |[],_::_,h,_=>by simp at h
  |_::_,[],h,_=>by simp at h
  | x::l,y::de,aD,h=>by rw[avX,h 0 x y rfl rfl];simp only;rw[aej (by simpa using aD) λi a b ax hb=>h (i+1) a b (by simpa using ax) (by simpa using hb)]
def ae6(ps:List Nat)(L:List (List Int))(j:Nat):Value:=ee (ps.getD j 0) (L.getD j []).length 1
def MI(ps:List Nat)(L:List (List Int)):List Value:=jd L.length (ae6 ps L)
structure Bk(t:W)(o:Nat)(ps:List Nat)(L:List (List Int)):Prop where
  len:ps.length=L.length
  js:ps.Nodup
  iG:o∉ps
  uG:t.X o=some ⟨MI ps L,true⟩
  cJ: ∀(i p:Nat) r,ps[i]?=some p->L[i]?=some r->t.X p=some ⟨r.map Z,true⟩
theorem Bk.b6{t aJ:W}{o:Nat}{ps:List Nat}{L:List (List Int)}(h:Bk t o ps L)(D:aJ.X o=t.X o)(H: ∀p∈ps,aJ.X p=t.X p):Bk aJ o ps L:=
  ⟨h.len,h.js,h.iG,by rw[D];exact h.uG,λi p r ai az=>by rw[H p (hF ai)];exact h.cJ i p r ai az⟩
def AT(L:List (List Int))(v f:Nat)(x:Int):List (List Int):=L.set v ((L.getD v []).set f x)
theorem ae1{L:List (List Int)}{v f:Nat}{x:Int}:(AT L v f x).length=L.length:=by simp[AT]
theorem avt{ps:List Nat}{L:List (List Int)}{v f:Nat}{x:Int}:MI ps (AT L v f x)=MI ps L:=by
  unfold MI;rw[ae1];refine r8 λj b1=> ?_;have:((AT L v f x).getD j []).length=(L.getD j []).length:=by
    simp only[AT,mV,u2];by_cases h:v=j
    · subst h;rw[if_pos rfl,if_pos b1];simp
    · rw[if_neg h]
  unfold ae6;rw[this]
theorem Bk.set{t aJ:W}{o v p:Nat}{ps:List Nat}{L:List (List Int)}{f:Nat}{x:Int}(h:Bk t o ps L)(ad:v<L.length)(ai:ps[v]?=some p)(D:aJ.X o=t.X o)(H: ∀q∈ps,q≠p->aJ.X q=t.X q)(aq:aJ.X p=some ⟨((L.getD v []).set f x).map Z,true⟩):Bk aJ o ps (AT L v f x):=by
  refine⟨by rw[ae1];exact h.len,h.js,h.iG,by rw[D,avt];exact h.uG,λi q r bc az=> ?_⟩;simp only[AT,u2]at az;by_cases ak:v=i
  · subst ak;rw[if_pos rfl,if_pos ad]at az;rw[ai]at bc;cases bc;cases az;exact aq
  · rw[if_neg ak]at az;have cW:q≠p:= λe=>by
      subst e;have a:=eB.1 ai;have b:=eB.1 bc;have aH:=A7.1 h.js;rcases Nat.lt_trichotomy v i with c|c|c
      · exact aH v i a.1 b.1 c (a.2.trans b.2.symm)
      · exact ak c
      · exact aH i v b.1 a.1 c (b.2.trans a.2.symm)
    rw[H q (hF bc) cW];exact h.cJ i q r bc az
def oK(u:bm)(n:Int):Bool:=decide (0<n)&&decide (n<(u.a1.length:Int)+u.a5.length)
theorem avI{u:bm}{n:Int}:oK u n=(!decide (n=0)&&mL u n):=by
  unfold oK mL;by_cases c:n=0
  · subst c;simp
  · by_cases c6:0<n
    · have:0<=n:=(by omega);simp[c,c6,this]
    · have: ¬0<=n:=(by omega);simp[c6,this]
def lU(u:bm)(l:List Int):Bool:=l.all (oK u)&&decide l.Nodup
abbrev se(cf cA:List Int):List Value:=[cn cf,cn cA]
theorem ad9{l:List Int}{i:Nat}{x:Int}(G:l[i]?=some x)(ay:(l.take i).Nodup)(au:x∉l.take i):(l.take (i+1)).Nodup:=by rw[u3,G];simp only[Option.toList_some];rw[wQ];refine⟨ay,by simp,λa ax b hb=> ?_⟩;simp at hb;subst hb;rintro rfl;exact au ax
theorem ah6{l:List Int}{i:Nat}{x:Int}(G:l[i]?=some x)(av:x∈l.take i): ¬l.Nodup:= λay=>by
  have ak:=(eB.1 G).1;obtain⟨j,b1,bb⟩:=mq av;rw[List.getElem_take]at bb;have zc:j<i:=by rw[oZ]at b1;omega
  have:=(A7.1 ay j i (by omega) ak zc);exact this (bb.trans ((eB.1 G).2).symm)
theorem T3{u:bm}{l:List Int}{i:Nat}{x:Int}(G:l[i]?=some x)(h:oK u x=false):lU u l=false:=by unfold lU;have:l.all (oK u)=false:=Bd.2 ⟨x,hF G,by simp[h]⟩;rw[this];rfl
theorem afj{u:bm}{l:List Int}{i:Nat}{x:Int}(G:l[i]?=some x)(av:x∈l.take i):lU u l=false:=by unfold lU;rw[yI (ah6 G av)];simp
theorem Vg{u:bm}{l:List Int}{i:Nat}{x:Int}(G:l[i]?=some x)(h:oK u x=true)(ax:(l.take i).all (oK u)=true):(l.take (i+1)).all (oK u)=true:=by rw[u3,G,rr,ax];simp[h]
def pg(l:List Int):List (Value×Value):=l.map λx=>(Z x,.bool true)
theorem Sy{s:Int}: ∀{l:List Int},hE (Z s) (pg l)=if s∈l then some (.bool true)else none
  |[]=>rfl
  | x::l=>by
    have cc:=Sy (s:=s) (l:=l);simp only[pg]at cc;simp only[pg,ln,hE,nx];by_cases h:s=x
    · simp[h]
    · simp only[h,decide_false,jv,if_false,cc,gT,false_or]
theorem adV{s:Int}: ∀{l:List Int},s∉l->iZ (Z s) (.bool true) (pg l)=pg (l++[s])
  |[],_=>by simp[pg,iZ]
  | x::l,h=>by simp only[gT,not_or]at h;have cc:=adV (s:=s) (l:=l) h.2;simp only[pg]at cc;simp only[pg,ln,iZ,nx,h.1,decide_false,jv,if_false,wR,cc]
theorem auh{s:Int}{l:List Int}:kR (.int .i64) (Z s) (pg l)=true:=by simp only[kR,pg,nb,decide_true,ru,List.all_map,eQ];intro x _;rfl
theorem ahP{cf cA:List Int}(h:(cf++cA).length<=1000000):M6.fn [aw [[cn cf],[cn cA]] 1]=some (cn (cf++cA)):=by have:=axy (eb:=[cf,cA]) ⟨by simp,by simpa using h⟩;simpa[lS]using this
theorem awf{u:bm}(h:fT u){cf cA:List Int}(aD:(cf++cA).length<=1000000):bK al 23 [.agg (aU u).toArray,.agg (se cf cA).toArray] (.bool (lU u (cf++cA))):=by
  have ad:=h.ok.yz;have hS:=h.ok.js;have kt:=h.ok.mh;refine et (dM (aB:=⟨[AN u h.fD,AL u (by omega) (by omega),M6],[]⟩) Rm (by kernel_rfl) (by simp[Ct]) ?_);have ar:=ahP aD;obtain⟨l,sC⟩: ∃l,cf++cA=l:=⟨_,rfl⟩;rw[sC]at ar aD⊢;simp(disch:=first|omega|simp only[DI.ab];omega) [Ct,Rl,Rn,Ro,Rp,aU,ad,ar,qM,ql,kJ,-O,-U,-N,-S,-List.map_map];refine h4 (aB:=⟨[AL u (by omega) (by omega)],[]⟩) (λi z t=>((l.take i).all (oK u)=true/\(l.take i).Nodup)/\t.eK 3=some (pg (l.take i))/\t.X 0=some ⟨aU u,true⟩/\z 2=cF 0/\z 5= .map (some 3)/\z 17=cn l/\z 18=Z l.length/\z 19=Z i) l.length ?_ ?_ 0 _ _ (hx _) ⟨by simp,by simp(disch:=first|omega|simp only[DI.ab];omega) [pg,-O,-U,-N,-S,-List.map_map],by simp(disch:=first|omega|simp only[DI.ab];omega) [aU,-O,-U,-N,-S,-List.map_map],by simp,by simp,by simp,by simp,by simp⟩
  · rintro i z t ak ⟨⟨ax,ay⟩,rL,aO,eU,ct,r9,iO,jH⟩ cx bk;obtain⟨n,G⟩:=jz ak;have e8:=(eB.1 G).2;have bZ:=g3 (n:=i) (by omega);have bY:(i:Int)<l.length:=(by omega);have aa:kR (.int .i64) (Z n) (pg (l.take i))=true:=auh;have auK:=bn (hR rL).1;have fW:=bn aO;have iJ:=avI (u:=u) (n:=n);by_cases c:n=0
    · have aS:lU u l=false:=T3 G (by rw[iJ,decide_eq_true c];rfl);simp(disch:=first|omega|simp only[DI.ab];omega) [Cw,zK,zL,zM,xI,r9,iO,jH,bY,e8,c,aS,-hE,-iZ,-kR,-O,-U,-N,-S,-List.map_map]
    cases au:mL u n
    · have aS:lU u l=false:=T3 G (by rw[iJ,au,Bool.and_false]);simp(disch:=first|omega|simp only[DI.ab];omega) [Cw,zK,zL,zM,xI,eU,r9,iO,jH,bY,e8,aO,aU,c,au,aS,-hE,-iZ,-kR,-O,-U,-N,-S,-List.map_map]
    · have mB:oK u n=true:=(by rw[iJ,au,yI c];rfl);by_cases av:n∈l.take i
      · have aS:=afj (u:=u) G av;have a6:hE (Z n) (pg (l.take i))=some (.bool true):=(by rw[Sy,if_pos av]);simp(disch:=first|omega|simp only[DI.ab];omega) [Cw,zK,zL,zM,xI,eU,ct,r9,iO,jH,bY,e8,aO,aU,c,au,rL,a6,aa,aS,-hE,-iZ,-kR,-O,-U,-N,-S,-List.map_map]
      · have a6:hE (Z n) (pg (l.take i))=none:=(by rw[Sy,if_neg av]);simp(disch:=first|omega|simp only[DI.ab];omega) [Cw,zK,zL,zM,xI,eU,ct,r9,iO,jH,bY,bZ,e8,aO,aU,c,au,rL,a6,aa,-hE,-iZ,-kR,-O,-U,-N,-S,-List.map_map];refine bk _ _ ⟨⟨Vg G mB ax,ad9 G ay av⟩,?_,?_,by simp[eU],by simp[ct],by simp[r9],by simp[iO],by simp⟩
        · have e:l.take (i+1)=l.take i++[n]:=(by rw[u3,G];rfl);rw[e,<-adV av];simp(disch:=first|omega|simp only[DI.ab];omega) [-iZ,-O,-U,-N,-S,-List.map_map]
        · simp(disch:=first|omega|simp only[DI.ab];omega) [aO,aU,-O,-U,-N,-S,-List.map_map]
  · rintro z t ⟨⟨ax,ay⟩,rL,aO,eU,ct,r9,iO,jH⟩;rw[kj]at ax ay;have aS:lU u l=true:=(by simp[lU,ax,ay]);simp(disch:=first|omega|simp only[DI.ab];omega) [Cw,zK,zL,zM,xI,iO,jH,xI,zK,zL,zM,aS,-O,-U,-N,-S,-List.map_map]
theorem awL{u:bm}(D:u.a1.length<=1000)(H:u.a5.length<=1000){n:Int}:bK al 69 [.agg (aU u).toArray,Z n] (.bool (oK u n)):=by
  refine et (dM (aB:=⟨[],[]⟩) asj (by kernel_rfl) (by simp[LW]) ?_);have bZ:IntKind.i64.wrap ((u.a1.length:Int)+u.a5.length)=(u.a1.length:Int)+u.a5.length:=fx (by omega) (by omega);unfold oK;by_cases c:0<n
  · simp(disch:=first|omega|simp only[DI.ab];omega) [LW,R9,Sa,aU,bZ,c,-O,-U,-N,-S,-List.map_map]
  · simp(disch:=first|omega|simp only[DI.ab];omega) [LW,R9,Sa,aU,c,-O,-U,-N,-S,-List.map_map]
noncomputable def Na(u:bm)(D:u.a1.length<=1000)(H:u.a5.length<=1000):bE al:= .dR 69 Int (λ_=>True) (λn=>[.agg (aU u).toArray,Z n]) (λn=> .bool (oK u n)) λ_ _=>awL D H
@[simp] theorem aJw{u:bm}{D:u.a1.length<=1000}{H:u.a5.length<=1000}:(Na u D H).f=69:=rfl
@[simp] theorem aJx{u:bm}{D:u.a1.length<=1000}{H:u.a5.length<=1000}{n:Int}:(Na u D H).fn [.agg #[Z u.ext,aw (u.cH.map gZ) 4,aw (u.bf.map gO) 4,aw (u.a1.map ef) 7,aw (u.a5.map gp) 3,aw (u.cI.map fi) 17,aw (u.cM.map hQ) 2],Z n]=some (.bool (oK u n)):=bE.eH (x:=n) trivial λy ag=>by simpa using ag
theorem awH{l:List Int}{x:Int}(aD:l.length<=1000000):bK al 70 [cn l,Z x] (.bool (decide (x∈l))):=by
  refine et (dM (aB:=⟨[],[]⟩) asl (by kernel_rfl) (by simp[Sb]) ?_);simp(disch:=first|omega|simp only[DI.ab];omega) [Sb,acY,acZ,-O,-U,-N,-S,-List.map_map];refine h4 (aB:=⟨[],[]⟩) (λi z t=>z 0=cn l/\z 1=Z x/\z 5=Z i/\x∉l.take i) l.length ?_ ?_ 0 _ _ (hx _) ⟨by simp,by simp,by simp,by simp⟩
  · rintro i z t ak ⟨cX,bl,ct,jU⟩ cx bk;obtain⟨y,G⟩:=jz ak;have e8:=(eB.1 G).2;have bY:(i:Int)<l.length:=(by omega);have bZ:=g3 (n:=i) (by omega);by_cases e:y=x
    · have av:x∈l:=(by rw[<-e];exact hF G);simp(disch:=first|omega|simp only[DI.ab];omega) [LX,Hb,Hc,cX,bl,ct,bY,e8,e,av,-O,-U,-N,-S,-List.map_map]
    · simp(disch:=first|omega|simp only[DI.ab];omega) [LX,Hb,Hc,cX,bl,ct,bY,bZ,e8,e,-O,-U,-N,-S,-List.map_map];refine bk _ _ ⟨by simp[cX],by simp[bl],by simp,?_⟩;rw[u3,G];simp only[Option.toList_some,kE,oX,not_or];exact⟨jU,λh=>e h.symm⟩
  · rintro z t ⟨cX,bl,ct,jU⟩;rw[kj]at jU;simp(disch:=first|omega|simp only[DI.ab];omega) [LX,Hb,Hc,Hc,Hb,cX,ct,jU,-O,-U,-N,-S,-List.map_map]
noncomputable def M9:bE al:= .dR 70 (List Int×Int) (λx=>x.1.length<=1000000) (λx=>[cn x.1,Z x.2]) (λx=> .bool (decide (x.2∈x.1))) λ_ h=>awH h
@[simp] theorem aJv:M9.f=70:=rfl
@[simp] theorem axB{l:List Int}{x:Int}(h:l.length<=1000000):M9.fn [aw (l.map λx=>[Z x]) 1,Z x]=some (.bool (decide (x∈l))):=bE.eH (x:=(l,x)) h λ⟨og,kD⟩ ag=>by simpa using ag
theorem VU: ∀{i:Nat} {l:List Int},i<=l.length->kJ 1 i (l.map Z)=(l.take i).map λx=>[Z x]
  |0,l,_=>by simp[kJ]
  |i+1,[],h=>by simp at h
  | i+1,x::l,h=>by have:=VU (i:=i) (l:=l) (by simpa using h);simp only[ln,kJ,List.take_succ_cons,List.take_zero,List.drop_succ_cons,List.drop_zero,this]
theorem aiF{t:W}{o i n:Nat}{l:List Int}{w:Bool}(bd:t.X o=some ⟨l.map Z,w⟩)(h:i<=l.length):DI.dO (n+2) t (.slice (some ⟨o,0,none⟩) i 1)=some (cn (l.take i)):=by
  have av:ft (ft (DI.dO (n+1) t)) ((l.take i).map λx=>[Z x])=some ((l.take i).map λx=>[Z x]):=aej (by simp) λj x y G ag=>by rw[G]at ag;cases ag;obtain⟨I,_,rfl⟩:=g4.1 (hF G);rfl
  rw[OV,bd];simp only[List.drop_zero,Nat.zero_add,Nat.mul_one,jg,h,if_true];rw[VU h,av]
theorem aw3{u:bm}(h:fT u){cf cA:List Int}(aD:(cf++cA).length<=1000000):bK al 24 [.agg (aU u).toArray,.agg (se cf cA).toArray] (.bool (lU u (cf++cA))):=by
  have ad:=h.ok.yz;have hS:=h.ok.js;have kt:=h.ok.mh;refine et (dM (aB:=⟨[AO u h.fD,Na u (by omega) (by omega),M9],[]⟩) ap4 (by kernel_rfl) (by simp[Cx]) ?_);have key: ∀(l:List Int),l.length<=1000000-> ∀(z:aM) (t:W) (o:Nat) (Q:du->aM->W->Prop),z 2=cF 0->z 5=ee o l.length 1->z 6=Z 0->t.X 0=some ⟨aU u,true⟩->t.X o=some ⟨l.map Z,true⟩->(∀ae aJ,(lU u l=false->ae 4= .bool false->Q .aI ae aJ)/\(lU u l=true->Q (.bh 0) ae aJ))->fl al (.loop zN) z t Q:=by
    intro l aD z t o Q eU ct fu aO bd bT;refine h4 (aB:=⟨[AO u h.fD,Na u (by omega) (by omega),M9],[]⟩) (λi z t=>((l.take i).all (oK u)=true/\(l.take i).Nodup)/\t.X 0=some ⟨aU u,true⟩/\t.X o=some ⟨l.map Z,true⟩/\z 2=cF 0/\z 5=ee o l.length 1/\z 6=Z i) l.length ?_ ?_ 0 _ _ (hx _) ⟨by simp,aO,bd,eU,ct,fu⟩
    · rintro i z t ak ⟨⟨ax,ay⟩,aO,bd,eU,ct,fu⟩ cx bk;obtain⟨n,G⟩:=jz ak;have e8:=(eB.1 G).2;have bZ:=g3 (n:=i) (by omega);have bY:(i:Int)<l.length:=(by omega);have a3:i+1<=l.length:=ak;have br:i<=l.length:=(by omega);have fW:=bn aO;have cp:=bn bd;have Fe:DI.dO 9 t (.slice (some ⟨o,0,none⟩) i 1)=some (aw ((l.map λx=>[Z x]).take i) 1):=by
        rw[<-List.map_take];exact aiF bd br
      have aH:=axB (l:=l.take i) (x:=n) (by simp;omega);rw[List.map_take]at aH;cases au:oK u n
      · have aS:lU u l=false:=T3 G au;simp(disch:=first|omega|simp only[DI.ab];omega) [zN,GM,eU,ct,fu,bY,a3,e8,aO,bd,aU,au,BM,-O,-U,-N,-S,-List.map_map];exact(bT _ _).1 aS (by simp)
      · by_cases av:n∈l.take i
        · have aS:=afj (u:=u) G av;simp(disch:=first|omega|simp only[DI.ab];omega) [zN,GM,eU,ct,fu,bY,a3,br,e8,aO,bd,aU,au,av,Fe,aH,BM,-O,-U,-N,-S,-List.map_map];exact(bT _ _).1 aS (by simp)
        · simp(disch:=first|omega|simp only[DI.ab];omega) [zN,GM,eU,ct,fu,bY,a3,br,bZ,e8,aO,bd,aU,au,av,Fe,aH,BM,-O,-U,-N,-S,-List.map_map];refine bk _ _ ⟨⟨Vg G au ax,ad9 G ay av⟩,aO,bd,by simp[eU],by simp[ct],by simp⟩
    · rintro z t ⟨⟨ax,ay⟩,aO,bd,eU,ct,fu⟩;rw[kj]at ax ay;have aS:lU u l=true:=(by simp[lU,ax,ay]);simp(disch:=first|omega|simp only[DI.ab];omega) [zN,GM,ct,fu,-O,-U,-N,-S,-List.map_map];exact(bT _ _).2 aS
  have XS:(cf.map λs=>[Z s]).flatten=cf.map Z:=qZ;have XT:(cA.map λs=>[Z s]).flatten=cA.map Z:=qZ;have aEK:cf.length+cA.length<=1000000:=by simpa using aD
  have fO:(cf.length+cA.length)*8<=140737488355328/\cf.length+cA.length<=9223372036854775807/\cf.length*8<=140737488355328/\cA.length*8<=140737488355328/\cf.length<=9223372036854775807/\cA.length<=9223372036854775807:=by omega
  have m0: ∀(z:aM) (t:W) (o:Nat) (cx:du->aM->W->Prop),(∀ae aJ,ae 4= .bool (lU u (cf++cA))->cx .aI ae aJ)->(∀ae aJ,lU u (cf++cA)=true->cx (.bh 0) ae aJ)->z 2=cF 0->z 5=ee o (cf++cA).length 1->z 6=Z 0->t.X 0=some ⟨aU u,true⟩->t.X o=some ⟨(cf++cA).map Z,true⟩->fl al (.loop zN) z t cx:= λz t o cx D H eU ct fu aO bd=>
    key (cf++cA) aD z t o cx eU ct fu aO bd λae aJ=>⟨λaS j2=>D ae aJ (by rw[j2,aS]),λaS=>H ae aJ aS⟩
  by_cases Jf:cf=[]
  · by_cases Ex:cA=[]
    · subst Jf;subst Ex;simp(disch:=first|omega|simp only[DI.ab];omega) [Cx,GI,GJ,GK,GL,aU,ad,-O,-U,-N,-S,-List.map_map];refine yB (d:=5) (I:=1) (by simp) ?_;refine m0 _ _ 10 _ (λae aJ j2=>by simp(disch:=first|omega|simp only[DI.ab];omega) [j2,-O,-U,-N,-S,-List.map_map]) (λae aJ aS=>by simp only[u4]at aS;simp(disch:=first|omega|simp only[DI.ab];omega) [GN,aS,-O,-U,-N,-S,-List.map_map]) (by simp) (by simp) (by simp) (by simp(disch:=first|omega|simp only[DI.ab];omega) [aU,-O,-U,-N,-S,-List.map_map]) ?_;simp(disch:=first|omega|simp only[DI.ab];omega) [-O,-U,-N,-S,-List.map_map]
    · subst Jf;simp(disch:=first|omega|simp only[DI.ab];omega) [Cx,GI,GJ,GK,GL,aU,ad,XT,Ex,fO,-O,-U,-N,-S,-List.map_map];refine m0 _ _ 8 _ (λae aJ j2=>by simp(disch:=first|omega|simp only[DI.ab];omega) [j2,-O,-U,-N,-S,-List.map_map]) (λae aJ aS=>by simp only[tM]at aS;simp(disch:=first|omega|simp only[DI.ab];omega) [GN,aS,-O,-U,-N,-S,-List.map_map]) (by simp) (by simp) (by simp) (by simp(disch:=first|omega|simp only[DI.ab];omega) [aU,-O,-U,-N,-S,-List.map_map]) ?_;simp(disch:=first|omega|simp only[DI.ab];omega) [-O,-U,-N,-S,-List.map_map]
  · by_cases Ex:cA=[]
    · subst Ex;simp(disch:=first|omega|simp only[DI.ab];omega) [Cx,GI,GJ,GK,GL,aU,ad,XS,Jf,fO,-O,-U,-N,-S,-List.map_map];refine m0 _ _ 5 _ (λae aJ j2=>by simp(disch:=first|omega|simp only[DI.ab];omega) [j2,-O,-U,-N,-S,-List.map_map]) (λae aJ aS=>by simp only[u4]at aS;simp(disch:=first|omega|simp only[DI.ab];omega) [GN,aS,-O,-U,-N,-S,-List.map_map]) (by simp) (by simp) (by simp) (by simp(disch:=first|omega|simp only[DI.ab];omega) [aU,-O,-U,-N,-S,-List.map_map]) ?_;simp(disch:=first|omega|simp only[DI.ab];omega) [-O,-U,-N,-S,-List.map_map]
    · simp(disch:=first|omega|simp only[DI.ab];omega) [Cx,GI,GJ,GK,GL,aU,ad,XS,XT,Jf,Ex,fO,-O,-U,-N,-S,-List.map_map];refine m0 _ _ 8 _ (λae aJ j2=>by simp(disch:=first|omega|simp only[DI.ab];omega) [j2,-O,-U,-N,-S,-List.map_map]) (λae aJ aS=>by simp(disch:=first|omega|simp only[DI.ab];omega) [GN,aS,-O,-U,-N,-S,-List.map_map]) (by simp) (by simp) (by simp) (by simp(disch:=first|omega|simp only[DI.ab];omega) [aU,-O,-U,-N,-S,-List.map_map]) ?_;have aka:List.take cf.length (cf.map Z)=cf.map Z:=jh (by simp);simp(disch:=first|omega|simp only[DI.ab];omega) [aka,-O,-U,-N,-S,-List.map_map]
open Go Go.DI
end Go.Proofs.YtmmkkggfmigppaaGreat
