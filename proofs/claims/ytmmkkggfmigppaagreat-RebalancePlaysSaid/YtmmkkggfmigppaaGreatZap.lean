/-
  A part of the proof of the statement, in texts that tools of ours (wip/shrink.py, irpack.py, relax.py, minify.py, join.py, lay.py) have shortened.
-/
import Derived.Test.YtmmkkggfmigppaaGreatZao
set_option linter.all false
set_option maxRecDepth 8000
set_option maxHeartbeats 16000000
namespace Go.Proofs.YtmmkkggfmigppaaGreat
open Go Go.DI Go.Big
def tc(u:bg)(L:List (List Int)):Prop:= ∀(w:Nat) (r:List Int),L[w]?=some r->(r.length:Int)=kY u w/\JF u r
theorem tc.add{u:bg}{L:List (List Int)}{r:List Int}(h:tc u L)(E:(r.length:Int)=kY u L.length)(I:JF u r):tc u (L++[r]):= λw x G=>by
  by_cases c:w<L.length
  · rw[sf c]at G;exact h w x G
  · have aB:=(dO.1 G).1;simp only[kT,pI,xM]at aB;have e:w=L.length:=(by omega);subst e;rw[s4 (ey _)]at G;simp at G;subst G;exact⟨E,I⟩
theorem aC4{L:List (List Int)}:(L.map fA).flatten.length=L.length:=by rw[sq (J:=1) λr aw=>by obtain⟨x,_,rfl⟩:=hn.1 aw;rfl,j5,Nat.mul_one]
theorem ahB{L:List (List Int)}: ∀r∈L.map fA,r.length=1/\ ∀v∈r,ha v=true:= λr aw=>by obtain⟨x,_,rfl⟩:=hn.1 aw;exact⟨rfl,λv ad=>by simp[fA]at ad;subst ad;rfl⟩
theorem az7{l:List Int}(aB:l.length<=140737488355328){u:bg}(h:eF u)(k1:1<=u.aZ.length): ∀(r:Nat) (L:List (List Int)) (i:Nat),L.length+r=u.cm.length->tc u L->i+20*r+100<1000000->
    ∃ (rm:List (List Int)) (cU:Nat),rm.length=u.cm.length/\tc u rm/\cU<=i+20*r/\ ∀(A:aR) (t:W) (Q:dA->aR->W->Prop) (hB:Nat),A 0=cw 0->A 3=cw 1->A 5=dm hB L.length 1->A 6=Y L.length->
      t.X 0=some ⟨[cp l,Y i],true⟩->t.X 1=some ⟨aL u,true⟩->t.X hB=some ⟨(L.map fA).flatten,true⟩->hB≠0->hB≠1->
      (∀ak aI rW,ak 5=dm rW rm.length 1->aI.X 0=some ⟨[cp l,Y cU],true⟩->aI.X rW=some ⟨(rm.map fA).flatten,true⟩->rW≠0->Q (.a7 0) ak aI)->fZ al (.loop MH) A t Q:=by
  have yl:=h.ok.rV;intro r;induction r with
  | zero=>intro L i aw au ai;refine⟨L,i,by omega,au,by omega,λA t Q hB cE eL cq ft aN ir bU hS gb b2=> ?_⟩;refine eE (aC:=⟨[sR,xu u h.ok],[iQ]⟩) λcS bm=> ?_;have w6:=a6 ir;have c: ¬(L.length:Int)<u.cm.length:=(by omega);have bO: ¬L.length<u.cm.length:=(by omega);simp(disch:=first|omega|simp only[DI.ae];omega) [MH,Tg,Th,eL,ft,ir,aL,c,-O,-U,-N,-S,-List.map_map];exact b2 _ _ hB (by simp[cq]) aN bU hS
  | succ r cx=>
    intro L i aw au ai;have ad:L.length<u.cm.length:=(by omega);have eX:=Kx h.ok ad;obtain⟨ct,k2,bu,bN,cn,eW⟩:=az6 (l:=l) aB h k1 ad (kY u L.length).toNat [] i (by simp;omega) (λy af=>by simp at af) (by omega);obtain⟨rm,cU,dd,ee,gm,gq⟩:=cx (L++[ct]) k2 (by simp;omega) (au.add bu bN) (by omega);refine⟨rm,cU,dd,ee,by omega,λA t Q hB cE eL cq ft aN ir bU hS gb b2=> ?_⟩;refine eE (aC:=⟨[sR,xu u h.ok],[iQ]⟩) λcS bm=> ?_;have fl:=a6 aN;have w6:=a6 ir;have cB:=a6 bU;have c:(L.length:Int)<u.cm.length:=(by omega);simp(disch:=first|omega|simp only[DI.ae];omega) [MH,Tg,Th,eL,ft,ir,aL,c,-O,-U,-N,-S,-List.map_map];refine eW _ _ _ t.next [hB] (by simp[cE]) (by simp[eL]) (by simp[ft]) (by simp) (by simp) ?_ ?_ ?_ (by omega) (by omega) (λb hb=> ?_) λbQ bD or K fu KC YA hW ud Bo dU az=> ?_
    · simp(disch:=first|omega|simp only[DI.ae];omega) [aN,-O,-U,-N,-S,-List.map_map]
    · simp(disch:=first|omega|simp only[DI.ae];omega) [ir,aL,-O,-U,-N,-S,-List.map_map]
    · simp(disch:=first|omega|simp only[DI.ae];omega) [-O,-U,-N,-S,-List.map_map]
    · simp only[hH,jm,or_false]at hb;subst hb;exact⟨hS,by omega,by simp;omega⟩
    have oq:bQ 0=cw 0:=(K 0 (by decide)).trans (by simp[cE]);have s0:bQ 3=cw 1:=(K 3 (by decide)).trans (by simp[eL]);have oX:bQ 5=dm hB L.length 1:=(K 5 (by decide)).trans (by simp[cq]);have s3:bQ 6=Y L.length:=(K 6 (by decide)).trans (by simp[ft]);have o9:bD.X hB=some ⟨(L.map fA).flatten,true⟩:=(dU hB (by simp)).2.trans (by simp(disch:=first|omega|simp only[DI.ae];omega) [bU,-O,-U,-N,-S,-List.map_map]);have sN:=a6 KC;have bk:=a6 YA;have hz:=a6 o9;have Ue:=a6 hW;have e1:=aC4 (L:=L);have fw:or=hB->False:= λe=>(dU hB (by simp)).1 e.symm;clear K dU az;have c8:IntKind.i64.wrap ((L.length:Int)+1)=(L.length:Int)+1:=fV (by omega) (by omega);have aw: ∀x,(L++[ct]).map fA=x->(L.map fA).flatten++[cp ct]=x.flatten:= λx G=>by subst G;simp[fA]
    have bA:List.take L.length (L.map fA).flatten=(L.map fA).flatten:=jT (by omega);have hg: ¬or=hB:= λe=>by subst e;exact(fw rfl).elim
    simp(disch:=first|omega|simp only[DI.ae];omega) [oX,s3,fu,o9,e1,c8,bA,-O,-U,-N,-S,-List.map_map];refine⟨by omega,bm _ _ (sZ (o:=or) (p:=bD.next+3) (j:=L.length) (J:=1) (bh:=ct.map λx=>[Y x]) (cells:=(L.map fA).flatten++[dm or ct.length 1]) ?_ tN ?_ ?_ (by omega) (gq _ _ Q (bD.next+3) (by simp[oq]) (by simp[s0]) ?_ ?_ ?_ ?_ ?_ (by omega) (by omega) b2))⟩
    · rw[bR (by omega),bR hg,bR (by omega),W.e0,tO];exact hW
    · rw[eD (by simp)]
    · rw[s4 (by omega)];simp[e1]
    · simp
    · simp
    · rw[bR (by omega),bR (by omega),bR (by omega),bR (by omega),bR (by omega),W.e0];exact KC
    · rw[bR (by omega),bR (by omega),bR (by omega),bR (by omega),bR (by omega),W.e0];exact YA
    · rw[eD (by simp),List.set_append_right _ _ (by omega)];simp[e1,fA]
theorem IE{t:W}{o l J:Nat}{bh:List (List Value)}(h:t.X o=some ⟨bh.flatten,true⟩)(aw: ∀r∈bh,r.length=J/\ ∀v∈r,ha v=true)(cJ:o≠0):0∉DI.ed 9 t (dm o l J):=by
  rw[rZ,h];simp only[hH,uF,List.mem_flatten];rintro(e|⟨v,⟨r,p7,ad⟩,G⟩)
  · exact cJ e.symm
  · rw[DI.zb ((aw r p7).2 v ad)]at G;cases G
theorem az9{l:List Int}(aB:l.length<=140737488355328){i:Nat}(ai:i<600000){u:bg}(h:eF u)(k1:1<=u.aZ.length): ∃L cU,L.length=u.cm.length/\tc u L/\cU<=i+20*u.cm.length/\fi al 48 [cw 0,.agg (aL u).toArray] (mo l i) λv aI=>DI.dI 9 aI v=some (dW L)/\aI.X 0=some ⟨[cp l,Y cU],true⟩/\0∉ed 9 aI v:=by
  have yl:=h.ok.rV;obtain⟨L,cU,dd,ee,gm,gq⟩:=az7 (l:=l) aB h k1 u.cm.length [] i (by simp) (λw r aw=>by simp at aw) (by omega);refine⟨L,cU,dd,ee,gm,?_⟩;refine dD (aC:=⟨[sR,xu u h.ok],[iQ]⟩) aeV (by kernel_rfl) (by simp[MF]) ?_;simp(disch:=first|omega|simp only[DI.ae];omega) [MF,aeU,aeW,aeX,aeY,mo,-O,-U,-N,-S,-List.map_map];refine ES (d:=5) (J:=1) (by simp) ?_;refine gq _ _ _ 3 (by simp) (by simp) (by simp[g0]) (by simp) ?_ ?_ ?_ (by decide) (by decide) λbQ bD hB cq aN aK hS=> ?_
  · rw[bR (by simp[g0]),e0 (by simp[g0]),bR (by decide),e0 (by simp[g0]),eD (by simp[g0])]
  · rw[bR (by simp[g0]),e0 (by simp[g0]),eD (by simp[g0])]
  · rw[show((((g0.cf 1).a0 0 (some {cells:=[cp l,Y i],own:=true})).cf 2).a0 1 (some {cells:=aL u,own:=true})).next=3 from rfl];exact eD (by simp[g0])
  simp(disch:=first|omega|simp only[DI.ae];omega) [cq,-O,-U,-N,-S,-List.map_map];refine⟨?_,aN,IE aK ahB hS⟩;have:=ss (n:=8) (t:=bD) (l:=L.length) aK (by simp) ahB;exact this
def v9(aV:Int)(R:List Int):Prop:= ∀y∈R,0<=y/\y<=aV
theorem v9.set{aV:Int}{R:List Int}(h:v9 aV R){k:Nat}{y:Int}(af:0<=y/\y<=aV):v9 aV (R.set k y):= λx G=>by
  rcases Ju G with q|q
  · exact h x q
  · rw[q];exact af
theorem aCn{l:List Int}(aB:l.length<=140737488355328){n:Nat}(az:n<=1000){aV:Int}(cT:0<=aV/\aV<=900000): ∀(r k:Nat) (R:List Int) (i:Nat),k+r=n->R.length=n->v9 aV R->i+2*r+10<1000000->
    ∃ (wb:List Int) (cU:Nat),wb.length=n/\v9 aV wb/\cU<=i+2*r/\ ∀(A:aR) (t:W) (Q:dA->aR->W->Prop) (qk:Nat),A 0=cw 0->A 5=dm qk n 1->A 6=Y k->
      t.X 0=some ⟨[cp l,Y i],true⟩->t.X qk=some ⟨R.map Y,true⟩->qk≠0->
      (∀ak aI,ak 5=dm qk n 1->aI.X 0=some ⟨[cp l,Y cU],true⟩->aI.X qk=some ⟨wb.map Y,true⟩->Q (.a7 0) ak aI)->fZ al (.loop DC) A t Q:=by
  intro r;induction r with
  | zero=>intro k R i aa je au ai;refine⟨R,i,je,au,by omega,λA t Q qk cE cq ft aN hW hS b2=> ?_⟩;refine eE (aC:=⟨[],[iQ]⟩) λcS bm=> ?_;have c: ¬(k:Int)<n:=(by omega);simp(disch:=first|omega|simp only[DI.ae];omega) [DC,HQ,cq,ft,c,-O,-U,-N,-S,-List.map_map];exact b2 _ _ (by simp[cq]) aN hW
  | succ r cx=>
    intro k R i aa je au ai;have Y5:k<R.length:=(by omega);obtain⟨x,G⟩:=kp Y5;have fE:=(dO.1 G).2;have aKq:=au x (by rw[<-fE];exact jQ Y5);have c:(k:Int)<n:=(by omega);have c8:=gY (n:=k) (by omega);have e7:IntKind.i64.wrap (x+1)=x+1:=fV (by omega) (by omega);have BV:((i:Int)+1).toNat=i+1:=(by omega);have al7:((R.map Y).drop k).take 1=[Y x]:=by rw[Pg (by simp;omega)];simp[fE]
    by_cases kn:eU l i 9=0
    · obtain⟨wb,cU,dd,ee,gm,gq⟩:=cx (k+1) (R.set k 0) (i+1) (by omega) (by simp[je]) (au.set (by omega)) (by omega);refine⟨wb,cU,dd,ee,by omega,λA t Q qk cE cq ft aN hW hS b2=> ?_⟩;refine eE (aC:=⟨[],[iQ]⟩) λcS bm=> ?_;have fl:=a6 aN;have tZ:=a6 hW;have ud: ¬0=qk:= λe=>hS e.symm;have eA:(R.map Y).length=n:=(by simp[je]);simp(disch:=first|omega|simp only[DI.ae];omega) [DC,HQ,cE,cq,ft,aN,hW,c,kn,c8,kO,eA,-O,-U,-N,-S,-List.map_map];refine⟨by omega,bm _ _ (gq _ _ Q qk (by simp[cE]) (by simp[cq]) (by simp) ?_ ?_ hS b2)⟩
      · rw[bR ud,eD (by omega)];simp
      · rw[eD (by simp;omega),List.map_set]
    · by_cases bO:eU l i 9=1
      · have fs:=j0 (l:=l) (i:=i+1) (n:=x+1) (by omega);obtain⟨wb,cU,dd,ee,gm,gq⟩:=cx (k+1) (R.set k (eU l (i+1) (x+1))) (i+2) (by omega) (by simp[je]) (au.set (by omega)) (by omega);refine⟨wb,cU,dd,ee,by omega,λA t Q qk cE cq ft aN hW hS b2=> ?_⟩;refine eE (aC:=⟨[],[iQ]⟩) λcS bm=> ?_;have fl:=a6 aN;have tZ:=a6 hW;have ud: ¬0=qk:= λe=>hS e.symm;have eA:(R.map Y).length=n:=(by simp[je]);simp(disch:=first|omega|simp only[DI.ae];omega) [DC,HQ,cE,cq,ft,aN,hW,c,bO,c8,e7,BV,kO,eA,al7,-O,-U,-N,-S,-List.map_map];refine⟨by omega,bm _ _ (gq _ _ Q qk (by simp[cE]) (by simp[cq]) (by simp) ?_ ?_ hS b2)⟩
        · rw[bR ud,eD (by omega)];simp;omega
        · rw[eD (by simp;omega),List.map_set]
      · obtain⟨wb,cU,dd,ee,gm,gq⟩:=cx (k+1) R (i+1) (by omega) je au (by omega);refine⟨wb,cU,dd,ee,by omega,λA t Q qk cE cq ft aN hW hS b2=> ?_⟩;refine eE (aC:=⟨[],[iQ]⟩) λcS bm=> ?_;have fl:=a6 aN;have tZ:=a6 hW;have ud: ¬0=qk:= λe=>hS e.symm;have eA:(R.map Y).length=n:=(by simp[je]);simp(disch:=first|omega|simp only[DI.ae];omega) [DC,HQ,cE,cq,ft,aN,c,kn,bO,c8,kO,-O,-U,-N,-S,-List.map_map];refine bm _ _ (gq _ _ Q qk (by simp[cE]) (by simp[cq]) (by simp) ?_ ?_ hS b2)
        · rw[eD (by omega)];simp
        · rw[bR hS];exact hW
theorem aCw{u:bg}(h:eF u)(aKl:1<=u.aZ.length):fi al 52 [.agg (aL u).toArray,.slice none 0 0] g0 λv bD=> ∃o,v=dm o u.aZ.length 1/\bD.X o=some ⟨(g8 u []).map Y,true⟩:=by
  refine dD (aC:=⟨[sS u h.fO],[]⟩) Tj (by kernel_rfl) (by simp[Dx]) ?_;have ad:=h.ok.vR;have k1:=h.ok.pr;simp(disch:=first|omega|simp only[DI.ae];omega) [Dx,Ti,Tk,Tl,Tm,Tn,aL,ad,-O,-U,-N,-S,-List.map_map];refine ES (d:=5) (J:=1) (by simp) ?_;refine h9 (aC:=⟨[sS u h.fO],[]⟩) (λi A t=>t.X 0=some ⟨aL u,true⟩/\(∃o,o≠0/\A 5=dm o i 1/\t.X o=some ⟨iV i (λj=>Y (oP u [] j)),true⟩)/\A 1= .slice none 0 0/\A 2=cw 0/\A 6=Y i) u.aZ.length ?_ ?_ 0 _ _ (ht _) ⟨by simp(disch:=first|omega|simp only[DI.ae];omega) [aL,-O,-U,-N,-S,-List.map_map],⟨2,by decide,by simp,by simp(disch:=first|omega|simp only[DI.ae];omega) [iV,-O,-U,-N,-S,-List.map_map]⟩,by simp,by simp,by simp⟩
  · rintro i A t ai ⟨aN,⟨o,aE,cq,bU⟩,ba,eP,ft⟩ cS bm;obtain⟨x,G⟩:=kp ai;have fE:=(dO.1 G).2;obtain⟨bu,bN,cn,eW,fU⟩:=h.ok.Km i x G;obtain⟨m,ax⟩:=jS bu;have wH:m<u.bf.length:=(by omega);obtain⟨y,af⟩:=kp wH;have mG:=(dO.1 af).2;have gP:sn u i=y.ext:=(by simp only[sn,G,ax,ot,af]);have hb:=h.ok.NL m y af;have b6:(i:Int)<u.aZ.length:=(by omega);have a8:(m:Int)<u.bf.length:=(by omega);have p1:i+1<=u.aZ.length:=ai;have cg:=gY (n:=i) (by omega);have fl:=a6 aN;have cB:=a6 bU;have gh:(i+1)*8<=140737488355328/\i<=9223372036854775806:=(by omega);have p7: ¬(0:Int)=u.aZ.length:=(by omega);have u4: ¬u.aZ.length=0:=(by omega);have aKo: ¬0=u.aZ.length:=(by omega);have Zm: ¬u.aZ=[]:= λe=>by rw[e]at u4;exact u4 rfl
    have wJ:oP u [] i=y.ext:=(by unfold oP;rw[if_neg (by simp;omega),gP]);simp(disch:=first|omega|simp only[DI.ae];omega) [DA,Dy,Dz,aL,gr,gE,ba,eP,cq,ft,aN,bU,b6,a8,cg,fE,ax,mG,p7,gh,-O,-U,-N,-S,-List.map_map];refine bm _ _ ⟨by simp(disch:=first|omega|simp only[DI.ae];omega) [aN,aL,-O,-U,-N,-S,-List.map_map],⟨t.next+3,by omega,by simp,?_⟩,by simp[ba],by simp[eP],by simp⟩;rw[eD (by simp),jT (by simp),N6,wJ]
  · rintro A t ⟨aN,⟨o,aE,cq,bU⟩,ba,eP,ft⟩;have fl:=a6 aN;simp(disch:=first|omega|simp only[DI.ae];omega) [DA,Dy,Dz,aL,aN,eP,cq,ft,-O,-U,-N,-S,-List.map_map];rw[bU,Eo,IG]
noncomputable def RD(u:bg)(h:eF u)(az:1<=u.aZ.length):ie al:= .FH 52 Unit (λ_=>True) (λ_=>[.agg (aL u).toArray,.slice none 0 0]) (λ_=>u.aZ.length) (λ_=>1) (λ_=>(g8 u []).map Y) λ_ _=>Wp (λv ad=>by simp at ad;rcases ad with rfl|rfl<;>rfl) Ld (aCw h az)
@[simp] theorem aKI{u:bg}{h:eF u}{az:1<=u.aZ.length}:(RD u h az).f=52:=rfl
@[simp] theorem aKJ{u:bg}{h:eF u}{az:1<=u.aZ.length}{t:W}:(RD u h az).fn [.agg #[Y u.ext,aj (u.cN.map gZ) 4,aj (u.bf.map gE) 4,aj (u.bP.map ez) 7,aj (u.aZ.map gr) 3,aj (u.cK.map e5) 17,aj (u.cm.map hx) 2],.slice none 0 0] t=some (.slice (some ⟨t.next,0,none⟩) u.aZ.length 1,(t.cf 1).a0 t.next (some ⟨(g8 u []).map Y,true⟩)):=ie.Qh (x:=()) trivial λy af=>rfl
theorem aCm{u:bg}(h:eF u):v9 16 (g8 u []):= λy af=>by
  unfold g8 at af;obtain⟨d,aD,rfl⟩:=hn.1 af;have CG:d<u.aZ.length:=ou.1 aD;have Zm: ¬([]:List Int).length=u.aZ.length:=by simp;omega
  simp only[if_neg Zm];obtain⟨x,G⟩:=kp CG;obtain⟨bu,bN,cn,eW,fU⟩:=h.ok.Km d x G;obtain⟨m,ax⟩:=jS bu;have wH:m<u.bf.length:=by omega
  obtain⟨y,af⟩:=kp wH;have gP:sn u d=y.ext:=by simp only[sn,G,ax,ot,af]
  have hb:=h.ok.NL m y af;omega
theorem aCl{u:bg}:(g8 u []).length=u.aZ.length:=by unfold g8;simp
theorem aCp{l:List Int}(aB:l.length<=140737488355328){i:Nat}(ai:i<600000){u:bg}(h:eF u)(k1:1<=u.aZ.length): ∃R cU,R.length=u.aZ.length/\v9 16 R/\cU<=i+2*u.aZ.length/\fi al 61 [cw 0,.agg (aL u).toArray] (mo l i) λv aI=>DI.dI 9 aI v=some (cp R)/\aI.X 0=some ⟨[cp l,Y cU],true⟩/\0∉DI.ed 9 aI v:=by
  have amq:=h.ok.pr;obtain⟨R,cU,dd,ee,gm,gq⟩:=aCn (l:=l) aB (n:=u.aZ.length) (by omega) (aV:=16) (by omega) u.aZ.length 0 (g8 u []) i (by omega) aCl (aCm h) (by omega);refine⟨R,cU,dd,ee,gm,?_⟩;refine dD (aC:=⟨[],[iQ,RD u h k1]⟩) afi (by kernel_rfl) (by simp[MN]) ?_;simp(disch:=first|omega|simp only[DI.ae];omega) [MN,afh,afj,afk,afl,mo,aL,-O,-U,-N,-S,-List.map_map];refine gq _ _ _ 3 (by simp) (by simp) (by simp) ?_ ?_ (by decide) λbQ bD cq aN aK=> ?_
  · rw[bR (by decide),e0 (by simp[g0]),bR (by decide),e0 (by simp[g0]),eD (by simp[g0])]
  · exact eD (by simp[g0])
  simp(disch:=first|omega|simp only[DI.ae];omega) [cq,-O,-U,-N,-S,-List.map_map];have e:(R.map Y)=(R.map λx=>[Y x]).flatten:=tO.symm;rw[e]at aK;refine⟨?_,aN,IE aK tN (by decide)⟩;have:=ss (n:=8) (t:=bD) (l:=u.aZ.length) aK (by simp[dd]) tN;exact this
theorem aBk{u:bg}(h:eF u){L:List (List Int)}(aB:L.length=u.cm.length)(aE:tc u L):hu L:=by
  have yl:=h.ok.rV;refine⟨by omega,λr aw=> ?_⟩;obtain⟨w,a3,e⟩:=j4 aw;have Ro:L[w]?=some r:=by rw[cD a3,e]
  have a:=(aE w r Ro).1;have b:=Kx h.ok (v:=w) (by omega);omega
theorem aBl{u:bg}{L:List (List Int)}(aB:L.length=u.cm.length)(aE:tc u L):kP u L=true:=by unfold kP;rw[a1,eQ];refine⟨decide_eq_true aB,λw a3=> ?_⟩;have Rp:=ou.1 a3;obtain⟨r,aw⟩:=kp Rp;obtain⟨a,b⟩:=aE w r aw;simp only[aw];unfold zd;rw[a1,eQ];refine⟨decide_eq_true a,λy af=> ?_⟩;have:=b y af;rw[a1];exact⟨decide_eq_true this.1,decide_eq_true this.2⟩
open Classical in
noncomputable def yS(f:Nat)(args cs kG:List Value)(r:Value)(ok: ∀(t:W) (o:Nat),t.X o=some ⟨cs,true⟩->fi al f (.pointer (some ⟨o,0,none⟩)::args) t λv aI=>v=r/\aI=t.a0 o (some ⟨kG,true⟩)):ie al:=
  ⟨f,λJk t=>if h: ∃o,Value.pointer (some ⟨o,0,none⟩)::args=Jk/\t.X o=some ⟨cs,true⟩then some (r,t.a0 h.choose (some ⟨kG,true⟩))else none,λJk t dL aI h cj iB=>by
    split at h
    · next G=>cases h;have:=ok t _ G.choose_spec.2;rw[G.choose_spec.1]at this;exact this.b8 λv aI ⟨a,b⟩=>by rw[a,b];exact iB
    · cases h⟩
theorem aze{f:Nat}{args cs kG:List Value}{r:Value}{ok: ∀(t:W) (o:Nat),t.X o=some ⟨cs,true⟩->fi al f (.pointer (some ⟨o,0,none⟩)::args) t λv aI=>v=r/\aI=t.a0 o (some ⟨kG,true⟩)}{t:W}{o:Nat}(h:t.X o=some ⟨cs,true⟩):
    (yS f args cs kG r ok).fn (.pointer (some ⟨o,0,none⟩)::args) t=some (r,t.a0 o (some ⟨kG,true⟩)):=by
  have gP: ∃q,Value.pointer (some ⟨q,0,none⟩)::args=Value.pointer (some ⟨o,0,none⟩)::args/\t.X q=some ⟨cs,true⟩:=⟨o,rfl,h⟩;have e:gP.choose=o:=by have:=gP.choose_spec.1;simpa using this
  simp only[yS,dif_pos gP];rw[e]
theorem zq{l:List Int}{i:Nat}: ∀v∈[cp l,Y i],ha v=true:= λv ad=>by simp at ad;rcases ad with rfl|rfl<;>rfl
theorem ak6{l:List Int}(aB:l.length<=140737488355328){i:Nat}(ai:i<500000){bl:Int}(e6:bl<=100): ∃u cU,JE u bl/\cU<=i+200/\ ∀(t:W) (o:Nat),t.X o=some ⟨[cp l,Y i],true⟩->fi al 60 [cw o,Y bl] t λv aI=>v= .agg (aL u).toArray/\aI=t.a0 o (some ⟨[cp l,Y cU],true⟩):=by obtain⟨u,cU,a,b,c⟩:=ak7 aB ai e6;exact⟨u,cU,a,b,λt o aE=>O3 (by simp) (by simp) zq zq (λv ad=>by simp at ad;subst ad;rfl) c aE⟩
theorem az8{l:List Int}(aB:l.length<=140737488355328){i:Nat}(ai:i<600000){u:bg}(h:eF u)(k1:1<=u.aZ.length): ∃L cU,L.length=u.cm.length/\tc u L/\cU<=i+20*u.cm.length/\ ∀(t:W) (o:Nat),t.X o=some ⟨[cp l,Y i],true⟩->fi al 48 [cw o,.agg (aL u).toArray] t λv aI=>v=dW L/\aI=t.a0 o (some ⟨[cp l,Y cU],true⟩):=by obtain⟨L,cU,a,b,cd,c⟩:=az9 aB ai h k1;exact⟨L,cU,a,b,cd,λt o aE=>O3 (by simp) (by simp) zq zq (λv ad=>by simp at ad;subst ad;rfl) c aE⟩
theorem aCo{l:List Int}(aB:l.length<=140737488355328){i:Nat}(ai:i<600000){u:bg}(h:eF u)(k1:1<=u.aZ.length): ∃R cU,R.length=u.aZ.length/\v9 16 R/\cU<=i+2*u.aZ.length/\ ∀(t:W) (o:Nat),t.X o=some ⟨[cp l,Y i],true⟩->fi al 61 [cw o,.agg (aL u).toArray] t λv aI=>v=cp R/\aI=t.a0 o (some ⟨[cp l,Y cU],true⟩):=by obtain⟨R,cU,a,b,cd,c⟩:=aCp aB ai h k1;exact⟨R,cU,a,b,cd,λt o aE=>O3 (by simp) (by simp) zq zq (λv ad=>by simp at ad;subst ad;rfl) c aE⟩
open Go Go.DI
def aae:H:= .B (.D [b0 0 88 39 [],z 1 89 88,dg 2 90 89 10,dg 3 91 89 12,qX 4 92 89 43 90 91,cR 5 93 89 92,z 6 94 93,dg 7 95 94 11,dg 8 96 94 13,cQ 9 97 94 true (.e8 .eql .fW (F 95) (F 96)),cR 10 98 94 97,z 11 99 98,dg 12 100 99 14,dg 13 101 99 16,qX 14 102 99 43 100 101,cR 15 103 99 102,z 16 104 103,dg 17 105 104 15,dg 18 106 104 17,cQ 19 107 104 true (.e8 .eql .fW (F 105) (F 106)),cR 20 108 104 107,z 21 109 108,dg 22 110 109 18,k3 23 111 109 110,pl 24 112 109 111 0,cR 25 113 109 112,z 26 114 113,dg 27 115 114 19,pl 28 116 114 115 0,cR 29 117 114 116,z 30 6 117]) (.aF)
def aad:H:= .B (.D [a4 0 79 (.fF [aG,aX,aX,aX,aX,aX,aX] []),ay 1 80 7 7,ao 2 81 80,ay 3 82 8 7,ao 4 83 82,z 5 84 2,b0 6 85 41 [F 79,F 81,F 83,F 84],z 7 78 85,b3 8 86 0 78,b3 9 87 1 78,z 10 18 86,z 11 19 87]) aae
def aac:H:= .B (.D [ay 0 68 0 7,bL 1 69 7 68,ay 2 70 7 7,ao 3 71 70,ay 4 72 8 7,ao 5 73 72,z 6 74 2,b0 7 75 42 [F 69,F 71,F 73,F 74],z 8 67 75,b3 9 76 0 67,b3 10 77 1 67,z 11 16 76,z 12 17 77]) aad
def aab:H:= .B (.D [ay 0 57 0 7,bL 1 58 7 57,ay 2 59 7 7,ao 3 60 59,ay 4 61 8 7,ao 5 62 61,z 6 63 2,b0 7 64 41 [F 58,F 60,F 62,F 63],z 8 56 64,b3 9 65 0 56,b3 10 66 1 56,z 11 14 65,z 12 15 66]) aac
def aaa:H:= .B (.D [ay 0 46 0 7,bL 1 47 7 46,ay 2 48 7 7,ao 3 49 48,ay 4 50 8 7,ao 5 51 50,z 6 52 9,b0 7 53 42 [F 47,F 49,F 51,F 52],z 8 45 53,b3 9 54 0 45,b3 10 55 1 45,z 11 12 54,z 12 13 55]) aab
def Z9:H:= .B (.D [ay 0 35 0 7,bL 1 36 7 35,ay 2 37 7 7,ao 3 38 37,ay 4 39 8 7,ao 5 40 39,z 6 41 9,b0 7 42 41 [F 36,F 38,F 40,F 41],z 8 34 42,b3 9 43 0 34,b3 10 44 1 34,z 11 10 43,z 12 11 44]) aaa
def Z8:H:= .B (.D [z 0 29 8,bL 1 30 9 7,z 2 31 1,iS 3 32 (.dY 19 [F 31,.const (.int .i64 14)]) [(F 7,F 7)],b0 4 33 40 [F 29,F 30,F 32],z 5 9 33]) Z9
def Z7:H:= .B (.D [z 0 25 0,b0 1 26 18 [F 25],z 2 24 26,b3 3 27 0 24,b3 4 28 1 24,a4 5 7 (.c9 [aG,aX,aX,aX,aX,aX,aX,aX,aX]),bz 6 9 7 27,z 7 8 28]) Z8
def RK:H:= .B (.B (.D [z 0 20 2,bq 1 21 20,jX 2 22 21 30]) (.aM (F 22) (.B (.D [b0 0 23 39 [],z 1 6 23]) (.aF)) (.skip))) Z7
def RJ:H:=
  .B (
  .D [
 cr 0 6 false]) RK
def Le:bM:=⟨118,[.bw 6],RJ⟩
theorem ane:bW al 10=some Le:=by kernel_rfl
def abX:H:= .B (.D [bL 0 15 7 5,z 1 16 6,z 2 17 4,bL 3 18 7 5,z 6 21 4,iS 4 19 (.dY 61 [F 17,F 18]) [(F 5,F 5)],a4 5 20 (.fF [aG,aX,aX,aX,aX,aX,aX,aX,aX] [(0,7,F 15),(7,1,F 16),(8,1,F 19)]),bz 7 9 2 20,z 8 3 21]) (.aF)
def abW:H:= .B (.D [z 0 12 4,bL 1 13 7 5,db 2 14 48 12 13,z 3 6 14]) abX
def abV:H:= .B (.D [z 0 10 4,k4 1 11 60 10 3,a4 2 5 (.c9 [aG,aX,aX,aX,aX,aX,aX]),bz 3 7 5 11]) abW
def abU:H:= .B (.D [z 0 7 0,a4 1 8 (.fF [aX,aG] [(0,1,F 7)]),dJ 2 9 8,z 3 4 9]) abV
def abS:H:=
  .B (
  .D [
 a4 0 2 (.c9 [aG,aX,aX,aX,aX,aX,aX,aX,aX]),
 a4 1 3 (.mq (.const (.pointer none)))]) abU
def LJ:bM:=⟨22,[.im 2 true 9,.bw 3],abS⟩
theorem abT:bW al 18=some LJ:=by kernel_rfl
def axH:H:= .B (.D [z 0 51 6,kI 1 52 51 0,z 2 53 52,eB 3 54 53 0 5,dQ 4 55 53 54,k3 5 56 53 55,pl 6 57 53 56 1,cR 7 58 53 57,z 8 59 58,eB 9 60 59 4 5,dQ 10 61 59 60,pl 11 62 59 61 0,cR 12 63 59 62,z 13 64 63,dg 14 65 64 8,pl 15 66 64 65 1,cR 16 67 64 66,z 17 68 67,dg 18 69 68 7,k3 19 70 68 69,pl 20 71 68 70 1,cR 21 72 68 71,z 22 73 72,dg 23 74 73 7,cQ 24 75 73 true (.oH 1 (F 74) (.const aG)),dQ 25 76 73 75,k3 26 77 73 76,pl 27 78 73 77 1,cR 28 79 73 78,z 29 80 79,dg 30 81 80 7,cQ 31 82 80 true (.oH 1 (F 81) (.const aG)),dQ 32 83 80 82,cQ 33 84 80 true (.oH 1 (F 83) (.const aG)),dQ 34 85 80 84,yW 35 86 80 85,cR 36 87 80 86,z 37 88 87,kJ 38 89 88 7 3,cQ 39 90 88 true (.gM 1 1 [aG] [(0,1,.const aG)]),cQ 40 91 88 true (.gM 1 1 [aX] [(0,1,F 90)]),dg 41 92 88 4,kJ 42 93 88 5 5,cQ 43 94 88 true (.dY 45 [F 89,F 91,F 92,F 93]),cR 44 95 88 94,z 45 0 95]) (.aF)
def axP:H:= .B (.D [bL 0 42 7 3,a4 1 43 (.gM 1 1 [aG] [(0,1,.const aG)]),A0 2 44 43,z 3 45 4,ay 4 46 0 5,ao 5 47 46,b0 6 48 41 [F 42,F 44,F 45,F 47],z 7 41 48,b3 8 49 0 41,b3 9 50 1 41,z 10 7 49,z 11 8 50]) axH
def axO:H:= .B (.D [bL 0 34 7 3,a4 1 35 (.gM 1 1 [aG] [(0,1,.const aG)]),A0 2 36 35,z 3 37 4,b0 4 38 44 [F 34,F 36,F 37],z 5 33 38,b3 6 39 0 33,b3 7 40 1 33,a4 8 5 (.c9 [aX,aX,aG,aX,aG]),bz 9 5 5 39,z 10 6 40]) axP
def axN:H:= .B (.D [z 0 31 4,yX 1 32 1 31,A1 2 1 32 0]) axO
def axM:H:= .B (.B (.D [z 0 28 4,bq 1 29 28,kt 2 30 29 2]) (.aM (F 30) (.B (.D [cr 0 0 false]) (.aF)) (.skip))) axN
def axL:H:= .B (.D [bL 0 26 7 3,b0 1 27 52 [F 26,.const (aX)],z 2 4 27]) axM
def axK:H:= .B (.D [a4 0 23 (.fF [.string ⟨#[]⟩,aG] [(0,1,.const (.string ⟨#[118]⟩))]),a4 1 24 (.gM 2 1 [.string ⟨#[]⟩,aG] [(0,2,F 23)]),ay 2 25 6 3,bz 3 1 25 24]) axL
def axJ:H:= .B (.D [a4 0 15 (.gM 1 2 [aG,aG] [(0,1,.const aG),(1,1,.const (.int .i64 1))]),tT 1 16 59 1 1,D1 2 17 16,tT 3 18 59 0 1,tT 4 19 59 1 1,a4 5 20 (.fF [.string ⟨#[]⟩,aG,aG,aG,aG,aG,aG,aG,aG,aX,aX,.bool false,aX,aX,.bool false,aX,aX] [(0,1,.const (.string ⟨#[112]⟩)),(1,1,.const (.int .i64 1)),(2,1,.const aG),(3,1,.const (.int .i64 1)),(9,1,F 15),(10,1,F 17),(11,3,F 18),(14,3,F 19)]),TQ 6 21 20,ay 7 22 5 3,bz 8 1 22 21]) axK
def axI:H:= .B (.D [ay 0 13 0 1,bL 1 14 7 13,a4 2 3 (.c9 [aG,aX,aX,aX,aX,aX,aX]),bz 3 7 3 14]) axJ
def axG:H:= .B (.D [b0 0 10 18 [.const (aX)],z 1 9 10,b3 2 11 0 9,b3 3 12 1 9,a4 4 1 (.c9 [aG,aX,aX,aX,aX,aX,aX,aX,aX]),bz 5 9 1 11,z 6 2 12]) axI
def axE:H:=
  .B (
  .D [
 cr 0 0 false]) axG
def aeB:bM:=⟨96,[.bw 0],axE⟩
theorem axF:bW al 39=some aeB:=by kernel_rfl
def Du:H:= .B (.B (.D [ay 0 50 0 4,bL 1 51 7 50,z 2 52 7,ay 3 53 8 4,ao 4 54 53,bL 5 55 4 10,b0 6 56 53 [F 51,F 52,F 54,F 55]]) (.aM (F 56) (.D [z 0 57 7,ay 1 58 0 10,ao 2 59 58,aY 3 60 1 57 59,ao 4 61 60,ay 5 62 1 10,ao 6 63 62,ay 7 64 3 10,ao 8 65 64,aY 9 66 1 61 63,bz 10 1 66 65]) (.B (.D [z 0 67 0,k4 1 68 49 67 3,jX 2 69 68 0]) (.aM (F 69) (.a7 1) (.skip))))) (.D [z 0 70 8,bL 1 71 4 10,A7 2 72 71,iC 3 73 4 32 70 72,z 4 8 73])
def S2:H:= .B (.D [z 0 43 0,ay 1 44 0 4,ay 2 45 4 44,ao 3 46 45,bq 4 47 46,db 5 48 49 43 47,ay 6 49 3 10,bz 7 1 49 48]) Du
def S1:H:= .B (.D [z 0 33 7,ay 1 34 0 10,ao 2 35 34,aY 3 36 1 33 35,ao 4 37 36,ay 5 38 1 10,ao 6 39 38,aY 7 40 1 37 39,ao 8 41 40,ay 9 42 2 10,bz 10 1 42 41]) S2
def S0:H:= .B (.D [z 0 24 0,z 1 25 7,ay 2 26 0 10,ao 3 27 26,aY 4 28 1 25 27,ao 5 29 28,bq 6 30 29,db 7 31 49 24 30,ay 8 32 1 10,bz 9 1 32 31]) S1
def SZ:H:= .B (.block 1 (.B (.D [z 0 19 0,z 1 20 7,bq 2 21 20,db 3 22 49 19 21,a4 4 23 (.fF [aG,aG,aG,aG] [(0,1,F 22)]),a4 5 10 (.c9 [aG,aG,aG,aG]),bz 6 4 10 23]) S0)) (.D [z 0 17 9,cI 1 18 17,z 2 9 18])
def Mv:H:= .B (.B (.D [z 0 14 9,z 1 15 2,cY 2 16 14 15]) (.aM (F 16) (.skip) (.a7 0))) SZ
def aeG:H:= .B (.D [z 0 74 8,z 1 6 74]) (.aF)
def aeF:H:= .B (.B (.D [a5 0 9 0]) (.block 0 (.loop Mv))) aeG
def aeE:H:= .B (.D [dV 0 8]) aeF
def aeD:H:= .B (.D [ay 0 11 7 4,ao 1 12 11,b0 2 13 46 [F 12],z 3 7 13]) aeE
def aeC:H:=
  .B (
  .D [
 dJ 0 4 1,
 dV 1 6]) aeD
def SY:bM:=⟨75,[.bw 6],aeC⟩
theorem axQ:bW al 40=some SY:=by kernel_rfl
def My:H:= .B (.B (.D [z 0 28 10,bL 1 29 4 12,db 2 30 93 28 29,g6 3 31 30]) (.aM (F 31) (.B (.D [z 0 32 10,fq 1 33 32,ay 2 34 0 33,ao 3 35 34,z 4 36 11,z 5 8 35,z 6 9 36]) (.aF)) (.skip))) (.D [z 0 37 10,bL 1 38 4 12,db 2 39 94 37 38])
def Mx:H:= .B (.block 1 (.B (.D [z 0 25 23,aY 1 26 4 21 23,bL 2 27 4 26,a4 3 12 (.c9 [aG,aG,aG,aG]),z 4 11 25,bz 5 4 12 27]) My)) (.D [cI 0 40 23,z 1 23 40])
def Mw:H:= .B (.aM (F 24) (.skip) (.a7 0)) Mx
def HE:H:= .B (.D [cY 0 24 23 22]) Mw
def S8:H:= .B (.D [z 0 41 10,fq 1 42 41,ay 2 43 0 42,ao 3 44 43,z 4 45 3,bq 5 46 45,z 6 8 44,z 7 9 46]) (.aF)
def S7:H:= .B (.B (.D [z 0 21 3,bq 1 22 21,a5 2 23 0]) (.block 0 (.loop HE))) S8
def S6:H:= .B (.D [bL 0 17 7 4,z 1 18 1,z 2 19 2,b0 3 20 92 [F 17,F 18,F 19],z 4 10 20]) S7
def S5:H:= .B (.B (.D [bL 0 13 7 4,z 1 14 1,db 2 15 91 13 14,g6 3 16 15]) (.aM (F 16) (.B (.D [dV 0 8,a5 1 9 0]) (.aF)) (.skip))) S6
def S3:H:=
  .B (
  .D [
 dJ 0 4 0,
 dV 1 8,
 a5 2 9 0]) S5
def Dv:bM:=⟨47,[.bw 8,.bw 9],S3⟩
theorem S4:bW al 41=some Dv:=by kernel_rfl
def Mz:H:= .B (.block 1 (.B (.B (.D [bL 0 24 7 4,z 1 25 10,z 2 26 2,z 3 27 3,z 4 28 11,aY 5 29 4 27 28,bL 6 30 4 29,b0 7 31 53 [F 24,F 25,F 26,F 30],g6 8 32 31]) (.aM (F 32) (.B (.D [z 0 33 10,z 1 34 11,z 2 8 33,z 3 9 34]) (.aF)) (.skip))) (.D [z 0 35 10,z 1 36 3,z 2 37 11,aY 3 38 4 36 37,ay 4 39 0 38,ao 5 40 39,aY 6 41 1 35 40,ao 7 42 41,z 8 43 3,z 9 44 11,aY 10 45 4 43 44,ay 11 46 1 45,ao 12 47 46,z 13 48 3,z 14 49 11,aY 15 50 4 48 49,ay 16 51 3 50,ao 17 52 51,aY 18 53 1 42 47,bz 19 1 53 52]))) (.D [z 0 22 11,cI 1 23 22,z 2 11 23])
def HF:H:= .B (.B (.D [z 0 18 11,z 1 19 3,bq 2 20 19,cY 3 21 18 20]) (.aM (F 21) (.skip) (.a7 0))) Mz
def aeL:H:= .B (.D [z 0 54 10,z 1 55 3,bq 2 56 55,z 3 8 54,z 4 9 56]) (.aF)
def aeK:H:= .B (.B (.D [a5 0 11 0]) (.block 0 (.loop HF))) aeL
def aeJ:H:= .B (.D [z 0 16 1,b0 1 17 46 [F 16],z 2 10 17]) aeK
def aeI:H:= .B (.B (.D [bL 0 12 7 4,z 1 13 1,db 2 14 95 12 13,g6 3 15 14]) (.aM (F 15) (.B (.D [dV 0 8,a5 1 9 0]) (.aF)) (.skip))) aeJ
def aeH:H:=
  .B (
  .D [
 dJ 0 4 0,
 dV 1 8,
 a5 2 9 0]) aeI
def S9:bM:=⟨57,[.bw 8,.bw 9],aeH⟩
theorem axR:bW al 42=some S9:=by kernel_rfl
def Tb:H:= .B (.block 3 (.B (.D [z 0 38 0,z 1 39 5,aY 2 40 1 38 39,ao 3 41 40,z 4 42 6,aY 5 43 1 41 42,ao 6 44 43,z 7 45 1,z 8 46 5,aY 9 47 1 45 46,ao 10 48 47,z 11 49 6,aY 12 50 1 48 49,ao 13 51 50,nF 14 52 44 51]) (.aM (F 52) (.B (.D [cr 0 4 false]) (.aF)) (.skip)))) (.D [z 0 36 6,cI 1 37 36,z 2 6 37])
def Tc:H:= .B (.B (.D [z 0 29 6,z 1 30 0,z 2 31 5,aY 3 32 1 30 31,ao 4 33 32,bq 5 34 33,cY 6 35 29 34]) (.aM (F 35) (.skip) (.a7 2))) Tb
def MB:H:= .B (.D [a5 0 6 0]) (.block 2 (.loop Tc))
def MA:H:= .B (.block 1 (.B (.B (.D [z 0 18 0,z 1 19 5,aY 2 20 1 18 19,ao 3 21 20,bq 4 22 21,z 5 23 1,z 6 24 5,aY 7 25 1 23 24,ao 8 26 25,bq 9 27 26,nF 10 28 22 27]) (.aM (F 28) (.B (.D [cr 0 4 false]) (.aF)) (.skip))) MB)) (.D [z 0 16 5,cI 1 17 16,z 2 5 17])
def Td:H:= .B (.B (.D [z 0 12 5,z 1 13 0,bq 2 14 13,cY 3 15 12 14]) (.aM (F 15) (.skip) (.a7 0))) MA
def MC:H:= .B (.D [cr 0 4 true]) (.aF)
def aeO:H:= .B (.B (.D [a5 0 5 0]) (.block 0 (.loop Td))) MC
def aeN:H:= .B (.B (.D [z 0 7 0,bq 1 8 7,z 2 9 1,bq 3 10 9,nF 4 11 8 10]) (.aM (F 11) (.B (.D [cr 0 4 false]) (.aF)) (.skip))) aeO
def aeM:H:=
  .B (
  .D [
 cr 0 4 false]) aeN
def Ta:bM:=⟨53,[.bw 4],aeM⟩
theorem axS:bW al 43=some Ta:=by kernel_rfl
def axX:H:= .B (.D [ay 0 56 0 8,ao 1 57 56,z 2 58 12,aY 3 59 1 57 58,ao 4 60 59,z 5 61 14,aY 6 62 1 60 61,ao 7 63 62,z 8 64 15,nF 9 65 63 64]) (.aM (F 65) (.D [z 0 66 11,z 1 67 12,z 2 68 14,z 3 69 15,ay 4 70 0 8,ao 5 71 70,z 6 72 12,aY 7 73 1 71 72,ao 8 74 73,z 9 75 14,aY 10 76 1 74 75,ao 11 77 76,a4 12 78 (.fF [aG,aG,aG,aG] [(0,1,F 67),(1,1,F 68),(2,1,F 69),(3,1,F 77)]),A7 13 79 78,iC 14 80 4 32 66 79,z 15 11 80]) (.skip))
def axW:H:= .B (.block 3 (.B (.D [z 0 53 51,aY 1 54 1 49 51,ao 2 55 54,z 3 14 53,z 4 15 55]) axX)) (.D [cI 0 81 51,z 1 51 81])
def aym:H:= .B (.aM (F 52) (.skip) (.a7 2)) axW
def ayn:H:= .B (.D [cY 0 52 51 50]) aym
def ayl:H:= .B (.D [z 0 49 13,bq 1 50 49,a5 2 51 0]) (.block 2 (.loop ayn))
def ayk:H:= .B (.block 1 (.B (.D [z 0 46 44,aY 1 47 1 42 44,ao 2 48 47,z 3 12 46,z 4 13 48]) ayl)) (.D [cI 0 82 44,z 1 44 82])
def ayj:H:= .B (.aM (F 45) (.skip) (.a7 0)) ayk
def ayo:H:= .B (.D [cY 0 45 44 43]) ayj
def ax5:H:= .B (.D [z 0 101 16,bL 1 102 4 21,db 2 103 93 101 102]) (.aM (F 103) (.B (.D [z 0 104 16,bL 1 105 4 21,db 2 106 94 104 105]) (.D [ay 0 107 0 18,ao 1 108 107,bL 2 109 4 21,A7 3 110 109,iC 4 111 4 32 108 110,ay 5 112 0 18,bz 6 1 112 111])) (.D [z 0 113 19,bL 1 114 4 21,A7 2 115 114,iC 3 116 4 32 113 115,z 4 19 116]))
def ax4:H:= .B (.block 7 (.B (.D [aY 0 99 4 95 97,bL 1 100 4 99,a4 2 21 (.c9 [aG,aG,aG,aG]),bz 3 4 21 100]) ax5)) (.D [cI 0 117 97,z 1 97 117])
def ax3:H:= .B (.aM (F 98) (.skip) (.a7 6)) ax4
def ayp:H:= .B (.D [cY 0 98 97 96]) ax3
def ayd:H:= .B (.D [ay 0 150 0 18,ao 1 151 150,bL 2 152 4 24,A7 3 153 152,iC 4 154 4 32 151 153,ay 5 155 0 18,bz 6 1 155 154]) (.D [z 0 156 19,z 1 157 22,z 2 158 23,aY 3 159 4 156 157,ay 4 160 2 159,bz 5 1 160 158])
def ayc:H:= .B (.D [z 0 147 16,bL 1 148 4 24,db 2 149 94 147 148]) ayd
def ayb:H:= .B (.D [z 0 145 23,ay 1 146 3 24,bz 2 1 146 145]) ayc
def aya:H:= .B (.D [z 0 139 17,ay 1 140 0 24,ao 2 141 140,ay 3 142 1 24,ao 4 143 142,A4 5 144 141 143,rM 6 (.qe (.const (.pointer none)))]) ayb
def ax9:H:= .B (.D [z 0 135 19,z 1 136 22,aY 2 137 4 135 136,bL 3 138 4 137,a4 4 24 (.c9 [aG,aG,aG,aG]),bz 5 4 24 138]) aya
def ax8:H:= .B (.B (.D [z 0 132 22,kt 1 133 132 0]) (.aM (F 133) (.B (.D [a4 0 134 (.fF [aX,aX,aG,aX,aG] []),bz 1 5 6 134,a5 2 7 115]) (.aF)) (.skip))) ax9
def ax7:H:= .B (.B (.D [z 0 118 19,bq 1 119 118,z 2 120 11,bq 3 121 120,df 4 122 .eql (F 119) (F 121)]) (.aM (F 122) (.B (.D [z 0 124 16,z 1 125 19,ay 2 126 0 8,ao 3 127 126,z 4 128 17,b0 5 129 97 [F 124,F 125,F 127,F 128],z 6 123 129,b3 7 130 0 123,b3 8 131 1 123,z 9 22 130,z 10 23 131]) ax8) (.skip))) (.D [z 0 161 19,z 1 11 161])
def ax2:H:= .B (.B (.D [z 0 95 11,bq 1 96 95,a5 2 97 0]) (.block 6 (.loop ayp))) ax7
def ayq:H:= .B (.B (.D [z 0 90 11,bq 1 91 90,jX 2 92 91 0]) (.aM (F 92) (.skip) (.a7 4))) (.block 5 (.B (.D [z 0 93 11,a4 1 94 (.nO 4 (F 93) none (some (.const aG))),z 2 19 94]) ax2))
def ayf:H:= .B (.D [bL 0 169 5 18,bz 1 5 6 169,a5 2 7 0]) (.aF)
def aye:H:= .B (.D [ay 0 162 0 18,ao 1 163 162,bq 2 164 163,ay 3 165 1 8,ao 4 166 165,df 5 167 .sub (F 164) (F 166),ay 6 168 4 18,bz 7 1 168 167]) ayf
def ax1:H:= .B (.block 4 (.loop ayq)) aye
def ax0:H:= .B (.D [bL 0 88 3 8,a4 1 89 (.fF [aX,aX,aG,aX,aG] [(1,3,F 88)]),a4 2 18 (.c9 [aX,aX,aG,aX,aG]),bz 3 5 18 89]) ax1
def axZ:H:= .B (.D [a4 0 87 (.m6),z 1 17 87]) ax0
def axY:H:= .B (.D [bL 0 83 7 3,z 1 84 1,z 2 85 2,b0 3 86 92 [F 83,F 84,F 85],z 4 16 86]) axZ
def ayi:H:= .B (.B (.D [z 0 42 1,bq 1 43 42,a5 2 44 0]) (.block 0 (.loop ayo))) axY
def ayh:H:= .B (.D [dV 0 11]) ayi
def ayg:H:= .B (.B (.D [z 0 38 10,tU 1 39 38]) (.aM (F 39) (.B (.D [a4 0 40 (.fF [aX,aX,aG,aX,aG] []),z 1 41 10,bz 2 5 6 40,z 3 7 41]) (.aF)) (.skip))) ayh
def ax6:H:= .B (.D [bL 0 31 7 3,z 1 32 1,z 2 33 2,b0 3 34 96 [F 31,F 32,F 33],z 4 30 34,b3 5 35 0 30,b3 6 36 1 30,b3 7 37 2 30,a4 8 8 (.c9 [aX,aG,aX]),bz 9 3 8 35,z 10 9 36,z 11 10 37]) ayg
def axV:H:= .B (.B (.D [bL 0 25 7 3,z 1 26 1,db 2 27 91 25 26,g6 3 28 27]) (.aM (F 28) (.B (.D [a4 0 29 (.fF [aX,aX,aG,aX,aG] []),bz 1 5 6 29,a5 2 7 1]) (.aF)) (.skip))) ax6
def axT:H:=
  .B (
  .D [
 dJ 0 3 0,
 a4 1 6 (.c9 [aX,aX,aG,aX,aG]),
 a5 2 7 0]) axV
def aeP:bM:=⟨170,[.im 6 true 5,.bw 7],axT⟩
theorem axU:bW al 44=some aeP:=by kernel_rfl
def ayv:H:= .B (.D [z 0 39 10,ay 1 40 0 7,ao 2 41 40,bq 3 42 41,df 4 43 .eql (F 39) (F 42),z 5 44 43,dg 6 45 44 9,eB 7 46 44 1 7,eB 8 47 44 0 46,dQ 9 48 44 47,qX 10 49 44 99 45 48,pl 11 50 44 49 0,cR 12 51 44 50,z 13 8 51]) (.aF)
def ayu:H:= .B (.D [bL 0 31 7 4,z 1 32 1,z 2 33 2,ay 3 34 0 7,ao 4 35 34,b0 5 36 41 [F 31,F 32,F 33,F 35],z 6 30 36,b3 7 37 0 30,b3 8 38 1 30,z 9 9 37,z 10 10 38]) ayv
def ayt:H:= .B (.B (.D [bL 0 11 7 4,z 1 12 1,z 2 13 2,ay 3 14 1 7,bL 4 15 3 14,b0 5 16 98 [F 11,F 12,F 13,F 15],g6 6 17 16,z 7 18 17,eg 8 19 18 4 7,dM 9 20 18 19,eg 10 21 18 0 7,dM 11 22 18 21,iT 12 23 18 22,eg 13 24 18 1 7,eg 14 25 18 1 24,dM 15 26 18 25,cQ 16 27 18 false (.e8 .sub .fW (F 23) (F 26)),qW 17 28 18 20 27,c6 18 29 18 28]) (.aM (F 29) (.B (.D [cr 0 8 false]) (.aF)) (.skip))) ayu
def ayr:H:=
  .B (
  .D [
 dJ 0 4 0,
 dJ 1 7 3,
 cr 2 8 false]) ayt
def aeQ:bM:=⟨52,[.bw 8],ayr⟩
theorem ays:bW al 45=some aeQ:=by kernel_rfl
def MD:H:= .B (.block 1 (.D [z 0 11 3,z 1 12 0,z 2 13 4,aY 3 14 1 12 13,ao 4 15 14,D4 5 16 8 15,A0 6 17 16,iC 7 18 1 24 11 17,z 8 3 18])) (.D [z 0 9 4,cI 1 10 9,z 2 4 10])
def Tf:H:= .B (.B (.D [z 0 5 4,z 1 6 0,bq 2 7 6,cY 3 8 5 7]) (.aM (F 8) (.skip) (.a7 0))) MD
def ME:H:= .B (.D [z 0 19 3,z 1 2 19]) (.aF)
def aeT:H:= .B (.B (.D [a5 0 4 0]) (.block 0 (.loop Tf))) ME
def aeS:H:= .B (.D [dV 0 3]) aeT
def aeR:H:=
  .B (
  .D [
 dV 0 2]) aeS
def Te:bM:=⟨20,[.bw 2],aeR⟩
theorem ayw:bW al 46=some Te:=by kernel_rfl
def HK:H:= .B (.block 1 (.B (.D [z 0 80 1,ay 1 81 0 7,ao 2 82 81,aY 3 83 1 80 82,ao 4 84 83,z 5 85 9,aY 6 86 1 84 85,ao 7 87 86,ay 8 88 3 7,ao 9 89 88,df 10 90 .eql (F 87) (F 89)]) (.aM (F 90) (.B (.D [cr 0 8 false]) (.aF)) (.skip)))) (.D [z 0 78 9,cI 1 79 78,z 2 9 79])
def MI:H:= .B (.B (.D [z 0 70 9,z 1 71 1,ay 2 72 0 7,ao 3 73 72,aY 4 74 1 71 73,ao 5 75 74,bq 6 76 75,cY 7 77 70 76]) (.aM (F 77) (.skip) (.a7 0))) HK
def rO:H:= .B (.D [bL 0 91 7 4,z 1 92 1,ay 3 94 3 7,ao 4 95 94,bL 7 98 7 4,z 8 99 2,ay 10 101 3 7,ao 11 102 101,iS 2 93 (.dY 34 [F 91,F 92]) [(F 101,F 101),(F 4,F 4),(F 94,F 94)],aY 5 96 1 93 95,ao 6 97 96,iS 9 100 (.dY 52 [F 98,F 99]) [(F 96,F 96),(F 101,F 101),(F 94,F 94)],aY 12 103 1 100 102,ao 13 104 103,cY 14 105 97 104,z 15 8 105]) (.aF)
def vb:H:= .B (.B (.D [a5 0 9 0]) (.block 0 (.loop MI))) rO
def va:H:= .B (.B (.D [ay 0 10 0 7,ao 1 11 10,kt 2 12 11 0,z 3 13 12,eg 4 14 13 0 7,dM 5 15 13 14,du 6 16 13 1,iT 7 17 13 16,yU 8 18 13 15 17,c6 9 19 13 18,z 10 20 19,eg 11 21 20 1 7,dM 12 22 20 21,A5 13 23 20 22,c6 14 24 20 23,z 15 25 24,eg 16 26 25 1 7,dM 17 27 25 26,du 18 28 25 1,eg 19 29 25 0 7,dM 20 30 25 29,n7 21 31 25 1 28 30,dM 22 32 25 31,iT 23 33 25 32,yU 24 34 25 27 33,c6 25 35 25 34,z 26 36 35,du 27 37 36 1,eg 28 38 36 0 7,dM 29 39 36 38,n7 30 40 36 1 37 39,dM 31 41 36 40,eg 32 42 36 1 7,dM 33 43 36 42,n7 34 44 36 1 41 43,dM 35 45 36 44,eg 36 46 36 2 7,dM 37 47 36 46,qW 38 48 36 45 47,c6 39 49 36 48,z 40 50 49,eg 41 51 50 3 7,dM 42 52 50 51,A5 43 53 50 52,c6 44 54 50 53,z 45 55 54,eg 46 56 55 3 7,dM 47 57 55 56,eg 48 58 55 4 4,dM 49 59 55 58,iT 50 60 55 59,yU 51 61 55 57 60,c6 52 62 55 61,z 53 63 62,eg 54 64 63 3 7,dM 55 65 63 64,eg 56 66 63 2 7,dM 57 67 63 66,cQ 58 68 63 false (.e8 .eql .fW (F 65) (F 67)),c6 59 69 63 68]) (.aM (F 69) (.B (.D [cr 0 8 false]) (.aF)) (.skip))) vb
def u9:H:=
  .B (
  .D [
 dJ 0 4 0,
 dJ 1 7 3,
 cr 2 8 false]) va
def tP:bM:=⟨106,[.bw 8],u9⟩
theorem ayx:bW al 53=some tP:=by kernel_rfl
def TK:H:= .B (.D [bL 0 5 7 2,b0 1 6 62 [F 5],kI 2 7 6 0,z 3 8 7,kJ 4 9 8 7 2,dg 5 10 8 1,qX 6 11 8 86 9 10,cR 7 12 8 11,z 8 4 12]) (.aF)
def TI:H:=
  .B (
  .D [
 dJ 0 2 0,
 cr 1 4 false]) TK
def DY:bM:=⟨13,[.bw 4],TI⟩
theorem TJ:bW al 91=some DY:=by kernel_rfl
def afH:H:= .B (.D [z 0 7 1,bL 2 9 7 3,z 3 10 1,bL 5 12 7 3,z 6 13 2,iS 1 8 (.dY 146 [F 7]) [(F 3,F 3),(F 3,F 3)],iS 4 11 (.dY 147 [F 9,F 10]) [(F 3,F 3)],db 7 14 63 12 13,a4 8 15 (.fF [aX,aX,aX] [(0,1,F 8),(1,1,F 11),(2,1,F 14)]),dJ 9 16 15,z 10 6 16]) (.aF)
def afF:H:=
  .B (
  .D [
 dJ 0 3 0,
 a4 1 6 (.mq (.const (.pointer none)))]) afH
def Nh:bM:=⟨17,[.bw 6],afF⟩
theorem afG:bW al 92=some Nh:=by kernel_rfl
def vj:H:= .B (.D [z 0 46 5,ay 1 47 1 3,ao 2 48 47,aY 3 49 1 46 48,ao 4 50 49,ay 5 51 2 3,ao 6 52 51,df 7 53 .eql (F 50) (F 52),z 8 54 53,eB 9 55 54 3 3,dQ 10 56 54 55,cQ 11 57 54 true (.e8 .geq .fW (F 56) (.const aG)),cR 12 58 54 57,z 13 59 58,eB 14 60 59 3 3,dQ 15 61 59 60,dg 16 62 59 0,cQ 17 63 59 true (.qe (F 62)),eB 18 64 59 2 63,dQ 19 65 59 64,k3 20 66 59 65,yT 21 67 59 61 66,cR 22 68 59 67,z 23 69 68,dg 24 70 69 5,eB 25 71 69 3 3,dQ 26 72 69 71,qX 27 73 69 78 70 72,rR 28 74 69 73,cR 29 75 69 74,z 30 76 75,dg 31 77 76 0,cQ 32 78 76 true (.qe (F 77)),eB 33 79 76 1 78,dQ 34 80 76 79,eB 35 81 76 3 3,dQ 36 82 76 81,ml 37 83 76 1 80 82,dQ 38 84 76 83,dg 39 85 76 0,cQ 40 86 76 true (.qe (F 85)),eB 41 87 76 2 86,dQ 42 88 76 87,eB 43 89 76 3 3,dQ 44 90 76 89,ml 45 91 76 1 88 90,dQ 46 92 76 91,yT 47 93 76 84 92,cR 48 94 76 93,z 49 4 94]) (.aF)
def vi:H:= .B (.D [z 0 38 0,fq 1 39 38,ay 2 40 0 39,ao 3 41 40,ay 4 42 0 3,ao 5 43 42,aY 6 44 1 41 43,ao 7 45 44,z 8 5 45]) vj
def vh:H:= .B (.B (.D [ay 0 6 0 3,ao 1 7 6,kt 2 8 7 0,z 3 9 8,eg 4 10 9 0 3,dM 5 11 9 10,du 6 12 9 0,cQ 7 13 9 false (.qe (F 12)),eg 8 14 9 0 13,dM 9 15 9 14,iT 10 16 9 15,yU 11 17 9 11 16,c6 12 18 9 17,z 13 19 18,eg 14 20 19 1 3,dM 15 21 19 20,A5 16 22 19 21,c6 17 23 19 22,z 18 24 23,eg 19 25 24 1 3,dM 20 26 24 25,du 21 27 24 0,cQ 22 28 24 false (.qe (F 27)),eg 23 29 24 0 28,dM 24 30 24 29,eg 25 31 24 0 3,dM 26 32 24 31,n7 27 33 24 1 30 32,dM 28 34 24 33,iT 29 35 24 34,yU 30 36 24 26 35,c6 31 37 24 36]) (.aM (F 37) (.B (.D [cr 0 4 false]) (.aF)) (.skip))) vi
def vg:H:=
  .B (
  .D [
 dJ 0 3 1,
 cr 1 4 false]) vh
def sI:bM:=⟨95,[.bw 4],vg⟩
theorem afI:bW al 93=some sI:=by kernel_rfl
def TO:H:= .B (.D [ay 0 27 2 3,ao 1 28 27,lL 2 29 28 0]) (.aM (F 29) (.D [z 0 30 0,fq 1 31 30,ay 2 32 1 31,ao 3 33 32,ay 4 34 2 3,ao 5 35 34,aY 6 36 1 33 35,ao 7 37 36,h0 8 38 37 1,aY 9 39 1 33 35,bz 10 1 39 38]) (.skip))
def TN:H:= .B (.D [z 0 17 0,fq 1 18 17,ay 2 19 1 18,ao 3 20 19,ay 4 21 3 3,ao 5 22 21,aY 6 23 1 20 22,ao 7 24 23,cI 8 25 24,aY 9 26 1 20 22,bz 10 1 26 25]) TO
def TM:H:= .B (.D [z 0 4 0,fq 1 5 4,ay 2 6 0 5,ao 3 7 6,ay 4 8 0 3,ao 5 9 8,aY 6 10 1 7 9,ao 7 11 10,ay 8 12 1 3,ao 9 13 12,ay 10 14 3 3,ao 11 15 14,aY 12 16 1 11 13,bz 13 1 16 15]) TN
def TL:H:=
  .B (
  .D [
 dJ 0 3 1]) TM
def H3:bM:=⟨40,[],TL⟩
theorem afJ:bW al 94=some H3:=by kernel_rfl
def afL:H:= .B (.D [bL 0 5 7 2,b0 1 6 66 [F 5],kI 2 7 6 0,z 3 8 7,kJ 4 9 8 7 2,dg 5 10 8 1,qX 6 11 8 88 9 10,cR 7 12 8 11,z 8 4 12]) (.aF)
def afK:H:=
  .B (
  .D [
 dJ 0 2 0,
 cr 1 4 false]) afL
def TP:bM:=⟨13,[.bw 4],afK⟩
theorem ayE:bW al 95=some TP:=by kernel_rfl
def ayM:H:= .B (.D [bL 0 45 3 11,bz 1 3 6 45,cr 2 7 true,a5 3 8 0]) (.aF)
def ayL:H:= .B (.D [ay 0 42 2 9,ao 1 43 42,ay 2 44 2 11,bz 3 1 44 43]) ayM
def ayK:H:= .B (.B (.D [z 0 32 10,tU 1 33 32,z 2 34 33,eg 3 35 34 1 11,dM 4 36 34 35,eg 5 37 34 1 9,dM 6 38 34 37,qW 7 39 34 36 38,c6 8 40 34 39]) (.aM (F 40) (.B (.D [bL 0 41 3 9,bz 1 3 6 41,cr 2 7 false,a5 3 8 0]) (.aF)) (.skip))) ayL
def ayJ:H:= .B (.D [bL 0 24 7 3,z 1 25 1,bL 2 26 7 3,z 3 27 2,iS 4 28 (.dY 149 [F 26,F 27]) [(F 3,F 3)],b0 5 29 148 [F 24,F 25,F 28],z 6 23 29,b3 7 30 0 23,b3 8 31 1 23,a4 9 11 (.c9 [aX,aG,aX]),bz 10 3 11 30,z 11 10 31]) ayK
def ayI:H:= .B (.B (.D [z 0 19 10,tU 1 20 19]) (.aM (F 20) (.B (.D [a4 0 21 (.fF [aX,aG,aX] []),z 1 22 10,bz 2 3 6 21,cr 3 7 false,z 4 8 22]) (.aF)) (.skip))) ayJ
def ayH:H:= .B (.D [bL 0 13 7 3,z 1 14 1,z 2 15 2,b0 3 16 148 [F 13,F 14,F 15],z 4 12 16,b3 5 17 0 12,b3 6 18 1 12,a4 7 9 (.c9 [aX,aG,aX]),bz 8 3 9 17,z 9 10 18]) ayI
def ayF:H:=
  .B (
  .D [
 dJ 0 3 0,
 a4 1 6 (.c9 [aX,aG,aX]),
 cr 2 7 false,
 a5 3 8 0]) ayH
def afM:bM:=⟨46,[.im 6 true 3,.bw 7,.bw 8],ayF⟩
theorem ayG:bW al 96=some afM:=by kernel_rfl
def Lv:H:= .B (.block 1 (.B (.D [z 0 13 11,aY 1 14 1 9 11,ao 2 15 14,z 3 4 13,z 4 5 15]) (.D [z 0 16 3,z 1 17 4,z 2 18 5,b0 3 19 71 [F 18],aY 4 20 1 16 17,bz 5 1 20 19]))) (.D [cI 0 21 11,z 1 11 21])
def Lu:H:= .B (.aM (F 12) (.skip) (.a7 0)) Lv
def Sh:H:= .B (.D [cY 0 12 11 10]) Lu
def Lw:H:= .B (.D [z 0 22 3,z 1 2 22]) (.aF)
def aa1:H:= .B (.B (.D [z 0 9 0,bq 1 10 9,a5 2 11 0]) (.block 0 (.loop Sh))) Lw
def aa0:H:= .B (.D [z 0 6 0,bq 1 7 6,a4 2 8 (.kN 1 24 [aX] (F 7) (F 7)),z 3 3 8]) aa1
def aaY:H:=
  .B (
  .D [
 dV 0 2]) aa0
def Lt:bM:=⟨23,[.bw 2],aaY⟩
theorem aaZ:bW al 146=some Lt:=by kernel_rfl
def aoO:H:= .B (.block 1 (.B (.D [z 0 14 12,z 1 6 14]) (.D [z 0 15 5,z 1 16 6,z 2 17 5,z 3 18 6,aY 4 19 1 17 18,ao 5 20 19,h0 6 21 20 1,D0 7 22 21 0,aY 8 23 1 15 16,bz 9 1 23 22]))) (.D [cI 0 24 12,z 1 12 24])
def aoN:H:= .B (.aM (F 13) (.skip) (.a7 0)) aoO
def aoQ:H:= .B (.D [cY 0 13 12 11]) aoN
def aoP:H:= .B (.D [z 0 25 5,z 1 4 25]) (.aF)
def aoM:H:= .B (.B (.D [z 0 10 5,bq 1 11 10,a5 2 12 0]) (.block 0 (.loop aoQ))) aoP
def aoL:H:= .B (.D [bL 0 7 7 2,z 1 8 1,db 2 9 63 7 8,z 3 5 9]) aoM
def aoJ:H:=
  .B (
  .D [
 dJ 0 2 0,
 dV 1 4]) aoL
def aa7:bM:=⟨26,[.bw 4],aoJ⟩
theorem aoK:bW al 149=some aa7:=by kernel_rfl
@[simp] theorem aL0{f:Nat}{args cs kG:List Value}{r:Value}{ok: ∀(t:W) (o:Nat),t.X o=some ⟨cs,true⟩->fi al f (.pointer (some ⟨o,0,none⟩)::args) t λv aI=>v=r/\aI=t.a0 o (some ⟨kG,true⟩)}:(yS f args cs kG r ok).f=f:=rfl
theorem OV{f:Nat}{args cs kG:List Value}{r:Value}{ok: ∀(t:W) (o:Nat),t.X o=some ⟨cs,true⟩->fi al f (.pointer (some ⟨o,0,none⟩)::args) t λv aI=>v=r/\aI=t.a0 o (some ⟨kG,true⟩)}{t:W}{o:Nat}(h:t.X o=some ⟨cs,true⟩){k:Value->W->Prop}(aa:k r (t.a0 o (some ⟨kG,true⟩))):
    OU ((yS f args cs kG r ok).fn (.pointer (some ⟨o,0,none⟩)::args) t) k:=by
  rw[aze h];exact aa
theorem aAx{l:List Int}(aB:l.length<=140737488355328): ∃(u:bg) (L:List (List Int)) (R:List Int) (i:Nat),JE u 3/\L.length=u.cm.length/\tc u L/\R.length=u.aZ.length/\v9 16 R/\i<=1000/\ ∀t:W,fi al 18 [cp l] t λv aI=>v= .tuple #[.agg (aL u++[dW L,cp R]).toArray,cw (t.next+4)]/\aI.X (t.next+4)=some ⟨[cp l,Y i],true⟩:=by
  obtain⟨u,k2,bu,bN,ajH⟩:=ak6 (l:=l) aB (i:=0) (by decide) (bl:=3) (by decide);have aT:=agi bu (by decide);have k1:1<=u.aZ.length/\u.aZ.length<=9:=bu.pr;have yl:=aT.ok.rV;obtain⟨L,ks,dd,ee,gm,aka⟩:=az8 (l:=l) aB (i:=k2) (by omega) aT k1.1;obtain⟨R,Rz,bO,cA,gz,akA⟩:=aCo (l:=l) aB (i:=ks) (by omega) aT k1.1;refine⟨u,L,R,Rz,bu,dd,ee,bO,cA,by omega,λt=> ?_⟩;refine dD (aC:=⟨[],[yS 60 [Y 3] _ _ _ ajH,yS 48 [.agg (aL u).toArray] _ _ _ aka,yS 61 [.agg (aL u).toArray] _ _ _ akA]⟩) abT (by kernel_rfl) (by simp[LJ]) ?_;simp(disch:=first|omega|simp only[DI.ae];omega) [LJ,abS,abU,abV,abW,abX,-O,-U,-N,-S,-List.map_map];refine OV (by simp(disch:=first|omega|simp only[DI.ae];omega) [-O,-U,-N,-S,-List.map_map]) ?_;have fu:(aL u).length=7:=rfl;have hb:gL [Value.int IntKind.i64 0,Value.slice none 0 0,Value.slice none 0 0,Value.slice none 0 0,Value.slice none 0 0,Value.slice none 0 0,Value.slice none 0 0] 0 (aL u)=aL u:=by simp[gL,aL]
  have bA:List.take 7 (aL u)=aL u:=rfl;simp(disch:=first|omega|simp only[DI.ae];omega) [fu,hb,bA,-O,-U,-N,-S,-List.map_map];refine OV (by simp(disch:=first|omega|simp only[DI.ae];omega) [-O,-U,-N,-S,-List.map_map]) ?_;simp(disch:=first|omega|simp only[DI.ae];omega) [fu,bA,-O,-U,-N,-S,-List.map_map];refine⟨by simp[aL],OV (by simp(disch:=first|omega|simp only[DI.ae];omega) [XX,-O,-U,-N,-S,-List.map_map]) ?_⟩;simp(disch:=first|omega|simp only[DI.ae];omega) [af1,-O,-U,-N,-S,-List.map_map];exact⟨by simp[gL,aL],by simp[gL,aL],by simp[gL,aL]⟩
def WM(m:W)(v:Value)(l:List Int):Prop:=(v= .slice none 0 0/\l=[])\/ ∃b o cs w,v= .slice (some ⟨b,o,none⟩) l.length 1/\m.X b=some ⟨cs,w⟩/\(cs.drop o).take l.length=l.map Y/\o+l.length<=cs.length
theorem aku{m:W}{bt:Value}{l:List Int}(a2:WM m bt l)(aB:l.length<=1000000):gp al 71 [bt] m λr aq=>m.next<=aq.next/\(∀b,b<m.next->aq.X b=m.X b/\aq.mp b=m.mp b)/\
    ((l.length=0/\l.map Y=[]/\r= .slice none 0 0)\/ ∃q,m.next<=q/\q<aq.next/\r= .slice (some ⟨q,0,none⟩) l.length 1/\aq.X q=some ⟨l.map Y,true⟩):=by
  rcases a2 with⟨rfl,rfl⟩|⟨b,o,cs,w,rfl,I,av,aH⟩
  · rw[Xy (by simp)];simp(disch:=first|omega|simp only[aO];omega) [HU,M3,M4]
  · have ev:=W.a6 I;rw[Xy (by simp)];by_cases dk:l.length=0
    · obtain rfl:=qu.1 dk;simp(disch:=first|omega|simp only[aO];omega) [HU,M3,M4,I];refine⟨by simpa using aH,λcd fH=>⟨by simp(disch:=first|omega|simp only[aO];omega),rfl⟩,⟨m.next,by omega,by omega,rfl,by simp(disch:=first|omega|simp only[aO];omega)⟩⟩
    · simp(disch:=first|omega|simp only[aO];omega) [HU,M3,M4,I,dk];refine⟨⟨⟨aH,by omega⟩,by omega⟩,λcd fH=>⟨by simp(disch:=first|omega|simp only[aO];omega),rfl⟩,m.next+2,by omega,by omega,rfl,by simp(disch:=first|omega|simp only[aO];omega) [av]⟩
def o5(t:W)(v:Value)(l:List Int):Prop:=kQ t 1 v=true/\lh t 1 v=l.map Y
theorem anc: ∀{l:List Int} {u:fQ} {M:eM} {ys:List Value},bo u M (l.map Y) ys->ys=l.map Y:= λ{l u M ys} h=>by
  apply EY;intro i;cases G:(l.map Y)[i]? with
  | none=>have:=List.getElem?_eq_none_iff.1 G;rw[qv (by rw[<-h.1];exact this)]
  | some x=>have ai:=(dO.1 G).1;obtain⟨y,af⟩: ∃y,ys[i]?=some y:=⟨_,cD (by rw[<-h.1];exact ai)⟩;have ad:=h.2 i x y G af;rw[oZ,rh]at G;obtain⟨n,_,rfl⟩:=G;rw[af,ad.qU]
theorem o5.at{M:eM}{u:fQ}{t m:W}{v bt:Value}{l:List Int}(h:o5 t v l)(K:ec M u t m)(ad:b5 u M v bt):WM m bt l:=by
  have E:=I5 K ad h.1;have I:=Ka K ad h.1;rw[h.2]at I;have av:=anc I;rcases BS E with rfl|⟨b,off,len,x,rfl,G,fR⟩
  · refine .inl ⟨rfl,?_⟩;have:=congrArg List.length av;simp[gj]at this;exact qu.1 this.symm
  · have ar:gj m 1 (.slice (some ⟨b,off,none⟩) len 1)=(x.cells.drop off).take len:=(by simp[gj,hP,G]);rw[ar]at av;have eA:len=l.length:=by
      have:=congrArg List.length av;rw[nU,List.length_drop,j5]at this;omega
    subst eA;exact .inr ⟨b,off,x.cells,x.own,rfl,G,av,by omega⟩
theorem o5.inj{t:W}{v:Value}{l dh:List Int}(h:o5 t v l)(bS:o5 t v dh):l=dh:=by have:=h.2.symm.trans bS.2;exact List.map_inj_right (λa b e=>by simpa using e)|>.1 this
theorem o5.enc{t:W}{l:List Int}:o5 t (cp l) l:=⟨by simp[kQ],by
  have: ∀l:List Int,(l.map λd=>[Y d]).flatten=l.map Y:= λl=>by
    induction l with
    |nil=>rfl
    |cons x l cx=>simp[cx]
  simp[lh,this]⟩
theorem o5.nil{t:W}:o5 t (.slice none 0 0) []:=⟨rfl,rfl⟩
theorem o5.own{t:W}{o off n:Nat}{cs:List Value}{w:Bool}{l:List Int}(h:t.X o=some ⟨cs,w⟩)(az:off+n<=cs.length)(aB:(cs.drop off).take n=l.map Y):o5 t (.slice (some ⟨o,off,none⟩) n 1) l:=
  ⟨by simp[kQ,h8,fS,h,az],by simp[lh,h8,gj,hP,h,aB]⟩
theorem XP{t:W}{v:Value}{l:List Int}(h:o5 t v l)(aB:l.length<=1000000):fi al 71 [v] t λr aI=>r=dm t.next l.length 1/\aI=(t.cf 1).a0 t.next (some ⟨l.map Y,true⟩):=
  aE2 (by simp[dZ]) λM u fb m K aA=>by obtain⟨bt,rfl,ad⟩:=aA.nJ;exact aku (h.at K ad) aB
open Classical in
noncomputable def Co(v:Value)(t:W):Option (Value×W):=if h: ∃l,o5 t v l/\l.length<=1000000 then some (dm t.next h.choose.length 1,(t.cf 1).a0 t.next (some ⟨h.choose.map Y,true⟩))else none
theorem akt{v:Value}{t:W}{l:List Int}(h:o5 t v l)(aB:l.length<=1000000):Co v t=some (dm t.next l.length 1,(t.cf 1).a0 t.next (some ⟨l.map Y,true⟩)):=by have G: ∃l,o5 t v l/\l.length<=1000000:=⟨l,h,aB⟩;have e:G.choose=l:=G.choose_spec.1.inj h;unfold Co;rw[dif_pos G,e]
noncomputable def K7:ie al:= .dN 71 Value (λv=>[v]) (λv t=>Co v t) λv t r aI h cj iB=>by
  simp only[Co]at h;split at h
  · next G=>cases h;exact(XP G.choose_spec.1 G.choose_spec.2).b8 λr aI ⟨a,b⟩=>by rw[a,b];exact iB
  · cases h
@[simp] theorem aKv:K7.f=71:=rfl
@[simp] theorem aKw{v:Value}{t:W}:K7.fn [v] t=Co v t:=ie.eh (x:=v) (t:=t) λy af=>by simp at af;rw[af]
def Gx(l:List Value):Option (List Int):=match l with
  |[]=>some []
  | .int .i64 n::l=>(match Gx l with
    |some k=>some (n::k)
    |none=>none)
  |_=>none
theorem ZL: ∀{cs:List Value} {l:List Int},Gx cs=some l->cs=l.map Y
  |[],l,h=>by cases h;rfl
  | .int .i64 n::cs,l,h=>by
    simp only[Gx]at h;cases aa:Gx cs with
    |none=>rw[aa]at h;cases h
    |some k=>rw[aa]at h;cases h;rw[ZL aa];rfl
def XO(k:Nat):l8:= λf args ah=>bif Nat.beq f k then(match args with
  | [v]=>if kQ (cF ah) 1 v then(match Gx (lh (cF ah) 1 v)with
    | some l=>if Nat.ble l.length 1000000 then(match oe (Ci ah 1) ah.next (some ⟨l.map Y,true⟩)with
      |some c2=>some (dm ah.next l.length 1,c2)
      |none=>none)else none
    |none=>none)else none
  |_=>none)else none
theorem wj:rk al (XO 71):= λf args ah r cv a3 h=>by
  unfold XO at h;cases hb:Nat.beq f 71 with
  |false=>rw[hb]at h;cases h
  | true=>
    rw[hb]at h;simp only[cond_true]at h;obtain rfl:=Nat.eq_of_beq_eq_true hb;split at h
    · next v=>
      split at h
      · next au=>
        split at h
        · next l aB=>
          split at h
          · next az=>
            split at h
            · next c2 rE=>cases h;obtain⟨c8,aJ⟩:=y9 (ait a3) rE;rw[agv a3]at aJ;refine⟨c8,?_⟩;rw[aJ];exact XP ⟨au,ZL aB⟩ (by simpa using az)
            · cases h
          · cases h
        · cases h
      · cases h
    · cases h
theorem agW{c4 lb:Type}{f:c4->Option lb}: ∀{l:List c4} {dh:List lb},dh.length=l.length->(∀(i:Nat) (x:c4) (y:lb),l[i]?=some x->dh[i]?=some y->f x=some y)->fy f l=some dh
  |[],[],_,_=>rfl
  |[],_::_,h,_=>by simp at h
  |_::_,[],h,_=>by simp at h
  | x::l,y::dh,aB,h=>by rw[Ut,h 0 x y rfl rfl];simp only;rw[agW (by simpa using aB) λi a b aA hb=>h (i+1) a b (by simpa using aA) (by simpa using hb)]
def vI(ps:List Nat)(L:List (List Int))(j:Nat):Value:=dm (ps.getD j 0) (L.getD j []).length 1
theorem ur{ps:List Nat}{L:List (List Int)}{j p:Nat}{r:List Int}(ab:ps[j]?=some p)(aw:L[j]?=some r):vI ps L j=dm p r.length 1:=by simp only[vI,la,ab,aw,zG]
def hA(ps:List Nat)(L:List (List Int)):List Value:=iV L.length (vI ps L)
structure lA(t:W)(o:Nat)(ps:List Nat)(L:List (List Int)):Prop where
  len:ps.length=L.length
  jN:ps.Nodup
  hg:o∉ps
  ky:t.X o=some ⟨hA ps L,true⟩
  ct: ∀(i p:Nat) r,ps[i]?=some p->L[i]?=some r->t.X p=some ⟨r.map Y,true⟩
theorem zY{t:W}{o n:Nat}{ps:List Nat}{L:List (List Int)}(h:lA t o ps L):DI.dI (n+2) t (dm o L.length 1)=some (dW L):=by
  have ar:me 1 L.length (hA ps L)=(hA ps L).map λv=>[v]:=by
    have:=Kb (J:=1) (bh:=(hA ps L).map λv=>[v]) (λr aw=>by obtain⟨v,_,rfl⟩:=hn.1 aw;rfl);rw[j5,show(hA ps L).length=L.length from by simp[hA]]at this;rw[<-this];congr 1;generalize hA ps L=l;induction l with
    |nil=>rfl
    |cons x l cx=>rw[mO,oY,<-cx];rfl
  have ax:fy (fy (DI.dI (n+1) t)) ((hA ps L).map λv=>[v])=some (L.map fA):=agW (by simp[hA]) λi x y G af=>by have ai:i<L.length:=(by have:=(dO.1 af).1;simpa using this);rw[oZ,hA,na ai]at G;rw[oZ,cD ai]at af;cases G;cases af;have gW:i<ps.length:=(by rw[h.len];exact ai);have ab:ps[i]?=some ps[i]:=cD gW;rw[ur ab (cD ai)];have:=ss (n:=n) (bh:=L[i].map λx=>[Y x]) (l:=L[i].length) (J:=1) (w:=true) (by rw[tO];exact h.ct i _ _ ab (cD ai)) (by simp) tN;rw[Ut,this];rfl
  rw[Qj,h.ky];simp only[hA]at ar ax⊢;simp only[N4,List.drop_zero,Nat.zero_add,Nat.mul_one,ey,if_true];rw[ar,ax]
theorem lA.b8{t aI:W}{o:Nat}{ps:List Nat}{L:List (List Int)}(h:lA t o ps L)(E:aI.X o=t.X o)(I: ∀p∈ps,aI.X p=t.X p):lA aI o ps L:=
  ⟨h.len,h.jN,h.hg,by rw[E];exact h.ky,λi p r ab aw=>by rw[I p (gJ ab)];exact h.ct i p r ab aw⟩
def lT(L:List (List Int))(v f:Nat)(x:Int):List (List Int):=L.set v ((L.getD v []).set f x)
theorem BQ{L:List (List Int)}{v f:Nat}{x:Int}:(lT L v f x).length=L.length:=by simp[lT]
theorem aAV{ps:List Nat}{L:List (List Int)}{v f:Nat}{x:Int}:hA ps (lT L v f x)=hA ps L:=by
  unfold hA;rw[BQ];refine oO λj bj=> ?_;have:((lT L v f x).getD j []).length=(L.getD j []).length:=by
    simp only[lT,la,s5];by_cases h:v=j
    · subst h;rw[if_pos rfl,if_pos bj];simp
    · rw[if_neg h]
  unfold vI;rw[this]
theorem lA.set{t aI:W}{o v p:Nat}{ps:List Nat}{L:List (List Int)}{f:Nat}{x:Int}(h:lA t o ps L)(ad:v<L.length)(ab:ps[v]?=some p)(E:aI.X o=t.X o)(I: ∀q∈ps,q≠p->aI.X q=t.X q)(av:aI.X p=some ⟨((L.getD v []).set f x).map Y,true⟩):lA aI o ps (lT L v f x):=by
  refine⟨by rw[BQ];exact h.len,h.jN,h.hg,by rw[E,aAV];exact h.ky,λi q r bd aw=> ?_⟩;simp only[lT,s5]at aw;by_cases ai:v=i
  · subst ai;rw[if_pos rfl,if_pos ad]at aw;rw[ab]at bd;cases bd;cases aw;exact av
  · rw[if_neg ai]at aw;have cJ:q≠p:= λe=>by
      subst e;have a:=dO.1 ab;have b:=dO.1 bd;have aQ:=B3.1 h.jN;rcases Nat.lt_trichotomy v i with c|c|c
      · exact aQ v i a.1 b.1 c (a.2.trans b.2.symm)
      · exact ai c
      · exact aQ i v b.1 a.1 c (b.2.trans a.2.symm)
    rw[I q (gJ bd) cJ];exact h.ct i q r bd aw
structure aiZ(t:W)(o:Nat)(ps:List Nat)(L:List (List Int))(i:Nat):Prop where
  len:ps.length=i
  jN:ps.Nodup
  hg:o∉ps
  cV: ∀p∈ps,p<t.next
  ky:t.X o=some ⟨iV i (vI ps L),true⟩
  ct: ∀(j p:Nat) r,ps[j]?=some p->L[j]?=some r->t.X p=some ⟨r.map Y,true⟩
theorem akz{L:List (List Int)}(ck:hu L)(cJ: ∀r∈L,1<=r.length):fi al 46 [dW L] g0 λv bD=> ∃o ps,v=dm o L.length 1/\lA bD o ps L:=by
  refine dD (aC:=⟨[],[]⟩) ayw (by kernel_rfl) (by simp[Te]) ?_;simp(disch:=first|omega|simp only[DI.ae];omega) [Te,aeR,aeS,aeT,-O,-U,-N,-S,-List.map_map];refine ES (d:=3) (J:=1) (by simp) ?_;have eA:=ck.1;refine h9 (aC:=⟨[],[]⟩) (λi A t=> ∃o ps,aiZ t o ps L i/\A 0=dW L/\A 3=dm o i 1/\A 4=Y i) L.length ?_ ?_ 0 _ _ (ht _) ?_
  · rintro i A t ai ⟨o,ps,ar,cE,eL,hs⟩ cS bm;have G:L[i]?=some L[i]:=cD ai;have p7:1<=L[i].length:=cJ _ (jQ ai);have u4:L[i].length<=1000:=ck.2 _ (jQ ai);have cg:=gY (n:=i) (by omega);have b6:(i:Int)<L.length:=(by omega);have bU:=ar.ky;have cB:=a6 bU;have amF: ¬L[i]=[]:= λe=>by rw[e]at p7;simp at p7
    have gh:L[i].length*8<=140737488355328/\L[i].length<=9223372036854775807/\(i+1)*24<=140737488355328/\i<=9223372036854775806:=(by omega);have aMM: ¬o=t.next+5:=by omega
    have aMN: ¬o=t.next+6:=by omega
    have kR:(iV i (vI ps L)).take i=iV i (vI ps L):=jT (by simp);have am6:(L[i].map λs=>[Y s]).flatten=L[i].map Y:=tO;simp(disch:=first|omega|simp only[DI.ae];omega) [Tf,MD,ME,cE,eL,hs,b6,cg,bU,fA,amF,gh,kR,am6,-O,-U,-N,-S,-List.map_map];have yi: ∀p∈ps,p≠t.next+5/\p≠t.next+6/\p≠t.next+7/\p<t.next/\p≠o:= λp ab=>by have:=ar.cV p ab;exact⟨by omega,by omega,by omega,this,λe=>ar.hg (e▸ab)⟩
    have K0: ∀j p,(ps++[t.next+5])[j]?=some p->(j<i/\ps[j]?=some p)\/(j=i/\p=t.next+5):= λj p ab=>by
      rw[xI,ar.len]at ab;split at ab
      · next c=>exact .inl ⟨c,ab⟩
      · next c=>
        obtain rfl|cA:j=i\/i<j:=by omega
        · simp at ab;exact .inr ⟨rfl,ab.symm⟩
        · rw[qv (by simp;omega)]at ab;cases ab
    refine bm _ _ ⟨t.next+7,ps++[t.next+5],⟨by simp[ar.len],?_,?_,?_,?_,?_⟩,by simp[cE],by simp,by simp⟩
    · rw[vU];exact⟨ar.jN,by simp,λa aA b hb=>by simp at hb;subst hb;exact(yi a aA).1⟩
    · intro h;rcases kk.1 h with h|h
      · exact(yi _ h).2.2.1 rfl
      · simp at h
    · intro p ab;rcases kk.1 ab with h|h
      · have:=(yi p h).2.2.2.1;simp;omega
      · simp at h;subst h;simp
    · rw[eD (by simp)];congr 2;rw[N6];congr 1
      · refine oO λj bj=> ?_;have oF:j<ps.length:=(by rw[ar.len];exact bj);simp only[vI,la,sf oF]
      · rw[ur (p:=t.next+5) (r:=L[i]) (by rw[<-ar.len,s4 (ey _)];simp) G]
    · intro j p r ab aw;rcases K0 j p ab with⟨c,p4⟩|⟨rfl,rfl⟩
      · obtain⟨aAQ,qd,agG,aA2,aAU⟩:=yi p (gJ p4);rw[bR agG,bR aAU,bR qd,bR aAQ,e0 aA2];exact ar.ct j p r p4 aw
      · rw[G]at aw;cases aw;rw[bR (by omega),bR (by omega),bR (by omega),eD (by simp)]
  · rintro A t ⟨o,ps,ar,cE,eL,hs⟩;simp(disch:=first|omega|simp only[DI.ae];omega) [Tf,MD,ME,ME,MD,cE,eL,hs,-O,-U,-N,-S,-List.map_map];exact⟨ps,ar.len,ar.jN,ar.hg,ar.ky,ar.ct⟩
  · exact⟨0,[],⟨rfl,List.nodup_nil,by simp,by simp,by simp(disch:=first|omega|simp only[DI.ae];omega) [iV,-O,-U,-N,-S,-List.map_map],by simp⟩,by simp,by simp,by simp⟩
def nY(L:List (List Int))(k:Nat):List Nat:=(List.range L.length).map (k+1+ ·)
def lj(L:List (List Int))(k:Nat):List (List Value):=hA (nY L k) L::L.map λr=>r.map Y
theorem XV{L:List (List Int)}{k i:Nat}(h:i<L.length):(nY L k)[i]?=some (k+1+i):=by simp[nY,h]
theorem XT{f:Nat}{L:List (List Int)}(j6:fi al f [dW L] g0 λv bD=> ∃o ps,v=dm o L.length 1/\lA bD o ps L)(t:W):fi al f [dW L] t λv aI=>v=dm t.next L.length 1/\aI=hD t.next (lj L t.next) (t.cf (L.length+1)):=by
  refine aiB (n:=L.length+1) (r:= λk=>dm k L.length 1) (bs:=lj L) (λk=>by simp[lj]) (λv ad=>by simp at ad;subst ad;rfl) (j6.b8 λv bD ⟨o,ps,ad,az⟩=> ?_) t;subst ad;have bK:(o::ps)[0]?=some o:=rfl;refine⟨o::ps,List.nodup_cons.2 ⟨az.hg,az.jN⟩,by simp[az.len],λk=>⟨.slice ⟨0,bK,rfl⟩,λi cs jq=> ?_⟩⟩;cases i with
  | zero=>simp[lj]at jq;subst jq;refine⟨o,_,bK,az.ky,by simp[hA],λi x y G af=> ?_⟩;have ai:i<L.length:=(by have:=(dO.1 G).1;simpa[hA]using this);have gW:i<ps.length:=(by rw[az.len];exact ai);have aB:=cD ai;rw[hA,na ai,ur (cD gW) aB]at G;rw[hA,na ai,ur (XV (k:=k) ai) aB]at af;cases G;cases af;exact .slice ⟨i+1,by rw[xH];exact cD gW,by omega⟩
  | succ i=>simp only[lj,xH,oZ,rh]at jq;obtain⟨r,aw,rfl⟩:=jq;have ai:=(dO.1 aw).1;have gW:i<ps.length:=(by rw[az.len];exact ai);exact⟨ps[i],_,by rw[xH];exact cD gW,az.ct i _ r (cD gW) aw,pN.cells Ld⟩
theorem PQ{L:List (List Int)}{t:W}:lA (hD t.next (lj L t.next) (t.cf (L.length+1))) t.next (nY L t.next) L:=by
  have eA:(lj L t.next).length=L.length+1:=by simp[lj]
  refine⟨by simp[nY],?_,?_,?_,λi p r ab aw=> ?_⟩
  · unfold nY;refine B3.2 λi j ai bj yg=> ?_;simp;omega
  · simp[nY];omega
  · have:=NZ (i:=t.next) (j:=0) (t:=t.cf (L.length+1)) (l:=lj L t.next) (c:=hA (nY L t.next) L) (by rw[eA];simp[W.cf]) rfl;simpa using this
  · have ai:=(dO.1 aw).1;rw[XV ai]at ab;cases ab;have:=NZ (i:=t.next) (j:=i+1) (t:=t.cf (L.length+1)) (l:=lj L t.next) (c:=r.map Y) (by rw[eA];simp[W.cf]) (by simp[lj,aw]);rw[show t.next+1+i=t.next+(i+1) by omega];exact this
structure aja(t:W)(o:Nat)(ps:List Nat)(L:List (List Int))(i:Nat):Prop where
  len:ps.length=i
  jN:ps.Nodup
  hg:o∉ps
  cV: ∀p∈ps,p<t.next
  ky:t.X o=some ⟨iV L.length (λj=>if j<i then vI ps L j else .slice none 0 0),true⟩
  ct: ∀(j p:Nat) r,ps[j]?=some p->L[j]?=some r->t.X p=some ⟨r.map Y,true⟩
theorem aCs{L:List (List Int)}(ck:hu L):fi al 146 [dW L] g0 λv bD=> ∃o ps,v=dm o L.length 1/\lA bD o ps L:=by
  refine dD (aC:=⟨[],[K7]⟩) aaZ (by kernel_rfl) (by simp[Lt]) ?_;have eA:=ck.1;have gh:L.length*24<=140737488355328/\L.length<=9223372036854775807:=by omega
  simp(disch:=first|omega|simp only[DI.ae];omega) [Lt,aaY,aa0,aa1,-O,-U,-N,-S,-List.map_map];refine⟨by omega,?_⟩;refine h9 (aC:=⟨[],[K7]⟩) (λi A t=> ∃o ps,aja t o ps L i/\A 3=dm o L.length 1/\A 9=dW L/\A 10=Y L.length/\A 11=Y i) L.length ?_ ?_ 0 _ _ (ht _) ?_
  · rintro i A t ai ⟨o,ps,ar,eL,gT,hE,q7⟩ cS bm;have G:L[i]?=some L[i]:=cD ai;have u4:L[i].length<=1000:=ck.2 _ (jQ ai);have cg:=gY (n:=i) (by omega);have b6:(i:Int)<L.length:=(by omega);have bU:=ar.ky;have cB:=a6 bU;have ca: ∀t:W,Co (cp L[i]) t=some (dm t.next L[i].length 1,(t.cf 1).a0 t.next (some ⟨L[i].map Y,true⟩)):= λt=>akt o5.enc (by omega);simp(disch:=first|omega|simp only[DI.ae];omega) [Sh,Lu,Lv,Lw,eL,gT,hE,q7,b6,cg,bU,fA,ca,-O,-U,-N,-S,-List.map_map];have yi: ∀p∈ps,p≠t.next/\p<t.next/\p≠o:= λp ab=>by
      have:=ar.cV p ab;exact⟨by omega,this,λe=>ar.hg (e▸ab)⟩
    have K0: ∀j p,(ps++[t.next])[j]?=some p->(j<i/\ps[j]?=some p)\/(j=i/\p=t.next):= λj p ab=>by
      rw[xI,ar.len]at ab;split at ab
      · next c=>exact .inl ⟨c,ab⟩
      · next c=>
        obtain rfl|cA:j=i\/i<j:=by omega
        · simp at ab;exact .inr ⟨rfl,ab.symm⟩
        · rw[qv (by simp;omega)]at ab;cases ab
    refine⟨by omega,bm _ _ ⟨o,ps++[t.next],⟨by simp[ar.len],?_,?_,?_,?_,?_⟩,by simp[eL],by simp[gT],by simp[hE],by simp⟩⟩
    · rw[vU];exact⟨ar.jN,by simp,λa aA b hb=>by simp at hb;subst hb;exact(yi a aA).1⟩
    · intro h;rcases kk.1 h with h|h
      · exact ar.hg h
      · simp at h;omega
    · intro p ab;rcases kk.1 ab with h|h
      · have:=(yi p h).2.1;simp;omega
      · simp at h;subst h;simp
    · rw[eD (by simp;omega),zc];congr 2;refine oO λj bj=> ?_;by_cases c:j=i
      · subst c;rw[if_pos rfl,if_pos (by omega),ur (p:=t.next) (r:=L[j]) (by rw[<-ar.len,s4 (ey _)];simp) G]
      · rw[if_neg c];by_cases cA:j<i
        · have oF:j<ps.length:=(by rw[ar.len];exact cA);rw[if_pos cA,if_pos (by omega)];simp only[vI,la,sf oF]
        · rw[if_neg cA,if_neg (by omega)]
    · intro j p r ab aw;rcases K0 j p ab with⟨c,p4⟩|⟨rfl,rfl⟩
      · obtain⟨gb,hr,nG⟩:=yi p (gJ p4);rw[bR nG,bR gb,e0 hr];exact ar.ct j p r p4 aw
      · rw[G]at aw;cases aw;rw[bR (by omega),eD (by simp)]
  · rintro A t ⟨o,ps,ar,eL,gT,hE,q7⟩;simp(disch:=first|omega|simp only[DI.ae];omega) [Sh,Lu,Lv,Lw,Lw,Lu,Lv,eL,hE,q7,-O,-U,-N,-S,-List.map_map];refine⟨ps,ar.len,ar.jN,ar.hg,?_,ar.ct⟩;rw[ar.ky,hA];congr 2;exact oO λj bj=>if_pos bj
  · refine⟨2,[],⟨rfl,List.nodup_nil,by simp,by simp,?_,by simp⟩,by simp,by simp,by simp,by simp⟩;rw[N5];simp(disch:=first|omega|simp only[DI.ae];omega) [-O,-U,-N,-S,-List.map_map]
end Go.Proofs.YtmmkkggfmigppaaGreat
namespace Go.Big
structure h3 where
  nh:Int
  lF:Int
  dT:Int
  hT:Int
  deriving DecidableEq
def xm(L:List (List Int))(s:h3):List Int:=L.getD s.nh.toNat []
def hk(n:Nat)(dE fz:List Int)(L:List (List Int))(s:h3):Bool:=
  decide (0<=s.nh)&&(decide (s.nh<L.length)&&(decide (0<=s.lF)&&(decide (s.lF<(xm L s).length)&&(decide ((xm L s).getD s.lF.toNat 0=s.dT)&&(decide (0<=s.hT)&&(decide (s.hT<n)&&(!(xm L s).contains s.hT&&decide (dE.getD s.hT.toNat 0<fz.getD s.hT.toNat 0))))))))
end Go.Big
namespace Go.Proofs.YtmmkkggfmigppaaGreat
open Go Go.DI Go.Big
def fC(s:h3):List Value:=[Y s.nh,Y s.lF,Y s.dT,Y s.hT]
abbrev lE(l:List h3):Value:=aj (l.map fC) 4
theorem aDO{x y:h3}:fC x=fC y↔x=y:=by obtain⟨a,b,c,d⟩:=x;obtain⟨dG,cd,km,ns⟩:=y;simp[fC]
theorem aCv{u:bg}(h:eF u){L:List (List Int)}(ck:hu L){R:List Int}{s:h3}:bH al 53 [.agg (aL u).toArray,dW L,cp R,.agg (fC s).toArray] (.bool (hk u.aZ.length (hf u L) (g8 u R) L s)):=by
  obtain⟨nh,lF,dT,hT⟩:=s;refine ei (dD (aC:=⟨[Og u h,Oh u h],[]⟩) ayx (by kernel_rfl) (by simp[tP]) ?_);by_cases bO:nh<0
  · have ab:hk u.aZ.length (hf u L) (g8 u R) L ⟨nh,lF,dT,hT⟩=false:=(by simp[hk];omega);rw[ab];simp(disch:=first|omega|simp only[DI.ae];omega) [tP,u9,va,vb,rO,aL,fC,bO,-O,-U,-N,-S,-List.map_map]
  obtain⟨bl,rfl⟩:=jS (by omega:0<=nh);by_cases cA:(bl:Int)>=L.length
  · have ab:hk u.aZ.length (hf u L) (g8 u R) L ⟨bl,lF,dT,hT⟩=false:=(by simp[hk];omega);rw[ab];simp(disch:=first|omega|simp only[DI.ae];omega) [tP,u9,va,vb,rO,aL,fC,bO,cA,-O,-U,-N,-S,-List.map_map]
  have e6:bl<L.length:=by omega
  have G:L[bl]?=some L[bl]:=cD e6;have mh:xm L ⟨(bl:Int),lF,dT,hT⟩=L[bl]:=by simp[xm,G]
  have u4:L[bl].length<=1000:=ck.2 _ (jQ e6);by_cases gz:lF<0
  · have ab:hk u.aZ.length (hf u L) (g8 u R) L ⟨bl,lF,dT,hT⟩=false:=(by simp[hk];omega);rw[ab];simp(disch:=first|omega|simp only[DI.ae];omega) [tP,u9,va,vb,rO,aL,fC,bO,cA,gz,-O,-U,-N,-S,-List.map_map]
  obtain⟨f,rfl⟩:=jS (by omega:0<=lF);by_cases hJ:(f:Int)>=L[bl].length
  · have ab:hk u.aZ.length (hf u L) (g8 u R) L ⟨bl,f,dT,hT⟩=false:=by
      unfold hk;rw[mh];simp;omega
    rw[ab];simp(disch:=first|omega|simp only[DI.ae];omega) [tP,u9,va,vb,rO,aL,fC,bO,cA,e6,fA,gz,hJ,-O,-U,-N,-S,-List.map_map]
  have aT:f<L[bl].length:=by omega
  have af:L[bl][f]?=some L[bl][f]:=cD aT;by_cases iy:L[bl][f]=dT
  · by_cases nW:hT<0
    · have ab:hk u.aZ.length (hf u L) (g8 u R) L ⟨bl,f,dT,hT⟩=false:=by
        unfold hk;simp;omega
      rw[ab];simp(disch:=first|omega|simp only[DI.ae];omega) [tP,u9,va,vb,rO,aL,fC,bO,cA,e6,fA,gz,hJ,aT,iy,nW,-O,-U,-N,-S,-List.map_map]
    obtain⟨d,rfl⟩:=jS (by omega:0<=hT);by_cases zP:(d:Int)>=u.aZ.length
    · have ab:hk u.aZ.length (hf u L) (g8 u R) L ⟨bl,f,dT,d⟩=false:=by
        unfold hk;simp;omega
      rw[ab];simp(disch:=first|omega|simp only[DI.ae];omega) [tP,u9,va,vb,rO,aL,fC,bO,cA,e6,fA,gz,hJ,aT,iy,nW,zP,-O,-U,-N,-S,-List.map_map]
    by_cases Xv:dT=(d:Int)
    · subst Xv;have ab:hk u.aZ.length (hf u L) (g8 u R) L ⟨bl,f,d,d⟩=false:=by
        unfold hk;rw[mh];have:(d:Int)∈L[bl]:=(by rw[<-iy];exact jQ aT);simp[this]
      rw[ab];simp(disch:=first|omega|simp only[DI.ae];omega) [tP,u9,va,vb,rO,aL,fC,bO,cA,e6,fA,gz,hJ,aT,iy,nW,zP,-O,-U,-N,-S,-List.map_map]
    have akb: ¬(d:Int)=dT:= λe=>Xv e.symm;have aD:d<u.aZ.length:=(by omega);have P0:(hf u L)[d]?=some (((ko L d:Nat):Int)):=(by rw[tY,na aD]);have P8:(g8 u R)[d]?=some (oP u R d):=(by rw[Eo,na aD]);have ab:hk u.aZ.length (hf u L) (g8 u R) L ⟨bl,f,dT,d⟩=(!(L[bl].contains (d:Int))&&decide (((ko L d:Nat):Int)<oP u R d)):=by unfold hk;rw[mh];have Xu:(d:Int)<u.aZ.length:=(by omega);simp[e6,aT,iy,Xu,P0,P8]
    rw[ab];have en:(hf u L).length=u.aZ.length:=Bd;have hd:(g8 u R).length=u.aZ.length:=N7;simp(disch:=first|omega|simp only[DI.ae];omega) [tP,u9,va,vb,aL,fC,bO,cA,e6,fA,gz,hJ,aT,iy,nW,zP,akb,-O,-U,-N,-S,-List.map_map];refine h9 (aC:=⟨[Og u h,Oh u h],[]⟩) (λi A t=>(∀j x,j<i->L[bl][j]?=some x->x≠(d:Int))/\A 1=dW L/\A 2=cp R/\A 4=cw 0/\A 7=cw 1/\t.X 0=some ⟨aL u,true⟩/\t.X 1=some ⟨fC ⟨bl,f,dT,d⟩,true⟩/\A 9=Y i) L[bl].length ?_ ?_ 0 _ _ (ht _) ⟨λj x bj=>absurd bj (xN _),by simp,by simp,by simp,by simp,by simp(disch:=first|omega|simp only[DI.ae];omega) [aL,-O,-U,-N,-S,-List.map_map],by simp(disch:=first|omega|simp only[DI.ae];omega) [fC,-O,-U,-N,-S,-List.map_map],by simp⟩
    · rintro i A t ai ⟨aA,ba,eP,hs,fa,aN,aK,gT⟩ cS bm;have bK:L[bl][i]?=some L[bl][i]:=cD ai;have cg:=gY (n:=i) (by omega);have b6:(i:Int)<L[bl].length:=(by omega);have gu:=a6 aK;by_cases e:L[bl][i]=(d:Int)
      · have ax:(d:Int)∈L[bl]:=(by rw[<-e];exact jQ ai);simp(disch:=first|omega|simp only[DI.ae];omega) [MI,HK,rO,ba,fa,gT,aK,fC,e6,fA,b6,e,ax,-O,-U,-N,-S,-List.map_map]
      · simp(disch:=first|omega|simp only[DI.ae];omega) [MI,HK,rO,ba,fa,gT,aK,fC,e6,fA,b6,cg,e,-O,-U,-N,-S,-List.map_map];refine bm _ _ ⟨λj x bj hQ=> ?_,by simp[ba],by simp[eP],by simp[hs],by simp[fa],aN,aK,by simp⟩;by_cases c:j=i
        · subst c;rw[bK]at hQ;cases hQ;exact e
        · exact aA j x (by omega) hQ
    · rintro A t ⟨aA,ba,eP,hs,fa,aN,aK,gT⟩;have ax: ¬(d:Int)∈L[bl]:= λax=>by
        obtain⟨j,bj,e⟩:=j4 ax;exact aA j _ bj (cD bj) e
      have fl:=a6 aN;have gu:=a6 aK;simp(disch:=first|omega|simp only[DI.ae];omega) [MI,HK,rO,rO,HK,ba,eP,hs,fa,gT,aN,aK,fC,aL,e6,fA,aD,en,hd,ax,-O,-U,-N,-S,-List.map_map];rw[(dO.1 P0).2,(dO.1 P8).2]
  · have ab:hk u.aZ.length (hf u L) (g8 u R) L ⟨bl,f,dT,hT⟩=false:=by
      unfold hk;rw[mh];simp[af,iy]
    rw[ab];simp(disch:=first|omega|simp only[DI.ae];omega) [tP,u9,va,vb,rO,aL,fC,bO,cA,e6,fA,gz,hJ,aT,iy,-O,-U,-N,-S,-List.map_map]
noncomputable def zg(u:bg)(h:eF u)(R:List Int):bC al:= .dN 53 (List (List Int)×h3) (λx=>hu x.1) (λx=>[.agg (aL u).toArray,dW x.1,cp R,.agg (fC x.2).toArray]) (λx=> .bool (hk u.aZ.length (hf u x.1) (g8 u R) x.1 x.2)) λx G=>aCv h G
@[simp] theorem aPy{u:bg}{h:eF u}{R:List Int}:(zg u h R).f=53:=rfl
@[simp] theorem aPz{u:bg}{h:eF u}{R:List Int}{L:List (List Int)}{a b c d:Int}(ck:hu L):(zg u h R).fn [.agg #[Y u.ext,aj (u.cN.map gZ) 4,aj (u.bf.map gE) 4,aj (u.bP.map ez) 7,aj (u.aZ.map gr) 3,aj (u.cK.map e5) 17,aj (u.cm.map hx) 2],aj (L.map fA) 1,aj (R.map λx=>[Y x]) 1,.agg #[Y a,Y b,Y c,Y d]]=some (.bool (hk u.aZ.length (hf u L) (g8 u R) L ⟨a,b,c,d⟩)):=
  bC.eh (x:=((L,h3.mk a b c d):List (List Int)×h3)) ck λ⟨rm,ki⟩ af=>by obtain⟨dG,cd,km,ns⟩:=ki;simp[fC]at af;obtain⟨E,I,av,aH,br⟩:=af;subst E;subst I;subst av;subst aH;subst br;rfl
theorem aBE{L:List (List Int)}(ck:hu L){dE fz:List Int}(aB:fz.length<=dE.length){s:h3}:bH al 93 [ek [dW L,cp dE,cp fz] 0,.agg (fC s).toArray] (.bool (hk fz.length dE fz L s)):=by
  obtain⟨nh,lF,dT,hT⟩:=s;refine ei (dD (aC:=⟨[U3],[]⟩) afI (by kernel_rfl) (by simp[sI]) ?_);by_cases bO:nh<0
  · have ab:hk fz.length dE fz L ⟨nh,lF,dT,hT⟩=false:=(by simp[hk];omega);rw[ab];simp(disch:=first|omega|simp only[DI.ae];omega) [sI,vg,vh,vi,vj,fC,bO,-O,-U,-N,-S,-List.map_map]
  obtain⟨bl,rfl⟩:=jS (by omega:0<=nh);by_cases cA:(bl:Int)>=L.length
  · have ab:hk fz.length dE fz L ⟨bl,lF,dT,hT⟩=false:=(by simp[hk];omega);rw[ab];simp(disch:=first|omega|simp only[DI.ae];omega) [sI,vg,vh,vi,vj,fC,bO,cA,-O,-U,-N,-S,-List.map_map];rfl
  have e6:bl<L.length:=by omega
  have G:L[bl]?=some L[bl]:=cD e6;have mh:xm L ⟨(bl:Int),lF,dT,hT⟩=L[bl]:=by simp[xm,G]
  have u4:L[bl].length<=1000000:=by have:=ck.2 _ (jQ e6);omega
  by_cases gz:lF<0
  · have ab:hk fz.length dE fz L ⟨bl,lF,dT,hT⟩=false:=(by simp[hk];omega);rw[ab];simp(disch:=first|omega|simp only[DI.ae];omega) [sI,vg,vh,vi,vj,fC,bO,cA,gz,-O,-U,-N,-S,-List.map_map];rfl
  obtain⟨f,rfl⟩:=jS (by omega:0<=lF);by_cases hJ:(f:Int)>=L[bl].length
  · have ab:hk fz.length dE fz L ⟨bl,f,dT,hT⟩=false:=by
      unfold hk;rw[mh];simp;omega
    rw[ab];simp(disch:=first|omega|simp only[DI.ae];omega) [sI,vg,vh,vi,vj,fC,bO,cA,e6,fA,gz,hJ,-O,-U,-N,-S,-List.map_map];rfl
  have aT:f<L[bl].length:=by omega
  have af:L[bl][f]?=some L[bl][f]:=cD aT;by_cases iy:L[bl][f]=dT
  · by_cases nW:hT<0
    · have ab:hk fz.length dE fz L ⟨bl,f,dT,hT⟩=false:=by
        unfold hk;simp;omega
      have Cj: ¬hT>=0:=(by omega);rw[ab];simp(disch:=first|omega|simp only[DI.ae];omega) [sI,vg,vh,vi,vj,fC,bO,cA,e6,fA,gz,hJ,aT,iy,Cj,-O,-U,-N,-S,-List.map_map];rfl
    obtain⟨d,rfl⟩:=jS (by omega:0<=hT);have Cj:(d:Int)>=0:=(by omega);by_cases zP:(d:Int)<fz.length
    · have aD:d<fz.length:=(by omega);have pZ:d<dE.length:=(by omega);have P0:dE[d]?=some dE[d]:=cD pZ;have P8:fz[d]?=some fz[d]:=cD aD;have ab:hk fz.length dE fz L ⟨bl,f,dT,d⟩=(!decide ((d:Int)∈L[bl])&&decide (dE[d]<fz[d])):=by
        unfold hk;rw[mh];simp[e6,aT,iy,aD,pZ]
      rw[ab];by_cases ar:(d:Int)∈L[bl]
      · simp(disch:=first|omega|simp only[DI.ae];omega) [sI,vg,vh,vi,vj,fC,bO,cA,e6,fA,gz,hJ,aT,iy,Cj,zP,ar,-O,-U,-N,-S,-List.map_map];rfl
      · simp(disch:=first|omega|simp only[DI.ae];omega) [sI,vg,vh,vi,vj,fC,bO,cA,e6,fA,gz,hJ,aT,iy,Cj,zP,ar,pZ,-O,-U,-N,-S,-List.map_map];rfl
    · have ab:hk fz.length dE fz L ⟨bl,f,dT,d⟩=false:=by
        unfold hk;simp;omega
      rw[ab];simp(disch:=first|omega|simp only[DI.ae];omega) [sI,vg,vh,vi,vj,fC,bO,cA,e6,fA,gz,hJ,aT,iy,Cj,zP,-O,-U,-N,-S,-List.map_map];rfl
  · have ab:hk fz.length dE fz L ⟨bl,f,dT,hT⟩=false:=by
      unfold hk;rw[mh];simp[af,iy]
    rw[ab];simp(disch:=first|omega|simp only[DI.ae];omega) [sI,vg,vh,vi,vj,fC,bO,cA,e6,fA,gz,hJ,aT,iy,-O,-U,-N,-S,-List.map_map];rfl
structure my(t:W)(s o q:Nat)(ps:List Nat)(L:List (List Int))(dE fz:List Int):Prop where
  zn:t.X s=some ⟨[dm o L.length 1,dm q dE.length 1,cp fz],true⟩
  lp:lA t o ps L
  Bb:t.X q=some ⟨dE.map Y,true⟩
  I7:s≠o
  qo:s≠q
  Ei:o≠q
  OI:s∉ps
  IC:q∉ps
theorem alj{t:W}{s o q:Nat}{ps:List Nat}{L:List (List Int)}{dE fz:List Int}(h:my t s o q ps L dE fz):DI.dI 9 t (cw s)=some (ek [dW L,cp dE,cp fz] 0):=by
  have E:DI.dI 8 t (dm o L.length 1)=some (dW L):=zY (n:=6) h.lp;have I:DI.dI 8 t (dm q dE.length 1)=some (cp dE):=ss (n:=7) (by rw[tO];exact h.Bb) (by simp) tN;have av:DI.dI 8 t (cp fz)=some (cp fz):=x6 rfl;have e:DI.dI 9 t (cw s)=match t.X s with
    | some x=>(match fy (DI.dI 8 t) x.cells with
      |some ct=>some (ek ct 0)
      |none=>none)
    |none=>none:=rfl
  rw[e,h.zn];simp only[Ut,aBp,E,I,av]
def vL(dE:List Int)(d:Nat)(dT:Int):List Int:=
  let gu:=dE.set d (dE.getD d 0+1)
  if 0<=dT then gu.set dT.toNat (gu.getD dT.toNat 0-1)else gu
def tq(t:W)(p q bl f d:Nat)(dT:Int)(L:List (List Int))(dE:List Int):W:=
  (((t.cf 1).a0 t.next (some ⟨fC ⟨bl,f,dT,d⟩,true⟩)).a0 p (some ⟨((L.getD bl []).set f (d:Int)).map Y,true⟩)).a0 q (some ⟨(vL dE d dT).map Y,true⟩)
theorem vN{c4:Type}{l:List c4}{i:Nat}{x:c4}(h:l[i]?=some x):List.take 1 (List.drop i l)=[x]:=by have ai:=(dO.1 h).1;rw[Pg ai,(dO.1 h).2];rfl
theorem akD{t:W}{s o q:Nat}{ps:List Nat}{L:List (List Int)}{dE fz:List Int}(h:my t s o q ps L dE fz){bl f d:Nat}{dT:Int}(e6:bl<L.length)(aT:f<(L.getD bl []).length)(aD:d<dE.length)(eX:dT<dE.length){p:Nat}(ab:ps[bl]?=some p)(hb: ∀x∈dE,0<=x/\x<=10000000)
    (aP: ∀g:Nat,dT=(g:Int)->1<=(dE.set d (dE.getD d 0+1)).getD g 0):
    fi al 94 [cw s,.agg (fC ⟨bl,f,dT,d⟩).toArray] t λv aI=>v= .tuple #[]/\aI=tq t p q bl f d dT L dE:=by
  refine dD (aC:=⟨[],[]⟩) afJ (by kernel_rfl) (by simp[H3]) ?_;have G:L[bl]?=some L[bl]:=cD e6;have aJ:L.getD bl []=L[bl]:=by simp[G]
  rw[aJ]at aT;have ej:=h.zn;have aE:=h.lp.ky;have aw:=h.lp.ct bl p _ ab G;have bd:=h.Bb;have cc:=a6 ej;have cB:=a6 aE;have w8:=a6 aw;have NF:=a6 bd;have az:List.take 1 (List.drop bl (hA ps L))=[dm p L[bl].length 1]:=vN (by rw[hA,na e6,ur ab G]);have u2:bl+1<=(hA ps L).length:=by simp[hA];omega
  have af:List.take 1 (List.drop f (L[bl].map Y))=[Y L[bl][f]]:=vN (by simp[aT]);have bK:List.take 1 (List.drop d (dE.map Y))=[Y dE[d]]:=vN (by simp[aD]);have aKr:=hb _ (jQ aD);have c8:IntKind.i64.wrap (dE[d]+1)=dE[d]+1:=fV (by omega) (by omega);have gb: ¬s=p:= λe=>h.OI (e▸gJ ab);have hr: ¬q=p:= λe=>h.IC (e▸gJ ab);have nG: ¬o=p:= λe=>h.lp.hg (e▸gJ ab);have Bo: ¬p=s:= λe=>gb e.symm;have aMD: ¬p=q:= λe=>hr e.symm;have aMG: ¬p=o:= λe=>nG e.symm;have I7:=h.I7;have qo:=h.qo;have Ei:=h.Ei;have aRD:=h.I7.symm;have aRJ:=h.qo.symm;have aNn:=h.Ei.symm;have fs:((L.getD bl []).set f (d:Int)).map Y=(L[bl].map Y).set f (Y d):=by rw[aJ,List.map_set]
  have aU:dE.getD d 0=dE[d]:=by simp[aD]
  have g7:(dE.set d (dE.getD d 0+1)).map Y=(dE.map Y).set d (Y (dE[d]+1)):=by rw[aU,List.map_set]
  by_cases c:dT>=0
  · obtain⟨g,rfl⟩:=jS c;have YX:g<dE.length:=(by omega);obtain⟨gu,lI⟩: ∃gu,gu=dE.set d (dE.getD d 0+1):=⟨_,rfl⟩;have QZ:g<gu.length:=(by rw[lI];simpa using YX);have FC:gu.getD g 0=gu[g]:=(by simp[QZ]);have aKd:1<=gu[g]:=(by rw[<-FC,lI];exact aP g rfl);have aKe:gu[g]<=10000001:=by
      have ax:=jQ QZ;simp only[lI]at ax;rcases Ju ax with ax|ax
      · simp only[lI];have:=hb _ ax;omega
      · simp only[lI];rw[ax,aU];omega
    rw[<-lI]at g7;have al3:List.take 1 (List.drop g ((dE.map Y).set d (Y (dE[d]+1))))=[Y gu[g]]:=(by rw[<-g7];exact vN (by simp[QZ]));have e7:IntKind.i64.wrap (gu[g]-1)=gu[g]-1:=fV (by omega) (by omega);have jl:(vL dE d (g:Int)).map Y=((dE.map Y).set d (Y (dE[d]+1))).set g (Y (gu[g]-1)):=by rw[<-g7,<-List.map_set];unfold vL;simp only[<-lI,ot,FC];rw[if_pos (by omega)]
    simp(disch:=first|omega|simp only[DI.ae];omega) [H3,TL,TM,TN,TO,fC,ej,aE,aw,bd,az,u2,bK,c8,e6,aT,aD,c,YX,al3,e7,-O,-U,-N,-S,-List.map_map];refine⟨by omega,by omega,by omega,?_⟩;unfold tq;rw[fs,jl];rfl
  · have jl:(vL dE d dT).map Y=(dE.map Y).set d (Y (dE[d]+1)):=by
      rw[<-g7];unfold vL;simp only;rw[if_neg (by omega)]
    simp(disch:=first|omega|simp only[DI.ae];omega) [H3,TL,TM,TN,TO,fC,ej,aE,aw,bd,az,u2,bK,c8,e6,aT,aD,c,-O,-U,-N,-S,-List.map_map];refine⟨by omega,by omega,?_⟩;unfold tq;rw[fs,jl];rfl
theorem PV{t:W}{p q bl f d b:Nat}{dT:Int}{L:List (List Int)}{dE:List Int}(h:b<t.next)(E:b≠p)(I:b≠q):(tq t p q bl f d dT L dE).X b=t.X b:=by unfold tq;rw[bR I,bR E,bR (by omega),e0 h]
theorem aD9{dE:List Int}{d:Nat}{dT:Int}:(vL dE d dT).length=dE.length:=by unfold vL;simp only;split<;>simp
theorem my.step{t:W}{s o q:Nat}{ps:List Nat}{L:List (List Int)}{dE fz:List Int}(h:my t s o q ps L dE fz){bl f d:Nat}{dT:Int}(e6:bl<L.length){p:Nat}(ab:ps[bl]?=some p):my (tq t p q bl f d dT L dE) s o q ps (lT L bl f d) (vL dE d dT) fz:=by
  have G:L[bl]?=some L[bl]:=cD e6;have jb:=gJ ab;have gb:s≠p:= λe=>h.OI (e▸jb);have hr:q≠p:= λe=>h.IC (e▸jb);have nG:o≠p:= λe=>h.lp.hg (e▸jb);have NF:=a6 h.Bb;have w8:=a6 (h.lp.ct bl p _ ab G);refine⟨?_,h.lp.set e6 ab (PV (a6 h.lp.ky) nG h.Ei) (λb hb cJ=> ?_) ?_,?_,h.I7,h.qo,h.Ei,h.OI,h.IC⟩
  · rw[PV (a6 h.zn) gb h.qo,h.zn,BQ,aD9]
  · have iA:b<t.next:=by
      obtain⟨j,bj,e⟩:=j4 hb;have oF:j<L.length:=(by rw[<-h.lp.len];exact bj);exact a6 (h.lp.ct j b _ (by rw[<-e];exact cD bj) (cD oF))
    exact PV iA cJ λe=>h.IC (e▸hb)
  · unfold tq;rw[bR hr.symm,eD (by simp;omega)]
  · unfold tq;rw[eD (by simp;omega)]
theorem ZM{l dh:List Int}(h:l.map Y=dh.map Y):l=dh:=List.map_inj_right (λa b e=>by simpa using e)|>.1 h
theorem my.inj{t:W}{s o q:Nat}{ps:List Nat}{L rm:List (List Int)}{dE NA fz ahq:List Int}(h:my t s o q ps L dE fz)(bS:my t s o q ps rm NA ahq):L=rm/\dE=NA:=by
  constructor
  · have eA:L.length=rm.length:=h.lp.len.symm.trans bS.lp.len;refine List.ext_getElem eA λi ai gW=> ?_;have Y3:i<ps.length:=(by rw[h.lp.len];exact ai);have a:=h.lp.ct i _ _ (cD Y3) (cD ai);have b:=bS.lp.ct i _ _ (cD Y3) (cD gW);rw[a]at b;exact ZM (by simpa using b)
  · have a:=h.Bb;rw[bS.Bb]at a;exact(ZM (by simpa using a)).symm
structure Jz(ps:List Nat)(L:List (List Int))(dE:List Int)(bl f d:Nat)(dT:Int)(p:Nat):Prop where
  e6:bl<L.length
  aT:f<(L.getD bl []).length
  aD:d<dE.length
  eX:dT<dE.length
  ab:ps[bl]?=some p
  hb: ∀x∈dE,0<=x/\x<=10000000
  aP: ∀g:Nat,dT=(g:Int)->1<=(dE.set d (dE.getD d 0+1)).getD g 0
structure WL where
  L:List (List Int)
  dE:List Int
  fz:List Int
  bl:Nat
  f:Nat
  d:Nat
  dT:Int
  p:Nat
open Classical in
noncomputable def Gu(s o q:Nat)(ps:List Nat):ie al:=
  ⟨94,λJk t=>if h: ∃x:WL,my t s o q ps x.L x.dE x.fz/\Jz ps x.L x.dE x.bl x.f x.d x.dT x.p/\[cw s,.agg (fC ⟨x.bl,x.f,x.dT,x.d⟩).toArray]=Jk then some (.tuple #[],tq t h.choose.p q h.choose.bl h.choose.f h.choose.d h.choose.dT h.choose.L h.choose.dE)else none,λJk t dL aI h cj iB=>by
    split at h
    · next G=>cases h;obtain⟨E,I,av⟩:=G.choose_spec;have:=akD E I.e6 I.aT I.aD I.eX I.ab I.hb I.aP;rw[av]at this;exact this.b8 λv aI ⟨a,b⟩=>by rw[a,b];exact iB
    · cases h⟩
@[simp] theorem aKz{s o q:Nat}{ps:List Nat}:(Gu s o q ps).f=94:=rfl
theorem aEz{s o q:Nat}{ps:List Nat}{t:W}{L:List (List Int)}{dE fz:List Int}{bl f d p:Nat}{dT:Int}(h:my t s o q ps L dE fz)(aD:Jz ps L dE bl f d dT p){k:Value->W->Prop}(aa:k (.tuple #[]) (tq t p q bl f d dT L dE)):
    OU ((Gu s o q ps).fn [cw s,.agg #[Y bl,Y f,Y dT,Y d]] t) k:=by
  have gP: ∃x:WL,my t s o q ps x.L x.dE x.fz/\Jz ps x.L x.dE x.bl x.f x.d x.dT x.p/\[cw s,.agg (fC ⟨x.bl,x.f,x.dT,x.d⟩).toArray]=[cw s,.agg #[Y bl,Y f,Y dT,Y d]]:=⟨⟨L,dE,fz,bl,f,d,dT,p⟩,h,aD,rfl⟩;have lK:=gP.choose_spec;simp only[Gu,dif_pos gP];generalize gP.choose=x at lK⊢;obtain⟨E,I,av⟩:=lK;obtain⟨bu,bN⟩:=E.inj h;obtain⟨rm,NA,ahq,ajd,Qb,ns,aJn,lP⟩:=x;simp[fC]at av;simp only at bu bN I;obtain⟨dd,ee,gm,gq⟩:=av;obtain rfl:ajd=bl:=by omega
  obtain rfl:Qb=f:=by omega
  obtain rfl:ns=d:=by omega
  subst bu bN gm;have jH:=I.ab;rw[aD.ab]at jH;cases jH;exact aa
end Go.Proofs.YtmmkkggfmigppaaGreat
