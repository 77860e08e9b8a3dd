/-
  A part of the proof of the statement, in texts that tools of ours (wip/shrink.py, irpack.py, relax.py, minify.py, join.py, lay.py) have shortened.
-/
import Derived.Test.YtmmkkggfmigppaaGreatZaj
set_option linter.all false
set_option maxRecDepth 8000
set_option maxHeartbeats 16000000
namespace Go.Proofs.YtmmkkggfmigppaaGreat
open Go Go.DI Go.Big
attribute [local simp] Uu Uv Uw Ux UG UH UI
abbrev ja:Value:= .slice none 0 0
noncomputable def dg{f:Nat}{args:List Value}{r:Value}(h:bK al f args r):bE al:= .dR f Unit (λ_=>True) (λ_=>args) (λ_=>r) λ_ _=>h
@[simp] theorem aJj{f:Nat}{args:List Value}{r:Value}{h:bK al f args r}:(dg h).f=f:=rfl
theorem h9{f:Nat}{args:List Value}{r:Value}(h:bK al f args r):(dg h).fn args=some r:=bE.eH (x:=()) trivial λ_ _=>rfl
theorem uP{f:Nat}{args mY:List Value}{r:Value}(h:bK al f args r)(au:args≠mY):(dg h).fn mY=none:=by unfold dg bE.dR;simp only;rw[dif_neg];rintro⟨_,_,e⟩;exact au e
noncomputable def qp(a b:bE al)(h:b.f=a.f):bE al:=⟨a.f,λargs=>match a.fn args with
  |some r=>some r
  | none=>b.fn args,λargs r az=>by
    cases ax:a.fn args with
    |some dV=>rw[ax]at az;cases az;exact a.ok args r ax
    |none=>rw[ax]at az;have:=b.ok args r az;rw[h]at this;exact this⟩
@[simp] theorem aJk{a b:bE al}{h:b.f=a.f}:(qp a b h).f=a.f:=rfl
theorem wE{a b:bE al}{h:b.f=a.f}{args:List Value}{r:Value}(ax:a.fn args=some r):(qp a b h).fn args=some r:=by simp only[qp,ax]
theorem uQ{a b:bE al}{h:b.f=a.f}{args:List Value}{r:Value}(ax:a.fn args=none)(hb:b.fn args=some r):(qp a b h).fn args=some r:=by simp only[qp,ax,hb]
theorem az0{x:Int}(G:x≠0):bK al 194 [bM [x]] (bM [x]):=by refine et (dM (aB:=⟨[],[]⟩) QT (by kernel_rfl) (by simp[Ch]) ?_);simp(disch:=first|omega|simp only[DI.ab];omega) [Ch,QS,QU,QV,-O,-U,-N,-S,-List.map_map];refine eu (aB:=⟨[],[]⟩) λcx bk=> ?_;simp(disch:=first|omega|simp only[DI.ab];omega) [KL,Ci,Ci,G,-O,-U,-N,-S,-List.map_map];exact sG (n:=8) (a8:=[[eP x]]) (w:=true) (by simp(disch:=first|omega|simp only[DI.ab];omega) [-O,-U,-N,-S,-List.map_map]) rfl Td
theorem azZ{x:Int}(G:x≠0):bK al 194 [bM [x,0]] (bM [x]):=by refine et (dM (aB:=⟨[],[]⟩) QT (by kernel_rfl) (by simp[Ch]) ?_);simp(disch:=first|omega|simp only[DI.ab];omega) [Ch,QS,QU,QV,-O,-U,-N,-S,-List.map_map];refine eu (aB:=⟨[],[]⟩) λcx bk=> ?_;simp(disch:=first|omega|simp only[DI.ab];omega) [KL,Ci,-O,-U,-N,-S,-List.map_map];refine bk _ _ (eu (aB:=⟨[],[]⟩) λcx bk=> ?_);simp(disch:=first|omega|simp only[DI.ab];omega) [KL,Ci,Ci,G,-O,-U,-N,-S,-List.map_map];exact sG (n:=8) (a8:=[[eP x]]) (w:=true) (by simp(disch:=first|omega|simp only[DI.ab];omega) [-O,-U,-N,-S,-List.map_map]) rfl Td
noncomputable def ob:bE al:= .dR 194 Int (λx=>x≠0) (λx=>[bM [x]]) (λx=>bM [x]) λ_ h=>az0 h
@[simp] theorem aKI:ob.f=194:=rfl
@[simp] theorem axY{x:Int}(h:x≠0):ob.fn [aw [[eP x]] 1]=some (bM [x]):=bE.eH (x:=x) h λy ag=>by simpa using ag
noncomputable def TP:bE al:= .dR 194 Int (λx=>x≠0) (λx=>[bM [x,0]]) (λx=>bM [x]) λ_ h=>azZ h
@[simp] theorem aKG:TP.f=194:=rfl
@[simp] theorem aKH{x:Int}(h:x≠0):TP.fn [aw [[eP x],[eP 0]] 1]=some (bM [x]):=bE.eH (x:=x) h λy ag=>by simpa using ag
theorem azX{x:Int}(G:x≠0):bK al 246 [bM [x]] (.bool false):=by refine et (dM (aB:=⟨[ob],[]⟩) abd (by kernel_rfl) (by simp[Le]) ?_);simp(disch:=first|omega|simp only[DI.ab];omega) [Le,abc,abe,-O,-U,-N,-S,-List.map_map]
noncomputable def AQ:bE al:= .dR 246 Int (λx=>x≠0) (λx=>[bM [x]]) (λ_=> .bool false) λ_ h=>azX h
@[simp] theorem aKu:AQ.f=246:=rfl
@[simp] theorem axR{x:Int}(h:x≠0):AQ.fn [aw [[eP x]] 1]=some (.bool false):=bE.eH (x:=x) h λy ag=>by simpa using ag
theorem azV{x y:Int}(G:x≠0)(ag:y≠0):bK al 241 [bM [x],bM [y]] (Z (if x<y then-1 else if x>y then 1 else 0)):=by
  refine et (dM (aB:=⟨[ob],[]⟩) aa7 (by kernel_rfl) (by simp[Ld]) ?_);simp(disch:=first|omega|simp only[DI.ab];omega) [Ld,aa6,aa8,aa9,aba,abb,-O,-U,-N,-S,-List.map_map];refine eu (aB:=⟨[ob],[]⟩) λcx bk=> ?_;by_cases ch:x<y
  · simp(disch:=first|omega|simp only[DI.ab];omega) [GH,Cy,Cz,CA,ch,-O,-U,-N,-S,-List.map_map]
  by_cases c6:x>y
  · simp(disch:=first|omega|simp only[DI.ab];omega) [GH,Cy,Cz,CA,ch,c6,-O,-U,-N,-S,-List.map_map]
  simp(disch:=first|omega|simp only[DI.ab];omega) [GH,Cy,Cz,CA,ch,c6,-O,-U,-N,-S,-List.map_map];refine bk _ _ (eu (aB:=⟨[ob],[]⟩) λcx bk=> ?_);simp(disch:=first|omega|simp only[DI.ab];omega) [GH,Cy,Cz,CA,CA,Cy,Cz,ch,c6,-O,-U,-N,-S,-List.map_map]
noncomputable def DA:bE al:= .dR 241 (Int×Int) (λx=>x.1≠0/\x.2≠0) (λx=>[bM [x.1],bM [x.2]]) (λx=>Z (if x.1<x.2 then-1 else if x.1>x.2 then 1 else 0)) λ_ h=>azV h.1 h.2
@[simp] theorem aKp:DA.f=241:=rfl
@[simp] theorem aKq{x y:Int}(h:x≠0/\y≠0):DA.fn [aw [[eP x]] 1,aw [[eP y]] 1]=some (Z (if x<y then-1 else if x>y then 1 else 0)):=bE.eH (x:=(x,y)) h λ⟨a,b⟩ ag=>by simpa using ag
theorem N1:bK al 168 [.int .u64 0] ja:=gf (by kernel_rfl)
theorem azY{x:Int}(D:0<x)(H:x<4294967296):bK al 168 [.int .u64 x] (bM [x]):=by
  have G:x≠0:=by omega
  have c3:IntKind.u32.wrap x=x:=Ug (by omega) (by omega);have aK:x.fdiv 4294967296=0:=by rw[Int.fdiv_eq_ediv_of_nonneg _ (by decide)];omega
  refine et (dM (aB:=⟨[TP],[]⟩) Ze (by kernel_rfl) (by simp[Kw]) ?_);simp(disch:=first|omega|simp only[DI.ab];omega) [Kw,Zd,Zf,c3,aK,qM,ql,-O,-U,-N,-S,-List.map_map]
noncomputable def TM:bE al:= .dR 168 Int (λx=>0<x/\x<4294967296) (λx=>[.int .u64 x]) (λx=>bM [x]) λ_ h=>azY h.1 h.2
@[simp] theorem aKx:TM.f=168:=rfl
@[simp] theorem aKy{x:Int}(h:0<x/\x<4294967296):TM.fn [.int .u64 x]=some (bM [x]):=bE.eH (x:=x) h λy ag=>by simpa using ag
section
variable {I:Int} (D:2<=I) (H:I<200)
include D H
theorem UL:bK al 247 [bM [1],bM [I]] (.tuple #[ja,bM [1]]):=by
  have bD:I≠0:=by omega
  have c:(1:Int)<I:=by omega
  have gk:(1:Int)≠0:=by decide
  refine et (dM (aB:=⟨[DA,ob],[]⟩) Rr (by kernel_rfl) (by simp[CB]) ?_);simp(disch:=first|omega|simp only[DI.ab];omega) [CB,Rq,Rs,c,-O,-U,-N,-S,-List.map_map]
theorem aga:bK al 247 [bM [I],bM [1]] (.tuple #[bM [I],ja]):=by
  have bD:I≠0:=by omega
  have c: ¬I<1:=by omega
  have c6:I>1:=by omega
  have iq:(1:Int)<I:=by omega
  have gk:(1:Int)≠0:=by decide
  have c3:IntKind.u64.wrap I=I:=Uh (by omega) (by omega);have e3:IntKind.u32.wrap I=I:=Ug (by omega) (by omega);have mT:max (I%2^IntKind.u64.bits) 0=I:=by show max (I%18446744073709551616) 0=I;omega
  have aK:I.tdiv 1=I:=by simp
  have aR:I.tmod 1=0:=by simp
  have r3:=h9 N1;refine et (dM (aB:=⟨[DA,ob,dg N1],[]⟩) Rr (by kernel_rfl) (by simp[CB]) ?_);simp(disch:=first|omega|simp only[DI.ab];omega) [CB,Rq,Rs,abf,abg,abh,c,c6,-O,-U,-N,-S,-List.map_map];refine eu (aB:=⟨[DA,ob,dg N1],[]⟩) λcx bk=> ?_;simp(disch:=first|omega|simp only[DI.ab];omega) [Ru,Lf,Lg,c3,e3,mT,aK,aR,-O,-U,-N,-S,-List.map_map];refine bk _ _ (eu (aB:=⟨[DA,ob,dg N1],[]⟩) λcx bk=> ?_);simp(disch:=first|omega|simp only[DI.ab];omega) [Ru,Lf,Lg,Rt,Rt,Lf,Lg,r3,qM,ql,-O,-U,-N,-S,-List.map_map]
theorem azW:([bM [1],bM [I]]:List Value)≠[bM [I],bM [1]]:= λh=>by simp at h;omega
noncomputable def AP:bE al:=qp (dg (UL D H)) (dg (aga D H)) rfl
@[simp] theorem aKr:(AP D H).f=247:=rfl
theorem axM:(AP D H).fn [aw [[eP 1]] 1,aw [[eP I]] 1]=some (.tuple #[ja,bM [1]]):=wE (h9 (UL D H))
theorem axN:(AP D H).fn [aw [[eP I]] 1,aw [[eP 1]] 1]=some (.tuple #[bM [I],ja]):=uQ (uP (UL D H) (azW D H)) (h9 (aga D H))
theorem agb:bK al 213 [bM [1],bM [I]] (.tuple #[bM [1],Z 0]):=by
  have bD:I≠0:=by omega
  have gk:(1:Int)≠0:=by decide
  have hP:=axM D H;have hd:=axN D H;refine et (dM (aB:=⟨[AQ,ob,AP D H],[]⟩) Z8 (by kernel_rfl) (by simp[KW]) ?_);simp(disch:=first|omega|simp only[DI.ab];omega) [KW,Z7,Z9,aaa,aab,-O,-U,-N,-S,-List.map_map];refine eu (aB:=⟨[AQ,ob,AP D H],[]⟩) λcx bk=> ?_;simp(disch:=first|omega|simp only[DI.ab];omega) [KX,Gy,hP,-O,-U,-N,-S,-List.map_map];refine bk _ _ (eu (aB:=⟨[AQ,ob,AP D H],[]⟩) λcx bk=> ?_);simp(disch:=first|omega|simp only[DI.ab];omega) [KX,Gy,hd,-O,-U,-N,-S,-List.map_map];refine bk _ _ (eu (aB:=⟨[AQ,ob,AP D H],[]⟩) λcx bk=> ?_);simp(disch:=first|omega|simp only[DI.ab];omega) [KX,Gy,Gy,-O,-U,-N,-S,-List.map_map]
noncomputable def TL:bE al:=dg (agb D H)
@[simp] theorem aKs:(TL D H).f=213:=rfl
@[simp] theorem aKt:(TL D H).fn [aw [[eP 1]] 1,aw [[eP I]] 1]=some (.tuple #[bM [1],Z 0]):=h9 (agb D H)
theorem agd:bK al 167 [.bool false,bM [1],bM [I]] (dw ⟨false,[1],[I]⟩):=by
  have bD:I≠0:=by omega
  have gk:(1:Int)≠0:=by decide
  refine et (dM (aB:=⟨[TL D H,ob],[]⟩) Y7 (by kernel_rfl) (by simp[Kv]) ?_);simp(disch:=first|omega|simp only[DI.ab];omega) [Kv,Y6,Y8,Y9,Za,Zb,Zc,gk,dS,-O,-U,-N,-S,-List.map_map]
theorem agl:bK al 138 [dw ⟨false,[1],[I]⟩] (.bool true):=by
  have bD:I≠0:=by omega
  have gk:(1:Int)≠0:=by decide
  refine et (dM (aB:=⟨[ob],[]⟩) YX (by kernel_rfl) (by simp[Kr]) ?_);simp(disch:=first|omega|simp only[DI.ab];omega) [Kr,YW,YY,dS,-O,-U,-N,-S,-List.map_map]
noncomputable def TQ:bE al:=dg (agl D H)
@[simp] theorem aKJ:(TQ D H).f=138:=rfl
@[simp] theorem aKK:(TQ D H).fn [.agg #[.bool false,aw [[eP 1]] 1,aw [[eP I]] 1]]=some (.bool true):=h9 (agl D H)
noncomputable def Nl:bE al:=dg (agd D H)
@[simp] theorem aKv:(Nl D H).f=167:=rfl
@[simp] theorem aKw:(Nl D H).fn [.bool false,aw [[eP 1]] 1,aw [[eP I]] 1]=some (dw ⟨false,[1],[I]⟩):=h9 (agd D H)
theorem agf:bK al 196 [dw ⟨false,[1],[I]⟩] (.tuple #[dw ⟨false,[1],[I]⟩,Z 0]):=by refine et (dM (aB:=⟨[TQ D H,Nl D H],[]⟩) Z2 (by kernel_rfl) (by simp[KN]) ?_);simp(disch:=first|omega|simp only[DI.ab];omega) [KN,Z1,Z3,Z4,dS,-O,-U,-N,-S,-List.map_map]
noncomputable def TO:bE al:=dg (agf D H)
@[simp] theorem aKB:(TO D H).f=196:=rfl
@[simp] theorem aKC:(TO D H).fn [.agg #[.bool false,aw [[eP 1]] 1,aw [[eP I]] 1]]=some (.tuple #[dw ⟨false,[1],[I]⟩,Z 0]):=h9 (agf D H)
theorem ID:bK al 140 [dw ⟨false,[1],[I]⟩] (.bool true):=by refine et (dM (aB:=⟨[TO D H],[]⟩) Y3 (by kernel_rfl) (by simp[Kt]) ?_);simp(disch:=first|omega|simp only[DI.ab];omega) [Kt,Y2,Y4,Y5,dS,-O,-U,-N,-S,-List.map_map]
theorem agi:bK al 169 [Z I] (.int .u64 I):=by
  have c3:IntKind.u64.wrap I=I:=Uh (by omega) (by omega);have c: ¬I<0:=by omega
  refine et (dM (aB:=⟨[],[]⟩) Zh (by kernel_rfl) (by simp[Kx]) ?_);simp(disch:=first|omega|simp only[DI.ab];omega) [Kx,Zg,Zi,Zj,c3,c,-O,-U,-N,-S,-List.map_map]
omit D H in
theorem UP:bK al 169 [Z 1] (.int .u64 1):=gf (by kernel_rfl)
noncomputable def Nm:bE al:=qp (dg UP) (dg (agi D H)) rfl
@[simp] theorem aKF:(Nm D H).f=169:=rfl
@[simp] theorem aKD:(Nm D H).fn [Z 1]=some (.int .u64 1):=wE (h9 UP)
@[simp] theorem aKE:(Nm D H).fn [Z I]=some (.int .u64 I):=uQ (uP UP (by simp;omega)) (h9 (agi D H))
theorem age:bK al 107 [Z 1,Z I] (.tuple #[dw ⟨false,[1],[I]⟩,Z 0]):=by
  have bD:I≠0:=by omega
  have c: ¬I<0:=by omega
  have ec:(0:Int)<1/\(1:Int)<4294967296:=by decide
  have gY:0<I/\I<4294967296:=by omega
  refine et (dM (aB:=⟨[Nm D H,TM,Nl D H],[]⟩) Yb (by kernel_rfl) (by simp[Km]) ?_);simp(disch:=first|omega|simp only[DI.ab];omega) [Km,Ya,Yc,Yd,bD,c,dS,-O,-U,-N,-S,-List.map_map]
noncomputable def TN:bE al:=dg (age D H)
@[simp] theorem aKz:(TN D H).f=107:=rfl
@[simp] theorem aKA:(TN D H).fn [Z 1,Z I]=some (.tuple #[dw ⟨false,[1],[I]⟩,Z 0]):=h9 (age D H)
theorem aiB:bK al 59 [Z 1,Z I] (dw ⟨false,[1],[I]⟩):=by refine et (dM (aB:=⟨[TN D H],[]⟩) acf (by kernel_rfl) (by simp[Lx]) ?_);simp(disch:=first|omega|simp only[DI.ab];omega) [Lx,ace,acg,ach,dS,-O,-U,-N,-S,-List.map_map]
end
attribute [local simp] Uu Uv Uw Ux UG UH UI
noncomputable def H7:bE al:= .dR 140 bS bS.cY (λx=>[dw x]) (λx=> .bool x.bA.small) λ_ aa=>aeP aa
@[simp] theorem aJG:H7.f=140:=rfl
theorem axC{n:Bool}{a b:List Int}(h:(bS.mk n a b).cY):H7.fn [.agg #[.bool n,bM a,bM b]]=some (.bool (bS.mk n a b).bA.small):=bE.eH (x:=bS.mk n a b) h λy ag=>yy ag
theorem Th{l:List bS}{n:Nat}(aa: ∀x∈l,x.cY)(au:n<1000000):bK al 190 [hz l,Z n] (.bool (decide (l.length=n)&&l.all λx=>x.bA.small)):=by
  have Y:(l.all λx=>x.bA.small)=true:=eQ.2 λ_ _=>rfl;refine et (dM (aB:=⟨[H7],[]⟩) ZR (by kernel_rfl) (by simp[Cg]) ?_);by_cases aD:l.length=n
  · have iV:((l.length:Nat):Int)=(n:Int):=(by omega);simp(disch:=first|omega|simp only[DI.ab];omega) [Cg,KI,KJ,KK,iV,-O,-U,-N,-S,-List.map_map];refine h4 (aB:=⟨[H7],[]⟩) (λi z t=>z 0=hz l/\z 1=Z n/\z 5=Z i) n ?_ ?_ 0 _ _ (hx _) ⟨by simp,by simp,by simp⟩
    · rintro i z t ak ⟨cX,bl,ct⟩ cx bk;have G:l[i]?=some l[i]:=dD (by omega);have av:l[i].cY:=aa _ (nv _);have bZ:=g3 (n:=i) (by omega);have bY:(i:Int)<n:=(by omega);have f:H7.fn [.agg #[.bool l[i].jR,bM l[i].a,bM l[i].b]]=some (.bool true):=axC (n:=l[i].jR) (a:=l[i].a) (b:=l[i].b) av;simp(disch:=first|omega|simp only[DI.ab];omega) [Gt,zG,xH,cX,bl,ct,bY,bZ,f,dS,-O,-U,-N,-S,-List.map_map];exact⟨by omega,bk _ _ ⟨by simp[cX],by simp[bl],by simp⟩⟩
    · rintro z t ⟨cX,bl,ct⟩;simp(disch:=first|omega|simp only[DI.ab];omega) [Gt,zG,xH,bl,ct,xH,zG,-O,-U,-N,-S,-List.map_map];simp[aD];exact eQ.1 Y
  · have iV: ¬((l.length:Nat):Int)=(n:Int):=(by omega);simp(disch:=first|omega|simp only[DI.ab];omega) [Cg,KI,KJ,KK,xH,iV,aD,-O,-U,-N,-S,-List.map_map]
theorem agc:bK al 193 [Z 0] (.agg #[.bool false,ja,bM [1]]):=gf (by kernel_rfl)
theorem UT:bK al 194 [ja] ja:=gf (by kernel_rfl)
theorem UM:bK al 246 [ja] (.bool false):=gf (by kernel_rfl)
theorem N3:bK al 194 [bM [0]] ja:=gf (by kernel_rfl)
theorem UK:bK al 241 [bM [1],ja] (Z 1):=gf (by kernel_rfl)
theorem US:bK al 240 [bM [1],bM [1]] (bM [1]):=gf (by kernel_rfl)
theorem ad4{x:Int}: ¬ja=aw [[eP x]] 1:=by unfold aw;simp
theorem avs{x:Int}: ¬aw [[eP x]] 1=ja:=by unfold aw;simp
noncomputable def Nk:bE al:=qp (dg UM) AQ rfl
theorem axQ:Nk.f=246:=rfl
theorem axO:Nk.fn [ja]=some (.bool false):=wE (h9 UM)
theorem axP{x:Int}(h:x≠0):Nk.fn [aw [[eP x]] 1]=some (.bool false):=uQ (uP UM (by simp[ad4])) (axR h)
noncomputable def No:bE al:=qp (dg UT) ob rfl
theorem axX:No.f=194:=rfl
theorem axV:No.fn [ja]=some ja:=wE (h9 UT)
theorem axW{x:Int}(h:x≠0):No.fn [aw [[eP x]] 1]=some (bM [x]):=uQ (uP UT (by simp[ad4])) (axY h)
section
variable {I:Int} (D:2<=I) (H:I<200)
include D H
theorem UR:bK al 268 [ja,bM [I]] ja:=by have f:(dg N3).fn [aw [[eP 0]] 1]=some ja:=h9 N3;refine et (dM (aB:=⟨[dg N3],[]⟩) abL (by kernel_rfl) (by simp[Lm]) ?_);simp(disch:=first|omega|simp only[DI.ab];omega) [Lm,abK,abM,abN,-O,-U,-N,-S,-List.map_map];refine eu (aB:=⟨[dg N3],[]⟩) λcx bk=> ?_;simp(disch:=first|omega|simp only[DI.ab];omega) [abO,Rx,Ry,Rz,Rz,Rx,Ry,f,qM,ql,-O,-U,-N,-S,-List.map_map]
theorem UN:bK al 260 [ja,bM [I]] (.tuple #[ja,Z 0]):=by
  have bD:I≠0:=by omega
  have bw:=axO;have bJ:=axP bD;have cb:=axV;have eI:=axW bD;have fm:(dg (UR D H)).fn [ja,aw [[eP I]] 1]=some ja:=h9 (UR D H);refine et (dM (aB:=⟨[Nk,No,dg (UR D H)],[]⟩) abF (by kernel_rfl) (by simp[Ll]) ?_);simp(disch:=first|omega|simp only[DI.ab];omega) [Ll,abE,abG,abH,abI,abJ,bw,bJ,cb,eI,fm,axQ,axX,-O,-U,-N,-S,-List.map_map]
theorem agk:bK al 240 [ja,bM [I]] ja:=by have fm:(dg (UN D H)).fn [ja,aw [[eP I]] 1]=some (.tuple #[ja,Z 0]):=h9 (UN D H);refine et (dM (aB:=⟨[dg (UN D H)],[]⟩) aa3 (by kernel_rfl) (by simp[Lc]) ?_);simp(disch:=first|omega|simp only[DI.ab];omega) [Lc,aa2,aa4,aa5,fm,-O,-U,-N,-S,-List.map_map]
noncomputable def Nn:bE al:=qp (dg US) (dg (agk D H)) rfl
theorem axU:(Nn D H).f=240:=rfl
theorem axS:(Nn D H).fn [aw [[eP 1]] 1,aw [[eP 1]] 1]=some (bM [1]):=wE (h9 US)
theorem axT:(Nn D H).fn [ja,aw [[eP I]] 1]=some ja:=uQ (uP US (λh=>avs (List.cons.inj h).1)) (h9 (agk D H))
theorem UO:bK al 195 [dw ⟨false,[1],[I]⟩,.agg #[.bool false,ja,bM [1]]] (Z 1):=by have bw:=axS D H;have bJ:=axT D H;have cb:(dg UK).fn [aw [[eP 1]] 1,ja]=some (Z 1):=h9 UK;refine et (dM (aB:=⟨[Nn D H,dg UK],[]⟩) ZW (by kernel_rfl) (by simp[KM]) ?_);simp(disch:=first|omega|simp only[DI.ab];omega) [KM,ZV,ZX,ZY,ZZ,Z0,bw,bJ,cb,axU,dS,-O,-U,-N,-S,-List.map_map]
theorem agh:bK al 139 [dw ⟨false,[1],[I]⟩] (Z 1):=by have bw:=h9 agc;have bJ:(dg (UO D H)).fn [.agg #[.bool false,aw [[eP 1]] 1,aw [[eP I]] 1],.agg #[.bool false,ja,aw [[eP 1]] 1]]=some (Z 1):=h9 (UO D H);refine et (dM (aB:=⟨[dg agc,dg (UO D H)],[]⟩) Y0 (by kernel_rfl) (by simp[Ks]) ?_);simp(disch:=first|omega|simp only[DI.ab];omega) [Ks,YZ,Y1,bw,bJ,dS,-O,-U,-N,-S,-List.map_map]
theorem aeY:([dw ⟨false,[],[1]⟩]:List Value)≠[dw ⟨false,[1],[I]⟩]:= λh=>by simp[dS]at h
noncomputable def nN:bE al:=qp (dg (Od (x:=⟨false,[],[1]⟩) (by unfold bS.cY;decide))) (dg (ago D H)) rfl
theorem M1:(nN D H).f=171:=rfl
theorem aeX:(nN D H).fn [.agg #[.bool false,aw [] 1,aw [[eP 1]] 1]]=some (.bool false):=wE (h9 (Od (x:=⟨false,[],[1]⟩) (by unfold bS.cY;decide)))
theorem axx:(nN D H).fn [.agg #[.bool false,aw [[eP 1]] 1,aw [[eP I]] 1]]=some (.bool true):=uQ (uP _ (aeY D H)) (h9 (ago D H))
omit D H in
theorem FD{b:Bool}:bK al 226 [.bool b] (.bool b):=by refine et (dM (aB:=⟨[],[]⟩) aoS (by kernel_rfl) (by simp[Re]) ?_);simp(disch:=first|omega|simp only[DI.ab];omega) [Re,aaI,aaJ,-O,-U,-N,-S,-List.map_map]
omit D H in
theorem pY:bK al 225 [aw [[.bool true]] 1,.func (.func 226) #[] #[]] (.bool true):=by have f:(dg (FD (b:=true))).fn [.bool true]=some (.bool true):=h9 FD;refine et (dM (aB:=⟨[dg (FD (b:=true))],[]⟩) aoR (by kernel_rfl) (by simp[Rc]) ?_);simp(disch:=first|omega|simp only[DI.ab];omega) [Rc,aaG,aaH,-O,-U,-N,-S,-List.map_map];refine eu (aB:=⟨[dg (FD (b:=true))],[]⟩) λcx bk=> ?_;simp(disch:=first|omega|simp only[DI.ab];omega) [Rd,K4,K5,K6,K7,f,-O,-U,-N,-S,-List.map_map];refine bk _ _ (eu (aB:=⟨[dg (FD (b:=true))],[]⟩) λcx bk=> ?_);simp(disch:=first|omega|simp only[DI.ab];omega) [Rd,K4,K5,K6,K7,K7,K4,K5,K6,-O,-U,-N,-S,-List.map_map]
def Dc(eJ:ByteArray)(I:Int):hX:=⟨eJ,[⟨false,[1],[1]⟩],[[⟨false,[],[1]⟩]],[⟨false,[1],[I]⟩]⟩
theorem Wj{eJ:ByteArray}:bK al 176 [yx (Dc eJ I)] (.bool true):=by have bw:=aeX D H;have bJ:=axx D H;have f:(dg pY).fn [aw [[.bool true]] 1,.func (.func 226) #[] #[]]=some (.bool true):=h9 pY;refine et (dM (aB:=⟨[nN D H,dg pY],[]⟩) am8 (by kernel_rfl) (by simp[QP]) ?_);simp(disch:=first|omega|simp only[DI.ab];omega) [QP,Zx,Zy,Zz,gZ,Dc,dS,-O,-U,-N,-S,-List.map_map];refine eu (aB:=⟨[nN D H,dg pY],[]⟩) λcx bk=> ?_;simp(disch:=first|omega|simp only[DI.ab];omega) [KD,KC,KB,-O,-U,-N,-S,-List.map_map];refine eu (aB:=⟨[nN D H,dg pY],[]⟩) λaT dY=> ?_;simp(disch:=first|omega|simp only[DI.ab];omega) [Gd,F6,F7,F8,F9,bJ,dS,-O,-U,-N,-S,-List.map_map];refine eu (aB:=⟨[nN D H,dg pY],[]⟩) λL eZ=> ?_;simp(disch:=first|omega|simp only[DI.ab];omega) [Gc,Ga,Gb,dS,-O,-U,-N,-S,-List.map_map];refine eZ _ _ (eu (aB:=⟨[nN D H,dg pY],[]⟩) λah rM=> ?_);simp(disch:=first|omega|simp only[DI.ab];omega) [Gc,Ga,Gb,-O,-U,-N,-S,-List.map_map];refine dY _ _ (eu (aB:=⟨[nN D H,dg pY],[]⟩) λdn mB=> ?_);simp(disch:=first|omega|simp only[DI.ab];omega) [Gd,F6,F7,F8,F9,-O,-U,-N,-S,-List.map_map];refine bk _ _ (eu (aB:=⟨[nN D H,dg pY],[]⟩) λU2 BI=> ?_);simp(disch:=first|omega|simp only[DI.ab];omega) [KD,KC,KB,-O,-U,-N,-S,-List.map_map];refine eu (aB:=⟨[nN D H,dg pY],[]⟩) λaT dY=> ?_;simp(disch:=first|omega|simp only[DI.ab];omega) [Gd,F6,F7,F8,F9,dS,-O,-U,-N,-S,-List.map_map];refine eu (aB:=⟨[nN D H,dg pY],[]⟩) λL eZ=> ?_;simp(disch:=first|omega|simp only[DI.ab];omega) [Gc,Ga,Gb,dS,-O,-U,-N,-S,-List.map_map];refine eZ _ _ (eu (aB:=⟨[nN D H,dg pY],[]⟩) λah rM=> ?_);simp(disch:=first|omega|simp only[DI.ab];omega) [Gc,Ga,Gb,-O,-U,-N,-S,-List.map_map];refine dY _ _ (eu (aB:=⟨[nN D H,dg pY],[]⟩) λdn mB=> ?_);simp(disch:=first|omega|simp only[DI.ab];omega) [Gd,F6,F7,F8,F9,-O,-U,-N,-S,-List.map_map];refine BI _ _ (eu (aB:=⟨[nN D H,dg pY],[]⟩) λaAq aEq=> ?_);simp(disch:=first|omega|simp only[DI.ab];omega) [KD,KC,KB,f,M1,qM,ql,-O,-U,-N,-S,-List.map_map]
def C9(l:List bS):Prop:=l.length<1000000/\ ∀x∈l,bK al 170 [dw x] (.bool true)
omit D H in
theorem ag3{l:List bS}(h:C9 l):bK al 172 [hz l,.func (.func 170) #[] #[]] (.bool true):=by have:=Vh (u:=170) (l:=l) (p:= λ_=>true) h.1 λx G=>h.2 x G;have e:(l.all λ_=>true)=true:=eQ.2 λ_ _=>rfl;rw[e]at this;exact this
noncomputable def HY:bE al:= .dR 172 (List bS) C9 (λl=>[hz l,.func (.func 170) #[] #[]]) (λ_=> .bool true) λ_ h=>ag3 h
omit D H in
@[simp] theorem aII:HY.f=172:=rfl
omit D H in
theorem Tr{l:List bS}(h:C9 l):HY.fn [hz l,.func (.func 170) #[] #[]]=some (.bool true):=bE.eH (x:=l) h λy ag=>by simpa using ag
theorem auU:C9 [⟨false,[1],[I]⟩]:=⟨by simp,λx G=>by simp at G;subst G;exact aAd D H⟩
omit D H in
theorem auT:C9 [⟨false,[1],[1]⟩]:=⟨by decide,λx G=>by simp at G;subst G;exact Qa (by unfold bS.cY;decide)⟩
omit D H in
theorem auS:C9 [⟨false,[],[1]⟩]:=⟨by decide,λx G=>by simp at G;subst G;exact Qa (by unfold bS.cY;decide)⟩
noncomputable def H2(eJ:ByteArray):bE al:=dg (Wj D H (eJ:=eJ))
theorem Tt{eJ:ByteArray}:(H2 D H eJ).f=176:=rfl
theorem avn{eJ:ByteArray}:bK al 112 [yx (Dc eJ I)] (.bool true):=by
  have bw:=Tr (auU D H);have bJ:=Tr auT;have cb:=Tr auS;have eI:=aeX D H;have aK:(dg HL).fn [Z 1,Z 1]=some (.tuple #[.agg #[.bool false,bM [1],bM [1]],Z 0]):=h9 HL;have aR:(dg HM).fn [aw [[.bool false,bM [1],bM [1]]] 3]=some (.tuple #[.agg #[.bool false,bM [1],bM [1]],Z 0]):=h9 HM;have cB:(dg HK).fn [.agg #[.bool false,aw [[eP 1]] 1,aw [[eP 1]] 1],.agg #[.bool false,aw [[eP 1]] 1,aw [[eP 1]] 1]]=some (.tuple #[Z 0,Z 0]):=h9 HK;have gX:(H2 D H eJ).fn [.agg #[.string eJ,aw [[.bool false,bM [1],bM [1]]] 3,aw [[hz [⟨false,[],[1]⟩]]] 1,aw [[.bool false,bM [1],bM [I]]] 3]]=some (.bool true):=h9 (Wj D H (eJ:=eJ));simp only[hz,ln,wV,dS]at bw bJ cb;have dk:dE 1 1 4=true:=by decide
  refine et (dM (aB:=⟨[rg,HY,nN D H,dg HL,dg HM,dg HK,H2 D H eJ],[]⟩) akG (by kernel_rfl) (by simp[Qh]) ?_);simp(disch:=first|omega|simp only[DI.ab];omega) [Qh,Ym,Yn,Yo,Yp,gZ,Dc,dS,bw,bJ,dk,M1,Tt,-O,-U,-N,-S,-List.map_map];refine eu (aB:=⟨[rg,HY,nN D H,dg HL,dg HM,dg HK,H2 D H eJ],[]⟩) λcx bk=> ?_;simp(disch:=first|omega|simp only[DI.ab];omega) [Qp,Qj,Qk,Ql,Qm,Qn,Qo,Qi,dS,cb,eI,M1,Tt,-O,-U,-N,-S,-List.map_map];refine bk _ _ (eu (aB:=⟨[rg,HY,nN D H,dg HL,dg HM,dg HK,H2 D H eJ],[]⟩) λaT dY=> ?_);simp(disch:=first|omega|simp only[DI.ab];omega) [Qp,Qj,Qk,Ql,-O,-U,-N,-S,-List.map_map];simp(disch:=first|omega|simp only[DI.ab];omega) [Qm,Qn,Qo,Qi,dS,aK,aR,cB,gX,M1,Tt,-O,-U,-N,-S,-List.map_map]
omit D H in
theorem ay6{x:hX}(aa:x.cY):bK al 112 [yx x] (.bool x.mi):=by obtain⟨eJ,s,cl,e⟩:=x;obtain⟨I,D,H,rfl,rfl,rfl⟩:=aa;exact avn D H (eJ:=eJ)
theorem N2:bK al 190 [hz [⟨false,[1],[I]⟩],Z 1] (.bool true):=by have a:(dg (ID D H)).fn [.agg #[.bool false,aw [[eP 1]] 1,aw [[eP I]] 1]]=some (.bool true):=h9 (ID D H);refine et (dM (aB:=⟨[dg (ID D H)],[]⟩) ZR (by kernel_rfl) (by simp[Cg]) ?_);simp(disch:=first|omega|simp only[DI.ab];omega) [Cg,KI,KJ,KK,dS,-O,-U,-N,-S,-List.map_map];refine eu (aB:=⟨[dg (ID D H)],[]⟩) λcx bk=> ?_;simp(disch:=first|omega|simp only[DI.ab];omega) [Gt,zG,xH,a,dS,-O,-U,-N,-S,-List.map_map];refine bk _ _ (eu (aB:=⟨[dg (ID D H)],[]⟩) λcx bk=> ?_);simp(disch:=first|omega|simp only[DI.ab];omega) [Gt,zG,xH,xH,zG,-O,-U,-N,-S,-List.map_map]
omit D H in
theorem UQ:bK al 190 [hz [⟨false,[1],[1]⟩],Z 1] (.bool true):=Th (l:=[⟨false,[1],[1]⟩]) (n:=1) (λx G=>by simp at G;subst G;unfold bS.cY;decide) (by decide)
omit D H in
theorem agj:bK al 190 [hz [⟨false,[],[1]⟩],Z 1] (.bool true):=Th (l:=[⟨false,[],[1]⟩]) (n:=1) (λx G=>by simp at G;subst G;unfold bS.cY;decide) (by decide)
noncomputable def pK:bE al:=qp (dg (N2 D H)) (qp (dg UQ) (dg agj) rfl) rfl
theorem Ni:(pK D H).f=190:=rfl
theorem axJ:(pK D H).fn [aw [[.bool false,bM [1],bM [I]]] 3,Z 1]=some (.bool true):=wE (h9 (N2 D H))
theorem axI:(pK D H).fn [aw [[.bool false,bM [1],bM [1]]] 3,Z 1]=some (.bool true):=uQ (uP (N2 D H) λh=>by simp[dS]at h;omega) (wE (h9 UQ))
theorem axH:(pK D H).fn [aw [[.bool false,bM [],bM [1]]] 3,Z 1]=some (.bool true):=uQ (uP (N2 D H) λh=>by simp[dS]at h) (uQ (uP UQ λh=>by simp[dS]at h) (h9 agj))
noncomputable def qq:bE al:=qp (dg (Tg (x:=⟨false,[],[1]⟩) (by unfold bS.cY;decide) rfl)) (dg (agh D H)) rfl
theorem Nh:(qq D H).f=139:=rfl
theorem axF:(qq D H).fn [.agg #[.bool false,aw [] 1,aw [[eP 1]] 1]]=some (Z 0):=wE (h9 (Tg (x:=⟨false,[],[1]⟩) (by unfold bS.cY;decide) rfl))
theorem axG:(qq D H).fn [.agg #[.bool false,aw [[eP 1]] 1,aw [[eP I]] 1]]=some (Z 1):=uQ (uP _ (aeY D H)) (h9 (agh D H))
theorem avm{eJ:ByteArray}:bK al 137 [yx (Dc eJ I)] (.bool true):=by have bw:=axJ D H;have bJ:=axI D H;have cb:=axH D H;have eI:=axF D H;have fm:=axG D H;have aK:(dg qm).fn [Z 1]=some (.agg #[.bool false,bM [1],bM [1]]):=h9 qm;have aR:(dg rf).fn [aw [[.bool false,bM [1],bM [1]]] 3]=some (.tuple #[.agg #[.bool false,bM [1],bM [1]],Z 0]):=h9 rf;have cB:(dg re).fn [.agg #[.bool false,aw [[eP 1]] 1,aw [[eP 1]] 1],.agg #[.bool false,aw [[eP 1]] 1,aw [[eP 1]] 1]]=some (.bool true):=h9 re;refine et (dM (aB:=⟨[pK D H,qq D H,dg qm,dg rf,dg re],[]⟩) amJ (by kernel_rfl) (by simp[QC]) ?_);simp(disch:=first|omega|simp only[DI.ab];omega) [QC,YM,YN,YQ,YR,YS,YT,YU,YV,YO,YP,bw,bJ,Nh,Ni,gZ,Dc,dS,-O,-U,-N,-S,-List.map_map];refine eu (aB:=⟨[pK D H,qq D H,dg qm,dg rf,dg re],[]⟩) λcx bk=> ?_;simp(disch:=first|omega|simp only[DI.ab];omega) [QJ,QH,cb,eI,Nh,Ni,dS,-O,-U,-N,-S,-List.map_map];refine bk _ _ (eu (aB:=⟨[pK D H,qq D H,dg qm,dg rf,dg re],[]⟩) λaT dY=> ?_);simp(disch:=first|omega|simp only[DI.ab];omega) [QJ,QH,aK,aR,cB,Nh,Ni,dS,-O,-U,-N,-S,-List.map_map];refine eu (aB:=⟨[pK D H,qq D H,dg qm,dg rf,dg re],[]⟩) λP vv=> ?_;simp(disch:=first|omega|simp only[DI.ab];omega) [QM,QI,-O,-U,-N,-S,-List.map_map];refine eu (aB:=⟨[pK D H,qq D H,dg qm,dg rf,dg re],[]⟩) λQ bT=> ?_;simp(disch:=first|omega|simp only[DI.ab];omega) [QL,QD,QE,fm,Nh,Ni,dS,-O,-U,-N,-S,-List.map_map];refine eu (aB:=⟨[pK D H,qq D H,dg qm,dg rf,dg re],[]⟩) λR iA=> ?_;simp(disch:=first|omega|simp only[DI.ab];omega) [QK,QF,-O,-U,-N,-S,-List.map_map];refine iA _ _ (eu (aB:=⟨[pK D H,qq D H,dg qm,dg rf,dg re],[]⟩) λaAw JX=> ?_);simp(disch:=first|omega|simp only[DI.ab];omega) [QK,QF,-O,-U,-N,-S,-List.map_map];refine bT _ _ (eu (aB:=⟨[pK D H,qq D H,dg qm,dg rf,dg re],[]⟩) λaAv aEu=> ?_);simp(disch:=first|omega|simp only[DI.ab];omega) [QL,QD,QE,-O,-U,-N,-S,-List.map_map];refine vv _ _ (eu (aB:=⟨[pK D H,qq D H,dg qm,dg rf,dg re],[]⟩) λaAt aEt=> ?_);simp(disch:=first|omega|simp only[DI.ab];omega) [QM,QI,-O,-U,-N,-S,-List.map_map];refine eu (aB:=⟨[pK D H,qq D H,dg qm,dg rf,dg re],[]⟩) λfs ai3=> ?_;simp(disch:=first|omega|simp only[DI.ab];omega) [QN,QG,-O,-U,-N,-S,-List.map_map];refine ai3 _ _ (eu (aB:=⟨[pK D H,qq D H,dg qm,dg rf,dg re],[]⟩) λaAA aEv=> ?_);simp(disch:=first|omega|simp only[DI.ab];omega) [QN,QG,-O,-U,-N,-S,-List.map_map]
omit D H in
theorem axu{x:hX}(aa:x.cY):bK al 137 [yx x] (.bool x.mi):=by obtain⟨eJ,s,cl,e⟩:=x;obtain⟨I,D,H,rfl,rfl,rfl⟩:=aa;exact avm D H (eJ:=eJ)
end
noncomputable def Du:bE al:= .dR 170 bS bS.cY (λx=>[dw x]) (λx=> .bool x.bA.small) λ_ aa=>Qa aa
@[simp] theorem aIY:Du.f=170:=rfl
@[simp] theorem aIZ{n:Bool}{a b:List Int}(h:(bS.mk n a b).cY):Du.fn [.agg #[.bool n,bM a,bM b]]=some (.bool (bS.mk n a b).bA.small):=bE.eH (x:=bS.mk n a b) h λy ag=>yy ag
noncomputable def M3:bE al:= .dR 171 bS bS.cY (λx=>[dw x]) (λx=> .bool (decide (0<x.bA.n))) λ_ aa=>Od aa
@[simp] theorem aIE:M3.f=171:=rfl
@[simp] theorem aIF{n:Bool}{a b:List Int}(h:(bS.mk n a b).cY):M3.fn [.agg #[.bool n,bM a,bM b]]=some (.bool (decide (0<(bS.mk n a b).bA.n))):=bE.eH (x:=bS.mk n a b) h λy ag=>yy ag
end Go.Proofs.YtmmkkggfmigppaaGreat
namespace Go.Big
structure o6 where
  a:Int
  b:Int
  c:Int
  d:Int
  e:Int
  deriving DecidableEq
structure Bi where
  name:ByteArray
  ext:Int
  MS:Int
  Mt:Int
  deriving DecidableEq
structure gm where
  name:ByteArray
  hn:Int
  parent:Int
  il:Int
  nO:bS
  deriving DecidableEq
structure mu where
  name:ByteArray
  model:Int
  tb:Int
  deriving DecidableEq
structure ih where
  name:ByteArray
  k:Int
  m:Int
  q:Int
  aB:o6
  bf:List Int
  jF:List bS
  oV:bS
  fo:bS
  deriving DecidableEq
structure pV where
  name:ByteArray
  pF:Int
  deriving DecidableEq
structure bm where
  ext:Int
  cH:List hX
  bf:List Bi
  a1:List gm
  a5:List mu
  cI:List ih
  cM:List pV
  deriving DecidableEq
def bm.nil:bm:=⟨0,[],[],[],[],[],[]⟩
end Go.Big
namespace Go.Proofs.YtmmkkggfmigppaaGreat
open Go Go.DI Go.Big
abbrev fQ(s:ByteArray):Value:= .string s
abbrev yV(l:List ByteArray):Value:=aw (l.map λs=>[fQ s]) 1
abbrev cn(l:List Int):Value:=aw (l.map λs=>[Z s]) 1
def gO(x:Bi):List Value:=[fQ x.name,Z x.ext,Z x.MS,Z x.Mt]
def ef(x:gm):List Value:=[fQ x.name,Z x.hn,Z x.parent,Z x.il,.bool x.nO.jR,bM x.nO.a,bM x.nO.b]
def gp(x:mu):List Value:=[fQ x.name,Z x.model,Z x.tb]
def fi(x:ih):List Value:=[fQ x.name,Z x.k,Z x.m,Z x.q,Z x.aB.a,Z x.aB.b,Z x.aB.c,Z x.aB.d,Z x.aB.e,cn x.bf,hz x.jF,.bool x.oV.jR,bM x.oV.a,bM x.oV.b,.bool x.fo.jR,bM x.fo.a,bM x.fo.b]
def hQ(x:pV):List Value:=[fQ x.name,Z x.pF]
def aU(x:bm):List Value:=[Z x.ext,aw (x.cH.map gZ) 4,aw (x.bf.map gO) 4,aw (x.a1.map ef) 7,aw (x.a5.map gp) 3,aw (x.cI.map fi) 17,aw (x.cM.map hQ) 2]
@[simp] theorem aLL{l de:List ByteArray}:(l.map λs=>[fQ s])=(de.map λs=>[fQ s])↔l=de:=x6 λx y h=>by simpa using h
@[simp] theorem adh{l de:List Int}:(l.map λs=>[Z s])=(de.map λs=>[Z s])↔l=de:=x6 λx y h=>by simpa using h
end Go.Proofs.YtmmkkggfmigppaaGreat
namespace Go.Big
def oH(x:eD):Bool:=x.ok&&decide (nJ x .ni<=0)
def n8(x:bS):Bool:=x.bA.small&&decide (0<x.bA.n)
def nn(m:Int)(r:List bS)(t h:bS):Bool:=decide ((r.length:Int)=if 1>m then 1 else m)&&(r.all n8&&(t.bA.small&&(oH t.bA&&h.bA.small)))
end Go.Big
namespace Go.Proofs.YtmmkkggfmigppaaGreat
open Go Go.DI Go.Big
theorem auF{x:bS}(aa:x.cY):bK al 230 [dw x] (.bool (oH x.bA)):=auG aa
theorem awr{x:bS}(aa:x.cY):bK al 229 [dw x] (.bool (n8 x)):=by refine et (dM (aB:=⟨[Du,M3],[]⟩) aoV (by kernel_rfl) (by simp[Rh]) ?_);cases h:x.bA.small<;>simp(disch:=first|omega|simp only[aW];omega) [Rh,aaO,aaP,dS,h,n8,-O,-U,-N,-S,-List.map_map]
noncomputable def Tx:bE al:= .dR 230 bS bS.cY (λx=>[dw x]) (λx=> .bool (oH x.bA)) λ_ aa=>auF aa
@[simp] theorem aI4:Tx.f=230:=rfl
@[simp] theorem aI5{n:Bool}{a b:List Int}(h:(bS.mk n a b).cY):Tx.fn [.agg #[.bool n,bM a,bM b]]=some (.bool (oH (bS.mk n a b).bA)):=bE.eH (x:=bS.mk n a b) h λy ag=>yy ag
noncomputable def TE:bE al:= .dR 172 (List bS) (λl=>(∀x∈l,x.cY)/\l.length<1000000) (λl=>[hz l,.func (.func 229) #[] #[]]) (λl=> .bool (l.all n8)) λ_ h=>Vh h.2 λx G=>awr (h.1 x G)
@[simp] theorem aJV:TE.f=172:=rfl
@[simp] theorem aJW{l:List bS}(h:(∀x∈l,x.cY)/\l.length<1000000):TE.fn [aw (l.map dS) 3,.func (.func 229) #[] #[]]=some (.bool (l.all n8)):=bE.eH (x:=l) h λy ag=>by simpa using ag
theorem aws{m:Int}{r:List bS}{t h:bS}(az:(∀x∈r,x.cY)/\r.length<1000000)(bt:t.cY)(aH:h.cY):bK al 178 [Z m,hz r,dw t,dw h] (.bool (nn m r t h)):=by
  refine et (dM (aB:=⟨[TE,Du,Tx],[]⟩) ana (by kernel_rfl) (by simp[Cd]) ?_);by_cases D:(r.length:Int)=if 1>m then 1 else m
  · cases H:r.all n8
    · simp(disch:=first|omega|simp only[aW];omega) [Cd,Ge,Gf,dS,D,H,nn,-O,-U,-N,-S,-List.map_map]
    · cases aq:t.bA.small
      · simp(disch:=first|omega|simp only[aW];omega) [Cd,Ge,Gf,dS,D,H,aq,nn,-O,-U,-N,-S,-List.map_map]
      · cases aE:oH t.bA<;>simp(disch:=first|omega|simp only[aW];omega) [Cd,Ge,Gf,dS,D,H,aq,aE,nn,-O,-U,-N,-S,-List.map_map]
  · simp(disch:=first|omega|simp only[aW];omega) [Cd,Ge,Gf,dS,D,nn,-O,-U,-N,-S,-List.map_map]
end Go.Proofs.YtmmkkggfmigppaaGreat
namespace Go.Big
def ld(k m q:Int)(s:o6):Bool:=dE k 1 6&&(dE m 0 4&&(decide (k+m<=8)&&(dE q k (k+m)&&(decide (s.a=0)&&(dE s.a 0 8&&(dE s.b 0 8&&(dE s.c 0 8&&(dE s.d 0 8&&dE s.e 0 8))))))))
end Go.Big
namespace Go.Proofs.YtmmkkggfmigppaaGreat
open Go Go.DI Go.Big
theorem akv{x:Int}:bK al 228 [Z x] (.bool (dE x 0 8)):=by refine et (dM (aB:=⟨[rg],[]⟩) aoU (by kernel_rfl) (by simp[Rg]) ?_);simp(disch:=first|omega|simp only[aW];omega) [Rg,aaM,aaN,-O,-U,-N,-S,-List.map_map]
noncomputable def Tv:bE al:= .dR 228 (Int) (λx=>True) (λx=>[Z x]) (λx=> .bool (dE x 0 8)) (λx h=>akv)
@[simp] theorem aIW:Tv.f=228:=rfl
@[simp] theorem aIX{x:Int}:Tv.fn ([Z x])=some (.bool (dE x 0 8)):=bE.eH (x:=x) trivial λy ag=>by simpa using ag
theorem Vi{l:List Int}(au:l.length<1000000):bK al 227 [cn l,.func (.func 228) #[] #[]] (.bool (l.all λx=>dE x 0 8)):=by
  refine et (dM (aB:=⟨[],[]⟩) aoT (by kernel_rfl) (by simp[Rf]) ?_);simp(disch:=first|omega|simp only[aW];omega) [Rf,aaK,aaL,-O,-U,-N,-S,-List.map_map];refine h4 (aB:=⟨[Tv],[]⟩) (λi z t=>((l.take i).all λx=>dE x 0 8)=true/\z 1= .func (.func 228) #[] #[]/\z 7=cn l/\z 8=Z l.length/\z 9=Z i) l.length ?_ ?_ 0 _ _ (hx _) ⟨by simp,by simp,by simp,by simp,by simp⟩
  · rintro i z t ak ⟨ax,bl,eV,b9,gD⟩ cx bk;have G:l[i]?=some l[i]:=dD ak;have av:l[i]∈l:=nv ak;have bZ:=g3 (n:=i) (by omega);have bY:(i:Int)<l.length:=(by omega);cases hb:dE l[i] 0 8
    · simp(disch:=first|omega|simp only[aW];omega) [K8,GC,GD,GF,GG,bl,eV,b9,gD,bY,hb,-O,-U,-N,-S,-List.map_map];exact⟨_,av,hb⟩
    · simp(disch:=first|omega|simp only[aW];omega) [K8,GC,GD,GF,GG,bl,eV,b9,gD,bY,bZ,hb,-O,-U,-N,-S,-List.map_map];exact bk _ _ ⟨by rw[mS G,rr,ax];simp[hb],by simp[bl],by simp[eV],by simp[b9],by simp⟩
  · rintro z t ⟨ax,bl,eV,b9,gD⟩;rw[kj]at ax;simp(disch:=first|omega|simp only[aW];omega) [K8,GC,GD,GF,GG,b9,gD,GG,GC,GD,GF,-O,-U,-N,-S,-List.map_map];simpa using ax
noncomputable def Tq:bE al:= .dR 227 (List Int) (λl=>l.length<1000000) (λl=>[cn l,.func (.func 228) #[] #[]]) (λl=> .bool (l.all λx=>dE x 0 8)) λ_ h=>Vi h
@[simp] theorem aIG:Tq.f=227:=rfl
@[simp] theorem aIH{a b c d e:Int}:Tq.fn [aw [[Z a],[Z b],[Z c],[Z d],[Z e]] 1,.func (.func 228) #[] #[]]=some (.bool (dE a 0 8&&(dE b 0 8&&(dE c 0 8&&(dE d 0 8&&dE e 0 8))))):=by
  have:=bE.eH (ok:= λ_ h=>Vi h) (x:=[a,b,c,d,e]) (bP:= λl=>l.length<1000000) (enc:= λl=>[cn l,.func (.func 228) #[] #[]]) (by simp) λy ag=>adh.1 (XX.1 (List.cons.inj ag).1).1;have e:[a,b,c,d,e].all (λx=>dE x 0 8)=(dE a 0 8&&(dE b 0 8&&(dE c 0 8&&(dE d 0 8&&dE e 0 8)))):=by simp
  rw[<-e];exact this
theorem avM{k m q:Int}{s:o6}:bK al 177 [Z k,Z m,Z q,.agg #[Z s.a,Z s.b,Z s.c,Z s.d,Z s.e]] (.bool (ld k m q s)):=by
  refine et (dM (aB:=⟨[rg,Tq],[]⟩) am9 (by kernel_rfl) (by simp[xG]) ?_);have ajB:5<=maxLen:=by unfold maxLen;omega
  cases D:dE k 1 6
  · simp(disch:=first|omega|simp only[aW];omega) [xG,zD,zE,zF,D,ld,-O,-U,-N,-S,-List.map_map]
  · cases H:dE m 0 4
    · simp(disch:=first|omega|simp only[aW];omega) [xG,zD,zE,zF,D,H,ld,-O,-U,-N,-S,-List.map_map]
    · have bZ:IntKind.i64.wrap (k+m)=k+m:=(by simp[dE]at D H;exact fx (by omega) (by omega));by_cases aq:k+m<=8
      · have qP: ¬(8<k+m):=(by omega);cases aE:dE q k (k+m)
        · simp(disch:=first|omega|simp only[aW];omega) [xG,zD,zE,zF,D,H,aq,qP,aE,bZ,ld,-O,-U,-N,-S,-List.map_map]
        · by_cases bq:s.a=0
          · simp(disch:=first|omega|simp only[aW];omega) [xG,zD,zE,zF,D,H,aq,qP,aE,bq,bZ,ajB,qM,ql,ld,-O,-U,-N,-S,-List.map_map]
          · simp(disch:=first|omega|simp only[aW];omega) [xG,zD,zE,zF,D,H,aq,qP,aE,bq,bZ,ld,-O,-U,-N,-S,-List.map_map]
      · have qP:8<k+m:=(by omega);simp(disch:=first|omega|simp only[aW];omega) [xG,zD,zE,zF,D,H,aq,qP,bZ,ld,-O,-U,-N,-S,-List.map_map]
end Go.Proofs.YtmmkkggfmigppaaGreat
namespace Go.DI
open Go
section
variable {P:Program}
open Classical in
noncomputable def iQ.dR(f:Nat)(cf:Type)(enc:cf->List Value)(u:cf->W->Option (Value×W))(ok: ∀x t r aJ,u x t=some (r,aJ)-> ∀cd:Value->W->Prop,cd r aJ->fA P f (enc x) t cd):iQ P:=
  ⟨f,λargs t=>if h: ∃x,enc x=args then u h.choose t else none,λargs t r aJ h=>by
    split at h
    · next G=>have:=ok _ t r aJ h;rw[G.choose_spec]at this;exact this
    · cases h⟩
theorem iQ.eH{f:Nat}{cf:Type}{enc:cf->List Value}{u:cf->W->Option (Value×W)}{ok: ∀x t r aJ,u x t=some (r,aJ)-> ∀cd:Value->W->Prop,cd r aJ->fA P f (enc x) t cd}{x:cf}{t:W}(ak: ∀y,enc y=enc x->y=x):(iQ.dR f cf enc u ok).fn (enc x) t=u x t:=by have gQ: ∃y,enc y=enc x:=⟨x,rfl⟩;simp only[iQ.dR,dif_pos gQ];rw[ak _ gQ.choose_spec]
end
end Go.DI
namespace Go.Proofs.YtmmkkggfmigppaaGreat
open Go Go.DI Go.Big
noncomputable def Tz:bE al:= .dR 179 (ByteArray) (λT=>True) (λT=>[.string T]) (λT=> .bool (ng T)) (λT h=>avq)
@[simp] theorem aJd:Tz.f=179:=rfl
@[simp] theorem aJe{T:ByteArray}:Tz.fn ([.string T])=some (.bool (ng T)):=bE.eH (x:=T) trivial λy ag=>by simpa using ag
noncomputable def TJ:bE al:= .dR 112 hX hX.cY (λx=>[yx x]) (λx=> .bool x.mi) λ_ h=>ay6 h
@[simp] theorem aKh:TJ.f=112:=rfl
theorem afL{x:hX}{n:ByteArray}{s e:List bS}{cl:List (List bS)}(h:[yx x]=[.agg #[fQ n,hz s,Wh cl,hz e]]):x=⟨n,s,cl,e⟩:=by obtain⟨g0,dF,ca,l1⟩:=x;simpa[gZ]using h
@[simp] theorem aKi{n:ByteArray}{s e:List bS}{cl:List (List bS)}(h:(hX.mk n s cl e).cY):TJ.fn [.agg #[fQ n,aw (s.map dS) 3,aw (cl.map λr=>[hz r]) 1,aw (e.map dS) 3]]=some (.bool (hX.mk n s cl e).mi):=bE.eH (x:=hX.mk n s cl e) h λy ag=>afL ag
end Go.Proofs.YtmmkkggfmigppaaGreat
namespace Go.Big
def o6.at(s:o6)(i:Int):Int:=if i=0 then s.a else if i=1 then s.b else if i=2 then s.c else if i=3 then s.d else s.e
end Go.Big
namespace Go.Proofs.YtmmkkggfmigppaaGreat
open Go Go.DI Go.Big
noncomputable def TA:bE al:= .dR 177 (Int×Int×Int×o6) (λ_=>True) (λp=>[Z p.1,Z p.2.1,Z p.2.2.1,.agg #[Z p.2.2.2.a,Z p.2.2.2.b,Z p.2.2.2.c,Z p.2.2.2.d,Z p.2.2.2.e]]) (λp=> .bool (ld p.1 p.2.1 p.2.2.1 p.2.2.2)) λ_ _=>avM
@[simp] theorem aJh:TA.f=177:=rfl
@[simp] theorem aJi{k m q a b c d e:Int}:TA.fn [Z k,Z m,Z q,.agg #[Z a,Z b,Z c,Z d,Z e]]=some (.bool (ld k m q ⟨a,b,c,d,e⟩)):=bE.eH (x:=(k,m,q,(⟨a,b,c,d,e⟩:o6))) trivial λy ag=>by obtain⟨kD,tD,DX,Iz,IA,NX,NY,NZ⟩:=y;simp at ag;obtain⟨D,H,aq,aE,bq,cP,fB,hA⟩:=ag;simp[D,H,aq,aE,bq,cP,fB,hA]
noncomputable def TF:bE al:= .dR 178 (Int×List bS×bS×bS) (λp=>((∀x∈p.2.1,x.cY)/\p.2.1.length<1000000)/\p.2.2.1.cY/\p.2.2.2.cY) (λp=>[Z p.1,hz p.2.1,dw p.2.2.1,dw p.2.2.2]) (λp=> .bool (nn p.1 p.2.1 p.2.2.1 p.2.2.2)) λ_ h=>aws h.1 h.2.1 h.2.2
@[simp] theorem aJT:TF.f=178:=rfl
@[simp] theorem aJU{m:Int}{r:List bS}{n g0:Bool}{a b dF ca:List Int}(h:((∀x∈r,x.cY)/\r.length<1000000)/\(bS.mk n a b).cY/\(bS.mk g0 dF ca).cY):TF.fn [Z m,aw (r.map dS) 3,.agg #[.bool n,bM a,bM b],.agg #[.bool g0,bM dF,bM ca]]=some (.bool (nn m r ⟨n,a,b⟩ ⟨g0,dF,ca⟩)):=bE.eH (x:=(m,r,(⟨n,a,b⟩:bS),(⟨g0,dF,ca⟩:bS))) h λy ag=>by obtain⟨kD,tD,⟨DX,Iz,IA⟩,⟨NX,NY,NZ⟩⟩:=y;simp[dS]at ag;obtain⟨D,H,⟨aq,aE,bq⟩,cP,fB,hA⟩:=ag;simp[D,H,aq,aE,bq,cP,fB,hA]
def ly(s:ByteArray):List ByteArray->Option Nat
  |[]=>none
  |x::l=>if s=x then some 0 else(ly s l).map (· +1)
theorem azm{a b c:Int}:bK al 134 [Z a,Z b,Z c] (.bool (dE a b c)):=by
  refine et (dM (aB:=⟨[],[]⟩) amF (by kernel_rfl) (by simp[Kp]) ?_);by_cases h:b<=a
  · have bN:a>=b:=h;simp(disch:=first|omega|simp only[aW];omega) [Kp,Qz,QA,h,dE,-O,-U,-N,-S,-List.map_map]
  · have bN: ¬a>=b:=h;simp(disch:=first|omega|simp only[aW];omega) [Kp,Qz,QA,h,dE,-O,-U,-N,-S,-List.map_map]
noncomputable def rh:bE al:= .dR 134 (Int×Int×Int) (λ⟨a,b,c⟩=>True) (λ⟨a,b,c⟩=>[Z a,Z b,Z c]) (λ⟨a,b,c⟩=> .bool (dE a b c)) (λ⟨a,b,c⟩ h=>azm)
@[simp] theorem aKl:rh.f=134:=rfl
@[simp] theorem aKm{a:Int}{b:Int}{c:Int}:rh.fn ([Z a,Z b,Z c])=some (.bool (dE a b c)):=bE.eH (x:=(a,b,c)) trivial λy ag=>by obtain⟨og,kD,tD⟩:=y;simpa using ag
def ri(a b c d e f:Int):Bool:=decide (a<=4)&&(decide (b<=4)&&(decide (c<=40)&&(decide (d<=24)&&(decide (e<=4)&&decide (f<=12)))))
theorem aw2{a b c d e f:Int}:bK al 135 [Z a,Z b,Z c,Z d,Z e,Z f] (.bool (ri a b c d e f)):=by
  refine et (dM (aB:=⟨[],[]⟩) amG (by kernel_rfl) (by simp[xE]) ?_);by_cases D:a<=4
  · by_cases H:b<=4
    · by_cases aq:c<=40
      · by_cases aE:d<=24
        · by_cases bq:e<=4
          · simp(disch:=first|omega|simp only[aW];omega) [xE,zB,zC,D,H,aq,aE,bq,ri,-O,-U,-N,-S,-List.map_map]
          · simp(disch:=first|omega|simp only[aW];omega) [xE,zB,zC,D,H,aq,aE,bq,ri,-O,-U,-N,-S,-List.map_map]
        · simp(disch:=first|omega|simp only[aW];omega) [xE,zB,zC,D,H,aq,aE,ri,-O,-U,-N,-S,-List.map_map]
      · simp(disch:=first|omega|simp only[aW];omega) [xE,zB,zC,D,H,aq,ri,-O,-U,-N,-S,-List.map_map]
    · simp(disch:=first|omega|simp only[aW];omega) [xE,zB,zC,D,H,ri,-O,-U,-N,-S,-List.map_map]
  · simp(disch:=first|omega|simp only[aW];omega) [xE,zB,zC,D,ri,-O,-U,-N,-S,-List.map_map]
noncomputable def Dw:bE al:= .dR 135 (Int×Int×Int×Int×Int×Int) (λ⟨a,b,c,d,e,f⟩=>True) (λ⟨a,b,c,d,e,f⟩=>[Z a,Z b,Z c,Z d,Z e,Z f]) (λ⟨a,b,c,d,e,f⟩=> .bool (ri a b c d e f)) (λ⟨a,b,c,d,e,f⟩ h=>aw2)
@[simp] theorem aJE:Dw.f=135:=rfl
@[simp] theorem aJF{a:Int}{b:Int}{c:Int}{d:Int}{e:Int}{f:Int}:Dw.fn ([Z a,Z b,Z c,Z d,Z e,Z f])=some (.bool (ri a b c d e f)):=bE.eH (x:=(a,b,c,d,e,f)) trivial λy ag=>by obtain⟨og,kD,tD,DX,Iz,IA⟩:=y;simpa using ag
def xB(s:ByteArray)(l:List ByteArray):Int:=match ly s l with
  |none=> -1
  |some i=>i
theorem P7{s:ByteArray}{l:List ByteArray}: ∀{i:Nat},(∀j (h:j<l.length),j<i->l[j]≠s)->i<=l.length->ly s l=(ly s (l.drop i)).map (· +i)
  |0,_,_=>by simp
  | i+1,h,ak=>by rw[P7 (i:=i) (λj b1 Xi=>h j b1 (by omega)) (by omega)];have G:l.drop i=l[i]::l.drop (i+1):=List.drop_eq_getElem_cons (by omega);have cW: ¬s=l[i]:= λe=>h i (by omega) (by omega) e.symm;rw[G];simp only[ly,if_neg cW,Option.map_map];congr 1;funext k;simp only[Function.comp_apply];omega
theorem X0{l:List ByteArray}{s:ByteArray}(au:l.length<1000000):bK al 189 [yV l,fQ s] (Z (xB s l)):=by
  refine et (dM (aB:=⟨[],[]⟩) an8 (by kernel_rfl) (by simp[QR]) ?_);simp(disch:=first|omega|simp only[aW];omega) [QR,ZK,ZL,-O,-U,-N,-S,-List.map_map];refine h4 (aB:=⟨[],[]⟩) (λi z t=>(∀j (h:j<l.length),j<i->l[j]≠s)/\z 0=yV l/\z 1=fQ s/\z 5=Z i) l.length ?_ ?_ 0 _ _ (hx _) ⟨by simp,by simp,by simp,by simp⟩
  · rintro i z t ak ⟨ax,cX,bl,ct⟩ cx bk;have G:l[i]?=some l[i]:=dD ak;have bZ:=g3 (n:=i) (by omega);have bY:(i:Int)<l.length:=(by omega);by_cases hb:l[i]=s
    · have e:xB s l=i:=by
        unfold xB;rw[P7 ax (by omega),List.drop_eq_getElem_cons ak];simp[ly,hb]
      simp(disch:=first|omega|simp only[aW];omega) [KH,Gq,Gr,cX,bl,ct,bY,hb,e,-O,-U,-N,-S,-List.map_map]
    · simp(disch:=first|omega|simp only[aW];omega) [KH,Gq,Gr,cX,bl,ct,bY,bZ,hb,-O,-U,-N,-S,-List.map_map];exact bk _ _ ⟨λj b1 Xi=>by
        by_cases e:j=i
        · subst e;exact hb
        · exact ax j b1 (by omega),by simp[cX],by simp[bl],by simp⟩
  · rintro z t ⟨ax,cX,bl,ct⟩;have e:xB s l= -1:=by
      unfold xB;rw[P7 ax (dW _),List.drop_length];rfl
    simp(disch:=first|omega|simp only[aW];omega) [KH,Gq,Gr,cX,ct,Gr,Gq,e,-O,-U,-N,-S,-List.map_map]
noncomputable def Nc:bE al:= .dR 140 bS bS.cY (λx=>[dw x]) (λx=> .bool x.bA.small) λ_ aa=>aeP aa
@[simp] theorem aJH:Nc.f=140:=rfl
@[simp] theorem aJI{n:Bool}{a b:List Int}(h:(bS.mk n a b).cY):Nc.fn [.agg #[.bool n,bM a,bM b]]=some (.bool (bS.mk n a b).bA.small):=bE.eH (x:=bS.mk n a b) h λy ag=>yy ag
noncomputable def yl:bE al:= .dR 139 bS (λx=>x.cY/\x.bA.ok=true) (λx=>[dw x]) (λx=>Z (nJ x.bA .nil)) λ_ aa=>Tg aa.1 aa.2
@[simp] theorem aJC:yl.f=139:=rfl
@[simp] theorem aJD{n:Bool}{a b:List Int}(h:(bS.mk n a b).cY/\(bS.mk n a b).bA.ok=true):yl.fn [.agg #[.bool n,bM a,bM b]]=some (Z (nJ (bS.mk n a b).bA .nil)):=bE.eH (x:=bS.mk n a b) h λy ag=>yy ag
noncomputable def Dx:bE al:= .dR 138 bS bS.cY (λx=>[dw x]) (λx=> .bool x.bA.ok) λ_ aa=>axs aa
@[simp] theorem aJP:Dx.f=138:=rfl
@[simp] theorem aJQ{n:Bool}{a b:List Int}(h:(bS.mk n a b).cY):Dx.fn [.agg #[.bool n,bM a,bM b]]=some (.bool (bS.mk n a b).bA.ok):=bE.eH (x:=bS.mk n a b) h λy ag=>yy ag
theorem aek{x:eD}(cR:0<=x.n):(nJ x .nil=0)=(x.n=0):=by
  have e:x.n*eD.nil.d=x.n:=by show x.n*1=x.n;omega
  have aR:eD.nil.n*x.d=0:=by show 0*x.d=0;omega
  unfold nJ;rw[e,aR];apply propext;split
  · omega
  · split<;>omega
theorem avY{x:eD}(cR:0<=x.n):(nJ x .nil=0)= ¬(0<x.n):=by rw[aek cR];apply propext;omega
def qI(k m:Int):Bool:=decide (1<=k)&&(decide (k<=6)&&(decide (0<=m)&&(decide (m<=4)&&decide (k+m<=8))))
theorem ahN{k m:Int}:bK al 197 [Z k,Z m] (.bool (qI k m)):=by
  refine et (dM (aB:=⟨[],[]⟩) aop (by kernel_rfl) (by simp[zH]) ?_);by_cases D:1<=k
  · have jj:k>=1:=D;by_cases H:k<=6
    · by_cases aq:0<=m
      · have qP:m>=0:=aq;by_cases aE:m<=4
        · have bZ:IntKind.i64.wrap (k+m)=k+m:=fx (by omega) (by omega);simp(disch:=first|omega|simp only[aW];omega) [zH,Cj,Ck,D,H,aq,aE,bZ,qI,-O,-U,-N,-S,-List.map_map]
        · simp(disch:=first|omega|simp only[aW];omega) [zH,Cj,Ck,D,H,aq,aE,qI,-O,-U,-N,-S,-List.map_map]
      · have qP: ¬m>=0:=aq;simp(disch:=first|omega|simp only[aW];omega) [zH,Cj,Ck,D,H,aq,qI,-O,-U,-N,-S,-List.map_map]
    · simp(disch:=first|omega|simp only[aW];omega) [zH,Cj,Ck,D,H,qI,-O,-U,-N,-S,-List.map_map]
  · have jj: ¬k>=1:=D;simp(disch:=first|omega|simp only[aW];omega) [zH,Cj,Ck,D,qI,-O,-U,-N,-S,-List.map_map]
noncomputable def M5:bE al:= .dR 197 (Int×Int) (λ⟨k,m⟩=>True) (λ⟨k,m⟩=>[Z k,Z m]) (λ⟨k,m⟩=> .bool (qI k m)) (λ⟨k,m⟩ h=>ahN)
@[simp] theorem aIN:M5.f=197:=rfl
@[simp] theorem aIO{k:Int}{m:Int}:M5.fn ([Z k,Z m])=some (.bool (qI k m)):=bE.eH (x:=(k,m)) trivial λy ag=>by obtain⟨og,kD⟩:=y;simpa using ag
theorem ahM{k m:Int}:qI k m=(dE k 1 6&&(dE m 0 4&&decide (k+m<=8))):=by simp only[qI,dE,yJ]
def AX(s:o6):Bool:=dE s.b 0 8&&(dE s.c 0 8&&(dE s.d 0 8&&dE s.e 0 8))
theorem awM{k m q:Int}{s:o6}:bK al 141 [Z k,Z m,Z q,.agg #[Z s.a,Z s.b,Z s.c,Z s.d,Z s.e]] (.bool (ld k m q s)):=by
  refine et (dM (aB:=⟨[M5,rh],[]⟩) amK (by kernel_rfl) (by simp[Cb]) ?_);have e:ld k m q s=(qI k m&&(dE q k (k+m)&&(decide (s.a=0)&&AX s))):=by
    rw[ahM];by_cases ax:s.a=0
    · simp[ld,AX,ax,show dE 0 0 8=true from rfl,yJ]
    · simp[ld,AX,ax]
  rw[e];cases D:qI k m
  · simp(disch:=first|omega|simp only[aW];omega) [Cb,FW,FX,FY,xF,D,-O,-U,-N,-S,-List.map_map]
  · have bZ:IntKind.i64.wrap (k+m)=k+m:=(by simp[qI]at D;exact fx (by omega) (by omega));cases H:dE q k (k+m)
    · simp(disch:=first|omega|simp only[aW];omega) [Cb,FW,FX,FY,xF,D,H,bZ,-O,-U,-N,-S,-List.map_map]
    · by_cases aq:s.a=0
      · simp(disch:=first|omega|simp only[aW];omega) [Cb,FW,FX,FY,D,H,aq,bZ,-O,-U,-N,-S,-List.map_map];refine h4 (aB:=⟨[M5,rh],[]⟩) (λi z t=>(∀j:Nat,j<i->dE (s.at ((j:Int)+1)) 0 8=true)/\t.X 0=some ⟨[Z 0,Z s.b,Z s.c,Z s.d,Z s.e],true⟩/\z 7=cF 0/\z 9=Z ((i:Int)+1)) 4 ?_ ?_ 0 _ _ (hx _) ⟨by simp,by simp(disch:=first|omega|simp only[aW];omega) [-O,-U,-N,-S,-List.map_map],by simp,by simp⟩
        · rintro i z t ak ⟨ax,aO,eV,gD⟩ cx bk;have fW:=bn aO;have aE:i=0\/i=1\/i=2\/i=3:=(by omega);cases hb:dE (s.at ((i:Int)+1)) 0 8
          · have aR:AX s=false:=by
              rcases aE with rfl|rfl|rfl|rfl<;>simp[o6.at]at hb<;>simp[AX,hb]
            rcases aE with rfl|rfl|rfl|rfl<;>simp[o6.at]at hb<;>simp(disch:=first|omega|simp only[aW];omega) [Ku,FZ,xF,eV,gD,aO,hb,aR,-O,-U,-N,-S,-List.map_map]
          · have au: ∀j:Nat,j<i+1->dE (s.at ((j:Int)+1)) 0 8=true:= λj b1=>by
              by_cases e:j=i
              · subst e;exact hb
              · exact ax j (by omega)
            rcases aE with rfl|rfl|rfl|rfl<;>simp[o6.at]at hb<;>simp(disch:=first|omega|simp only[aW];omega) [Ku,FZ,xF,eV,gD,aO,hb,-O,-U,-N,-S,-List.map_map]<;>exact bk _ _ ⟨au,aO,by simp[eV],by simp;rfl⟩
        · rintro z t ⟨ax,aO,eV,gD⟩;have aR:AX s=true:=by
            have oM:=ax 0 (by decide);have fX:=ax 1 (by decide);have g1:=ax 2 (by decide);have hL:=ax 3 (by decide);simp[o6.at]at oM fX g1 hL;simp[AX,oM,fX,g1,hL]
          simp(disch:=first|omega|simp only[aW];omega) [Ku,FZ,xF,xF,FZ,gD,aR,-O,-U,-N,-S,-List.map_map]
      · simp(disch:=first|omega|simp only[aW];omega) [Cb,FW,FX,FY,xF,D,H,aq,bZ,-O,-U,-N,-S,-List.map_map]
noncomputable def Nd(n:Nat)(au:n<1000000):bE al:= .dR 190 (List bS) (λl=> ∀x∈l,x.cY) (λl=>[hz l,Z n]) (λl=> .bool (decide (l.length=n)&&l.all λx=>x.bA.small)) λ_ h=>Th h au
@[simp] theorem aJJ{n:Nat}{au:n<1000000}:(Nd n au).f=190:=rfl
@[simp] theorem aJK{n:Nat}{au:n<1000000}{l:List bS}(h: ∀x∈l,x.cY):(Nd n au).fn [aw (l.map dS) 3,Z n]=some (.bool (decide (l.length=n)&&l.all λx=>x.bA.small)):=bE.eH (x:=l) h λy ag=>by simpa using ag
theorem awD{m:Int}(cR:0<=m)(aE:m<=4){l:List bS}(aa:(∀x∈l,x.cY)/\l.length<1000000):bK al 198 [hz l,Z m] (.bool (decide ((l.length:Int)=if 1>m then 1 else m)&&l.all n8)):=by
  obtain⟨n,au⟩: ∃n:Nat,(if 1>m then(1:Int)else m)=n:=⟨(if 1>m then(1:Int)else m).toNat,by split<;>omega⟩;have xu:(if m<1 then(1:Int)else m)=n:=au;have Xq:n<1000000:=by split at au<;>omega
  rw[au];have h5:decide ((l.length:Int)=(n:Int))=decide (l.length=n):=by congr 1;apply propext;omega
  rw[h5];refine et (dM (aB:=⟨[Nd n Xq,yl],[]⟩) aoq (by kernel_rfl) (by simp[KO]) ?_);obtain⟨qT,rQ⟩:=aa;cases D:(decide (l.length=n)&&l.all λx=>x.bA.small)
  · have e:(decide (l.length=n)&&l.all n8)=false:=by
      by_cases aD:l.length=n
      · simp only[aD,decide_true,ru,Bd]at D⊢;obtain⟨x,G,h⟩:=D;exact⟨x,G,by simp only[n8,aY,not_and];intro bN;exact absurd bN h⟩
      · simp[aD]
    rw[e];simp(disch:=first|omega|simp only[aW];omega) [KO,QW,QX,QY,Cl,xu,D,-O,-U,-N,-S,-List.map_map]
  · simp(disch:=first|omega|simp only[aW];omega) [KO,QW,QX,QY,xu,D,-O,-U,-N,-S,-List.map_map];simp only[aY,eO]at D;obtain⟨aD,D⟩:=D;have sC:decide (l.length=n)=true:=(by simp[aD]);rw[sC,ru];refine h4 (aB:=⟨[Nd n Xq,yl],[]⟩) (λi z t=>(l.take i).all n8=true/\z 0=hz l/\z 5=Z i) l.length ?_ ?_ 0 _ _ (hx _) ⟨by simp,by simp,by simp⟩
    · rintro i z t ak ⟨ax,cX,ct⟩ cx bk;have G:l[i]?=some l[i]:=dD ak;have av:l[i]∈l:=nv ak;have bZ:=g3 (n:=i) (by omega);have bY:(i:Int)<l.length:=(by omega);have fh:=eQ.1 D _ av;have PW:l[i].cY/\l[i].bA.ok=true:=⟨qT _ av,afb fh⟩;have bD:=avY (bS.g7 PW.1);by_cases ai:0<l[i].bA.n
      · have P1: ¬nJ l[i].bA .nil=0:=(by rw[bD];exact λh=>h ai);simp(disch:=first|omega|simp only[aW];omega) [KP,Gu,Cl,cX,ct,bY,bZ,dS,P1,-O,-U,-N,-S,-List.map_map];exact bk _ _ ⟨by rw[mS G,rr,ax];simp[n8,fh,ai],by simp[cX],by simp⟩
      · have P1:nJ l[i].bA .nil=0:=(by rw[bD];exact ai);simp(disch:=first|omega|simp only[aW];omega) [KP,Gu,Cl,cX,ct,bY,dS,P1,-O,-U,-N,-S,-List.map_map];exact⟨_,av,by simp[n8,ai]⟩
    · rintro z t ⟨ax,cX,ct⟩;rw[kj]at ax;simp(disch:=first|omega|simp only[aW];omega) [KP,Gu,Cl,cX,ct,Cl,Gu,-O,-U,-N,-S,-List.map_map];simpa using ax
noncomputable def Tw(o:bS)(h:bK al 193 [Z 1] (dw o)):bE al:= .dR 193 Unit (λ_=>True) (λ_=>[Z 1]) (λ_=>dw o) λ_ _=>h
@[simp] theorem aI2{o:bS}{h:bK al 193 [Z 1] (dw o)}:(Tw o h).f=193:=rfl
@[simp] theorem aI3{o:bS}{h:bK al 193 [Z 1] (dw o)}:(Tw o h).fn [Z 1]=some (dw o):=bE.eH (x:=()) trivial λ_ _=>rfl
noncomputable def Ty(o:bS)(h: ∀x:bS,(x.cY/\x.bA.ok=true)->bK al 199 [dw o,dw x] (.bool (!oH x.bA))):bE al:= .dR 199 bS (λx=>x.cY/\x.bA.ok=true) (λx=>[dw o,dw x]) (λx=> .bool (!oH x.bA)) h
@[simp] theorem aI6{o:bS}{h: ∀x:bS,(x.cY/\x.bA.ok=true)->bK al 199 [dw o,dw x] (.bool (!oH x.bA))}:(Ty o h).f=199:=rfl
@[simp] theorem aI7{o:bS}{h: ∀x:bS,(x.cY/\x.bA.ok=true)->bK al 199 [dw o,dw x] (.bool (!oH x.bA))}{n:Bool}{a b:List Int}(G:(bS.mk n a b).cY/\(bS.mk n a b).bA.ok=true):(Ty o h).fn [.agg #[.bool o.jR,bM o.a,bM o.b],.agg #[.bool n,bM a,bM b]]=some (.bool (!oH (bS.mk n a b).bA)):=
  bE.eH (x:=bS.mk n a b) G λy ag=>by obtain⟨g0,dF,ca⟩:=y;simpa[dS]using ag
theorem auH(x:bS)(G:x.cY/\x.bA.ok=true):bK al 199 [dw ⟨false,[1],[1]⟩,dw x] (.bool (!oH x.bA)):=by
  have h:=awI G.1;have e: ∀y∈Ik,decide (nJ .ni y.bA<0)= !oH y.bA:=by decide
  rw[<-e x G.1];exact h
noncomputable def TG(m:Int)(h:0<=m/\m<=4):bE al:= .dR 198 (List bS) (λl=>(∀x∈l,x.cY)/\l.length<1000000) (λl=>[hz l,Z m]) (λl=> .bool (decide ((l.length:Int)=if 1>m then 1 else m)&&l.all n8)) λ_ aa=>awD h.1 h.2 aa
@[simp] theorem aJX{m:Int}{h:0<=m/\m<=4}:(TG m h).f=198:=rfl
@[simp] theorem aJY{m:Int}{h:0<=m/\m<=4}{l:List bS}(aa:(∀x∈l,x.cY)/\l.length<1000000):(TG m h).fn [aw (l.map dS) 3,Z m]=some (.bool (decide ((l.length:Int)=if 1>m then 1 else m)&&l.all n8)):=bE.eH (x:=l) aa λy ag=>by simpa using ag
theorem ah8{o:bS}(aC:bK al 193 [Z 1] (dw o))(aD: ∀x:bS,(x.cY/\x.bA.ok=true)->bK al 199 [dw o,dw x] (.bool (!oH x.bA))){m:Int}(av:0<=m/\m<=4){r:List bS}{t h:bS}(az:(∀x∈r,x.cY)/\r.length<1000000)(bt:t.cY)(aH:h.cY):
    bK al 142 [Z m,hz r,dw t,dw h] (.bool (nn m r t h)):=by
  refine et (dM (aB:=⟨[TG m av,Nc,Tw o aC,Ty o aD],[]⟩) amL (by kernel_rfl) (by simp[Cc]) ?_);have e:nn m r t h=((decide ((r.length:Int)=if 1>m then 1 else m)&&r.all n8)&&(t.bA.small&&(oH t.bA&&h.bA.small))):=by unfold nn;rw[yJ]
  rw[e];cases D:(decide ((r.length:Int)=if 1>m then 1 else m)&&r.all n8)
  · simp(disch:=first|omega|simp only[aW];omega) [Cc,F0,F1,dS,D,-O,-U,-N,-S,-List.map_map]
  · cases H:t.bA.small
    · simp(disch:=first|omega|simp only[aW];omega) [Cc,F0,F1,dS,D,H,-O,-U,-N,-S,-List.map_map]
    · have aEV:t.cY/\t.bA.ok=true:=⟨bt,afb H⟩;cases aq:oH t.bA
      · simp(disch:=first|omega|simp only[aW];omega) [Cc,F0,F1,dS,D,H,aq,-O,-U,-N,-S,-List.map_map]
      · simp(disch:=first|omega|simp only[aW];omega) [Cc,F0,F1,dS,D,H,aq,-O,-U,-N,-S,-List.map_map]
theorem ah7{m:Int}(av:0<=m/\m<=4){r:List bS}{t h:bS}(az:(∀x∈r,x.cY)/\r.length<1000000)(bt:t.cY)(aH:h.cY):bK al 142 [Z m,hz r,dw t,dw h] (.bool (nn m r t h)):=
  ah8 (o:=⟨false,[1],[1]⟩) qm auH av az bt aH
theorem sY{a b c:Int}:dE a b c=true↔b<=a/\a<=c:=by simp[dE]
def dL{c4:Type}(f:Nat->c4)(i:Nat)(v:c4):Nat->c4:= λk=>if k=i then v else f k
@[simp] theorem rl{c4:Type}{f:Nat->c4}{i:Nat}{v:c4}:dL f i v i=v:=by simp[dL]
theorem ns{c4:Type}{f:Nat->c4}{i k:Nat}{v:c4}(h:k≠i):dL f i v k=f k:=by simp[dL,h]
def ey(l:List ByteArray):List Value:=(l.map λs=>[fQ s]).flatten
theorem SH{l:List ByteArray}: ∀r∈l.map (λs=>[fQ s]),r.length=1/\ ∀v∈r,gN v=true:= λr az=>by obtain⟨x,_,rfl⟩:=g4.1 az;exact⟨rfl,λv ad=>by simp at ad;subst ad;rfl⟩
theorem Dh{l:List ByteArray}{n:Nat}(au:l.length=n):(∀t,ft (ft (DI.dO 8 t)) (kJ 1 n (ey l))=some (l.map λs=>[fQ s]))/\(∀t,(ey l).flatMap (ed 8 t)=[])/\(ey l).length=n:=by
  have bD: ∀r∈l.map (λs=>[fQ s]),r.length=1:= λr h=>(SH r h).1;have aq:(ey l).length=n:=by rw[ey,rG bD,jg,au,Nat.mul_one]
  refine⟨λt=> ?_,λt=>MX λv ad=> ?_,aq⟩
  · have:=Ox bD;rw[jg,au]at this;rw[ey,this];exact HD λr h=>HD λv ad=>yY ((SH r h).2 v ad)
  · obtain⟨r,az,qY⟩:=List.mem_flatten.1 ad;exact(SH r az).2 v qY
theorem Au{l:List ByteArray}{s:ByteArray}:ey (l++[s])=ey l++[fQ s]:=by simp[ey]
noncomputable def TD:bE al:= .dR 137 hX hX.cY (λx=>[yx x]) (λx=> .bool x.mi) λ_ h=>axu h
@[simp] theorem aJR:TD.f=137:=rfl
@[simp] theorem aJS{n:ByteArray}{s e:List bS}{cl:List (List bS)}(h:(hX.mk n s cl e).cY):TD.fn [.agg #[fQ n,aw (s.map dS) 3,aw (cl.map λr=>[hz r]) 1,aw (e.map dS) 3]]=some (.bool (hX.mk n s cl e).mi):=bE.eH (x:=hX.mk n s cl e) h λy ag=>afL ag
noncomputable def TC:bE al:= .dR 141 (Int×Int×Int×o6) (λ_=>True) (λp=>[Z p.1,Z p.2.1,Z p.2.2.1,.agg #[Z p.2.2.2.a,Z p.2.2.2.b,Z p.2.2.2.c,Z p.2.2.2.d,Z p.2.2.2.e]]) (λp=> .bool (ld p.1 p.2.1 p.2.2.1 p.2.2.2)) λ_ _=>awM
@[simp] theorem aJy:TC.f=141:=rfl
@[simp] theorem aJz{k m q a b c d e:Int}:TC.fn [Z k,Z m,Z q,.agg #[Z a,Z b,Z c,Z d,Z e]]=some (.bool (ld k m q ⟨a,b,c,d,e⟩)):=bE.eH (x:=(k,m,q,(⟨a,b,c,d,e⟩:o6))) trivial λy ag=>by obtain⟨kD,tD,DX,Iz,IA,NX,NY,NZ⟩:=y;simp at ag;obtain⟨D,H,aq,aE,bq,cP,fB,hA⟩:=ag;simp[D,H,aq,aE,bq,cP,fB,hA]
noncomputable def TB:bE al:= .dR 142 (Int×List bS×bS×bS) (λp=>(0<=p.1/\p.1<=4)/\((∀x∈p.2.1,x.cY)/\p.2.1.length<1000000)/\p.2.2.1.cY/\p.2.2.2.cY) (λp=>[Z p.1,hz p.2.1,dw p.2.2.1,dw p.2.2.2]) (λp=> .bool (nn p.1 p.2.1 p.2.2.1 p.2.2.2)) λ_ h=>ah7 h.1 h.2.1 h.2.2.1 h.2.2.2
@[simp] theorem aJt:TB.f=142:=rfl
@[simp] theorem aJu{m:Int}{r:List bS}{n g0:Bool}{a b dF ca:List Int}(h:(0<=m/\m<=4)/\((∀x∈r,x.cY)/\r.length<1000000)/\(bS.mk n a b).cY/\(bS.mk g0 dF ca).cY):TB.fn [Z m,aw (r.map dS) 3,.agg #[.bool n,bM a,bM b],.agg #[.bool g0,bM dF,bM ca]]=some (.bool (nn m r ⟨n,a,b⟩ ⟨g0,dF,ca⟩)):=bE.eH (x:=(m,r,(⟨n,a,b⟩:bS),(⟨g0,dF,ca⟩:bS))) h λy ag=>by obtain⟨kD,tD,⟨DX,Iz,IA⟩,⟨NX,NY,NZ⟩⟩:=y;simp[dS]at ag;obtain⟨D,H,⟨aq,aE,bq⟩,cP,fB,hA⟩:=ag;simp[D,H,aq,aE,bq,cP,fB,hA]
theorem Iy{P:Program}{c:J}{z:aM}{t:W}{Q:du->aM->W->Prop}(d I:Nat)(ay:z d= .slice none 0 0)(h: ∀aJ,aJ.next=t.next+1->aJ.X t.next=some ⟨[],true⟩->(∀a,a<t.next->aJ.X a=t.X a)->fl P c (mm z d (.slice (some ⟨t.next,0,none⟩) 0 I)) aJ Q):fl P c z t Q:=
  yB (d:=d) (I:=I) ay (h _ (by simp) (ej (by simp)) λa ax=>by rw[bW (by omega),W.e6])
def ph(l:List ByteArray):List (Value×Value):=l.map λx=>(fQ x,.bool true)
theorem Sz{s:ByteArray}: ∀{l:List ByteArray},hE (fQ s) (ph l)=(ly s l).map λ_=> .bool true
  |[]=>rfl
  | x::l=>by
    simp only[ph,ln,hE,nx,ly];by_cases h:s=x
    · simp[h]
    · have:=Sz (s:=s) (l:=l);simp only[ph]at this;simp only[h,decide_false,if_false,this,Option.map_map,jv];rfl
theorem adW{s:ByteArray}: ∀{l:List ByteArray},ly s l=none->iZ (fQ s) (.bool true) (ph l)=ph (l++[s])
  |[],_=>by simp[ph,iZ]
  | x::l,h=>by
    simp only[ly]at h;split at h
    · cases h
    · next M=>have:=adW (s:=s) (l:=l) (by cases bc:ly s l with|none=>rfl|some v=>rw[bc]at h;cases h);simp only[ph]at this;simp only[ph,ln,iZ,nx,M,decide_false,jv,if_false,wR,this]
theorem aui{s:ByteArray}{l:List ByteArray}:kR .str (fQ s) (ph l)=true:=by simp only[kR,ph,nb,ru,List.all_map,eQ];intro x _;rfl
theorem XU{s:ByteArray}: ∀{l:List ByteArray},s∉l->ly s l=none
  |[],_=>rfl
  | x::l,h=>by simp only[gT,not_or]at h;simp only[ly,if_neg h.1,XU h.2];rfl
theorem avJ{l:List ByteArray}(h:l.Nodup){i:Nat}(ak:i<l.length):l[i]∉l.take i:= λav=>by
  obtain⟨j,b1,bb⟩:=mq av;rw[List.getElem_take]at bb;have zc:j<i:=by rw[oZ]at b1;omega
  exact(A7.1 h j i (by omega) ak zc) bb
theorem Dg{l:List ByteArray}:(ey l).length=l.length:=(Dh (l:=l) rfl).2.2
noncomputable def eh(l:List ByteArray):Bool:=l.all ng&&decide l.Nodup
theorem aea{c4:Type}{l:List c4}{i:Nat}(ak:i<l.length)(h:(l.take i).Nodup)(au:l[i]∉l.take i):(l.take (i+1)).Nodup:=by rw[mS (dD ak),wQ];exact⟨h,by simp,λa ax b hb=>by simp at hb;subst hb;exact λe=>au (e▸ax)⟩
theorem XV{s:ByteArray}: ∀{l:List ByteArray} {k:Nat},ly s l=some k->s∈l
  |[],k,h=>by cases h
  | x::l,k,h=>by
    simp only[ly]at h;split at h
    · next e=>exact e▸List.mem_cons_self ..
    · cases bc:ly s l with
      |none=>rw[bc]at h;cases h
      |some j=>exact Ba _ (XV bc)
theorem Sw{s:ByteArray}: ∀{l:List ByteArray},s∈l->ly s l≠none
  |[],h=>by cases h
  | x::l,h=>by
    simp only[ly];split
    · exact λh=>by cases h
    · next e=>
      have av:s∈l:=by
        rcases gT.1 h with rfl|h
        · exact absurd rfl e
        · exact h
      have:=Sw av;intro bc;cases bD:ly s l with
      |none=>exact this bD
      |some k=>rw[bD]at bc;cases bc
theorem ah5{l:List ByteArray}{i:Nat}(ak:i<l.length)(h:l[i]∈l.take i):eh l=false:=by unfold eh;rw[A8];exact .inr (yI λay=>avJ ay ak h)
theorem avL{l:List ByteArray}{i:Nat}(ak:i<l.length)(h:ng l[i]=false):eh l=false:=by unfold eh;rw[A8];exact .inl (by rw[Bd];exact⟨_,nv ak,by simp[h]⟩)
theorem ayQ{l:List ByteArray}(au:l.length<1000000):bK al 114 [yV l] (.bool (eh l)):=by
  refine et (dM (aB:=⟨[],[]⟩) akI (by kernel_rfl) (by simp[Qq]) ?_);simp(disch:=first|omega|simp only[aW];omega) [Qq,Yq,Yr,Ys,-O,-U,-N,-S,-List.map_map];refine h4 (aB:=⟨[Tz],[]⟩) (λi z t=>((l.take i).all ng=true/\(l.take i).Nodup)/\t.eK 0=some (ph (l.take i))/\z 3= .map (some 0)/\z 7=yV l/\z 8=Z l.length/\z 9=Z i) l.length ?_ ?_ 0 _ _ (hx _) ⟨by simp,by simp(disch:=first|omega|simp only[aW];omega) [ph,-O,-U,-N,-S,-List.map_map],by simp,by simp,by simp,by simp⟩
  · rintro i z t ak ⟨⟨ax,ay⟩,rL,dJ,eV,b9,gD⟩ cx bk;have G:l[i]?=some l[i]:=dD ak;have bZ:=g3 (n:=i) (by omega);have bY:(i:Int)<l.length:=(by omega);have aa:kR .str (fQ l[i]) (ph (l.take i))=true:=aui;have auK:=bn (hR rL).1;cases jV:ng l[i]
    · have aS:=avL ak jV;simp(disch:=first|omega|simp only[aW];omega) [FP,B6,B7,B8,B9,eV,b9,gD,bY,jV,aS,-hE,-iZ,-kR,-O,-U,-N,-S,-List.map_map]
    · cases eg:ly l[i] (l.take i)with
      | some k=>have aS:=ah5 ak (XV eg);have a6:hE (fQ l[i]) (ph (l.take i))=some (.bool true):=(by rw[Sz,eg];rfl);simp(disch:=first|omega|simp only[aW];omega) [FP,B6,B7,B8,B9,dJ,eV,b9,gD,bY,jV,rL,a6,aa,aS,-hE,-iZ,-kR,-O,-U,-N,-S,-List.map_map]
      | none=>have a6:hE (fQ l[i]) (ph (l.take i))=none:=(by rw[Sz,eg];rfl);have m5:l[i]∉l.take i:= λav=>Sw av eg;simp(disch:=first|omega|simp only[aW];omega) [FP,B6,B7,B8,B9,dJ,eV,b9,gD,bY,bZ,jV,rL,a6,aa,-hE,-iZ,-kR,-O,-U,-N,-S,-List.map_map];refine bk _ _ ⟨⟨by rw[mS G,rr,ax];simp[jV],aea ak ay m5⟩,?_,by simp[dJ],by simp[eV],by simp[b9],by simp⟩;rw[mS G,<-adW eg];simp(disch:=first|omega|simp only[aW];omega) [-iZ,-O,-U,-N,-S,-List.map_map]
  · rintro z t ⟨⟨ax,ay⟩,rL,dJ,eV,b9,gD⟩;rw[kj]at ax ay;have aS:eh l=true:=(by simp[eh,ax,ay]);simp(disch:=first|omega|simp only[aW];omega) [FP,B6,B7,B8,B9,b9,gD,B9,B6,B7,B8,aS,-O,-U,-N,-S,-List.map_map]
noncomputable def TH:bE al:= .dR 114 (List ByteArray) (λl=>l.length<1000000) (λl=>[yV l]) (λl=> .bool (eh l)) λ_ h=>ayQ h
@[simp] theorem aJ7:TH.f=114:=rfl
@[simp] theorem aJ8{l:List ByteArray}(h:l.length<1000000):TH.fn [aw (l.map λs=>[fQ s]) 1]=some (.bool (eh l)):=bE.eH (x:=l) h λy ag=>by simpa using ag
def ie(x:ih)(n:Nat):Bool:=ld x.k x.m x.q x.aB&&(!x.bf.isEmpty&&(nn x.m x.jF x.oV x.fo&&((x.bf.all λm=>dE m 0 ((n:Int)-1))&&decide x.bf.Nodup)))
structure ih.fD(x:ih):Prop where
  gh:(∀y∈x.jF,y.cY)/\x.jF.length<1000000
  aNh:x.oV.cY
  aM6:x.fo.cY
  len:x.bf.length<1000000
theorem avK{l:List Int}(h:l.Nodup){i:Nat}(ak:i<l.length):l[i]∉l.take i:= λav=>by
  obtain⟨j,b1,bb⟩:=mq av;rw[List.getElem_take]at bb;have zc:j<i:=by rw[oZ]at b1;omega
  exact(A7.1 h j i (by omega) ak zc) bb
theorem azb{x:ih}{n:Nat}(au:n<1000000)(h:ih.fD x):bK al 113 [.agg (fi x).toArray,Z n] (.bool (ie x n)):=by
  refine et (dM (aB:=⟨[TA,TF],[]⟩) akH (by kernel_rfl) (by simp[B2]) ?_);obtain⟨aE,bq,cP,iz⟩:=h;cases D:ld x.k x.m x.q x.aB
  · have aS:ie x n=false:=(by simp[ie,D]);simp(disch:=first|omega|simp only[aW];omega) [B2,FK,FL,FM,FN,vS,fi,D,aS,-O,-U,-N,-S,-List.map_map]
  by_cases xq:x.bf.length=0
  · have lv:(x.bf.length:Int)=0:=(by omega);have aS:ie x n=false:=by
      have:x.bf.isEmpty=true:=(by rw[N5];exact xq);simp[ie,this]
    simp(disch:=first|omega|simp only[aW];omega) [B2,FK,FL,FM,FN,vS,fi,D,xq,aS,-O,-U,-N,-S,-List.map_map]
  have lv: ¬(x.bf.length:Int)=0:=by omega
  have BT:((∀y∈x.jF,y.cY)/\x.jF.length<1000000)/\x.oV.cY/\x.fo.cY:=⟨aE,bq,cP⟩;cases aq:nn x.m x.jF x.oV x.fo
  · have aS:ie x n=false:=(by simp[ie,aq]);simp(disch:=first|omega|simp only[aW];omega) [B2,FK,FL,FM,FN,vS,fi,D,aq,xq,aS,-O,-U,-N,-S,-List.map_map]
  have aju:(n:Int)*1<=140737488355328/\n<=140737488355328/\(n:Int)<=140737488355328/\(n:Int)<=9223372036854775807:=by omega
  have ajl:x.bf.isEmpty=false:=by
    cases bc:x.bf.isEmpty
    · rfl
    · rw[N5]at bc;exact absurd bc xq
  have PT:ie x n=((x.bf.all λm=>dE m 0 ((n:Int)-1))&&decide x.bf.Nodup):=by simp[ie,D,aq,ajl]
  simp(disch:=first|omega|simp only[aW];omega) [B2,FK,FL,FM,FN,fi,D,aq,xq,aju,-O,-U,-N,-S,-List.map_map];refine h4 (aB:=⟨[rg],[]⟩) (λi z t=> ∃aX:List Bool,aX.length=n/\(∀j:Nat,j<n->aX[j]?=some (decide ((j:Int)∈x.bf.take i)))/\((x.bf.take i).all λm=>dE m 0 ((n:Int)-1))=true/\(x.bf.take i).Nodup/\t.X 3=some ⟨aX.map Value.bool,true⟩/\z 1=Z n/\z 5= .slice (some ⟨3,0,none⟩) n 1/\z 39=cn x.bf/\z 40=Z x.bf.length/\z 41=Z i) x.bf.length ?_ ?_ 0 _ _ (hx _) ⟨List.replicate n false,by simp,λj b1=>by simp[b1],by simp,by simp,by simp(disch:=first|omega|simp only[aW];omega) [-O,-U,-N,-S,-List.map_map],by simp,by simp,by simp,by simp,by simp⟩
  · rintro i z t ak ⟨aX,E5,cK,jU,hS,JP,bl,ct,HW,Dt,HX⟩ cx bk;have G:x.bf[i]?=some x.bf[i]:=dD ak;have bZ:=g3 (n:=i) (by omega);have c3:IntKind.i64.wrap ((n:Int)-1)=(n:Int)-1:=fx (by omega) (by omega);have bY:(i:Int)<x.bf.length:=(by omega);cases rP:dE x.bf[i] 0 ((n:Int)-1)
    · have aS:ie x n=false:=by
        rw[PT,A8];exact .inl (by rw[Bd];exact⟨_,nv ak,by simp[rP]⟩)
      simp(disch:=first|omega|simp only[aW];omega) [FO,B3,B4,B5,vS,bl,HW,Dt,HX,bY,c3,rP,aS,-O,-U,-N,-S,-List.map_map]
    have Xh:=sY.1 rP;obtain⟨aT,dY⟩:=k1 Xh.1;rw[dY]at rP Xh;have l5:aT<n:=(by omega);have sL:(aT:Int)<(n:Int):=(by omega);have WW:aT+1<=n:=l5;have XP:x.bf[i]?=some (aT:Int):=(by rw[G,dY]);have aGQ:=bn JP;by_cases av:(aT:Int)∈x.bf.take i
    · have Pm:aX[aT]?=some true:=(by rw[cK aT l5];simp[av]);have Pb:(aX.map Value.bool)[aT]?=some (.bool true):=(by rw[qy,Pm];rfl);have aS:ie x n=false:=by
        rw[PT,A8];exact .inr (yI λay=>avK ay ak (dY▸av))
      simp(disch:=first|omega|simp only[aW];omega) [FO,B3,B4,B5,vS,bl,ct,HW,Dt,HX,bY,c3,BM,dY,sL,WW,E5,Pb,rP,JP,aS,-O,-U,-N,-S,-List.map_map]
    · have Pm:aX[aT]?=some false:=(by rw[cK aT l5];simp[av]);have Pb:(aX.map Value.bool)[aT]?=some (.bool false):=(by rw[qy,Pm];rfl);have aiT: ∀j:Nat,j<n->(aX.set aT true)[j]?=some (decide ((j:Int)∈x.bf.take (i+1))):= λj b1=>by
        rw[u2,mS XP];by_cases e:aT=j
        · subst e;simp[E5,l5]
        · rw[if_neg e,cK j b1];have: ¬(j:Int)=(aT:Int):=(by omega);simp[this]
      simp(disch:=first|omega|simp only[aW];omega) [FO,B3,B4,B5,vS,bl,ct,HW,Dt,HX,bY,bZ,c3,BM,dY,sL,WW,E5,Pb,rP,JP,-O,-U,-N,-S,-List.map_map];refine bk _ _ ⟨aX.set aT true,by simp[E5],aiT,?_,aea ak hS (dY▸av),?_,by simp[bl],by simp[ct],by simp[HW],by simp[Dt],by simp⟩
      · rw[mS XP,rr,jU];simp[rP]
      · simp(disch:=first|omega|simp only[aW];omega) [-O,-U,-N,-S,-List.map_map]
  · rintro z t ⟨aX,E5,cK,jU,hS,JP,bl,ct,HW,Dt,HX⟩;rw[kj]at jU hS;have aS:ie x n=true:=(by rw[PT,jU];simp[hS]);simp(disch:=first|omega|simp only[aW];omega) [FO,B3,B4,B5,vS,Dt,HX,vS,B3,B4,B5,aS,-O,-U,-N,-S,-List.map_map]
noncomputable def TK(n:Nat)(au:n<1000000):bE al:= .dR 113 ih ih.fD (λx=>[.agg (fi x).toArray,Z n]) (λx=> .bool (ie x n)) λ_ h=>azb au h
@[simp] theorem aKj{n:Nat}{au:n<1000000}:(TK n au).f=113:=rfl
@[simp] theorem aKk{n:Nat}{au:n<1000000}{x:ih}(h:ih.fD x):(TK n au).fn [.agg #[fQ x.name,Z x.k,Z x.m,Z x.q,Z x.aB.a,Z x.aB.b,Z x.aB.c,Z x.aB.d,Z x.aB.e,cn x.bf,hz x.jF,.bool x.oV.jR,bM x.oV.a,bM x.oV.b,.bool x.fo.jR,bM x.fo.a,bM x.fo.b],Z n]=some (.bool (ie x n)):=bE.eH (x:=x) h λy ag=>by obtain⟨kD,tD,DX,Iz,⟨IA,NX,NY,NZ,aNu⟩,aNm,aNn,⟨aNo,aNp,aNq⟩,⟨aNr,aNs,aNt⟩⟩:=y;obtain⟨cm,cU,dP,gw,⟨qx,sk,NW,af5,af6⟩,NU,af3,⟨aNi,aNj,NV⟩,⟨aNk,aNl,af4⟩⟩:=x;simp[fi]at ag;obtain⟨D,H,aq,aE,bq,cP,fB,hA,iz,xh,JS,E3,O5,O6,O7,O8,O9⟩:=ag;subst D;subst H;subst aq;subst aE;subst bq;subst cP;subst fB;subst hA;subst iz;subst xh;subst JS;subst E3;subst O5;subst O6;subst O7;subst O8;subst O9;rfl
def nM(d:gm):Bool:=decide (d.name=⟨#[]⟩)&&(decide (d.hn=0)&&(decide (d.parent= -1)&&(decide (d.il=0)&&(d.nO.bA.small&& !decide (0<d.nO.bA.n)))))
def Ai(ds:List gm)(d:gm):Bool:=match ds[d.parent.toNat]? with
  |some q=>decide (q.hn=d.hn-1)
  |none=>false
def kK(ds:List gm)(i:Nat)(d:gm):Bool:=dE d.parent 0 i&&(Ai ds d&&(dE d.hn 1 4&&(dE d.il 1 64&&d.nO.bA.small)))
def nz(ds:List gm):Bool:=match ds with
  |[]=>false
  | r::l=>nM r&&(List.range l.length).all λi=>match l[i]? with
    |some d=>kK ds i d
    |none=>true
theorem OD{r:gm}{l:List gm}:nz (r::l)=(nM r&&(List.range l.length).all λi=>match l[i]? with
    |some d=>kK (r::l) i d
    |none=>true):=rfl
structure bm.fD(u:bm):Prop where
  cH: ∀x∈u.cH,x.cY
  a1: ∀x∈u.a1,x.nO.cY
  cI: ∀x∈u.cI,ih.fD x
  As:u.cH.length<=1000
  eJ:u.bf.length<=1000
  js:u.a1.length<=1000
  mh:u.a5.length<=1000
  we:u.cI.length<=1000
  wg:u.cM.length<=1000
theorem ahW{r:gm}{l:List gm}{i:Nat}{d:gm}(G:l[i]?=some d)(h:kK (r::l) i d=false):nz (r::l)=false:=by rw[OD];rw[A8];refine .inr ?_;rw[Bd];exact⟨i,qz.2 (eB.1 G).1,by simp[G,h]⟩
theorem ahV{r:gm}{l:List gm}(az:nM r=true)(h: ∀j d,l[j]?=some d->kK (r::l) j d=true):nz (r::l)=true:=by
  rw[OD];rw[az,ru,eQ];intro i ak;cases G:l[i]? with
  |none=>rfl
  |some d=>exact h i d G
theorem ay5{u:bm}(h:bm.fD u):bK al 111 [.agg (aU u).toArray] (.bool (nz u.a1)):=by
  refine et (dM (aB:=⟨[Du,M3],[]⟩) akF (by kernel_rfl) (by simp[um]) ?_);have hS:=h.js;cases iu:u.a1 with
  | nil=>have lv:(u.a1.length:Int)=0:=(by rw[iu];rfl);have qV:u.a1.length=0:=(by rw[iu];rfl);have aS:nz []=false:=rfl;simp(disch:=first|omega|simp only[aW];omega) [um,vK,vL,vM,vN,vO,oF,aU,aS,iu,-O,-U,-N,-S,-List.map_map]
  |cons R ds=>
  have eS:u.a1.length=ds.length+1:=by rw[iu];rfl
  have lv: ¬(u.a1.length:Int)=0:=by omega
  have xq:(0:Int)<u.a1.length:=by omega
  have qV: ¬u.a1.length=0:=by omega
  have nB:0<u.a1.length:=by omega
  have ajs:1<=u.a1.length:=by omega
  have PA:(1:Int)<=u.a1.length:=by omega
  have fJ:u.a1[0]?=some R:=by rw[iu];rfl
  have ec:R.nO.cY:=h.a1 R (by rw[iu];simp);have n2:u.a1[0]=R:=by have:=dD nB;rw[fJ]at this;exact(Option.some.inj this).symm
  have OF:(List.take u.a1.length (u.a1.map ef)).tail=ds.map ef:=by rw[jh (by simp),iu];rfl
  have OG:u.a1.length-1=ds.length:=by omega
  have zq:nM R=false->nz (R::ds)=false:= λh=>by rw[OD,h];rfl
  rw[<-iu]at zq⊢;by_cases ch:R.name=⟨#[]⟩
  case neg=>have aS:=zq (by simp[nM,ch]);simp(disch:=first|omega|simp only[aW];omega) [um,vK,vL,vM,vN,vO,oF,aU,ef,qV,nB,n2,ch,aS,-O,-U,-N,-S,-List.map_map]
  by_cases c6:R.hn=0
  case neg=>have aS:=zq (by simp[nM,c6]);simp(disch:=first|omega|simp only[aW];omega) [um,vK,vL,vM,vN,vO,oF,aU,ef,qV,nB,n2,ch,c6,aS,-O,-U,-N,-S,-List.map_map]
  by_cases iq:R.parent= -1
  case neg=>have aS:=zq (by simp[nM,iq]);simp(disch:=first|omega|simp only[aW];omega) [um,vK,vL,vM,vN,vO,oF,aU,ef,qV,nB,n2,ch,c6,iq,aS,-O,-U,-N,-S,-List.map_map]
  by_cases iS:R.il=0
  case neg=>have aS:=zq (by simp[nM,iS]);simp(disch:=first|omega|simp only[aW];omega) [um,vK,vL,vM,vN,vO,oF,aU,ef,qV,nB,n2,ch,c6,iq,iS,aS,-O,-U,-N,-S,-List.map_map]
  cases l2:R.nO.bA.small
  · have aS:=zq (by simp[nM,l2]);simp(disch:=first|omega|simp only[aW];omega) [um,vK,vL,vM,vN,vO,oF,aU,ef,qV,nB,n2,ch,c6,iq,iS,l2,aS,-O,-U,-N,-S,-List.map_map]
  by_cases p0:0<R.nO.bA.n
  · have aS:=zq (by simp[nM,p0]);simp(disch:=first|omega|simp only[aW];omega) [um,vK,vL,vM,vN,vO,oF,aU,ef,qV,nB,n2,ch,c6,iq,iS,l2,p0,aS,-O,-U,-N,-S,-List.map_map]
  have aj4:nM R=true:=by simp[nM,ch,c6,iq,iS,l2,p0]
  simp(disch:=first|omega|simp only[aW];omega) [um,vK,vL,vM,vN,vO,aU,ef,qV,nB,PA,n2,ch,c6,iq,iS,l2,p0,-O,-U,-N,-S,-List.map_map];rw[OF,OG];refine h4 (aB:=⟨[rg,Du],[]⟩) (λi z t=>(∀j d,j<i->ds[j]?=some d->kK u.a1 j d=true)/\t.X 0=some ⟨aU u,true⟩/\z 1=cF 0/\z 45=aw (ds.map ef) 7/\z 46=Z ds.length/\z 47=Z i) ds.length ?_ ?_ 0 _ _ (hx _) ⟨λj d h=>absurd h (Nat.not_lt_zero _),by simp(disch:=first|omega|simp only[aW];omega) [aU,-O,-U,-N,-S,-List.map_map],by simp,by simp,by simp,by simp⟩
  · rintro i z t ak ⟨jU,aO,bl,yj,wB,yk⟩ cx bk;have G:ds[i]?=some ds[i]:=dD ak;have bZ:=g3 (n:=i) (by omega);have bY:(i:Int)<ds.length:=(by omega);have fW:=bn aO;have MH: ∀k,¬t.next+k=0:= λk=>by omega
    have oC:ds[i].nO.cY:=h.a1 _ (by rw[iu];exact Ba _ (nv ak));have fC:kK u.a1 i ds[i]=false->nz u.a1=false:= λa6=>by rw[iu]at a6⊢;exact ahW G a6
    cases hP:dE ds[i].parent 0 (i:Int)
    · have aS:=fC (by simp[kK,hP]);simp(disch:=first|omega|simp only[aW];omega) [xD,vP,vQ,vR,oF,ef,yj,wB,yk,bY,hP,aS,-O,-U,-N,-S,-List.map_map]
    have ahT:=sY.1 hP;obtain⟨aT,dY⟩:=k1 ahT.1;have fX:aT<=i:=(by omega);have y6:aT<u.a1.length:=(by omega);have bc:u.a1[aT]?=some u.a1[aT]:=dD y6;have l5:(aT:Int)<u.a1.length:=(by omega);have Xo:Ai u.a1 ds[i]=decide (u.a1[aT].hn=ds[i].hn-1):=(by unfold Ai;rw[dY,pR,bc]);rw[dY]at hP;by_cases hd:u.a1[aT].hn=IntKind.i64.wrap (ds[i].hn-1)
    case neg=>
      have aS:=fC (by
        rw[kK,Xo];cases iT:dE ds[i].hn 1 4
        · simp
        · have:=sY.1 iT;rw[fx (by omega) (by omega)]at hd;simp[hd])
      simp(disch:=first|omega|simp only[aW];omega) [xD,vP,vQ,vR,oF,aU,ef,bl,yj,wB,yk,aO,bY,dY,l5,hP,hd,aS,-O,-U,-N,-S,-List.map_map]
    cases iT:dE ds[i].hn 1 4
    · have aS:=fC (by simp[kK,iT]);simp(disch:=first|omega|simp only[aW];omega) [xD,vP,vQ,vR,oF,aU,ef,bl,yj,wB,yk,aO,bY,dY,l5,hP,hd,iT,aS,-O,-U,-N,-S,-List.map_map]
    cases EG:dE ds[i].il 1 64
    · have aS:=fC (by simp[kK,EG]);simp(disch:=first|omega|simp only[aW];omega) [xD,vP,vQ,vR,oF,aU,ef,bl,yj,wB,yk,aO,bY,dY,l5,hP,hd,iT,EG,aS,-O,-U,-N,-S,-List.map_map]
    cases Jy:ds[i].nO.bA.small
    · have aS:=fC (by simp[kK,Jy]);simp(disch:=first|omega|simp only[aW];omega) [xD,vP,vQ,vR,oF,aU,ef,bl,yj,wB,yk,aO,bY,dY,l5,hP,hd,iT,EG,Jy,aS,-O,-U,-N,-S,-List.map_map]
    have pn:kK u.a1 i ds[i]=true:=(by have:=sY.1 iT;have V7:=hd;rw[fx (by omega) (by omega)]at V7;rw[kK,Xo,dY,hP,iT,EG,Jy,V7];simp);simp(disch:=first|omega|simp only[aW];omega) [xD,vP,vQ,vR,oF,aU,ef,bl,yj,wB,yk,aO,bY,bZ,dY,l5,hP,hd,iT,EG,Jy,-O,-U,-N,-S,-List.map_map];refine bk _ _ ⟨λj d b1 ay=> ?_,by simp(disch:=first|omega|simp only[aW];omega) [aO,aU,-O,-U,-N,-S,-List.map_map],by simp[bl],by simp[yj],by simp[wB],by simp⟩;by_cases e:j=i
    · subst e;rw[G]at ay;cases ay;exact pn
    · exact jU j d (by omega) ay
  · rintro z t ⟨jU,aO,bl,yj,wB,yk⟩;have aS:nz u.a1=true:=by
      rw[iu];refine ahV aj4 λj d ay=> ?_;rw[<-iu];exact jU j d (eB.1 ay).1 ay
    simp(disch:=first|omega|simp only[aW];omega) [xD,vP,vQ,vR,oF,wB,yk,oF,vP,vQ,vR,aS,-O,-U,-N,-S,-List.map_map]
noncomputable def TI(u:bm)(h:bm.fD u):bE al:= .dR 111 Unit (λ_=>True) (λ_=>[.agg (aU u).toArray]) (λ_=> .bool (nz u.a1)) λ_ _=>ay5 h
@[simp] theorem aKf{u:bm}{h:bm.fD u}:(TI u h).f=111:=rfl
@[simp] theorem aKg{u:bm}{h:bm.fD u}:(TI u h).fn [.agg #[Z u.ext,aw (u.cH.map gZ) 4,aw (u.bf.map gO) 4,aw (u.a1.map ef) 7,aw (u.a5.map gp) 3,aw (u.cI.map fi) 17,aw (u.cM.map hQ) 2]]=some (.bool (nz u.a1)):=bE.eH (x:=()) trivial λ_ _=>rfl
end Go.Proofs.YtmmkkggfmigppaaGreat
