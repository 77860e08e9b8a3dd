/-
  A part of the proof of the statement, in texts that tools of ours (wip/shrink.py, irpack.py, relax.py, minify.py, join.py, lay.py) have shortened.
-/
import Derived.Test.YtmmkkggfmigppaaGreatZak
set_option linter.all false
set_option maxRecDepth 8000
set_option maxHeartbeats 16000000
namespace Go.Proofs.YtmmkkggfmigppaaGreat
open Go Go.DI Go.Big
theorem TN{x:Int}(c5:0<=x)(D:x<4294967296):IntKind.u32.wrap x=x:=by show x%4294967296=x;omega
theorem TO{x:Int}(c5:0<=x)(D:x<18446744073709551616):IntKind.u64.wrap x=x:=by show x%18446744073709551616=x;omega
theorem T0:IntKind.i64.wrap 0=0:=by decide
theorem T1:IntKind.i64.wrap 1=1:=by decide
theorem T2:IntKind.i64.wrap 2=2:=by decide
theorem T3:IntKind.i64.wrap (-1)= -1:=by decide
theorem Uc:IntKind.u64.wrap 0=0:=by decide
theorem Ud:IntKind.u64.wrap 1=1:=by decide
theorem Ue:IntKind.u32.wrap 0=0:=by decide
attribute [local simp] T0 T1 T2 T3 Uc Ud Ue
theorem SL{x:Int}: ∀r∈[[eN x]],r.length=1/\ ∀v∈r,gP v=true:= λr ay=>by simp at ay;subst ay;exact⟨rfl,λv ab=>by simp at ab;subst ab;rfl⟩
theorem aAg{x:Int}(G:x≠0):bH al 248 [bM [x]] (Z 1):=by refine ed (dL (aB:=⟨[],[]⟩) aaV (by kernel_rfl) (by simp[KX]) ?_);simp(disch:=first|omega|simp only[DI.ak];omega) [KX,aaU,aaW,aaX,aaY,-O,-U,-N,-S,-List.map_map];refine eC (aB:=⟨[],[]⟩) λcK bk=> ?_;simp(disch:=first|omega|simp only[DI.ak];omega) [aaZ,G,-O,-U,-N,-S,-List.map_map]
noncomputable def ti:bz al:= .dM 248 Int (λx=>x≠0) (λx=>[bM [x]]) (λ_=>Z 1) λ_ h=>aAg h
@[simp] theorem aKS:ti.f=248:=rfl
@[simp] theorem aKT{x:Int}(h:x≠0):ti.fn [au [[eN x]] 1]=some (Z 1):=bz.eu (x:=x) h λy ah=>by simpa using ah
theorem aAf{x:Int}(G:x≠0):bH al 271 [bM [x]] (.bool false):=by refine ed (dL (aB:=⟨[ti],[]⟩) abt (by kernel_rfl) (by simp[K3]) ?_);simp(disch:=first|omega|simp only[DI.ak];omega) [K3,abr,abu,-O,-U,-N,-S,-List.map_map]
noncomputable def Da:bz al:= .dM 271 Int (λx=>x≠0) (λx=>[bM [x]]) (λ_=> .bool false) λ_ h=>aAf h
@[simp] theorem aKQ:Da.f=271:=rfl
@[simp] theorem aKR{x:Int}(h:x≠0):Da.fn [au [[eN x]] 1]=some (.bool false):=bz.eu (x:=x) h λy ah=>by simpa using ah
theorem aAl{x:Int}(G:x≠0):bH al 253 [bM [x]] (bM [x]):=by refine ed (dL (aB:=⟨[ti],[]⟩) aa8 (by kernel_rfl) (by simp[K0]) ?_);simp(disch:=first|omega|simp only[DI.ak];omega) [K0,aa7,aa9,-O,-U,-N,-S,-List.map_map];exact sx (n:=8) (bg:=[[eN x]]) (w:=true) (by simp(disch:=first|omega|simp only[DI.ak];omega) [-O,-U,-N,-S,-List.map_map]) rfl SL
noncomputable def yb:bz al:= .dM 253 Int (λx=>x≠0) (λx=>[bM [x]]) (λx=>bM [x]) λ_ h=>aAl h
@[simp] theorem aK2:yb.f=253:=rfl
@[simp] theorem aK3{x:Int}(h:x≠0):yb.fn [au [[eN x]] 1]=some (bM [x]):=bz.eu (x:=x) h λy ah=>by simpa using ah
theorem az9{x y:Int}(G:x≠0)(ah:y≠0):bH al 222 [bM [x],bM [y]] (Z (if x<y then-1 else if x>y then 1 else 0)):=by
  refine ed (dL (aB:=⟨[ti],[]⟩) aah (by kernel_rfl) (by simp[KM]) ?_);simp(disch:=first|omega|simp only[DI.ak];omega) [KM,aag,aai,aaj,aak,-O,-U,-N,-S,-List.map_map];refine eC (aB:=⟨[ti],[]⟩) λcK bk=> ?_;by_cases bN:x<y
  · simp(disch:=first|omega|simp only[DI.ak];omega) [Gd,B5,B6,bN,-O,-U,-N,-S,-List.map_map]
  by_cases cI:x>y
  · simp(disch:=first|omega|simp only[DI.ak];omega) [Gd,B5,B6,bN,cI,-O,-U,-N,-S,-List.map_map]
  simp(disch:=first|omega|simp only[DI.ak];omega) [Gd,B5,B6,bN,cI,-O,-U,-N,-S,-List.map_map];refine bk _ _ (eC (aB:=⟨[ti],[]⟩) λcK bk=> ?_);simp(disch:=first|omega|simp only[DI.ak];omega) [Gd,B5,B6,B6,B5,bN,cI,-O,-U,-N,-S,-List.map_map]
noncomputable def M5:bz al:= .dM 222 (Int×Int) (λx=>x.1≠0/\x.2≠0) (λx=>[bM [x.1],bM [x.2]]) (λx=>Z (if x.1<x.2 then-1 else if x.1>x.2 then 1 else 0)) λ_ h=>az9 h.1 h.2
@[simp] theorem aKL:M5.f=222:=rfl
@[simp] theorem aKM{x y:Int}(h:x≠0/\y≠0):M5.fn [au [[eN x]] 1,au [[eN y]] 1]=some (Z (if x<y then-1 else if x>y then 1 else 0)):=bz.eu (x:=(x,y)) h λ⟨a,b⟩ ah=>by simpa using ah
theorem aAi:bH al 217 [.int .u64 0] (bM []):=gb (by kernel_rfl)
noncomputable def Tw:bz al:= .dM 217 Unit (λ_=>True) (λ_=>[.int .u64 0]) (λ_=>bM []) λ_ _=>aAi
@[simp] theorem aKW:Tw.f=217:=rfl
@[simp] theorem aKX:Tw.fn [.int .u64 0]=some (bM []):=bz.eu (x:=()) trivial λ_ _=>rfl
section
variable {J:Int} (D:2<=J) (H:J<200)
include D H
theorem aAk:bH al 278 [bM [J],.int .u32 1] (.tuple #[bM [J],.int .u32 0]):=by
  have bL:J≠0:=by omega
  have cX:IntKind.u64.wrap J=J:=TO (by omega) (by omega);have e2:IntKind.u32.wrap J=J:=TN (by omega) (by omega);have aL:J.tdiv 1=J:=by simp
  have aU:J.tmod 1=0:=by simp
  refine ed (dL (aB:=⟨[ti],[]⟩) abB (by kernel_rfl) (by simp[K4]) ?_);simp(disch:=first|omega|simp only[DI.ak];omega) [K4,abA,abC,abD,abE,-O,-U,-N,-S,-List.map_map];refine eC (aB:=⟨[ti],[]⟩) λcK bk=> ?_;have mG:max (J%2^IntKind.u64.bits) 0=J:=by show max (J%18446744073709551616) 0=J;omega
  simp(disch:=first|omega|simp only[DI.ak];omega) [Q7,K5,K6,K7,cX,e2,mG,aL,aU,-O,-U,-N,-S,-List.map_map];refine bk _ _ (eC (aB:=⟨[ti],[]⟩) λcK bk=> ?_);simp(disch:=first|omega|simp only[DI.ak];omega) [Q7,K5,K6,K7,K7,K5,K6,rD,q5,-O,-U,-N,-S,-List.map_map];simp(disch:=first|omega|simp only[DI.ak];omega) [aib,-O,-U,-N,-S,-List.map_map]
theorem aAa:bH al 273 [bM [1],bM [J]] (.tuple #[.slice none 0 0,bM [1]]):=by
  have bL:J≠0:=by omega
  have c:(1:Int)<J:=by omega
  have ga:(1:Int)≠0:=by decide
  refine ed (dL (aB:=⟨[M5,yb],[]⟩) Q5 (by kernel_rfl) (by simp[Cd]) ?_);simp(disch:=first|omega|simp only[DI.ak];omega) [Cd,Q4,Q6,c,-O,-U,-N,-S,-List.map_map]
noncomputable def Ty:bz al:= .dM 278 Unit (λ_=>True) (λ_=>[bM [J],.int .u32 1]) (λ_=> .tuple #[bM [J],.int .u32 0]) λ_ _=>aAk D H
@[simp] theorem aK0:(Ty D H).f=278:=rfl
@[simp] theorem aK1:(Ty D H).fn [au [[eN J]] 1,.int .u32 1]=some (.tuple #[bM [J],.int .u32 0]):=bz.eu (x:=()) trivial λ_ _=>rfl
theorem aAb:bH al 273 [bM [J],bM [1]] (.tuple #[bM [J],bM []]):=by
  have bL:J≠0:=by omega
  have c: ¬J<1:=by omega
  have cI:J>1:=by omega
  have hq:(1:Int)<J:=by omega
  have ga:(1:Int)≠0:=by decide
  refine ed (dL (aB:=⟨[M5,Ty D H,Tw],[]⟩) Q5 (by kernel_rfl) (by simp[Cd]) ?_);simp(disch:=first|omega|simp only[DI.ak];omega) [Cd,Q4,Q6,abw,abx,c,cI,-O,-U,-N,-S,-List.map_map]
noncomputable def AE:bz al:= .dM 273 Bool (λ_=>True) (λb=>if b then[bM [1],bM [J]]else[bM [J],bM [1]]) (λb=>if b then .tuple #[.slice none 0 0,bM [1]]else .tuple #[bM [J],bM []]) λb _=>by
  cases b
  · exact aAb D H
  · exact aAa D H
@[simp] theorem aKN:(AE D H).f=273:=rfl
theorem ax0:(AE D H).fn [au [[eN 1]] 1,au [[eN J]] 1]=some (.tuple #[.slice none 0 0,bM [1]]):=bz.eu (x:=true) trivial λb hb=>by
  cases b
  · simp at hb;omega
  · rfl
theorem ax1:(AE D H).fn [au [[eN J]] 1,au [[eN 1]] 1]=some (.tuple #[bM [J],bM []]):=bz.eu (x:=false) trivial λb hb=>by
  cases b
  · rfl
  · simp at hb;omega
theorem aAd:bH al 251 [bM [1],bM [J]] (.tuple #[bM [1],Z 0]):=by
  have bL:J≠0:=by omega
  have ga:(1:Int)≠0:=by decide
  have gZ:=ax0 D H;have gM:=ax1 D H;refine ed (dL (aB:=⟨[Da,yb,AE D H],[]⟩) aa3 (by kernel_rfl) (by simp[KY]) ?_);simp(disch:=first|omega|simp only[DI.ak];omega) [KY,aa2,aa4,aa5,aa6,-O,-U,-N,-S,-List.map_map];refine eC (aB:=⟨[Da,yb,AE D H],[]⟩) λcK bk=> ?_;simp(disch:=first|omega|simp only[DI.ak];omega) [KZ,Gj,gZ,-O,-U,-N,-S,-List.map_map];refine bk _ _ (eC (aB:=⟨[Da,yb,AE D H],[]⟩) λcK bk=> ?_);simp(disch:=first|omega|simp only[DI.ak];omega) [KZ,Gj,gM,-O,-U,-N,-S,-List.map_map];refine bk _ _ (eC (aB:=⟨[Da,yb,AE D H],[]⟩) λcK bk=> ?_);simp(disch:=first|omega|simp only[DI.ak];omega) [KZ,Gj,Gj,-O,-U,-N,-S,-List.map_map]
omit D H in
theorem agW: ∀(n:Nat) (v k:Int),0<=v->v<2^n->0<=k->k+n<=1000-> ∃eW,k<=eW/\eW<=k+n/\(0<v->k<eW)/\ ∀(z:aP) (t:W) (Q:dy->aP->W->Prop),z 5=eN v->z 4=Z k->
    (∀aj,aj 4=Z eW->Q (.ba 0) aj t)->fP al (.loop Gc) z t Q:=by
  intro n;induction n with
  | zero=>intro v k c5 D _ _;have ab:v=0:=(by simp at D;omega);subst ab;refine⟨k,Int.le_refl _,by omega,λh=>absurd h (by decide),λz t Q cu nH bY=> ?_⟩;refine eC (aB:=⟨[],[]⟩) λcK bk=> ?_;simp(disch:=first|omega|simp only[DI.ak];omega) [Gc,KJ,cu,-O,-U,-N,-S,-List.map_map];exact bY _ (by simp[nH])
  | succ n cn=>
    intro v k c5 D aa ax;by_cases ab:v=0
    · subst ab;refine⟨k,Int.le_refl _,by omega,λh=>absurd h (by decide),λz t Q cu nH bY=> ?_⟩;refine eC (aB:=⟨[],[]⟩) λcK bk=> ?_;simp(disch:=first|omega|simp only[DI.ak];omega) [Gc,KJ,cu,-O,-U,-N,-S,-List.map_map];exact bY _ (by simp[nH])
    · have af:0<v:=(by omega);have aq:(2:Int)^(n+1)=2*2^n:=(by rw[Int.pow_succ];omega);obtain⟨eW,a,b,c,d⟩:=cn (v/2) (k+1) (by omega) (by omega) (by omega) (by omega);refine⟨eW,by omega,by omega,λ_=>by omega,λz t Q cu nH bY=> ?_⟩;refine eC (aB:=⟨[],[]⟩) λcK bk=> ?_;have cX:IntKind.i64.wrap (k+1)=k+1:=fl (by omega) (by omega);simp(disch:=first|omega|simp only[DI.ak];omega) [Gc,KJ,cu,nH,af,cX,-O,-U,-N,-S,-List.map_map];refine bk _ _ (d _ _ _ ?_ (by simp) bY);rw[ayY,if_pos rfl,Int.fdiv_eq_ediv_of_nonneg _ (by decide)]
theorem NK: ∃b:Int,1<=b/\b<=8/\bH al 216 [bM [J]] (Z b):=by
  have bL:J≠0:=by omega
  obtain⟨eW,a,b,c,d⟩:=agW 8 J 0 (by omega) (by show J<256;omega) (by omega) (by omega);refine⟨eW,by have:=c (by omega);omega,by omega,?_⟩;refine ed (dL (aB:=⟨[ti],[]⟩) ZX (by kernel_rfl) (by simp[KI]) ?_);simp(disch:=first|omega|simp only[DI.ak];omega) [KI,ZW,ZY,ZZ,Z0,Z1,-O,-U,-N,-S,-List.map_map];refine d _ _ _ (by simp) (by simp) λaj nH=> ?_;simp(disch:=first|omega|simp only[DI.ak];omega) [Z2,nH,-O,-U,-N,-S,-List.map_map]
omit D H in
theorem agV:bH al 216 [bM [1]] (Z 1):=gb (by kernel_rfl)
omit D H in
noncomputable def AD(b:Int)(hb:bH al 216 [bM [J]] (Z b)):bz al:= .dM 216 Bool (λ_=>True) (λc=>if c then[bM [1]]else[bM [J]]) (λc=>if c then Z 1 else Z b) λc _=>by
  cases c
  · exact hb
  · exact agV
omit D H in
@[simp] theorem aKK{b:Int}{hb:bH al 216 [bM [J]] (Z b)}:(AD b hb).f=216:=rfl
theorem M4{b:Int}{hb:bH al 216 [bM [J]] (Z b)}:(AD b hb).fn [au [[eN 1]] 1]=some (Z 1):=bz.eu (x:=true) trivial λc ar=>by
  cases c
  · simp at ar;omega
  · rfl
theorem Tt{b:Int}{hb:bH al 216 [bM [J]] (Z b)}:(AD b hb).fn [au [[eN J]] 1]=some (Z b):=bz.eu (x:=false) trivial λc ar=>by
  cases c
  · rfl
  · simp at ar;omega
noncomputable def Tu:bz al:= .dM 251 Unit (λ_=>True) (λ_=>[bM [1],bM [J]]) (λ_=> .tuple #[bM [1],Z 0]) λ_ _=>aAd D H
@[simp] theorem aKO:(Tu D H).f=251:=rfl
@[simp] theorem aKP:(Tu D H).fn [au [[eN 1]] 1,au [[eN J]] 1]=some (.tuple #[bM [1],Z 0]):=bz.eu (x:=()) trivial λ_ _=>rfl
theorem aAh:bH al 219 [.bool false,bM [1],bM [J]] (.tuple #[dp ⟨false,[1],[J]⟩,Z 0]):=by
  have bL:J≠0:=by omega
  have ga:(1:Int)≠0:=by decide
  obtain⟨b,c8,dX,hb⟩:=NK D H;have da:=M4 D H (hb:=hb);have dq:=Tt D H (hb:=hb);have c: ¬b>4096:=by omega
  have lR: ¬(4096:Int)<b:=by omega
  refine ed (dL (aB:=⟨[Tu D H,AD b hb,yb],[]⟩) Z6 (by kernel_rfl) (by simp[KK]) ?_);simp(disch:=first|omega|simp only[DI.ak];omega) [KK,Z5,Z7,Z8,Z9,aaa,da,dq,c,dQ,-O,-U,-N,-S,-List.map_map]
theorem aAm:bH al 221 [dp ⟨false,[1],[J]⟩] (.bool true):=by
  obtain⟨b,c8,dX,hb⟩:=NK D H;have da:=M4 D H (hb:=hb);have dq:=Tt D H (hb:=hb);have c:0<b:=by omega
  have lR:b<=4096:=by omega
  refine ed (dL (aB:=⟨[AD b hb],[]⟩) aad (by kernel_rfl) (by simp[KL]) ?_);simp(disch:=first|omega|simp only[DI.ak];omega) [KL,aac,aae,aaf,da,dq,c,lR,dQ,-O,-U,-N,-S,-List.map_map]
noncomputable def Tv:bz al:= .dM 219 Unit (λ_=>True) (λ_=>[.bool false,bM [1],bM [J]]) (λ_=> .tuple #[dp ⟨false,[1],[J]⟩,Z 0]) λ_ _=>aAh D H
@[simp] theorem aKU:(Tv D H).f=219:=rfl
@[simp] theorem aKV:(Tv D H).fn [.bool false,au [[eN 1]] 1,au [[eN J]] 1]=some (.tuple #[dp ⟨false,[1],[J]⟩,Z 0]):=bz.eu (x:=()) trivial λ_ _=>rfl
noncomputable def Tz:bz al:= .dM 221 Unit (λ_=>True) (λ_=>[dp ⟨false,[1],[J]⟩]) (λ_=> .bool true) λ_ _=>aAm D H
@[simp] theorem aK4:(Tz D H).f=221:=rfl
@[simp] theorem aK5:(Tz D H).fn [.agg #[.bool false,au [[eN 1]] 1,au [[eN J]] 1]]=some (.bool true):=bz.eu (x:=()) trivial λ_ _=>rfl
theorem aAj:bH al 215 [dp ⟨false,[1],[J]⟩] (.tuple #[dp ⟨false,[1],[J]⟩,Z 0]):=by refine ed (dL (aB:=⟨[Tz D H,Tv D H],[]⟩) ZT (by kernel_rfl) (by simp[KH]) ?_);simp(disch:=first|omega|simp only[DI.ak];omega) [KH,ZS,ZU,ZV,dQ,-O,-U,-N,-S,-List.map_map]
noncomputable def Tx:bz al:= .dM 215 Unit (λ_=>True) (λ_=>[dp ⟨false,[1],[J]⟩]) (λ_=> .tuple #[dp ⟨false,[1],[J]⟩,Z 0]) λ_ _=>aAj D H
@[simp] theorem aKY:(Tx D H).f=215:=rfl
@[simp] theorem aKZ:(Tx D H).fn [.agg #[.bool false,au [[eN 1]] 1,au [[eN J]] 1]]=some (.tuple #[dp ⟨false,[1],[J]⟩,Z 0]):=bz.eu (x:=()) trivial λ_ _=>rfl
theorem aAe:bH al 170 [dp ⟨false,[1],[J]⟩] (.bool true):=by
  obtain⟨b,c8,dX,hb⟩:=NK D H;have da:=M4 D H (hb:=hb);have dq:=Tt D H (hb:=hb);have c:b<=32:=by omega
  refine ed (dL (aB:=⟨[Tx D H,AD b hb],[]⟩) YV (by kernel_rfl) (by simp[Ki]) ?_);simp(disch:=first|omega|simp only[DI.ak];omega) [Ki,YU,YW,YX,da,dq,c,dQ,-O,-U,-N,-S,-List.map_map]
theorem afZ:bH al 171 [dp ⟨false,[1],[J]⟩] (.bool true):=by obtain⟨b,c8,dX,hb⟩:=NK D H;have da:=M4 D H (hb:=hb);refine ed (dL (aB:=⟨[AD b hb],[]⟩) YZ (by kernel_rfl) (by simp[Kj]) ?_);simp(disch:=first|omega|simp only[DI.ak];omega) [Kj,YY,Y0,da,dQ,-O,-U,-N,-S,-List.map_map]
end
attribute [local simp] T0 T1 T2 T3 Uc Ud Ue
abbrev iQ:Value:= .slice none 0 0
noncomputable def de{f:Nat}{args:List Value}{r:Value}(h:bH al f args r):bz al:= .dM f Unit (λ_=>True) (λ_=>args) (λ_=>r) λ_ _=>h
@[simp] theorem aJg{f:Nat}{args:List Value}{r:Value}{h:bH al f args r}:(de h).f=f:=rfl
theorem h7{f:Nat}{args:List Value}{r:Value}(h:bH al f args r):(de h).fn args=some r:=bz.eu (x:=()) trivial λ_ _=>rfl
theorem uF{f:Nat}{args mN:List Value}{r:Value}(h:bH al f args r)(ax:args≠mN):(de h).fn mN=none:=by unfold de bz.dM;simp only;rw[dif_neg];rintro⟨_,_,e⟩;exact ax e
noncomputable def qi(a b:bz al)(h:b.f=a.f):bz al:=⟨a.f,λargs=>match a.fn args with
  |some r=>some r
  | none=>b.fn args,λargs r ay=>by
    cases az:a.fn args with
    |some dF=>rw[az]at ay;cases ay;exact a.ok args r az
    |none=>rw[az]at ay;have:=b.ok args r ay;rw[h]at this;exact this⟩
@[simp] theorem aJh{a b:bz al}{h:b.f=a.f}:(qi a b h).f=a.f:=rfl
theorem wh{a b:bz al}{h:b.f=a.f}{args:List Value}{r:Value}(az:a.fn args=some r):(qi a b h).fn args=some r:=by simp only[qi,az]
theorem uG{a b:bz al}{h:b.f=a.f}{args:List Value}{r:Value}(az:a.fn args=none)(hb:b.fn args=some r):(qi a b h).fn args=some r:=by simp only[qi,az,hb]
theorem az1{x:Int}(G:x≠0):bH al 194 [bM [x]] (bM [x]):=by refine ed (dL (aB:=⟨[],[]⟩) QA (by kernel_rfl) (by simp[B0]) ?_);simp(disch:=first|omega|simp only[DI.ak];omega) [B0,Qz,QB,QC,-O,-U,-N,-S,-List.map_map];refine eC (aB:=⟨[],[]⟩) λcK bk=> ?_;simp(disch:=first|omega|simp only[DI.ak];omega) [Kv,B1,B1,G,-O,-U,-N,-S,-List.map_map];exact sx (n:=8) (bg:=[[eN x]]) (w:=true) (by simp(disch:=first|omega|simp only[DI.ak];omega) [-O,-U,-N,-S,-List.map_map]) rfl SL
theorem az0{x:Int}(G:x≠0):bH al 194 [bM [x,0]] (bM [x]):=by refine ed (dL (aB:=⟨[],[]⟩) QA (by kernel_rfl) (by simp[B0]) ?_);simp(disch:=first|omega|simp only[DI.ak];omega) [B0,Qz,QB,QC,-O,-U,-N,-S,-List.map_map];refine eC (aB:=⟨[],[]⟩) λcK bk=> ?_;simp(disch:=first|omega|simp only[DI.ak];omega) [Kv,B1,-O,-U,-N,-S,-List.map_map];refine bk _ _ (eC (aB:=⟨[],[]⟩) λcK bk=> ?_);simp(disch:=first|omega|simp only[DI.ak];omega) [Kv,B1,B1,G,-O,-U,-N,-S,-List.map_map];exact sx (n:=8) (bg:=[[eN x]]) (w:=true) (by simp(disch:=first|omega|simp only[DI.ak];omega) [-O,-U,-N,-S,-List.map_map]) rfl SL
noncomputable def n5:bz al:= .dM 194 Int (λx=>x≠0) (λx=>[bM [x]]) (λx=>bM [x]) λ_ h=>az1 h
@[simp] theorem aKH:n5.f=194:=rfl
@[simp] theorem axZ{x:Int}(h:x≠0):n5.fn [au [[eN x]] 1]=some (bM [x]):=bz.eu (x:=x) h λy ah=>by simpa using ah
noncomputable def Tr:bz al:= .dM 194 Int (λx=>x≠0) (λx=>[bM [x,0]]) (λx=>bM [x]) λ_ h=>az0 h
@[simp] theorem aKF:Tr.f=194:=rfl
@[simp] theorem aKG{x:Int}(h:x≠0):Tr.fn [au [[eN x],[eN 0]] 1]=some (bM [x]):=bz.eu (x:=x) h λy ah=>by simpa using ah
theorem azY{x:Int}(G:x≠0):bH al 246 [bM [x]] (.bool false):=by refine ed (dL (aB:=⟨[n5],[]⟩) aaP (by kernel_rfl) (by simp[KU]) ?_);simp(disch:=first|omega|simp only[DI.ak];omega) [KU,aaO,aaQ,-O,-U,-N,-S,-List.map_map]
noncomputable def AB:bz al:= .dM 246 Int (λx=>x≠0) (λx=>[bM [x]]) (λ_=> .bool false) λ_ h=>azY h
@[simp] theorem aKt:AB.f=246:=rfl
@[simp] theorem axS{x:Int}(h:x≠0):AB.fn [au [[eN x]] 1]=some (.bool false):=bz.eu (x:=x) h λy ah=>by simpa using ah
theorem azW{x y:Int}(G:x≠0)(ah:y≠0):bH al 241 [bM [x],bM [y]] (Z (if x<y then-1 else if x>y then 1 else 0)):=by
  refine ed (dL (aB:=⟨[n5],[]⟩) aaJ (by kernel_rfl) (by simp[KT]) ?_);simp(disch:=first|omega|simp only[DI.ak];omega) [KT,aaI,aaK,aaL,aaM,aaN,-O,-U,-N,-S,-List.map_map];refine eC (aB:=⟨[n5],[]⟩) λcK bk=> ?_;by_cases bN:x<y
  · simp(disch:=first|omega|simp only[DI.ak];omega) [Gi,B9,Ca,Cb,bN,-O,-U,-N,-S,-List.map_map]
  by_cases cI:x>y
  · simp(disch:=first|omega|simp only[DI.ak];omega) [Gi,B9,Ca,Cb,bN,cI,-O,-U,-N,-S,-List.map_map]
  simp(disch:=first|omega|simp only[DI.ak];omega) [Gi,B9,Ca,Cb,bN,cI,-O,-U,-N,-S,-List.map_map];refine bk _ _ (eC (aB:=⟨[n5],[]⟩) λcK bk=> ?_);simp(disch:=first|omega|simp only[DI.ak];omega) [Gi,B9,Ca,Cb,Cb,B9,Ca,bN,cI,-O,-U,-N,-S,-List.map_map]
noncomputable def C9:bz al:= .dM 241 (Int×Int) (λx=>x.1≠0/\x.2≠0) (λx=>[bM [x.1],bM [x.2]]) (λx=>Z (if x.1<x.2 then-1 else if x.1>x.2 then 1 else 0)) λ_ h=>azW h.1 h.2
@[simp] theorem aKo:C9.f=241:=rfl
@[simp] theorem aKp{x y:Int}(h:x≠0/\y≠0):C9.fn [au [[eN x]] 1,au [[eN y]] 1]=some (Z (if x<y then-1 else if x>y then 1 else 0)):=bz.eu (x:=(x,y)) h λ⟨a,b⟩ ah=>by simpa using ah
theorem NH:bH al 168 [.int .u64 0] iQ:=gb (by kernel_rfl)
theorem azZ{x:Int}(D:0<x)(H:x<4294967296):bH al 168 [.int .u64 x] (bM [x]):=by
  have G:x≠0:=by omega
  have cX:IntKind.u32.wrap x=x:=TN (by omega) (by omega);have aL:x.fdiv 4294967296=0:=by rw[Int.fdiv_eq_ediv_of_nonneg _ (by decide)];omega
  refine ed (dL (aB:=⟨[Tr],[]⟩) YN (by kernel_rfl) (by simp[Kg]) ?_);simp(disch:=first|omega|simp only[DI.ak];omega) [Kg,YM,YO,cX,aL,rD,q5,-O,-U,-N,-S,-List.map_map]
noncomputable def To:bz al:= .dM 168 Int (λx=>0<x/\x<4294967296) (λx=>[.int .u64 x]) (λx=>bM [x]) λ_ h=>azZ h.1 h.2
@[simp] theorem aKw:To.f=168:=rfl
@[simp] theorem aKx{x:Int}(h:0<x/\x<4294967296):To.fn [.int .u64 x]=some (bM [x]):=bz.eu (x:=x) h λy ah=>by simpa using ah
section
variable {J:Int} (D:2<=J) (H:J<200)
include D H
theorem Uh:bH al 247 [bM [1],bM [J]] (.tuple #[iQ,bM [1]]):=by
  have bL:J≠0:=by omega
  have c:(1:Int)<J:=by omega
  have ga:(1:Int)≠0:=by decide
  refine ed (dL (aB:=⟨[C9,n5],[]⟩) QV (by kernel_rfl) (by simp[Cc]) ?_);simp(disch:=first|omega|simp only[DI.ak];omega) [Cc,QU,QW,c,-O,-U,-N,-S,-List.map_map]
theorem afM:bH al 247 [bM [J],bM [1]] (.tuple #[bM [J],iQ]):=by
  have bL:J≠0:=by omega
  have c: ¬J<1:=by omega
  have cI:J>1:=by omega
  have hq:(1:Int)<J:=by omega
  have ga:(1:Int)≠0:=by decide
  have cX:IntKind.u64.wrap J=J:=TO (by omega) (by omega);have e2:IntKind.u32.wrap J=J:=TN (by omega) (by omega);have mG:max (J%2^IntKind.u64.bits) 0=J:=by show max (J%18446744073709551616) 0=J;omega
  have aL:J.tdiv 1=J:=by simp
  have aU:J.tmod 1=0:=by simp
  have rZ:=h7 NH;refine ed (dL (aB:=⟨[C9,n5,de NH],[]⟩) QV (by kernel_rfl) (by simp[Cc]) ?_);simp(disch:=first|omega|simp only[DI.ak];omega) [Cc,QU,QW,aaR,aaS,aaT,c,cI,-O,-U,-N,-S,-List.map_map];refine eC (aB:=⟨[C9,n5,de NH],[]⟩) λcK bk=> ?_;simp(disch:=first|omega|simp only[DI.ak];omega) [QY,KV,KW,cX,e2,mG,aL,aU,-O,-U,-N,-S,-List.map_map];refine bk _ _ (eC (aB:=⟨[C9,n5,de NH],[]⟩) λcK bk=> ?_);simp(disch:=first|omega|simp only[DI.ak];omega) [QY,KV,KW,QX,QX,KV,KW,rZ,rD,q5,-O,-U,-N,-S,-List.map_map]
theorem azX:([bM [1],bM [J]]:List Value)≠[bM [J],bM [1]]:= λh=>by simp at h;omega
noncomputable def AA:bz al:=qi (de (Uh D H)) (de (afM D H)) rfl
@[simp] theorem aKq:(AA D H).f=247:=rfl
theorem axN:(AA D H).fn [au [[eN 1]] 1,au [[eN J]] 1]=some (.tuple #[iQ,bM [1]]):=wh (h7 (Uh D H))
theorem axO:(AA D H).fn [au [[eN J]] 1,au [[eN 1]] 1]=some (.tuple #[bM [J],iQ]):=uG (uF (Uh D H) (azX D H)) (h7 (afM D H))
theorem afN:bH al 213 [bM [1],bM [J]] (.tuple #[bM [1],Z 0]):=by
  have bL:J≠0:=by omega
  have ga:(1:Int)≠0:=by decide
  have gZ:=axN D H;have gM:=axO D H;refine ed (dL (aB:=⟨[AB,n5,AA D H],[]⟩) ZO (by kernel_rfl) (by simp[KF]) ?_);simp(disch:=first|omega|simp only[DI.ak];omega) [KF,ZN,ZP,ZQ,ZR,-O,-U,-N,-S,-List.map_map];refine eC (aB:=⟨[AB,n5,AA D H],[]⟩) λcK bk=> ?_;simp(disch:=first|omega|simp only[DI.ak];omega) [KG,Gb,gZ,-O,-U,-N,-S,-List.map_map];refine bk _ _ (eC (aB:=⟨[AB,n5,AA D H],[]⟩) λcK bk=> ?_);simp(disch:=first|omega|simp only[DI.ak];omega) [KG,Gb,gM,-O,-U,-N,-S,-List.map_map];refine bk _ _ (eC (aB:=⟨[AB,n5,AA D H],[]⟩) λcK bk=> ?_);simp(disch:=first|omega|simp only[DI.ak];omega) [KG,Gb,Gb,-O,-U,-N,-S,-List.map_map]
noncomputable def Tn:bz al:=de (afN D H)
@[simp] theorem aKr:(Tn D H).f=213:=rfl
@[simp] theorem aKs:(Tn D H).fn [au [[eN 1]] 1,au [[eN J]] 1]=some (.tuple #[bM [1],Z 0]):=h7 (afN D H)
theorem afP:bH al 167 [.bool false,bM [1],bM [J]] (dp ⟨false,[1],[J]⟩):=by
  have bL:J≠0:=by omega
  have ga:(1:Int)≠0:=by decide
  refine ed (dL (aB:=⟨[Tn D H,n5],[]⟩) YG (by kernel_rfl) (by simp[Kf]) ?_);simp(disch:=first|omega|simp only[DI.ak];omega) [Kf,YF,YH,YI,YJ,YK,YL,ga,dQ,-O,-U,-N,-S,-List.map_map]
theorem afW:bH al 138 [dp ⟨false,[1],[J]⟩] (.bool true):=by
  have bL:J≠0:=by omega
  have ga:(1:Int)≠0:=by decide
  refine ed (dL (aB:=⟨[n5],[]⟩) Yu (by kernel_rfl) (by simp[Kb]) ?_);simp(disch:=first|omega|simp only[DI.ak];omega) [Kb,Yt,Yv,dQ,-O,-U,-N,-S,-List.map_map]
noncomputable def Ts:bz al:=de (afW D H)
@[simp] theorem aKI:(Ts D H).f=138:=rfl
@[simp] theorem aKJ:(Ts D H).fn [.agg #[.bool false,au [[eN 1]] 1,au [[eN J]] 1]]=some (.bool true):=h7 (afW D H)
noncomputable def MZ:bz al:=de (afP D H)
@[simp] theorem aKu:(MZ D H).f=167:=rfl
@[simp] theorem aKv:(MZ D H).fn [.bool false,au [[eN 1]] 1,au [[eN J]] 1]=some (dp ⟨false,[1],[J]⟩):=h7 (afP D H)
theorem afR:bH al 196 [dp ⟨false,[1],[J]⟩] (.tuple #[dp ⟨false,[1],[J]⟩,Z 0]):=by refine ed (dL (aB:=⟨[Ts D H,MZ D H],[]⟩) ZE (by kernel_rfl) (by simp[Kx]) ?_);simp(disch:=first|omega|simp only[DI.ak];omega) [Kx,ZD,ZF,ZG,dQ,-O,-U,-N,-S,-List.map_map]
noncomputable def Tq:bz al:=de (afR D H)
@[simp] theorem aKA:(Tq D H).f=196:=rfl
@[simp] theorem aKB:(Tq D H).fn [.agg #[.bool false,au [[eN 1]] 1,au [[eN J]] 1]]=some (.tuple #[dp ⟨false,[1],[J]⟩,Z 0]):=h7 (afR D H)
theorem Ih:bH al 140 [dp ⟨false,[1],[J]⟩] (.bool true):=by refine ed (dL (aB:=⟨[Tq D H],[]⟩) YA (by kernel_rfl) (by simp[Kd]) ?_);simp(disch:=first|omega|simp only[DI.ak];omega) [Kd,Yz,YB,YC,dQ,-O,-U,-N,-S,-List.map_map]
theorem afT:bH al 169 [Z J] (.int .u64 J):=by
  have cX:IntKind.u64.wrap J=J:=TO (by omega) (by omega);have c: ¬J<0:=by omega
  refine ed (dL (aB:=⟨[],[]⟩) YQ (by kernel_rfl) (by simp[Kh]) ?_);simp(disch:=first|omega|simp only[DI.ak];omega) [Kh,YP,YR,YS,cX,c,-O,-U,-N,-S,-List.map_map]
omit D H in
theorem Ul:bH al 169 [Z 1] (.int .u64 1):=gb (by kernel_rfl)
noncomputable def M0:bz al:=qi (de Ul) (de (afT D H)) rfl
@[simp] theorem aKE:(M0 D H).f=169:=rfl
@[simp] theorem aKC:(M0 D H).fn [Z 1]=some (.int .u64 1):=wh (h7 Ul)
@[simp] theorem aKD:(M0 D H).fn [Z J]=some (.int .u64 J):=uG (uF Ul (by simp;omega)) (h7 (afT D H))
theorem afQ:bH al 107 [Z 1,Z J] (.tuple #[dp ⟨false,[1],[J]⟩,Z 0]):=by
  have bL:J≠0:=by omega
  have c: ¬J<0:=by omega
  have eB:(0:Int)<1/\(1:Int)<4294967296:=by decide
  have hk:0<J/\J<4294967296:=by omega
  refine ed (dL (aB:=⟨[M0 D H,To,MZ D H],[]⟩) XB (by kernel_rfl) (by simp[J2]) ?_);simp(disch:=first|omega|simp only[DI.ak];omega) [J2,XA,XC,XD,bL,c,dQ,-O,-U,-N,-S,-List.map_map]
noncomputable def Tp:bz al:=de (afQ D H)
@[simp] theorem aKy:(Tp D H).f=107:=rfl
@[simp] theorem aKz:(Tp D H).fn [Z 1,Z J]=some (.tuple #[dp ⟨false,[1],[J]⟩,Z 0]):=h7 (afQ D H)
theorem ah7:bH al 59 [Z 1,Z J] (dp ⟨false,[1],[J]⟩):=by refine ed (dL (aB:=⟨[Tp D H],[]⟩) ab0 (by kernel_rfl) (by simp[Li]) ?_);simp(disch:=first|omega|simp only[DI.ak];omega) [Li,abZ,ab1,ab2,dQ,-O,-U,-N,-S,-List.map_map]
end
attribute [local simp] T0 T1 T2 T3 Uc Ud Ue
noncomputable def HN:bz al:= .dM 140 bT bT.cV (λx=>[dp x]) (λx=> .bool x.bA.small) λ_ aa=>aev aa
@[simp] theorem aJL:HN.f=140:=rfl
theorem axH{n:Bool}{a b:List Int}(h:(bT.mk n a b).cV):HN.fn [.agg #[.bool n,bM a,bM b]]=some (.bool (bT.mk n a b).bA.small):=bz.eu (x:=bT.mk n a b) h λy ah=>ym ah
theorem SP{l:List bT}{n:Nat}(aa: ∀x∈l,x.cV)(ax:n<1000000):bH al 190 [hx l,Z n] (.bool (decide (l.length=n)&&l.all λx=>x.bA.small)):=by
  have X:(l.all λx=>x.bA.small)=true:=eD.2 λ_ _=>rfl;refine ed (dL (aB:=⟨[HN],[]⟩) Zt (by kernel_rfl) (by simp[BZ]) ?_);by_cases aC:l.length=n
  · have iJ:((l.length:Nat):Int)=(n:Int):=(by omega);simp(disch:=first|omega|simp only[DI.ak];omega) [BZ,Ks,Kt,Ku,iJ,-O,-U,-N,-S,-List.map_map];refine hI (aB:=⟨[HN],[]⟩) (λi z t=>z 0=hx l/\z 1=Z n/\z 5=Z i) n ?_ ?_ 0 _ _ (ho _) ⟨by simp,by simp,by simp⟩
    · rintro i z t ai ⟨c9,bb,cu⟩ cK bk;have G:l[i]?=some l[i]:=dx (by omega);have aw:l[i].cV:=aa _ (mI _);have b7:=gT (n:=i) (by omega);have bU:(i:Int)<n:=(by omega);have f:HN.fn [.agg #[.bool l[i].jE,bM l[i].a,bM l[i].b]]=some (.bool true):=axH (n:=l[i].jE) (a:=l[i].a) (b:=l[i].b) aw;simp(disch:=first|omega|simp only[DI.ak];omega) [F5,zu,xu,c9,bb,cu,bU,b7,f,dQ,-O,-U,-N,-S,-List.map_map];exact⟨by omega,bk _ _ ⟨by simp[c9],by simp[bb],by simp⟩⟩
    · rintro z t ⟨c9,bb,cu⟩;simp(disch:=first|omega|simp only[DI.ak];omega) [F5,zu,xu,bb,cu,xu,zu,-O,-U,-N,-S,-List.map_map];simp[aC];exact eD.1 X
  · have iJ: ¬((l.length:Nat):Int)=(n:Int):=(by omega);simp(disch:=first|omega|simp only[DI.ak];omega) [BZ,Ks,Kt,Ku,xu,iJ,aC,-O,-U,-N,-S,-List.map_map]
theorem afO:bH al 193 [Z 0] (.agg #[.bool false,iQ,bM [1]]):=gb (by kernel_rfl)
theorem Up:bH al 194 [iQ] iQ:=gb (by kernel_rfl)
theorem Ui:bH al 246 [iQ] (.bool false):=gb (by kernel_rfl)
theorem NJ:bH al 194 [bM [0]] iQ:=gb (by kernel_rfl)
theorem Ug:bH al 241 [bM [1],iQ] (Z 1):=gb (by kernel_rfl)
theorem Uo:bH al 240 [bM [1],bM [1]] (bM [1]):=gb (by kernel_rfl)
theorem adK{x:Int}: ¬iQ=au [[eN x]] 1:=by unfold au;simp
theorem avH{x:Int}: ¬au [[eN x]] 1=iQ:=by unfold au;simp
noncomputable def MY:bz al:=qi (de Ui) AB rfl
theorem axR:MY.f=246:=rfl
theorem axP:MY.fn [iQ]=some (.bool false):=wh (h7 Ui)
theorem axQ{x:Int}(h:x≠0):MY.fn [au [[eN x]] 1]=some (.bool false):=uG (uF Ui (by simp[adK])) (axS h)
noncomputable def M3:bz al:=qi (de Up) n5 rfl
theorem axY:M3.f=194:=rfl
theorem axW:M3.fn [iQ]=some iQ:=wh (h7 Up)
theorem axX{x:Int}(h:x≠0):M3.fn [au [[eN x]] 1]=some (bM [x]):=uG (uF Up (by simp[adK])) (axZ h)
section
variable {J:Int} (D:2<=J) (H:J<200)
include D H
theorem Un:bH al 268 [iQ,bM [J]] iQ:=by have f:(de NJ).fn [au [[eN 0]] 1]=some iQ:=h7 NJ;refine ed (dL (aB:=⟨[de NJ],[]⟩) abm (by kernel_rfl) (by simp[K2]) ?_);simp(disch:=first|omega|simp only[DI.ak];omega) [K2,abl,abn,abo,-O,-U,-N,-S,-List.map_map];refine eC (aB:=⟨[de NJ],[]⟩) λcK bk=> ?_;simp(disch:=first|omega|simp only[DI.ak];omega) [abp,Q1,Q2,Q3,Q3,Q1,Q2,f,rD,q5,-O,-U,-N,-S,-List.map_map]
theorem Uj:bH al 260 [iQ,bM [J]] (.tuple #[iQ,Z 0]):=by
  have bL:J≠0:=by omega
  have bw:=axP;have bJ:=axQ bL;have cc:=axW;have eI:=axX bL;have fp:(de (Un D H)).fn [iQ,au [[eN J]] 1]=some iQ:=h7 (Un D H);refine ed (dL (aB:=⟨[MY,M3,de (Un D H)],[]⟩) abg (by kernel_rfl) (by simp[K1]) ?_);simp(disch:=first|omega|simp only[DI.ak];omega) [K1,abf,abh,abi,abj,abk,bw,bJ,cc,eI,fp,axR,axY,-O,-U,-N,-S,-List.map_map]
theorem afV:bH al 240 [iQ,bM [J]] iQ:=by have fp:(de (Uj D H)).fn [iQ,au [[eN J]] 1]=some (.tuple #[iQ,Z 0]):=h7 (Uj D H);refine ed (dL (aB:=⟨[de (Uj D H)],[]⟩) aaF (by kernel_rfl) (by simp[KS]) ?_);simp(disch:=first|omega|simp only[DI.ak];omega) [KS,aaE,aaG,aaH,fp,-O,-U,-N,-S,-List.map_map]
noncomputable def M1:bz al:=qi (de Uo) (de (afV D H)) rfl
theorem axV:(M1 D H).f=240:=rfl
theorem axT:(M1 D H).fn [au [[eN 1]] 1,au [[eN 1]] 1]=some (bM [1]):=wh (h7 Uo)
theorem axU:(M1 D H).fn [iQ,au [[eN J]] 1]=some iQ:=uG (uF Uo (λh=>avH (List.cons.inj h).1)) (h7 (afV D H))
theorem Uk:bH al 195 [dp ⟨false,[1],[J]⟩,.agg #[.bool false,iQ,bM [1]]] (Z 1):=by have bw:=axT D H;have bJ:=axU D H;have cc:(de Ug).fn [au [[eN 1]] 1,iQ]=some (Z 1):=h7 Ug;refine ed (dL (aB:=⟨[M1 D H,de Ug],[]⟩) Zy (by kernel_rfl) (by simp[Kw]) ?_);simp(disch:=first|omega|simp only[DI.ak];omega) [Kw,Zx,Zz,ZA,ZB,ZC,bw,bJ,cc,axV,dQ,-O,-U,-N,-S,-List.map_map]
theorem afS:bH al 139 [dp ⟨false,[1],[J]⟩] (Z 1):=by have bw:=h7 afO;have bJ:(de (Uk D H)).fn [.agg #[.bool false,au [[eN 1]] 1,au [[eN J]] 1],.agg #[.bool false,iQ,au [[eN 1]] 1]]=some (Z 1):=h7 (Uk D H);refine ed (dL (aB:=⟨[de afO,de (Uk D H)],[]⟩) Yx (by kernel_rfl) (by simp[Kc]) ?_);simp(disch:=first|omega|simp only[DI.ak];omega) [Kc,Yw,Yy,bw,bJ,dQ,-O,-U,-N,-S,-List.map_map]
theorem aeE:([dp ⟨false,[],[1]⟩]:List Value)≠[dp ⟨false,[1],[J]⟩]:= λh=>by simp[dQ]at h
noncomputable def nI:bz al:=qi (de (NU (x:=⟨false,[],[1]⟩) (by unfold bT.cV;decide))) (de (afZ D H)) rfl
theorem MJ:(nI D H).f=171:=rfl
theorem aeD:(nI D H).fn [.agg #[.bool false,au [] 1,au [[eN 1]] 1]]=some (.bool false):=wh (h7 (NU (x:=⟨false,[],[1]⟩) (by unfold bT.cV;decide)))
theorem axD:(nI D H).fn [.agg #[.bool false,au [[eN 1]] 1,au [[eN J]] 1]]=some (.bool true):=uG (uF _ (aeE D H)) (h7 (afZ D H))
omit D H in
theorem E7{b:Bool}:bH al 226 [.bool b] (.bool b):=by refine ed (dL (aB:=⟨[],[]⟩) aoE (by kernel_rfl) (by simp[QO]) ?_);simp(disch:=first|omega|simp only[DI.ak];omega) [QO,aao,aap,-O,-U,-N,-S,-List.map_map]
omit D H in
theorem pN:bH al 225 [au [[.bool true]] 1,.func (.func 226) #[] #[]] (.bool true):=by have f:(de (E7 (b:=true))).fn [.bool true]=some (.bool true):=h7 E7;refine ed (dL (aB:=⟨[de (E7 (b:=true))],[]⟩) aoD (by kernel_rfl) (by simp[QM]) ?_);simp(disch:=first|omega|simp only[DI.ak];omega) [QM,aam,aan,-O,-U,-N,-S,-List.map_map];refine eC (aB:=⟨[de (E7 (b:=true))],[]⟩) λcK bk=> ?_;simp(disch:=first|omega|simp only[DI.ak];omega) [QN,KN,KO,KP,KQ,f,-O,-U,-N,-S,-List.map_map];refine bk _ _ (eC (aB:=⟨[de (E7 (b:=true))],[]⟩) λcK bk=> ?_);simp(disch:=first|omega|simp only[DI.ak];omega) [QN,KN,KO,KP,KQ,KQ,KN,KO,KP,-O,-U,-N,-S,-List.map_map]
def CM(eG:ByteArray)(J:Int):hS:=⟨eG,[⟨false,[1],[1]⟩],[[⟨false,[],[1]⟩]],[⟨false,[1],[J]⟩]⟩
theorem VM{eG:ByteArray}:bH al 176 [yl (CM eG J)] (.bool true):=by have bw:=aeD D H;have bJ:=axD D H;have f:(de pN).fn [au [[.bool true]] 1,.func (.func 226) #[] #[]]=some (.bool true):=h7 pN;refine ed (dL (aB:=⟨[nI D H,de pN],[]⟩) amx (by kernel_rfl) (by simp[Qv]) ?_);simp(disch:=first|omega|simp only[DI.ak];omega) [Qv,Y6,Y7,Y8,gF,CM,dQ,-O,-U,-N,-S,-List.map_map];refine eC (aB:=⟨[nI D H,de pN],[]⟩) λcK bk=> ?_;simp(disch:=first|omega|simp only[DI.ak];omega) [Kn,Km,Kl,-O,-U,-N,-S,-List.map_map];refine eC (aB:=⟨[nI D H,de pN],[]⟩) λaW ea=> ?_;simp(disch:=first|omega|simp only[DI.ak];omega) [FP,FI,FJ,FK,FL,bJ,dQ,-O,-U,-N,-S,-List.map_map];refine eC (aB:=⟨[nI D H,de pN],[]⟩) λL cS=> ?_;simp(disch:=first|omega|simp only[DI.ak];omega) [FO,FM,FN,dQ,-O,-U,-N,-S,-List.map_map];refine cS _ _ (eC (aB:=⟨[nI D H,de pN],[]⟩) λae rH=> ?_);simp(disch:=first|omega|simp only[DI.ak];omega) [FO,FM,FN,-O,-U,-N,-S,-List.map_map];refine ea _ _ (eC (aB:=⟨[nI D H,de pN],[]⟩) λdT np=> ?_);simp(disch:=first|omega|simp only[DI.ak];omega) [FP,FI,FJ,FK,FL,-O,-U,-N,-S,-List.map_map];refine bk _ _ (eC (aB:=⟨[nI D H,de pN],[]⟩) λaAr air=> ?_);simp(disch:=first|omega|simp only[DI.ak];omega) [Kn,Km,Kl,-O,-U,-N,-S,-List.map_map];refine eC (aB:=⟨[nI D H,de pN],[]⟩) λaW ea=> ?_;simp(disch:=first|omega|simp only[DI.ak];omega) [FP,FI,FJ,FK,FL,dQ,-O,-U,-N,-S,-List.map_map];refine eC (aB:=⟨[nI D H,de pN],[]⟩) λL cS=> ?_;simp(disch:=first|omega|simp only[DI.ak];omega) [FO,FM,FN,dQ,-O,-U,-N,-S,-List.map_map];refine cS _ _ (eC (aB:=⟨[nI D H,de pN],[]⟩) λae rH=> ?_);simp(disch:=first|omega|simp only[DI.ak];omega) [FO,FM,FN,-O,-U,-N,-S,-List.map_map];refine ea _ _ (eC (aB:=⟨[nI D H,de pN],[]⟩) λdT np=> ?_);simp(disch:=first|omega|simp only[DI.ak];omega) [FP,FI,FJ,FK,FL,-O,-U,-N,-S,-List.map_map];refine air _ _ (eC (aB:=⟨[nI D H,de pN],[]⟩) λaAs aEj=> ?_);simp(disch:=first|omega|simp only[DI.ak];omega) [Kn,Km,Kl,f,MJ,rD,q5,-O,-U,-N,-S,-List.map_map]
def CJ(l:List bT):Prop:=l.length<1000000/\ ∀x∈l,bH al 170 [dp x] (.bool true)
omit D H in
theorem agF{l:List bT}(h:CJ l):bH al 172 [hx l,.func (.func 170) #[] #[]] (.bool true):=by have:=UH (u:=170) (l:=l) (p:= λ_=>true) h.1 λx G=>h.2 x G;have e:(l.all λ_=>true)=true:=eD.2 λ_ _=>rfl;rw[e]at this;exact this
noncomputable def HC:bz al:= .dM 172 (List bT) CJ (λl=>[hx l,.func (.func 170) #[] #[]]) (λ_=> .bool true) λ_ h=>agF h
omit D H in
@[simp] theorem aIz:HC.f=172:=rfl
omit D H in
theorem SY{l:List bT}(h:CJ l):HC.fn [hx l,.func (.func 170) #[] #[]]=some (.bool true):=bz.eu (x:=l) h λy ah=>by simpa using ah
theorem ave:CJ [⟨false,[1],[J]⟩]:=⟨by simp,λx G=>by simp at G;subst G;exact aAe D H⟩
omit D H in
theorem avd:CJ [⟨false,[1],[1]⟩]:=⟨by decide,λx G=>by simp at G;subst G;exact PU (by unfold bT.cV;decide)⟩
omit D H in
theorem avc:CJ [⟨false,[],[1]⟩]:=⟨by decide,λx G=>by simp at G;subst G;exact PU (by unfold bT.cV;decide)⟩
noncomputable def HH(eG:ByteArray):bz al:=de (VM D H (eG:=eG))
theorem S0{eG:ByteArray}:(HH D H eG).f=176:=rfl
theorem avD{eG:ByteArray}:bH al 112 [yl (CM eG J)] (.bool true):=by
  have bw:=SY (ave D H);have bJ:=SY avd;have cc:=SY avc;have eI:=aeD D H;have aL:(de Hn).fn [Z 1,Z 1]=some (.tuple #[.agg #[.bool false,bM [1],bM [1]],Z 0]):=h7 Hn;have aU:(de Ho).fn [au [[.bool false,bM [1],bM [1]]] 3]=some (.tuple #[.agg #[.bool false,bM [1],bM [1]],Z 0]):=h7 Ho;have cz:(de Hm).fn [.agg #[.bool false,au [[eN 1]] 1,au [[eN 1]] 1],.agg #[.bool false,au [[eN 1]] 1,au [[eN 1]] 1]]=some (.tuple #[Z 0,Z 0]):=h7 Hm;have gR:(HH D H eG).fn [.agg #[.string eG,au [[.bool false,bM [1],bM [1]]] 3,au [[hx [⟨false,[],[1]⟩]]] 1,au [[.bool false,bM [1],bM [J]]] 3]]=some (.bool true):=h7 (VM D H (eG:=eG));simp only[hx,mL,wG,dQ]at bw bJ cc;have c8:dB 1 1 4=true:=by decide
  refine ed (dL (aB:=⟨[re,HC,nI D H,de Hn,de Ho,de Hm,HH D H eG],[]⟩) aj9 (by kernel_rfl) (by simp[P0]) ?_);simp(disch:=first|omega|simp only[DI.ak];omega) [P0,XM,XN,XO,XP,gF,CM,dQ,bw,bJ,c8,MJ,S0,-O,-U,-N,-S,-List.map_map];refine eC (aB:=⟨[re,HC,nI D H,de Hn,de Ho,de Hm,HH D H eG],[]⟩) λcK bk=> ?_;simp(disch:=first|omega|simp only[DI.ak];omega) [P8,P2,P3,P4,P5,P6,P7,P1,dQ,cc,eI,MJ,S0,-O,-U,-N,-S,-List.map_map];refine bk _ _ (eC (aB:=⟨[re,HC,nI D H,de Hn,de Ho,de Hm,HH D H eG],[]⟩) λaW ea=> ?_);simp(disch:=first|omega|simp only[DI.ak];omega) [P8,P2,P3,P4,-O,-U,-N,-S,-List.map_map];simp(disch:=first|omega|simp only[DI.ak];omega) [P5,P6,P7,P1,dQ,aL,aU,cz,gR,MJ,S0,-O,-U,-N,-S,-List.map_map]
omit D H in
theorem ay9{x:hS}(aa:x.cV):bH al 112 [yl x] (.bool x.l6):=by obtain⟨eG,s,cm,e⟩:=x;obtain⟨J,D,H,rfl,rfl,rfl⟩:=aa;exact avD D H (eG:=eG)
theorem NI:bH al 190 [hx [⟨false,[1],[J]⟩],Z 1] (.bool true):=by have a:(de (Ih D H)).fn [.agg #[.bool false,au [[eN 1]] 1,au [[eN J]] 1]]=some (.bool true):=h7 (Ih D H);refine ed (dL (aB:=⟨[de (Ih D H)],[]⟩) Zt (by kernel_rfl) (by simp[BZ]) ?_);simp(disch:=first|omega|simp only[DI.ak];omega) [BZ,Ks,Kt,Ku,dQ,-O,-U,-N,-S,-List.map_map];refine eC (aB:=⟨[de (Ih D H)],[]⟩) λcK bk=> ?_;simp(disch:=first|omega|simp only[DI.ak];omega) [F5,zu,xu,a,dQ,-O,-U,-N,-S,-List.map_map];refine bk _ _ (eC (aB:=⟨[de (Ih D H)],[]⟩) λcK bk=> ?_);simp(disch:=first|omega|simp only[DI.ak];omega) [F5,zu,xu,xu,zu,-O,-U,-N,-S,-List.map_map]
omit D H in
theorem Um:bH al 190 [hx [⟨false,[1],[1]⟩],Z 1] (.bool true):=SP (l:=[⟨false,[1],[1]⟩]) (n:=1) (λx G=>by simp at G;subst G;unfold bT.cV;decide) (by decide)
omit D H in
theorem afU:bH al 190 [hx [⟨false,[],[1]⟩],Z 1] (.bool true):=SP (l:=[⟨false,[],[1]⟩]) (n:=1) (λx G=>by simp at G;subst G;unfold bT.cV;decide) (by decide)
noncomputable def py:bz al:=qi (de (NI D H)) (qi (de Um) (de afU) rfl) rfl
theorem MW:(py D H).f=190:=rfl
theorem axM:(py D H).fn [au [[.bool false,bM [1],bM [J]]] 3,Z 1]=some (.bool true):=wh (h7 (NI D H))
theorem axL:(py D H).fn [au [[.bool false,bM [1],bM [1]]] 3,Z 1]=some (.bool true):=uG (uF (NI D H) λh=>by simp[dQ]at h;omega) (wh (h7 Um))
theorem axK:(py D H).fn [au [[.bool false,bM [],bM [1]]] 3,Z 1]=some (.bool true):=uG (uF (NI D H) λh=>by simp[dQ]at h) (uG (uF Um λh=>by simp[dQ]at h) (h7 afU))
noncomputable def qj:bz al:=qi (de (SO (x:=⟨false,[],[1]⟩) (by unfold bT.cV;decide) rfl)) (de (afS D H)) rfl
theorem MU:(qj D H).f=139:=rfl
theorem axI:(qj D H).fn [.agg #[.bool false,au [] 1,au [[eN 1]] 1]]=some (Z 0):=wh (h7 (SO (x:=⟨false,[],[1]⟩) (by unfold bT.cV;decide) rfl))
theorem axJ:(qj D H).fn [.agg #[.bool false,au [[eN 1]] 1,au [[eN J]] 1]]=some (Z 1):=uG (uF _ (aeE D H)) (h7 (afS D H))
theorem avC{eG:ByteArray}:bH al 137 [yl (CM eG J)] (.bool true):=by have bw:=axM D H;have bJ:=axL D H;have cc:=axK D H;have eI:=axI D H;have fp:=axJ D H;have aL:(de qf).fn [Z 1]=some (.agg #[.bool false,bM [1],bM [1]]):=h7 qf;have aU:(de ra).fn [au [[.bool false,bM [1],bM [1]]] 3]=some (.tuple #[.agg #[.bool false,bM [1],bM [1]],Z 0]):=h7 ra;have cz:(de q9).fn [.agg #[.bool false,au [[eN 1]] 1,au [[eN 1]] 1],.agg #[.bool false,au [[eN 1]] 1,au [[eN 1]] 1]]=some (.bool true):=h7 q9;refine ed (dL (aB:=⟨[py D H,qj D H,de qf,de ra,de q9],[]⟩) al7 (by kernel_rfl) (by simp[Qh]) ?_);simp(disch:=first|omega|simp only[DI.ak];omega) [Qh,Yj,Yk,Yn,Yo,Yp,Yq,Yr,Ys,Yl,Ym,bw,bJ,MU,MW,gF,CM,dQ,-O,-U,-N,-S,-List.map_map];refine eC (aB:=⟨[py D H,qj D H,de qf,de ra,de q9],[]⟩) λcK bk=> ?_;simp(disch:=first|omega|simp only[DI.ak];omega) [Qo,Qm,cc,eI,MU,MW,dQ,-O,-U,-N,-S,-List.map_map];refine bk _ _ (eC (aB:=⟨[py D H,qj D H,de qf,de ra,de q9],[]⟩) λaW ea=> ?_);simp(disch:=first|omega|simp only[DI.ak];omega) [Qo,Qm,aL,aU,cz,MU,MW,dQ,-O,-U,-N,-S,-List.map_map];refine eC (aB:=⟨[py D H,qj D H,de qf,de ra,de q9],[]⟩) λP vk=> ?_;simp(disch:=first|omega|simp only[DI.ak];omega) [Qr,Qn,-O,-U,-N,-S,-List.map_map];refine eC (aB:=⟨[py D H,qj D H,de qf,de ra,de q9],[]⟩) λQ bY=> ?_;simp(disch:=first|omega|simp only[DI.ak];omega) [Qq,Qi,Qj,fp,MU,MW,dQ,-O,-U,-N,-S,-List.map_map];refine eC (aB:=⟨[py D H,qj D H,de qf,de ra,de q9],[]⟩) λR iy=> ?_;simp(disch:=first|omega|simp only[DI.ak];omega) [Qp,Qk,-O,-U,-N,-S,-List.map_map];refine iy _ _ (eC (aB:=⟨[py D H,qj D H,de qf,de ra,de q9],[]⟩) λaAy JB=> ?_);simp(disch:=first|omega|simp only[DI.ak];omega) [Qp,Qk,-O,-U,-N,-S,-List.map_map];refine bY _ _ (eC (aB:=⟨[py D H,qj D H,de qf,de ra,de q9],[]⟩) λaAx aEo=> ?_);simp(disch:=first|omega|simp only[DI.ak];omega) [Qq,Qi,Qj,-O,-U,-N,-S,-List.map_map];refine vk _ _ (eC (aB:=⟨[py D H,qj D H,de qf,de ra,de q9],[]⟩) λaAv aEn=> ?_);simp(disch:=first|omega|simp only[DI.ak];omega) [Qr,Qn,-O,-U,-N,-S,-List.map_map];refine eC (aB:=⟨[py D H,qj D H,de qf,de ra,de q9],[]⟩) λdN yX=> ?_;simp(disch:=first|omega|simp only[DI.ak];omega) [Qs,Ql,-O,-U,-N,-S,-List.map_map];refine yX _ _ (eC (aB:=⟨[py D H,qj D H,de qf,de ra,de q9],[]⟩) λaAC aEp=> ?_);simp(disch:=first|omega|simp only[DI.ak];omega) [Qs,Ql,-O,-U,-N,-S,-List.map_map]
omit D H in
theorem axB{x:hS}(aa:x.cV):bH al 137 [yl x] (.bool x.l6):=by obtain⟨eG,s,cm,e⟩:=x;obtain⟨J,D,H,rfl,rfl,rfl⟩:=aa;exact avC D H (eG:=eG)
end
noncomputable def C5:bz al:= .dM 170 bT bT.cV (λx=>[dp x]) (λx=> .bool x.bA.small) λ_ aa=>PU aa
@[simp] theorem aIT:C5.f=170:=rfl
@[simp] theorem aIU{n:Bool}{a b:List Int}(h:(bT.mk n a b).cV):C5.fn [.agg #[.bool n,bM a,bM b]]=some (.bool (bT.mk n a b).bA.small):=bz.eu (x:=bT.mk n a b) h λy ah=>ym ah
noncomputable def MK:bz al:= .dM 171 bT bT.cV (λx=>[dp x]) (λx=> .bool (decide (0<x.bA.n))) λ_ aa=>NU aa
@[simp] theorem aIv:MK.f=171:=rfl
@[simp] theorem aIw{n:Bool}{a b:List Int}(h:(bT.mk n a b).cV):MK.fn [.agg #[.bool n,bM a,bM b]]=some (.bool (decide (0<(bT.mk n a b).bA.n))):=bz.eu (x:=bT.mk n a b) h λy ah=>ym ah
end Go.Proofs.YtmmkkggfmigppaaGreat
namespace Go.Big
structure o4 where
  a:Int
  b:Int
  c:Int
  d:Int
  e:Int
  deriving DecidableEq
structure AY where
  name:ByteArray
  ext:Int
  MA:Int
  Mb:Int
  deriving DecidableEq
structure gj where
  name:ByteArray
  hl:Int
  parent:Int
  ik:Int
  nJ:bT
  deriving DecidableEq
structure md where
  name:ByteArray
  model:Int
  sZ:Int
  deriving DecidableEq
structure ic where
  name:ByteArray
  k:Int
  m:Int
  q:Int
  aB:o4
  bc:List Int
  jt:List bT
  oT:bT
  fj:bT
  deriving DecidableEq
structure pK where
  name:ByteArray
  pv:Int
  deriving DecidableEq
structure bl where
  ext:Int
  cB:List hS
  bc:List AY
  a0:List gj
  a2:List md
  cx:List ic
  cb:List pK
  deriving DecidableEq
def bl.nil:bl:=⟨0,[],[],[],[],[],[]⟩
end Go.Big
namespace Go.Proofs.YtmmkkggfmigppaaGreat
open Go Go.DI Go.Big
abbrev fH(s:ByteArray):Value:= .string s
abbrev yK(l:List ByteArray):Value:=au (l.map λs=>[fH s]) 1
abbrev dG(l:List Int):Value:=au (l.map λs=>[Z s]) 1
def gK(x:AY):List Value:=[fH x.name,Z x.ext,Z x.MA,Z x.Mb]
def dU(x:gj):List Value:=[fH x.name,Z x.hl,Z x.parent,Z x.ik,.bool x.nJ.jE,bM x.nJ.a,bM x.nJ.b]
def gn(x:md):List Value:=[fH x.name,Z x.model,Z x.sZ]
def eY(x:ic):List Value:=[fH x.name,Z x.k,Z x.m,Z x.q,Z x.aB.a,Z x.aB.b,Z x.aB.c,Z x.aB.d,Z x.aB.e,dG x.bc,hx x.jt,.bool x.oT.jE,bM x.oT.a,bM x.oT.b,.bool x.fj.jE,bM x.fj.a,bM x.fj.b]
def g0(x:pK):List Value:=[fH x.name,Z x.pv]
def aS(x:bl):List Value:=[Z x.ext,au (x.cB.map gF) 4,au (x.bc.map gK) 4,au (x.a0.map dU) 7,au (x.a2.map gn) 3,au (x.cx.map eY) 17,au (x.cb.map g0) 2]
@[simp] theorem aLK{l dj:List ByteArray}:(l.map λs=>[fH s])=(dj.map λs=>[fH s])↔l=dj:=xQ λx y h=>by simpa using h
@[simp] theorem acU{l dj:List Int}:(l.map λs=>[Z s])=(dj.map λs=>[Z s])↔l=dj:=xQ λx y h=>by simpa using h
end Go.Proofs.YtmmkkggfmigppaaGreat
namespace Go.Big
def oD(x:eF):Bool:=x.ok&&decide (nD x .m6<=0)
def n0(x:bT):Bool:=x.bA.small&&decide (0<x.bA.n)
def na(m:Int)(r:List bT)(t h:bT):Bool:=decide ((r.length:Int)=if 1>m then 1 else m)&&(r.all n0&&(t.bA.small&&(oD t.bA&&h.bA.small)))
end Go.Big
namespace Go.Proofs.YtmmkkggfmigppaaGreat
open Go Go.DI Go.Big
theorem au1{x:bT}(aa:x.cV):bH al 230 [dp x] (.bool (oD x.bA)):=au2 aa
theorem awz{x:bT}(aa:x.cV):bH al 229 [dp x] (.bool (n0 x)):=by refine ed (dL (aB:=⟨[C5,MK],[]⟩) aoH (by kernel_rfl) (by simp[QR]) ?_);cases h:x.bA.small<;>simp(disch:=first|omega|simp only[aE];omega) [QR,aau,aav,dQ,h,n0,-O,-U,-N,-S,-List.map_map]
noncomputable def S5:bz al:= .dM 230 bT bT.cV (λx=>[dp x]) (λx=> .bool (oD x.bA)) λ_ aa=>au1 aa
@[simp] theorem aI1:S5.f=230:=rfl
@[simp] theorem aI2{n:Bool}{a b:List Int}(h:(bT.mk n a b).cV):S5.fn [.agg #[.bool n,bM a,bM b]]=some (.bool (oD (bT.mk n a b).bA)):=bz.eu (x:=bT.mk n a b) h λy ah=>ym ah
noncomputable def Td:bz al:= .dM 172 (List bT) (λl=>(∀x∈l,x.cV)/\l.length<1000000) (λl=>[hx l,.func (.func 229) #[] #[]]) (λl=> .bool (l.all n0)) λ_ h=>UH h.2 λx G=>awz (h.1 x G)
@[simp] theorem aJY:Td.f=172:=rfl
@[simp] theorem aJZ{l:List bT}(h:(∀x∈l,x.cV)/\l.length<1000000):Td.fn [au (l.map dQ) 3,.func (.func 229) #[] #[]]=some (.bool (l.all n0)):=bz.eu (x:=l) h λy ah=>by simpa using ah
theorem awA{m:Int}{r:List bT}{t h:bT}(ay:(∀x∈r,x.cV)/\r.length<1000000)(bt:t.cV)(aJ:h.cV):bH al 178 [Z m,hx r,dp t,dp h] (.bool (na m r t h)):=by
  refine ed (dL (aB:=⟨[Td,C5,S5],[]⟩) amz (by kernel_rfl) (by simp[BW]) ?_);by_cases D:(r.length:Int)=if 1>m then 1 else m
  · cases H:r.all n0
    · simp(disch:=first|omega|simp only[aE];omega) [BW,FQ,FR,dQ,D,H,na,-O,-U,-N,-S,-List.map_map]
    · cases aq:t.bA.small
      · simp(disch:=first|omega|simp only[aE];omega) [BW,FQ,FR,dQ,D,H,aq,na,-O,-U,-N,-S,-List.map_map]
      · cases aF:oD t.bA<;>simp(disch:=first|omega|simp only[aE];omega) [BW,FQ,FR,dQ,D,H,aq,aF,na,-O,-U,-N,-S,-List.map_map]
  · simp(disch:=first|omega|simp only[aE];omega) [BW,FQ,FR,dQ,D,na,-O,-U,-N,-S,-List.map_map]
end Go.Proofs.YtmmkkggfmigppaaGreat
namespace Go.Big
def k7(k m q:Int)(s:o4):Bool:=dB k 1 6&&(dB m 0 4&&(decide (k+m<=8)&&(dB q k (k+m)&&(decide (s.a=0)&&(dB s.a 0 8&&(dB s.b 0 8&&(dB s.c 0 8&&(dB s.d 0 8&&dB s.e 0 8))))))))
end Go.Big
namespace Go.Proofs.YtmmkkggfmigppaaGreat
open Go Go.DI Go.Big
theorem ajW{x:Int}:bH al 228 [Z x] (.bool (dB x 0 8)):=by refine ed (dL (aB:=⟨[re],[]⟩) aoG (by kernel_rfl) (by simp[QQ]) ?_);simp(disch:=first|omega|simp only[aE];omega) [QQ,aas,aat,-O,-U,-N,-S,-List.map_map]
noncomputable def S2:bz al:= .dM 228 (Int) (λx=>True) (λx=>[Z x]) (λx=> .bool (dB x 0 8)) (λx h=>ajW)
@[simp] theorem aIR:S2.f=228:=rfl
@[simp] theorem aIS{x:Int}:S2.fn ([Z x])=some (.bool (dB x 0 8)):=bz.eu (x:=x) trivial λy ah=>by simpa using ah
theorem UI{l:List Int}(ax:l.length<1000000):bH al 227 [dG l,.func (.func 228) #[] #[]] (.bool (l.all λx=>dB x 0 8)):=by
  refine ed (dL (aB:=⟨[],[]⟩) aoF (by kernel_rfl) (by simp[QP]) ?_);simp(disch:=first|omega|simp only[aE];omega) [QP,aaq,aar,-O,-U,-N,-S,-List.map_map];refine hI (aB:=⟨[S2],[]⟩) (λi z t=>((l.take i).all λx=>dB x 0 8)=true/\z 1= .func (.func 228) #[] #[]/\z 7=dG l/\z 8=Z l.length/\z 9=Z i) l.length ?_ ?_ 0 _ _ (ho _) ⟨by simp,by simp,by simp,by simp,by simp⟩
  · rintro i z t ai ⟨az,bb,dW,b1,hQ⟩ cK bk;have G:l[i]?=some l[i]:=dx ai;have aw:l[i]∈l:=mI ai;have b7:=gT (n:=i) (by omega);have bU:(i:Int)<l.length:=(by omega);cases hb:dB l[i] 0 8
    · simp(disch:=first|omega|simp only[aE];omega) [KR,Ge,Gf,Gg,Gh,bb,dW,b1,hQ,bU,hb,-O,-U,-N,-S,-List.map_map];exact⟨_,aw,hb⟩
    · simp(disch:=first|omega|simp only[aE];omega) [KR,Ge,Gf,Gg,Gh,bb,dW,b1,hQ,bU,b7,hb,-O,-U,-N,-S,-List.map_map];exact bk _ _ ⟨by rw[lx G,sd,az];simp[hb],by simp[bb],by simp[dW],by simp[b1],by simp⟩
  · rintro z t ⟨az,bb,dW,b1,hQ⟩;rw[mJ]at az;simp(disch:=first|omega|simp only[aE];omega) [KR,Ge,Gf,Gg,Gh,b1,hQ,Gh,Ge,Gf,Gg,-O,-U,-N,-S,-List.map_map];simpa using az
noncomputable def SX:bz al:= .dM 227 (List Int) (λl=>l.length<1000000) (λl=>[dG l,.func (.func 228) #[] #[]]) (λl=> .bool (l.all λx=>dB x 0 8)) λ_ h=>UI h
@[simp] theorem aIx:SX.f=227:=rfl
@[simp] theorem aIy{a b c d e:Int}:SX.fn [au [[Z a],[Z b],[Z c],[Z d],[Z e]] 1,.func (.func 228) #[] #[]]=some (.bool (dB a 0 8&&(dB b 0 8&&(dB c 0 8&&(dB d 0 8&&dB e 0 8))))):=by
  have:=bz.eu (ok:= λ_ h=>UI h) (x:=[a,b,c,d,e]) (bP:= λl=>l.length<1000000) (enc:= λl=>[dG l,.func (.func 228) #[] #[]]) (by simp) λy ah=>acU.1 (Xn.1 (List.cons.inj ah).1).1;have e:[a,b,c,d,e].all (λx=>dB x 0 8)=(dB a 0 8&&(dB b 0 8&&(dB c 0 8&&(dB d 0 8&&dB e 0 8)))):=by simp
  rw[<-e];exact this
theorem avZ{k m q:Int}{s:o4}:bH al 177 [Z k,Z m,Z q,.agg #[Z s.a,Z s.b,Z s.c,Z s.d,Z s.e]] (.bool (k7 k m q s)):=by
  refine ed (dL (aB:=⟨[re,SX],[]⟩) amy (by kernel_rfl) (by simp[xt]) ?_);have ai7:5<=maxLen:=by unfold maxLen;omega
  cases D:dB k 1 6
  · simp(disch:=first|omega|simp only[aE];omega) [xt,zr,zs,zt,D,k7,-O,-U,-N,-S,-List.map_map]
  · cases H:dB m 0 4
    · simp(disch:=first|omega|simp only[aE];omega) [xt,zr,zs,zt,D,H,k7,-O,-U,-N,-S,-List.map_map]
    · have b7:IntKind.i64.wrap (k+m)=k+m:=(by simp[dB]at D H;exact fl (by omega) (by omega));by_cases aq:k+m<=8
      · have qM: ¬(8<k+m):=(by omega);cases aF:dB q k (k+m)
        · simp(disch:=first|omega|simp only[aE];omega) [xt,zr,zs,zt,D,H,aq,qM,aF,b7,k7,-O,-U,-N,-S,-List.map_map]
        · by_cases br:s.a=0
          · simp(disch:=first|omega|simp only[aE];omega) [xt,zr,zs,zt,D,H,aq,qM,aF,br,b7,ai7,rD,q5,k7,-O,-U,-N,-S,-List.map_map]
          · simp(disch:=first|omega|simp only[aE];omega) [xt,zr,zs,zt,D,H,aq,qM,aF,br,b7,k7,-O,-U,-N,-S,-List.map_map]
      · have qM:8<k+m:=(by omega);simp(disch:=first|omega|simp only[aE];omega) [xt,zr,zs,zt,D,H,aq,qM,b7,k7,-O,-U,-N,-S,-List.map_map]
end Go.Proofs.YtmmkkggfmigppaaGreat
namespace Go.DI
open Go
section
variable {P:Program}
open Classical in
noncomputable def j9.dM(f:Nat)(ef:Type)(enc:ef->List Value)(u:ef->W->Option (Value×W))(ok: ∀x t r aT,u x t=some (r,aT)-> ∀cg:Value->W->Prop,cg r aT->fQ P f (enc x) t cg):j9 P:=
  ⟨f,λargs t=>if h: ∃x,enc x=args then u h.choose t else none,λargs t r aT h=>by
    split at h
    · next G=>have:=ok _ t r aT h;rw[G.choose_spec]at this;exact this
    · cases h⟩
theorem j9.eu{f:Nat}{ef:Type}{enc:ef->List Value}{u:ef->W->Option (Value×W)}{ok: ∀x t r aT,u x t=some (r,aT)-> ∀cg:Value->W->Prop,cg r aT->fQ P f (enc x) t cg}{x:ef}{t:W}(ai: ∀y,enc y=enc x->y=x):(j9.dM f ef enc u ok).fn (enc x) t=u x t:=by have hh: ∃y,enc y=enc x:=⟨x,rfl⟩;simp only[j9.dM,dif_pos hh];rw[ai _ hh.choose_spec]
end
end Go.DI
namespace Go.Proofs.YtmmkkggfmigppaaGreat
open Go Go.DI Go.Big
noncomputable def S7:bz al:= .dM 179 (ByteArray) (λT=>True) (λT=>[.string T]) (λT=> .bool (m3 T)) (λT h=>avF)
@[simp] theorem aJa:S7.f=179:=rfl
@[simp] theorem aJb{T:ByteArray}:S7.fn ([.string T])=some (.bool (m3 T)):=bz.eu (x:=T) trivial λy ah=>by simpa using ah
noncomputable def Tl:bz al:= .dM 112 hS hS.cV (λx=>[yl x]) (λx=> .bool x.l6) λ_ h=>ay9 h
@[simp] theorem aKg:Tl.f=112:=rfl
theorem afl{x:hS}{n:ByteArray}{s e:List bT}{cm:List (List bT)}(h:[yl x]=[.agg #[fH n,hx s,VK cm,hx e]]):x=⟨n,s,cm,e⟩:=by obtain⟨gU,dD,ca,lR⟩:=x;simpa[gF]using h
@[simp] theorem aKh{n:ByteArray}{s e:List bT}{cm:List (List bT)}(h:(hS.mk n s cm e).cV):Tl.fn [.agg #[fH n,au (s.map dQ) 3,au (cm.map λr=>[hx r]) 1,au (e.map dQ) 3]]=some (.bool (hS.mk n s cm e).l6):=bz.eu (x:=hS.mk n s cm e) h λy ah=>afl ah
end Go.Proofs.YtmmkkggfmigppaaGreat
namespace Go.Big
def o4.at(s:o4)(i:Int):Int:=if i=0 then s.a else if i=1 then s.b else if i=2 then s.c else if i=3 then s.d else s.e
end Go.Big
namespace Go.Proofs.YtmmkkggfmigppaaGreat
open Go Go.DI Go.Big
noncomputable def S8:bz al:= .dM 177 (Int×Int×Int×o4) (λ_=>True) (λp=>[Z p.1,Z p.2.1,Z p.2.2.1,.agg #[Z p.2.2.2.a,Z p.2.2.2.b,Z p.2.2.2.c,Z p.2.2.2.d,Z p.2.2.2.e]]) (λp=> .bool (k7 p.1 p.2.1 p.2.2.1 p.2.2.2)) λ_ _=>avZ
@[simp] theorem aJe:S8.f=177:=rfl
@[simp] theorem aJf{k m q a b c d e:Int}:S8.fn [Z k,Z m,Z q,.agg #[Z a,Z b,Z c,Z d,Z e]]=some (.bool (k7 k m q ⟨a,b,c,d,e⟩)):=bz.eu (x:=(k,m,q,(⟨a,b,c,d,e⟩:o4))) trivial λy ah=>by obtain⟨ly,tp,Dv,Ib,Ic,NC,ND,NF⟩:=y;simp at ah;obtain⟨D,H,aq,aF,br,cR,fs,hz⟩:=ah;simp[D,H,aq,aF,br,cR,fs,hz]
noncomputable def Te:bz al:= .dM 178 (Int×List bT×bT×bT) (λp=>((∀x∈p.2.1,x.cV)/\p.2.1.length<1000000)/\p.2.2.1.cV/\p.2.2.2.cV) (λp=>[Z p.1,hx p.2.1,dp p.2.2.1,dp p.2.2.2]) (λp=> .bool (na p.1 p.2.1 p.2.2.1 p.2.2.2)) λ_ h=>awA h.1 h.2.1 h.2.2
@[simp] theorem aJW:Te.f=178:=rfl
@[simp] theorem aJX{m:Int}{r:List bT}{n gU:Bool}{a b dD ca:List Int}(h:((∀x∈r,x.cV)/\r.length<1000000)/\(bT.mk n a b).cV/\(bT.mk gU dD ca).cV):Te.fn [Z m,au (r.map dQ) 3,.agg #[.bool n,bM a,bM b],.agg #[.bool gU,bM dD,bM ca]]=some (.bool (na m r ⟨n,a,b⟩ ⟨gU,dD,ca⟩)):=bz.eu (x:=(m,r,(⟨n,a,b⟩:bT),(⟨gU,dD,ca⟩:bT))) h λy ah=>by obtain⟨ly,tp,⟨Dv,Ib,Ic⟩,⟨NC,ND,NF⟩⟩:=y;simp[dQ]at ah;obtain⟨D,H,⟨aq,aF,br⟩,cR,fs,hz⟩:=ah;simp[D,H,aq,aF,br,cR,fs,hz]
def lo(s:ByteArray):List ByteArray->Option Nat
  |[]=>none
  |x::l=>if s=x then some 0 else(lo s l).map (· +1)
theorem azo{a b c:Int}:bH al 134 [Z a,Z b,Z c] (.bool (dB a b c)):=by
  refine ed (dL (aB:=⟨[],[]⟩) al3 (by kernel_rfl) (by simp[J9]) ?_);by_cases h:b<=a
  · have bK:a>=b:=h;simp(disch:=first|omega|simp only[aE];omega) [J9,Qe,Qf,h,dB,-O,-U,-N,-S,-List.map_map]
  · have bK: ¬a>=b:=h;simp(disch:=first|omega|simp only[aE];omega) [J9,Qe,Qf,h,dB,-O,-U,-N,-S,-List.map_map]
noncomputable def rf:bz al:= .dM 134 (Int×Int×Int) (λ⟨a,b,c⟩=>True) (λ⟨a,b,c⟩=>[Z a,Z b,Z c]) (λ⟨a,b,c⟩=> .bool (dB a b c)) (λ⟨a,b,c⟩ h=>azo)
@[simp] theorem aKk:rf.f=134:=rfl
@[simp] theorem aKl{a:Int}{b:Int}{c:Int}:rf.fn ([Z a,Z b,Z c])=some (.bool (dB a b c)):=bz.eu (x:=(a,b,c)) trivial λy ah=>by obtain⟨qs,ly,tp⟩:=y;simpa using ah
def rg(a b c d e f:Int):Bool:=decide (a<=4)&&(decide (b<=4)&&(decide (c<=40)&&(decide (d<=24)&&(decide (e<=4)&&decide (f<=12)))))
theorem axa{a b c d e f:Int}:bH al 135 [Z a,Z b,Z c,Z d,Z e,Z f] (.bool (rg a b c d e f)):=by
  refine ed (dL (aB:=⟨[],[]⟩) al4 (by kernel_rfl) (by simp[xq]) ?_);by_cases D:a<=4
  · by_cases H:b<=4
    · by_cases aq:c<=40
      · by_cases aF:d<=24
        · by_cases br:e<=4
          · simp(disch:=first|omega|simp only[aE];omega) [xq,zp,zq,D,H,aq,aF,br,rg,-O,-U,-N,-S,-List.map_map]
          · simp(disch:=first|omega|simp only[aE];omega) [xq,zp,zq,D,H,aq,aF,br,rg,-O,-U,-N,-S,-List.map_map]
        · simp(disch:=first|omega|simp only[aE];omega) [xq,zp,zq,D,H,aq,aF,rg,-O,-U,-N,-S,-List.map_map]
      · simp(disch:=first|omega|simp only[aE];omega) [xq,zp,zq,D,H,aq,rg,-O,-U,-N,-S,-List.map_map]
    · simp(disch:=first|omega|simp only[aE];omega) [xq,zp,zq,D,H,rg,-O,-U,-N,-S,-List.map_map]
  · simp(disch:=first|omega|simp only[aE];omega) [xq,zp,zq,D,rg,-O,-U,-N,-S,-List.map_map]
noncomputable def C7:bz al:= .dM 135 (Int×Int×Int×Int×Int×Int) (λ⟨a,b,c,d,e,f⟩=>True) (λ⟨a,b,c,d,e,f⟩=>[Z a,Z b,Z c,Z d,Z e,Z f]) (λ⟨a,b,c,d,e,f⟩=> .bool (rg a b c d e f)) (λ⟨a,b,c,d,e,f⟩ h=>axa)
@[simp] theorem aJJ:C7.f=135:=rfl
@[simp] theorem aJK{a:Int}{b:Int}{c:Int}{d:Int}{e:Int}{f:Int}:C7.fn ([Z a,Z b,Z c,Z d,Z e,Z f])=some (.bool (rg a b c d e f)):=bz.eu (x:=(a,b,c,d,e,f)) trivial λy ah=>by obtain⟨qs,ly,tp,Dv,Ib,Ic⟩:=y;simpa using ah
def xm(s:ByteArray)(l:List ByteArray):Int:=match lo s l with
  |none=> -1
  |some i=>i
theorem PR{s:ByteArray}{l:List ByteArray}: ∀{i:Nat},(∀j (h:j<l.length),j<i->l[j]≠s)->i<=l.length->lo s l=(lo s (l.drop i)).map (· +i)
  |0,_,_=>by simp
  | i+1,h,ai=>by rw[PR (i:=i) (λj bx EK=>h j bx (by omega)) (by omega)];have G:l.drop i=l[i]::l.drop (i+1):=List.drop_eq_getElem_cons (by omega);have cZ: ¬s=l[i]:= λe=>h i (by omega) (by omega) e.symm;rw[G];simp only[lo,if_neg cZ,Option.map_map];congr 1;funext k;simp only[Function.comp_apply];omega
theorem Xq{l:List ByteArray}{s:ByteArray}(ax:l.length<1000000):bH al 189 [yK l,fH s] (Z (xm s l)):=by
  refine ed (dL (aB:=⟨[],[]⟩) anx (by kernel_rfl) (by simp[Qy]) ?_);simp(disch:=first|omega|simp only[aE];omega) [Qy,Zm,Zn,-O,-U,-N,-S,-List.map_map];refine hI (aB:=⟨[],[]⟩) (λi z t=>(∀j (h:j<l.length),j<i->l[j]≠s)/\z 0=yK l/\z 1=fH s/\z 5=Z i) l.length ?_ ?_ 0 _ _ (ho _) ⟨by simp,by simp,by simp,by simp⟩
  · rintro i z t ai ⟨az,c9,bb,cu⟩ cK bk;have G:l[i]?=some l[i]:=dx ai;have b7:=gT (n:=i) (by omega);have bU:(i:Int)<l.length:=(by omega);by_cases hb:l[i]=s
    · have e:xm s l=i:=by
        unfold xm;rw[PR az (by omega),List.drop_eq_getElem_cons ai];simp[lo,hb]
      simp(disch:=first|omega|simp only[aE];omega) [Kr,F2,F3,c9,bb,cu,bU,hb,e,-O,-U,-N,-S,-List.map_map]
    · simp(disch:=first|omega|simp only[aE];omega) [Kr,F2,F3,c9,bb,cu,bU,b7,hb,-O,-U,-N,-S,-List.map_map];exact bk _ _ ⟨λj bx EK=>by
        by_cases e:j=i
        · subst e;exact hb
        · exact az j bx (by omega),by simp[c9],by simp[bb],by simp⟩
  · rintro z t ⟨az,c9,bb,cu⟩;have e:xm s l= -1:=by
      unfold xm;rw[PR az (ev _),List.drop_length];rfl
    simp(disch:=first|omega|simp only[aE];omega) [Kr,F2,F3,c9,cu,F3,F2,e,-O,-U,-N,-S,-List.map_map]
noncomputable def MS:bz al:= .dM 140 bT bT.cV (λx=>[dp x]) (λx=> .bool x.bA.small) λ_ aa=>aev aa
@[simp] theorem aJM:MS.f=140:=rfl
@[simp] theorem aJN{n:Bool}{a b:List Int}(h:(bT.mk n a b).cV):MS.fn [.agg #[.bool n,bM a,bM b]]=some (.bool (bT.mk n a b).bA.small):=bz.eu (x:=bT.mk n a b) h λy ah=>ym ah
noncomputable def ya:bz al:= .dM 139 bT (λx=>x.cV/\x.bA.ok=true) (λx=>[dp x]) (λx=>Z (nD x.bA .nil)) λ_ aa=>SO aa.1 aa.2
@[simp] theorem aJH:ya.f=139:=rfl
@[simp] theorem aJI{n:Bool}{a b:List Int}(h:(bT.mk n a b).cV/\(bT.mk n a b).bA.ok=true):ya.fn [.agg #[.bool n,bM a,bM b]]=some (Z (nD (bT.mk n a b).bA .nil)):=bz.eu (x:=bT.mk n a b) h λy ah=>ym ah
noncomputable def C8:bz al:= .dM 138 bT bT.cV (λx=>[dp x]) (λx=> .bool x.bA.ok) λ_ aa=>axz aa
@[simp] theorem aJS:C8.f=138:=rfl
@[simp] theorem aJT{n:Bool}{a b:List Int}(h:(bT.mk n a b).cV):C8.fn [.agg #[.bool n,bM a,bM b]]=some (.bool (bT.mk n a b).bA.ok):=bz.eu (x:=bT.mk n a b) h λy ah=>ym ah
theorem adX{x:eF}(c5:0<=x.n):(nD x .nil=0)=(x.n=0):=by
  have e:x.n*eF.nil.d=x.n:=by show x.n*1=x.n;omega
  have aU:eF.nil.n*x.d=0:=by show 0*x.d=0;omega
  unfold nD;rw[e,aU];apply propext;split
  · omega
  · split<;>omega
theorem awa{x:eF}(c5:0<=x.n):(nD x .nil=0)= ¬(0<x.n):=by rw[adX c5];apply propext;omega
def qF(k m:Int):Bool:=decide (1<=k)&&(decide (k<=6)&&(decide (0<=m)&&(decide (m<=4)&&decide (k+m<=8))))
theorem ahn{k m:Int}:bH al 197 [Z k,Z m] (.bool (qF k m)):=by
  refine ed (dL (aB:=⟨[],[]⟩) anP (by kernel_rfl) (by simp[zv]) ?_);by_cases D:1<=k
  · have iY:k>=1:=D;by_cases H:k<=6
    · by_cases aq:0<=m
      · have qM:m>=0:=aq;by_cases aF:m<=4
        · have b7:IntKind.i64.wrap (k+m)=k+m:=fl (by omega) (by omega);simp(disch:=first|omega|simp only[aE];omega) [zv,B2,B3,D,H,aq,aF,b7,qF,-O,-U,-N,-S,-List.map_map]
        · simp(disch:=first|omega|simp only[aE];omega) [zv,B2,B3,D,H,aq,aF,qF,-O,-U,-N,-S,-List.map_map]
      · have qM: ¬m>=0:=aq;simp(disch:=first|omega|simp only[aE];omega) [zv,B2,B3,D,H,aq,qF,-O,-U,-N,-S,-List.map_map]
    · simp(disch:=first|omega|simp only[aE];omega) [zv,B2,B3,D,H,qF,-O,-U,-N,-S,-List.map_map]
  · have iY: ¬k>=1:=D;simp(disch:=first|omega|simp only[aE];omega) [zv,B2,B3,D,qF,-O,-U,-N,-S,-List.map_map]
noncomputable def ML:bz al:= .dM 197 (Int×Int) (λ⟨k,m⟩=>True) (λ⟨k,m⟩=>[Z k,Z m]) (λ⟨k,m⟩=> .bool (qF k m)) (λ⟨k,m⟩ h=>ahn)
@[simp] theorem aIE:ML.f=197:=rfl
@[simp] theorem aIF{k:Int}{m:Int}:ML.fn ([Z k,Z m])=some (.bool (qF k m)):=bz.eu (x:=(k,m)) trivial λy ah=>by obtain⟨qs,ly⟩:=y;simpa using ah
theorem ahm{k m:Int}:qF k m=(dB k 1 6&&(dB m 0 4&&decide (k+m<=8))):=by simp only[qF,dB,yz]
def AI(s:o4):Bool:=dB s.b 0 8&&(dB s.c 0 8&&(dB s.d 0 8&&dB s.e 0 8))
theorem awW{k m q:Int}{s:o4}:bH al 141 [Z k,Z m,Z q,.agg #[Z s.a,Z s.b,Z s.c,Z s.d,Z s.e]] (.bool (k7 k m q s)):=by
  refine ed (dL (aB:=⟨[ML,rf],[]⟩) al8 (by kernel_rfl) (by simp[BS]) ?_);have e:k7 k m q s=(qF k m&&(dB q k (k+m)&&(decide (s.a=0)&&AI s))):=by
    rw[ahm];by_cases az:s.a=0
    · simp[k7,AI,az,show dB 0 0 8=true from rfl,yz]
    · simp[k7,AI,az]
  rw[e];cases D:qF k m
  · simp(disch:=first|omega|simp only[aE];omega) [BS,Fx,Fy,Fz,xr,D,-O,-U,-N,-S,-List.map_map]
  · have b7:IntKind.i64.wrap (k+m)=k+m:=(by simp[qF]at D;exact fl (by omega) (by omega));cases H:dB q k (k+m)
    · simp(disch:=first|omega|simp only[aE];omega) [BS,Fx,Fy,Fz,xr,D,H,b7,-O,-U,-N,-S,-List.map_map]
    · by_cases aq:s.a=0
      · simp(disch:=first|omega|simp only[aE];omega) [BS,Fx,Fy,Fz,D,H,aq,b7,-O,-U,-N,-S,-List.map_map];refine hI (aB:=⟨[ML,rf],[]⟩) (λi z t=>(∀j:Nat,j<i->dB (s.at ((j:Int)+1)) 0 8=true)/\t.Y 0=some ⟨[Z 0,Z s.b,Z s.c,Z s.d,Z s.e],true⟩/\z 7=cD 0/\z 9=Z ((i:Int)+1)) 4 ?_ ?_ 0 _ _ (ho _) ⟨by simp,by simp(disch:=first|omega|simp only[aE];omega) [-O,-U,-N,-S,-List.map_map],by simp,by simp⟩
        · rintro i z t ai ⟨az,aO,dW,hQ⟩ cK bk;have fq:=bm aO;have aF:i=0\/i=1\/i=2\/i=3:=(by omega);cases hb:dB (s.at ((i:Int)+1)) 0 8
          · have aU:AI s=false:=by
              rcases aF with rfl|rfl|rfl|rfl<;>simp[o4.at]at hb<;>simp[AI,hb]
            rcases aF with rfl|rfl|rfl|rfl<;>simp[o4.at]at hb<;>simp(disch:=first|omega|simp only[aE];omega) [Ke,FA,xr,dW,hQ,aO,hb,aU,-O,-U,-N,-S,-List.map_map]
          · have ax: ∀j:Nat,j<i+1->dB (s.at ((j:Int)+1)) 0 8=true:= λj bx=>by
              by_cases e:j=i
              · subst e;exact hb
              · exact az j (by omega)
            rcases aF with rfl|rfl|rfl|rfl<;>simp[o4.at]at hb<;>simp(disch:=first|omega|simp only[aE];omega) [Ke,FA,xr,dW,hQ,aO,hb,-O,-U,-N,-S,-List.map_map]<;>exact bk _ _ ⟨ax,aO,by simp[dW],by simp;rfl⟩
        · rintro z t ⟨az,aO,dW,hQ⟩;have aU:AI s=true:=by
            have oI:=az 0 (by decide);have fS:=az 1 (by decide);have gV:=az 2 (by decide);have h0:=az 3 (by decide);simp[o4.at]at oI fS gV h0;simp[AI,oI,fS,gV,h0]
          simp(disch:=first|omega|simp only[aE];omega) [Ke,FA,xr,xr,FA,hQ,aU,-O,-U,-N,-S,-List.map_map]
      · simp(disch:=first|omega|simp only[aE];omega) [BS,Fx,Fy,Fz,xr,D,H,aq,b7,-O,-U,-N,-S,-List.map_map]
noncomputable def MT(n:Nat)(ax:n<1000000):bz al:= .dM 190 (List bT) (λl=> ∀x∈l,x.cV) (λl=>[hx l,Z n]) (λl=> .bool (decide (l.length=n)&&l.all λx=>x.bA.small)) λ_ h=>SP h ax
@[simp] theorem aJO{n:Nat}{ax:n<1000000}:(MT n ax).f=190:=rfl
@[simp] theorem aJP{n:Nat}{ax:n<1000000}{l:List bT}(h: ∀x∈l,x.cV):(MT n ax).fn [au (l.map dQ) 3,Z n]=some (.bool (decide (l.length=n)&&l.all λx=>x.bA.small)):=bz.eu (x:=l) h λy ah=>by simpa using ah
theorem awN{m:Int}(c5:0<=m)(aF:m<=4){l:List bT}(aa:(∀x∈l,x.cV)/\l.length<1000000):bH al 198 [hx l,Z m] (.bool (decide ((l.length:Int)=if 1>m then 1 else m)&&l.all n0)):=by
  obtain⟨n,ax⟩: ∃n:Nat,(if 1>m then(1:Int)else m)=n:=⟨(if 1>m then(1:Int)else m).toNat,by split<;>omega⟩;have xe:(if m<1 then(1:Int)else m)=n:=ax;have WR:n<1000000:=by split at ax<;>omega
  rw[ax];have h1:decide ((l.length:Int)=(n:Int))=decide (l.length=n):=by congr 1;apply propext;omega
  rw[h1];refine ed (dL (aB:=⟨[MT n WR,ya],[]⟩) anQ (by kernel_rfl) (by simp[Ky]) ?_);obtain⟨qQ,rL⟩:=aa;cases D:(decide (l.length=n)&&l.all λx=>x.bA.small)
  · have e:(decide (l.length=n)&&l.all n0)=false:=by
      by_cases aC:l.length=n
      · simp only[aC,decide_true,sf,wC]at D⊢;obtain⟨x,G,h⟩:=D;exact⟨x,G,by simp only[n0,aX,not_and];intro bK;exact absurd bK h⟩
      · simp[aC]
    rw[e];simp(disch:=first|omega|simp only[aE];omega) [Ky,QD,QE,QF,B4,xe,D,-O,-U,-N,-S,-List.map_map]
  · simp(disch:=first|omega|simp only[aE];omega) [Ky,QD,QE,QF,xe,D,-O,-U,-N,-S,-List.map_map];simp only[aX,eM]at D;obtain⟨aC,D⟩:=D;have ve:decide (l.length=n)=true:=(by simp[aC]);rw[ve,sf];refine hI (aB:=⟨[MT n WR,ya],[]⟩) (λi z t=>(l.take i).all n0=true/\z 0=hx l/\z 5=Z i) l.length ?_ ?_ 0 _ _ (ho _) ⟨by simp,by simp,by simp⟩
    · rintro i z t ai ⟨az,c9,cu⟩ cK bk;have G:l[i]?=some l[i]:=dx ai;have aw:l[i]∈l:=mI ai;have b7:=gT (n:=i) (by omega);have bU:(i:Int)<l.length:=(by omega);have fb:=eD.1 D _ aw;have PE:l[i].cV/\l[i].bA.ok=true:=⟨qQ _ aw,aeR fb⟩;have bL:=awa (bT.gY PE.1);by_cases af:0<l[i].bA.n
      · have PL: ¬nD l[i].bA .nil=0:=(by rw[bL];exact λh=>h af);simp(disch:=first|omega|simp only[aE];omega) [Kz,F6,B4,c9,cu,bU,b7,dQ,PL,-O,-U,-N,-S,-List.map_map];exact bk _ _ ⟨by rw[lx G,sd,az];simp[n0,fb,af],by simp[c9],by simp⟩
      · have PL:nD l[i].bA .nil=0:=(by rw[bL];exact af);simp(disch:=first|omega|simp only[aE];omega) [Kz,F6,B4,c9,cu,bU,dQ,PL,-O,-U,-N,-S,-List.map_map];exact⟨_,aw,by simp[n0,af]⟩
    · rintro z t ⟨az,c9,cu⟩;rw[mJ]at az;simp(disch:=first|omega|simp only[aE];omega) [Kz,F6,B4,c9,cu,B4,F6,-O,-U,-N,-S,-List.map_map];simpa using az
noncomputable def S4(o:bT)(h:bH al 193 [Z 1] (dp o)):bz al:= .dM 193 Unit (λ_=>True) (λ_=>[Z 1]) (λ_=>dp o) λ_ _=>h
@[simp] theorem aIZ{o:bT}{h:bH al 193 [Z 1] (dp o)}:(S4 o h).f=193:=rfl
@[simp] theorem aI0{o:bT}{h:bH al 193 [Z 1] (dp o)}:(S4 o h).fn [Z 1]=some (dp o):=bz.eu (x:=()) trivial λ_ _=>rfl
noncomputable def S6(o:bT)(h: ∀x:bT,(x.cV/\x.bA.ok=true)->bH al 199 [dp o,dp x] (.bool (!oD x.bA))):bz al:= .dM 199 bT (λx=>x.cV/\x.bA.ok=true) (λx=>[dp o,dp x]) (λx=> .bool (!oD x.bA)) h
@[simp] theorem aI3{o:bT}{h: ∀x:bT,(x.cV/\x.bA.ok=true)->bH al 199 [dp o,dp x] (.bool (!oD x.bA))}:(S6 o h).f=199:=rfl
@[simp] theorem aI4{o:bT}{h: ∀x:bT,(x.cV/\x.bA.ok=true)->bH al 199 [dp o,dp x] (.bool (!oD x.bA))}{n:Bool}{a b:List Int}(G:(bT.mk n a b).cV/\(bT.mk n a b).bA.ok=true):(S6 o h).fn [.agg #[.bool o.jE,bM o.a,bM o.b],.agg #[.bool n,bM a,bM b]]=some (.bool (!oD (bT.mk n a b).bA)):=
  bz.eu (x:=bT.mk n a b) G λy ah=>by obtain⟨gU,dD,ca⟩:=y;simpa[dQ]using ah
theorem au3(x:bT)(G:x.cV/\x.bA.ok=true):bH al 199 [dp ⟨false,[1],[1]⟩,dp x] (.bool (!oD x.bA)):=by
  have h:=awR G.1;have e: ∀y∈HW,decide (nD .m6 y.bA<0)= !oD y.bA:=by decide
  rw[<-e x G.1];exact h
noncomputable def Tf(m:Int)(h:0<=m/\m<=4):bz al:= .dM 198 (List bT) (λl=>(∀x∈l,x.cV)/\l.length<1000000) (λl=>[hx l,Z m]) (λl=> .bool (decide ((l.length:Int)=if 1>m then 1 else m)&&l.all n0)) λ_ aa=>awN h.1 h.2 aa
@[simp] theorem aJ0{m:Int}{h:0<=m/\m<=4}:(Tf m h).f=198:=rfl
@[simp] theorem aJ1{m:Int}{h:0<=m/\m<=4}{l:List bT}(aa:(∀x∈l,x.cV)/\l.length<1000000):(Tf m h).fn [au (l.map dQ) 3,Z m]=some (.bool (decide ((l.length:Int)=if 1>m then 1 else m)&&l.all n0)):=bz.eu (x:=l) aa λy ah=>by simpa using ah
theorem ahD{o:bT}(aD:bH al 193 [Z 1] (dp o))(aC: ∀x:bT,(x.cV/\x.bA.ok=true)->bH al 199 [dp o,dp x] (.bool (!oD x.bA))){m:Int}(aw:0<=m/\m<=4){r:List bT}{t h:bT}(ay:(∀x∈r,x.cV)/\r.length<1000000)(bt:t.cV)(aJ:h.cV):
    bH al 142 [Z m,hx r,dp t,dp h] (.bool (na m r t h)):=by
  refine ed (dL (aB:=⟨[Tf m aw,MS,S4 o aD,S6 o aC],[]⟩) al9 (by kernel_rfl) (by simp[BT]) ?_);have e:na m r t h=((decide ((r.length:Int)=if 1>m then 1 else m)&&r.all n0)&&(t.bA.small&&(oD t.bA&&h.bA.small))):=by unfold na;rw[yz]
  rw[e];cases D:(decide ((r.length:Int)=if 1>m then 1 else m)&&r.all n0)
  · simp(disch:=first|omega|simp only[aE];omega) [BT,FB,FC,dQ,D,-O,-U,-N,-S,-List.map_map]
  · cases H:t.bA.small
    · simp(disch:=first|omega|simp only[aE];omega) [BT,FB,FC,dQ,D,H,-O,-U,-N,-S,-List.map_map]
    · have aEO:t.cV/\t.bA.ok=true:=⟨bt,aeR H⟩;cases aq:oD t.bA
      · simp(disch:=first|omega|simp only[aE];omega) [BT,FB,FC,dQ,D,H,aq,-O,-U,-N,-S,-List.map_map]
      · simp(disch:=first|omega|simp only[aE];omega) [BT,FB,FC,dQ,D,H,aq,-O,-U,-N,-S,-List.map_map]
theorem ahC{m:Int}(aw:0<=m/\m<=4){r:List bT}{t h:bT}(ay:(∀x∈r,x.cV)/\r.length<1000000)(bt:t.cV)(aJ:h.cV):bH al 142 [Z m,hx r,dp t,dp h] (.bool (na m r t h)):=
  ahD (o:=⟨false,[1],[1]⟩) qf au3 aw ay bt aJ
theorem sO{a b c:Int}:dB a b c=true↔b<=a/\a<=c:=by simp[dB]
def dK{c7:Type}(f:Nat->c7)(i:Nat)(v:c7):Nat->c7:= λk=>if k=i then v else f k
@[simp] theorem rj{c7:Type}{f:Nat->c7}{i:Nat}{v:c7}:dK f i v i=v:=by simp[dK]
theorem nf{c7:Type}{f:Nat->c7}{i k:Nat}{v:c7}(h:k≠i):dK f i v k=f k:=by simp[dK,h]
def ew(l:List ByteArray):List Value:=(l.map λs=>[fH s]).flatten
theorem Sg{l:List ByteArray}: ∀r∈l.map (λs=>[fH s]),r.length=1/\ ∀v∈r,gP v=true:= λr ay=>by obtain⟨x,_,rfl⟩:=hc.1 ay;exact⟨rfl,λv ab=>by simp at ab;subst ab;rfl⟩
theorem CR{l:List ByteArray}{n:Nat}(ax:l.length=n):(∀t,fK (fK (DI.dZ 8 t)) (lU 1 n (ew l))=some (l.map λs=>[fH s]))/\(∀t,(ew l).flatMap (ei 8 t)=[])/\(ew l).length=n:=by
  have bL: ∀r∈l.map (λs=>[fH s]),r.length=1:= λr h=>(Sg r h).1;have aq:(ew l).length=n:=by rw[ew,sw bL,j8,ax,Nat.mul_one]
  refine⟨λt=> ?_,λt=>MF λv ab=> ?_,aq⟩
  · have:=Oa bL;rw[j8,ax]at this;rw[ew,this];exact Hf λr h=>Hf λv ab=>yN ((Sg r h).2 v ab)
  · obtain⟨r,ay,qU⟩:=DB.1 ab;exact(Sg r ay).2 v qU
theorem Ak{l:List ByteArray}{s:ByteArray}:ew (l++[s])=ew l++[fH s]:=by simp[ew]
noncomputable def Tc:bz al:= .dM 137 hS hS.cV (λx=>[yl x]) (λx=> .bool x.l6) λ_ h=>axB h
@[simp] theorem aJU:Tc.f=137:=rfl
@[simp] theorem aJV{n:ByteArray}{s e:List bT}{cm:List (List bT)}(h:(hS.mk n s cm e).cV):Tc.fn [.agg #[fH n,au (s.map dQ) 3,au (cm.map λr=>[hx r]) 1,au (e.map dQ) 3]]=some (.bool (hS.mk n s cm e).l6):=bz.eu (x:=hS.mk n s cm e) h λy ah=>afl ah
noncomputable def Tb:bz al:= .dM 141 (Int×Int×Int×o4) (λ_=>True) (λp=>[Z p.1,Z p.2.1,Z p.2.2.1,.agg #[Z p.2.2.2.a,Z p.2.2.2.b,Z p.2.2.2.c,Z p.2.2.2.d,Z p.2.2.2.e]]) (λp=> .bool (k7 p.1 p.2.1 p.2.2.1 p.2.2.2)) λ_ _=>awW
@[simp] theorem aJD:Tb.f=141:=rfl
@[simp] theorem aJE{k m q a b c d e:Int}:Tb.fn [Z k,Z m,Z q,.agg #[Z a,Z b,Z c,Z d,Z e]]=some (.bool (k7 k m q ⟨a,b,c,d,e⟩)):=bz.eu (x:=(k,m,q,(⟨a,b,c,d,e⟩:o4))) trivial λy ah=>by obtain⟨ly,tp,Dv,Ib,Ic,NC,ND,NF⟩:=y;simp at ah;obtain⟨D,H,aq,aF,br,cR,fs,hz⟩:=ah;simp[D,H,aq,aF,br,cR,fs,hz]
noncomputable def Ta:bz al:= .dM 142 (Int×List bT×bT×bT) (λp=>(0<=p.1/\p.1<=4)/\((∀x∈p.2.1,x.cV)/\p.2.1.length<1000000)/\p.2.2.1.cV/\p.2.2.2.cV) (λp=>[Z p.1,hx p.2.1,dp p.2.2.1,dp p.2.2.2]) (λp=> .bool (na p.1 p.2.1 p.2.2.1 p.2.2.2)) λ_ h=>ahC h.1 h.2.1 h.2.2.1 h.2.2.2
@[simp] theorem aJv:Ta.f=142:=rfl
@[simp] theorem aJw{m:Int}{r:List bT}{n gU:Bool}{a b dD ca:List Int}(h:(0<=m/\m<=4)/\((∀x∈r,x.cV)/\r.length<1000000)/\(bT.mk n a b).cV/\(bT.mk gU dD ca).cV):Ta.fn [Z m,au (r.map dQ) 3,.agg #[.bool n,bM a,bM b],.agg #[.bool gU,bM dD,bM ca]]=some (.bool (na m r ⟨n,a,b⟩ ⟨gU,dD,ca⟩)):=bz.eu (x:=(m,r,(⟨n,a,b⟩:bT),(⟨gU,dD,ca⟩:bT))) h λy ah=>by obtain⟨ly,tp,⟨Dv,Ib,Ic⟩,⟨NC,ND,NF⟩⟩:=y;simp[dQ]at ah;obtain⟨D,H,⟨aq,aF,br⟩,cR,fs,hz⟩:=ah;simp[D,H,aq,aF,br,cR,fs,hz]
theorem Ia{P:Program}{c:I}{z:aP}{t:W}{Q:dy->aP->W->Prop}(d J:Nat)(aA:z d= .slice none 0 0)(h: ∀aT,aT.next=t.next+1->aT.Y t.next=some ⟨[],true⟩->(∀a,a<t.next->aT.Y a=t.Y a)->fP P c (pE z d (.slice (some ⟨t.next,0,none⟩) 0 J)) aT Q):fP P c z t Q:=
  Nx (d:=d) (J:=J) aA (h _ (by simp) (eZ (by simp)) λa az=>by rw[b3 (by omega),W.e9])
def pb(l:List ByteArray):List (Value×Value):=l.map λx=>(fH x,.bool true)
theorem R8{s:ByteArray}: ∀{l:List ByteArray},iF (fH s) (pb l)=(lo s l).map λ_=> .bool true
  |[]=>rfl
  | x::l=>by
    simp only[pb,mL,iF,oi,lo];by_cases h:s=x
    · simp[h]
    · have:=R8 (s:=s) (l:=l);simp only[pb]at this;simp only[h,decide_false,if_false,this,Option.map_map,jR];rfl
theorem adD{s:ByteArray}: ∀{l:List ByteArray},lo s l=none->k4 (fH s) (.bool true) (pb l)=pb (l++[s])
  |[],_=>by simp[pb,k4]
  | x::l,h=>by
    simp only[lo]at h;split at h
    · cases h
    · next M=>have:=adD (s:=s) (l:=l) (by cases bf:lo s l with|none=>rfl|some v=>rw[bf]at h;cases h);simp only[pb]at this;simp only[pb,mL,k4,oi,M,decide_false,jR,if_false,yy,this]
theorem auE{s:ByteArray}{l:List ByteArray}:nA .str (fH s) (pb l)=true:=by simp only[nA,pb,nv,sf,List.all_map,eD];intro x _;rfl
theorem Xk{s:ByteArray}: ∀{l:List ByteArray},s∉l->lo s l=none
  |[],_=>rfl
  | x::l,h=>by simp only[g6,not_or]at h;simp only[lo,if_neg h.1,Xk h.2];rfl
theorem avW{l:List ByteArray}(h:l.Nodup){i:Nat}(ai:i<l.length):l[i]∉l.take i:= λaw=>by
  obtain⟨j,bx,bh⟩:=kx aw;rw[List.getElem_take]at bh;have EI:j<i:=by rw[ni]at bx;omega
  exact(Im.1 h j i (by omega) ai EI) bh
theorem CQ{l:List ByteArray}:(ew l).length=l.length:=(CR (l:=l) rfl).2.2
noncomputable def ej(l:List ByteArray):Bool:=l.all m3&&decide l.Nodup
theorem adO{c7:Type}{l:List c7}{i:Nat}(ai:i<l.length)(h:(l.take i).Nodup)(ax:l[i]∉l.take i):(l.take (i+1)).Nodup:=by rw[lx (dx ai),yx];exact⟨h,by simp,λa az b hb=>by simp at hb;subst hb;exact λe=>ax (e▸az)⟩
theorem Xl{s:ByteArray}: ∀{l:List ByteArray} {k:Nat},lo s l=some k->s∈l
  |[],k,h=>by cases h
  | x::l,k,h=>by
    simp only[lo]at h;split at h
    · next e=>exact e▸List.mem_cons_self ..
    · cases bf:lo s l with
      |none=>rw[bf]at h;cases h
      |some j=>exact Dy _ (Xl bf)
theorem R6{s:ByteArray}: ∀{l:List ByteArray},s∈l->lo s l≠none
  |[],h=>by cases h
  | x::l,h=>by
    simp only[lo];split
    · exact λh=>by cases h
    · next e=>
      have aw:s∈l:=by
        rcases g6.1 h with rfl|h
        · exact absurd rfl e
        · exact h
      have:=R6 aw;intro bf;cases bL:lo s l with
      |none=>exact this bL
      |some k=>rw[bL]at bf;cases bf
theorem ahB{l:List ByteArray}{i:Nat}(ai:i<l.length)(h:l[i]∈l.take i):ej l=false:=by unfold ej;rw[wA];exact .inr (tA λaA=>avW aA ai h)
theorem avY{l:List ByteArray}{i:Nat}(ai:i<l.length)(h:m3 l[i]=false):ej l=false:=by unfold ej;rw[wA];exact .inl (by rw[wC];exact⟨_,mI ai,by simp[h]⟩)
theorem ayV{l:List ByteArray}(ax:l.length<1000000):bH al 114 [yK l] (.bool (ej l)):=by
  refine ed (dL (aB:=⟨[],[]⟩) akb (by kernel_rfl) (by simp[P9]) ?_);simp(disch:=first|omega|simp only[aE];omega) [P9,XQ,XR,XS,-O,-U,-N,-S,-List.map_map];refine hI (aB:=⟨[S7],[]⟩) (λi z t=>((l.take i).all m3=true/\(l.take i).Nodup)/\t.eJ 0=some (pb (l.take i))/\z 3= .map (some 0)/\z 7=yK l/\z 8=Z l.length/\z 9=Z i) l.length ?_ ?_ 0 _ _ (ho _) ⟨by simp,by simp(disch:=first|omega|simp only[aE];omega) [pb,-O,-U,-N,-S,-List.map_map],by simp,by simp,by simp,by simp⟩
  · rintro i z t ai ⟨⟨az,aA⟩,yT,eP,dW,b1,hQ⟩ cK bk;have G:l[i]?=some l[i]:=dx ai;have b7:=gT (n:=i) (by omega);have bU:(i:Int)<l.length:=(by omega);have aa:nA .str (fH l[i]) (pb (l.take i))=true:=auE;have aGz:=bm (h2 yT).1;cases jK:m3 l[i]
    · have aY:=avY ai jK;simp(disch:=first|omega|simp only[aE];omega) [Fk,BK,BL,BM,BN,dW,b1,hQ,bU,jK,aY,-iF,-k4,-nA,-O,-U,-N,-S,-List.map_map]
    · cases eg:lo l[i] (l.take i)with
      | some k=>have aY:=ahB ai (Xl eg);have a3:iF (fH l[i]) (pb (l.take i))=some (.bool true):=(by rw[R8,eg];rfl);simp(disch:=first|omega|simp only[aE];omega) [Fk,BK,BL,BM,BN,eP,dW,b1,hQ,bU,jK,yT,a3,aa,aY,-iF,-k4,-nA,-O,-U,-N,-S,-List.map_map]
      | none=>have a3:iF (fH l[i]) (pb (l.take i))=none:=(by rw[R8,eg];rfl);have mT:l[i]∉l.take i:= λaw=>R6 aw eg;simp(disch:=first|omega|simp only[aE];omega) [Fk,BK,BL,BM,BN,eP,dW,b1,hQ,bU,b7,jK,yT,a3,aa,-iF,-k4,-nA,-O,-U,-N,-S,-List.map_map];refine bk _ _ ⟨⟨by rw[lx G,sd,az];simp[jK],adO ai aA mT⟩,?_,by simp[eP],by simp[dW],by simp[b1],by simp⟩;rw[lx G,<-adD eg];simp(disch:=first|omega|simp only[aE];omega) [-k4,-O,-U,-N,-S,-List.map_map]
  · rintro z t ⟨⟨az,aA⟩,yT,eP,dW,b1,hQ⟩;rw[mJ]at az aA;have aY:ej l=true:=(by simp[ej,az,aA]);simp(disch:=first|omega|simp only[aE];omega) [Fk,BK,BL,BM,BN,b1,hQ,BN,BK,BL,BM,aY,-O,-U,-N,-S,-List.map_map]
noncomputable def Th:bz al:= .dM 114 (List ByteArray) (λl=>l.length<1000000) (λl=>[yK l]) (λl=> .bool (ej l)) λ_ h=>ayV h
@[simp] theorem aJ6:Th.f=114:=rfl
@[simp] theorem aJ7{l:List ByteArray}(h:l.length<1000000):Th.fn [au (l.map λs=>[fH s]) 1]=some (.bool (ej l)):=bz.eu (x:=l) h λy ah=>by simpa using ah
end Go.Proofs.YtmmkkggfmigppaaGreat
