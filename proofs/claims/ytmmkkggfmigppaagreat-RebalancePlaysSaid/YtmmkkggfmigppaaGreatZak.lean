/-
  A part of the proof of the statement, in texts that tools of ours (wip/shrink.py, irpack.py, relax.py, minify.py, join.py, lay.py) have shortened.
-/
import Derived.Test.YtmmkkggfmigppaaGreatZaj
set_option linter.all false
set_option maxRecDepth 8000
set_option maxHeartbeats 16000000
namespace Go.Proofs.YtmmkkggfmigppaaGreat
open Go Go.DI Go.Big
attribute [local simp] Wf Wg Wh Wi Wr Ws Wt
abbrev jy:Value:= .slice none 0 0
noncomputable def dq{f:Nat}{args:List Value}{r:Value}(h:bH al f args r):bC al:= .dN f Unit (λ_=>True) (λ_=>args) (λ_=>r) λ_ _=>h
@[simp] theorem aO4{f:Nat}{args:List Value}{r:Value}{h:bH al f args r}:(dq h).f=f:=rfl
theorem iG{f:Nat}{args:List Value}{r:Value}(h:bH al f args r):(dq h).fn args=some r:=bC.eh (x:=()) trivial λ_ _=>rfl
theorem vG{f:Nat}{args nq:List Value}{r:Value}(h:bH al f args r)(az:args≠nq):(dq h).fn nq=none:=by unfold dq bC.dN;simp only;rw[dif_neg];rintro⟨_,_,e⟩;exact az e
noncomputable def q8(a b:bC al)(h:b.f=a.f):bC al:=⟨a.f,λargs=>match a.fn args with
  |some r=>some r
  | none=>b.fn args,λargs r aw=>by
    cases aA:a.fn args with
    |some dL=>rw[aA]at aw;cases aw;exact a.ok args r aA
    |none=>rw[aA]at aw;have:=b.ok args r aw;rw[h]at this;exact this⟩
@[simp] theorem aO5{a b:bC al}{h:b.f=a.f}:(q8 a b h).f=a.f:=rfl
theorem xv{a b:bC al}{h:b.f=a.f}{args:List Value}{r:Value}(aA:a.fn args=some r):(q8 a b h).fn args=some r:=by simp only[q8,aA]
theorem vH{a b:bC al}{h:b.f=a.f}{args:List Value}{r:Value}(aA:a.fn args=none)(hb:b.fn args=some r):(q8 a b h).fn args=some r:=by simp only[q8,aA,hb]
theorem aFx{x:Int}(G:x≠0):bH al 194 [bT [x]] (bT [x]):=by refine ei (dD (aC:=⟨[],[]⟩) Sm (by kernel_rfl) (by simp[Df]) ?_);simp(disch:=first|omega|simp only[DI.ae];omega) [Df,Sl,Sn,So,-O,-U,-N,-S,-List.map_map];refine eE (aC:=⟨[],[]⟩) λcS bm=> ?_;simp(disch:=first|omega|simp only[DI.ae];omega) [LQ,Dg,Dg,G,-O,-U,-N,-S,-List.map_map];exact ss (n:=8) (bh:=[[eV x]]) (w:=true) (by simp(disch:=first|omega|simp only[DI.ae];omega) [-O,-U,-N,-S,-List.map_map]) rfl UN
theorem aFw{x:Int}(G:x≠0):bH al 194 [bT [x,0]] (bT [x]):=by refine ei (dD (aC:=⟨[],[]⟩) Sm (by kernel_rfl) (by simp[Df]) ?_);simp(disch:=first|omega|simp only[DI.ae];omega) [Df,Sl,Sn,So,-O,-U,-N,-S,-List.map_map];refine eE (aC:=⟨[],[]⟩) λcS bm=> ?_;simp(disch:=first|omega|simp only[DI.ae];omega) [LQ,Dg,-O,-U,-N,-S,-List.map_map];refine bm _ _ (eE (aC:=⟨[],[]⟩) λcS bm=> ?_);simp(disch:=first|omega|simp only[DI.ae];omega) [LQ,Dg,Dg,G,-O,-U,-N,-S,-List.map_map];exact ss (n:=8) (bh:=[[eV x]]) (w:=true) (by simp(disch:=first|omega|simp only[DI.ae];omega) [-O,-U,-N,-S,-List.map_map]) rfl UN
noncomputable def oT:bC al:= .dN 194 Int (λx=>x≠0) (λx=>[bT [x]]) (λx=>bT [x]) λ_ h=>aFx h
@[simp] theorem aQE:oT.f=194:=rfl
@[simp] theorem aDr{x:Int}(h:x≠0):oT.fn [aj [[eV x]] 1]=some (bT [x]):=bC.eh (x:=x) h λy af=>by simpa using af
noncomputable def VD:bC al:= .dN 194 Int (λx=>x≠0) (λx=>[bT [x,0]]) (λx=>bT [x]) λ_ h=>aFw h
@[simp] theorem aQC:VD.f=194:=rfl
@[simp] theorem aQD{x:Int}(h:x≠0):VD.fn [aj [[eV x],[eV 0]] 1]=some (bT [x]):=bC.eh (x:=x) h λy af=>by simpa using af
theorem aFu{x:Int}(G:x≠0):bH al 246 [bT [x]] (.bool false):=by refine ei (dD (aC:=⟨[oT],[]⟩) adA (by kernel_rfl) (by simp[Mh]) ?_);simp(disch:=first|omega|simp only[DI.ae];omega) [Mh,adz,adB,-O,-U,-N,-S,-List.map_map]
noncomputable def BN:bC al:= .dN 246 Int (λx=>x≠0) (λx=>[bT [x]]) (λ_=> .bool false) λ_ h=>aFu h
@[simp] theorem aQq:BN.f=246:=rfl
@[simp] theorem aDk{x:Int}(h:x≠0):BN.fn [aj [[eV x]] 1]=some (.bool false):=bC.eh (x:=x) h λy af=>by simpa using af
theorem aFs{x y:Int}(G:x≠0)(af:y≠0):bH al 241 [bT [x],bT [y]] (Y (if x<y then-1 else if x>y then 1 else 0)):=by
  refine ei (dD (aC:=⟨[oT],[]⟩) adr (by kernel_rfl) (by simp[Mg]) ?_);simp(disch:=first|omega|simp only[DI.ae];omega) [Mg,adq,ads,adt,adu,adv,-O,-U,-N,-S,-List.map_map];refine eE (aC:=⟨[oT],[]⟩) λcS bm=> ?_;by_cases bO:x<y
  · simp(disch:=first|omega|simp only[DI.ae];omega) [HA,Dp,Dq,Dr,bO,-O,-U,-N,-S,-List.map_map]
  by_cases cA:x>y
  · simp(disch:=first|omega|simp only[DI.ae];omega) [HA,Dp,Dq,Dr,bO,cA,-O,-U,-N,-S,-List.map_map]
  simp(disch:=first|omega|simp only[DI.ae];omega) [HA,Dp,Dq,Dr,bO,cA,-O,-U,-N,-S,-List.map_map];refine bm _ _ (eE (aC:=⟨[oT],[]⟩) λcS bm=> ?_);simp(disch:=first|omega|simp only[DI.ae];omega) [HA,Dp,Dq,Dr,Dr,Dp,Dq,bO,cA,-O,-U,-N,-S,-List.map_map]
noncomputable def Ey:bC al:= .dN 241 (Int×Int) (λx=>x.1≠0/\x.2≠0) (λx=>[bT [x.1],bT [x.2]]) (λx=>Y (if x.1<x.2 then-1 else if x.1>x.2 then 1 else 0)) λ_ h=>aFs h.1 h.2
@[simp] theorem aQl:Ey.f=241:=rfl
@[simp] theorem aQm{x y:Int}(h:x≠0/\y≠0):Ey.fn [aj [[eV x]] 1,aj [[eV y]] 1]=some (Y (if x<y then-1 else if x>y then 1 else 0)):=bC.eh (x:=(x,y)) h λ⟨a,b⟩ af=>by simpa using af
theorem Pa:bH al 168 [.int .u64 0] jy:=gv (by kernel_rfl)
theorem aFv{x:Int}(E:0<x)(I:x<4294967296):bH al 168 [.int .u64 x] (bT [x]):=by
  have G:x≠0:=by omega
  have c8:IntKind.u32.wrap x=x:=V2 (by omega) (by omega);have aJ:x.fdiv 4294967296=0:=by rw[Int.fdiv_eq_ediv_of_nonneg _ (by decide)];omega
  refine ei (dD (aC:=⟨[VD],[]⟩) abm (by kernel_rfl) (by simp[Lz]) ?_);simp(disch:=first|omega|simp only[DI.ae];omega) [Lz,abl,abn,c8,aJ,su,rZ,-O,-U,-N,-S,-List.map_map]
noncomputable def VA:bC al:= .dN 168 Int (λx=>0<x/\x<4294967296) (λx=>[.int .u64 x]) (λx=>bT [x]) λ_ h=>aFv h.1 h.2
@[simp] theorem aQt:VA.f=168:=rfl
@[simp] theorem aQu{x:Int}(h:0<x/\x<4294967296):VA.fn [.int .u64 x]=some (bT [x]):=bC.eh (x:=x) h λy af=>by simpa using af
section
variable {J:Int} (E:2<=J) (I:J<200)
include E I
theorem Ww:bH al 247 [bT [1],bT [J]] (.tuple #[jy,bT [1]]):=by
  have bK:J≠0:=by omega
  have c:(1:Int)<J:=by omega
  have gb:(1:Int)≠0:=by decide
  refine ei (dD (aC:=⟨[Ey,oT],[]⟩) SG (by kernel_rfl) (by simp[Ds]) ?_);simp(disch:=first|omega|simp only[DI.ae];omega) [Ds,SF,SH,c,-O,-U,-N,-S,-List.map_map]
theorem aiJ:bH al 247 [bT [J],bT [1]] (.tuple #[bT [J],jy]):=by
  have bK:J≠0:=by omega
  have c: ¬J<1:=by omega
  have cA:J>1:=by omega
  have gz:(1:Int)<J:=by omega
  have gb:(1:Int)≠0:=by decide
  have c8:IntKind.u64.wrap J=J:=V3 (by omega) (by omega);have e7:IntKind.u32.wrap J=J:=V2 (by omega) (by omega);have ni:max (J%2^IntKind.u64.bits) 0=J:=by show max (J%18446744073709551616) 0=J;omega
  have aJ:J.tdiv 1=J:=by simp
  have aU:J.tmod 1=0:=by simp
  have sN:=iG Pa;refine ei (dD (aC:=⟨[Ey,oT,dq Pa],[]⟩) SG (by kernel_rfl) (by simp[Ds]) ?_);simp(disch:=first|omega|simp only[DI.ae];omega) [Ds,SF,SH,adC,adD,adE,c,cA,-O,-U,-N,-S,-List.map_map];refine eE (aC:=⟨[Ey,oT,dq Pa],[]⟩) λcS bm=> ?_;simp(disch:=first|omega|simp only[DI.ae];omega) [SJ,Mi,Mj,c8,e7,ni,aJ,aU,-O,-U,-N,-S,-List.map_map];refine bm _ _ (eE (aC:=⟨[Ey,oT,dq Pa],[]⟩) λcS bm=> ?_);simp(disch:=first|omega|simp only[DI.ae];omega) [SJ,Mi,Mj,SI,SI,Mi,Mj,sN,su,rZ,-O,-U,-N,-S,-List.map_map]
theorem aFt:([bT [1],bT [J]]:List Value)≠[bT [J],bT [1]]:= λh=>by simp at h;omega
noncomputable def BM:bC al:=q8 (dq (Ww E I)) (dq (aiJ E I)) rfl
@[simp] theorem aQn:(BM E I).f=247:=rfl
theorem aDf:(BM E I).fn [aj [[eV 1]] 1,aj [[eV J]] 1]=some (.tuple #[jy,bT [1]]):=xv (iG (Ww E I))
theorem aDg:(BM E I).fn [aj [[eV J]] 1,aj [[eV 1]] 1]=some (.tuple #[bT [J],jy]):=vH (vG (Ww E I) (aFt E I)) (iG (aiJ E I))
theorem aiK:bH al 213 [bT [1],bT [J]] (.tuple #[bT [1],Y 0]):=by
  have bK:J≠0:=by omega
  have gb:(1:Int)≠0:=by decide
  have g5:=aDf E I;have gN:=aDg E I;refine ei (dD (aC:=⟨[BN,oT,BM E I],[]⟩) acv (by kernel_rfl) (by simp[L2]) ?_);simp(disch:=first|omega|simp only[DI.ae];omega) [L2,acu,acw,acx,acy,-O,-U,-N,-S,-List.map_map];refine eE (aC:=⟨[BN,oT,BM E I],[]⟩) λcS bm=> ?_;simp(disch:=first|omega|simp only[DI.ae];omega) [L3,Ht,g5,-O,-U,-N,-S,-List.map_map];refine bm _ _ (eE (aC:=⟨[BN,oT,BM E I],[]⟩) λcS bm=> ?_);simp(disch:=first|omega|simp only[DI.ae];omega) [L3,Ht,gN,-O,-U,-N,-S,-List.map_map];refine bm _ _ (eE (aC:=⟨[BN,oT,BM E I],[]⟩) λcS bm=> ?_);simp(disch:=first|omega|simp only[DI.ae];omega) [L3,Ht,Ht,-O,-U,-N,-S,-List.map_map]
noncomputable def Vz:bC al:=dq (aiK E I)
@[simp] theorem aQo:(Vz E I).f=213:=rfl
@[simp] theorem aQp:(Vz E I).fn [aj [[eV 1]] 1,aj [[eV J]] 1]=some (.tuple #[bT [1],Y 0]):=iG (aiK E I)
theorem aiM:bH al 167 [.bool false,bT [1],bT [J]] (dy ⟨false,[1],[J]⟩):=by
  have bK:J≠0:=by omega
  have gb:(1:Int)≠0:=by decide
  refine ei (dD (aC:=⟨[Vz E I,oT],[]⟩) abf (by kernel_rfl) (by simp[Ly]) ?_);simp(disch:=first|omega|simp only[DI.ae];omega) [Ly,abe,abg,abh,abi,abj,abk,gb,eb,-O,-U,-N,-S,-List.map_map]
theorem aiT:bH al 138 [dy ⟨false,[1],[J]⟩] (.bool true):=by
  have bK:J≠0:=by omega
  have gb:(1:Int)≠0:=by decide
  refine ei (dD (aC:=⟨[oT],[]⟩) aaN (by kernel_rfl) (by simp[Lp]) ?_);simp(disch:=first|omega|simp only[DI.ae];omega) [Lp,aaM,aaO,eb,-O,-U,-N,-S,-List.map_map]
noncomputable def VE:bC al:=dq (aiT E I)
@[simp] theorem aQF:(VE E I).f=138:=rfl
@[simp] theorem aQG:(VE E I).fn [.agg #[.bool false,aj [[eV 1]] 1,aj [[eV J]] 1]]=some (.bool true):=iG (aiT E I)
noncomputable def Oq:bC al:=dq (aiM E I)
@[simp] theorem aQr:(Oq E I).f=167:=rfl
@[simp] theorem aQs:(Oq E I).fn [.bool false,aj [[eV 1]] 1,aj [[eV J]] 1]=some (dy ⟨false,[1],[J]⟩):=iG (aiM E I)
theorem aiO:bH al 196 [dy ⟨false,[1],[J]⟩] (.tuple #[dy ⟨false,[1],[J]⟩,Y 0]):=by refine ei (dD (aC:=⟨[VE E I,Oq E I],[]⟩) ab9 (by kernel_rfl) (by simp[LS]) ?_);simp(disch:=first|omega|simp only[DI.ae];omega) [LS,ab8,aca,acb,eb,-O,-U,-N,-S,-List.map_map]
noncomputable def VC:bC al:=dq (aiO E I)
@[simp] theorem aQx:(VC E I).f=196:=rfl
@[simp] theorem aQy:(VC E I).fn [.agg #[.bool false,aj [[eV 1]] 1,aj [[eV J]] 1]]=some (.tuple #[dy ⟨false,[1],[J]⟩,Y 0]):=iG (aiO E I)
theorem Jp:bH al 140 [dy ⟨false,[1],[J]⟩] (.bool true):=by refine ei (dD (aC:=⟨[VC E I],[]⟩) aaT (by kernel_rfl) (by simp[Lr]) ?_);simp(disch:=first|omega|simp only[DI.ae];omega) [Lr,aaS,aaU,aaV,eb,-O,-U,-N,-S,-List.map_map]
theorem aiQ:bH al 169 [Y J] (.int .u64 J):=by
  have c8:IntKind.u64.wrap J=J:=V3 (by omega) (by omega);have c: ¬J<0:=by omega
  refine ei (dD (aC:=⟨[],[]⟩) abp (by kernel_rfl) (by simp[LA]) ?_);simp(disch:=first|omega|simp only[DI.ae];omega) [LA,abo,abq,abr,c8,c,-O,-U,-N,-S,-List.map_map]
omit E I in
theorem WA:bH al 169 [Y 1] (.int .u64 1):=gv (by kernel_rfl)
noncomputable def Ot:bC al:=q8 (dq WA) (dq (aiQ E I)) rfl
@[simp] theorem aQB:(Ot E I).f=169:=rfl
@[simp] theorem aQz:(Ot E I).fn [Y 1]=some (.int .u64 1):=xv (iG WA)
@[simp] theorem aQA:(Ot E I).fn [Y J]=some (.int .u64 J):=vH (vG WA (by simp;omega)) (iG (aiQ E I))
theorem aiN:bH al 107 [Y 1,Y J] (.tuple #[dy ⟨false,[1],[J]⟩,Y 0]):=by
  have bK:J≠0:=by omega
  have c: ¬J<0:=by omega
  have en:(0:Int)<1/\(1:Int)<4294967296:=by decide
  have hd:0<J/\J<4294967296:=by omega
  refine ei (dD (aC:=⟨[Ot E I,VA,Oq E I],[]⟩) ZW (by kernel_rfl) (by simp[Li]) ?_);simp(disch:=first|omega|simp only[DI.ae];omega) [Li,ZV,ZX,ZY,bK,c,eb,-O,-U,-N,-S,-List.map_map]
noncomputable def VB:bC al:=dq (aiN E I)
@[simp] theorem aQv:(VB E I).f=107:=rfl
@[simp] theorem aQw:(VB E I).fn [Y 1,Y J]=some (.tuple #[dy ⟨false,[1],[J]⟩,Y 0]):=iG (aiN E I)
theorem alf:bH al 59 [Y 1,Y J] (dy ⟨false,[1],[J]⟩):=by refine ei (dD (aC:=⟨[VB E I],[]⟩) ae1 (by kernel_rfl) (by simp[MJ]) ?_);simp(disch:=first|omega|simp only[DI.ae];omega) [MJ,ae0,ae2,ae3,eb,-O,-U,-N,-S,-List.map_map]
end
attribute [local simp] Wf Wg Wh Wi Wr Ws Wt
noncomputable def IX:bC al:= .dN 140 b1 b1.c7 (λx=>[dy x]) (λx=> .bool x.bF.small) λ_ aa=>ahu aa
@[simp] theorem aPI:IX.f=140:=rfl
theorem aC9{n:Bool}{a b:List Int}(h:(b1.mk n a b).c7):IX.fn [.agg #[.bool n,bT a,bT b]]=some (.bool (b1.mk n a b).bF.small):=bC.eh (x:=b1.mk n a b) h λy af=>zv af
theorem UR{l:List b1}{n:Nat}(aa: ∀x∈l,x.c7)(az:n<1000000):bH al 190 [h5 l,Y n] (.bool (decide (l.length=n)&&l.all λx=>x.bF.small)):=by
  have Z:(l.all λx=>x.bF.small)=true:=eQ.2 λ_ _=>rfl;refine ei (dD (aC:=⟨[IX],[]⟩) abY (by kernel_rfl) (by simp[De]) ?_);by_cases aB:l.length=n
  · have jr:((l.length:Nat):Int)=(n:Int):=(by omega);simp(disch:=first|omega|simp only[DI.ae];omega) [De,LN,LO,LP,jr,-O,-U,-N,-S,-List.map_map];refine h9 (aC:=⟨[IX],[]⟩) (λi A t=>A 0=h5 l/\A 1=Y n/\A 5=Y i) n ?_ ?_ 0 _ _ (ht _) ⟨by simp,by simp,by simp⟩
    · rintro i A t ai ⟨cE,ba,cq⟩ cS bm;have G:l[i]?=some l[i]:=cD (by omega);have ax:l[i].c7:=aa _ (jQ _);have cg:=gY (n:=i) (by omega);have b6:(i:Int)<n:=(by omega);have f:IX.fn [.agg #[.bool l[i].kh,bT l[i].a,bT l[i].b]]=some (.bool true):=aC9 (n:=l[i].kh) (a:=l[i].a) (b:=l[i].b) ax;simp(disch:=first|omega|simp only[DI.ae];omega) [Hn,AE,yC,cE,ba,cq,b6,cg,f,eb,-O,-U,-N,-S,-List.map_map];exact⟨by omega,bm _ _ ⟨by simp[cE],by simp[ba],by simp⟩⟩
    · rintro A t ⟨cE,ba,cq⟩;simp(disch:=first|omega|simp only[DI.ae];omega) [Hn,AE,yC,ba,cq,yC,AE,-O,-U,-N,-S,-List.map_map];simp[aB];exact eQ.1 Z
  · have jr: ¬((l.length:Nat):Int)=(n:Int):=(by omega);simp(disch:=first|omega|simp only[DI.ae];omega) [De,LN,LO,LP,yC,jr,aB,-O,-U,-N,-S,-List.map_map]
theorem aiL:bH al 193 [Y 0] (.agg #[.bool false,jy,bT [1]]):=gv (by kernel_rfl)
theorem WE:bH al 194 [jy] jy:=gv (by kernel_rfl)
theorem Wx:bH al 246 [jy] (.bool false):=gv (by kernel_rfl)
theorem Pc:bH al 194 [bT [0]] jy:=gv (by kernel_rfl)
theorem Wv:bH al 241 [bT [1],jy] (Y 1):=gv (by kernel_rfl)
theorem WD:bH al 240 [bT [1],bT [1]] (bT [1]):=gv (by kernel_rfl)
theorem agK{x:Int}: ¬jy=aj [[eV x]] 1:=by unfold aj;simp
theorem aAT{x:Int}: ¬aj [[eV x]] 1=jy:=by unfold aj;simp
noncomputable def Oo:bC al:=q8 (dq Wx) BN rfl
theorem aDj:Oo.f=246:=rfl
theorem aDh:Oo.fn [jy]=some (.bool false):=xv (iG Wx)
theorem aDi{x:Int}(h:x≠0):Oo.fn [aj [[eV x]] 1]=some (.bool false):=vH (vG Wx (by simp[agK])) (aDk h)
noncomputable def Ov:bC al:=q8 (dq WE) oT rfl
theorem aDq:Ov.f=194:=rfl
theorem aDo:Ov.fn [jy]=some jy:=xv (iG WE)
theorem aDp{x:Int}(h:x≠0):Ov.fn [aj [[eV x]] 1]=some (bT [x]):=vH (vG WE (by simp[agK])) (aDr h)
section
variable {J:Int} (E:2<=J) (I:J<200)
include E I
theorem WC:bH al 268 [jy,bT [J]] jy:=by have f:(dq Pc).fn [aj [[eV 0]] 1]=some jy:=iG Pc;refine ei (dD (aC:=⟨[dq Pc],[]⟩) aea (by kernel_rfl) (by simp[Mp]) ?_);simp(disch:=first|omega|simp only[DI.ae];omega) [Mp,ad9,aeb,aec,-O,-U,-N,-S,-List.map_map];refine eE (aC:=⟨[dq Pc],[]⟩) λcS bm=> ?_;simp(disch:=first|omega|simp only[DI.ae];omega) [aed,SM,SN,SO,SO,SM,SN,f,su,rZ,-O,-U,-N,-S,-List.map_map]
theorem Wy:bH al 260 [jy,bT [J]] (.tuple #[jy,Y 0]):=by
  have bK:J≠0:=by omega
  have bu:=aDh;have bN:=aDi bK;have cn:=aDo;have eW:=aDp bK;have fU:(dq (WC E I)).fn [jy,aj [[eV J]] 1]=some jy:=iG (WC E I);refine ei (dD (aC:=⟨[Oo,Ov,dq (WC E I)],[]⟩) ad0 (by kernel_rfl) (by simp[Mo]) ?_);simp(disch:=first|omega|simp only[DI.ae];omega) [Mo,adZ,ad1,ad2,ad3,ad4,bu,bN,cn,eW,fU,aDj,aDq,-O,-U,-N,-S,-List.map_map]
theorem aiS:bH al 240 [jy,bT [J]] jy:=by have fU:(dq (Wy E I)).fn [jy,aj [[eV J]] 1]=some (.tuple #[jy,Y 0]):=iG (Wy E I);refine ei (dD (aC:=⟨[dq (Wy E I)],[]⟩) adn (by kernel_rfl) (by simp[Mf]) ?_);simp(disch:=first|omega|simp only[DI.ae];omega) [Mf,adm,ado,adp,fU,-O,-U,-N,-S,-List.map_map]
noncomputable def Ou:bC al:=q8 (dq WD) (dq (aiS E I)) rfl
theorem aDn:(Ou E I).f=240:=rfl
theorem aDl:(Ou E I).fn [aj [[eV 1]] 1,aj [[eV 1]] 1]=some (bT [1]):=xv (iG WD)
theorem aDm:(Ou E I).fn [jy,aj [[eV J]] 1]=some jy:=vH (vG WD (λh=>aAT (List.cons.inj h).1)) (iG (aiS E I))
theorem Wz:bH al 195 [dy ⟨false,[1],[J]⟩,.agg #[.bool false,jy,bT [1]]] (Y 1):=by have bu:=aDl E I;have bN:=aDm E I;have cn:(dq Wv).fn [aj [[eV 1]] 1,jy]=some (Y 1):=iG Wv;refine ei (dD (aC:=⟨[Ou E I,dq Wv],[]⟩) ab3 (by kernel_rfl) (by simp[LR]) ?_);simp(disch:=first|omega|simp only[DI.ae];omega) [LR,ab2,ab4,ab5,ab6,ab7,bu,bN,cn,aDn,eb,-O,-U,-N,-S,-List.map_map]
theorem aiP:bH al 139 [dy ⟨false,[1],[J]⟩] (Y 1):=by have bu:=iG aiL;have bN:(dq (Wz E I)).fn [.agg #[.bool false,aj [[eV 1]] 1,aj [[eV J]] 1],.agg #[.bool false,jy,aj [[eV 1]] 1]]=some (Y 1):=iG (Wz E I);refine ei (dD (aC:=⟨[dq aiL,dq (Wz E I)],[]⟩) aaQ (by kernel_rfl) (by simp[Lq]) ?_);simp(disch:=first|omega|simp only[DI.ae];omega) [Lq,aaP,aaR,bu,bN,eb,-O,-U,-N,-S,-List.map_map]
theorem ahD:([dy ⟨false,[],[1]⟩]:List Value)≠[dy ⟨false,[1],[J]⟩]:= λh=>by simp[eb]at h
noncomputable def oi:bC al:=q8 (dq (Pq (x:=⟨false,[],[1]⟩) (by unfold b1.c7;decide))) (dq (aiW E I)) rfl
theorem N9:(oi E I).f=171:=rfl
theorem ahC:(oi E I).fn [.agg #[.bool false,aj [] 1,aj [[eV 1]] 1]]=some (.bool false):=xv (iG (Pq (x:=⟨false,[],[1]⟩) (by unfold b1.c7;decide)))
theorem aC5:(oi E I).fn [.agg #[.bool false,aj [[eV 1]] 1,aj [[eV J]] 1]]=some (.bool true):=vH (vG _ (ahD E I)) (iG (aiW E I))
omit E I in
theorem Gv{b:Bool}:bH al 226 [.bool b] (.bool b):=by refine ei (dD (aC:=⟨[],[]⟩) atr (by kernel_rfl) (by simp[Sz]) ?_);simp(disch:=first|omega|simp only[DI.ae];omega) [Sz,ac5,ac6,-O,-U,-N,-S,-List.map_map]
omit E I in
theorem qA:bH al 225 [aj [[.bool true]] 1,.func (.func 226) #[] #[]] (.bool true):=by have f:(dq (Gv (b:=true))).fn [.bool true]=some (.bool true):=iG Gv;refine ei (dD (aC:=⟨[dq (Gv (b:=true))],[]⟩) atq (by kernel_rfl) (by simp[Sx]) ?_);simp(disch:=first|omega|simp only[DI.ae];omega) [Sx,ac3,ac4,-O,-U,-N,-S,-List.map_map];refine eE (aC:=⟨[dq (Gv (b:=true))],[]⟩) λcS bm=> ?_;simp(disch:=first|omega|simp only[DI.ae];omega) [Sy,Ma,Mb,Mc,Md,f,-O,-U,-N,-S,-List.map_map];refine bm _ _ (eE (aC:=⟨[dq (Gv (b:=true))],[]⟩) λcS bm=> ?_);simp(disch:=first|omega|simp only[DI.ae];omega) [Sy,Ma,Mb,Mc,Md,Md,Ma,Mb,Mc,-O,-U,-N,-S,-List.map_map]
def Ea(eO:ByteArray)(J:Int):ik:=⟨eO,[⟨false,[1],[1]⟩],[[⟨false,[],[1]⟩]],[⟨false,[1],[J]⟩]⟩
theorem Ya{eO:ByteArray}:bH al 176 [zu (Ea eO J)] (.bool true):=by have bu:=ahC E I;have bN:=aC5 E I;have f:(dq qA).fn [aj [[.bool true]] 1,.func (.func 226) #[] #[]]=some (.bool true):=iG qA;refine ei (dD (aC:=⟨[oi E I,dq qA],[]⟩) aqf (by kernel_rfl) (by simp[Sj]) ?_);simp(disch:=first|omega|simp only[DI.ae];omega) [Sj,abF,abG,abH,gZ,Ea,eb,-O,-U,-N,-S,-List.map_map];refine eE (aC:=⟨[oi E I,dq qA],[]⟩) λcS bm=> ?_;simp(disch:=first|omega|simp only[DI.ae];omega) [LH,LG,LF,-O,-U,-N,-S,-List.map_map];refine eE (aC:=⟨[oi E I,dq qA],[]⟩) λaW dU=> ?_;simp(disch:=first|omega|simp only[DI.ae];omega) [G9,G2,G3,G4,G5,bN,eb,-O,-U,-N,-S,-List.map_map];refine eE (aC:=⟨[oi E I,dq qA],[]⟩) λL ck=> ?_;simp(disch:=first|omega|simp only[DI.ae];omega) [G8,G6,G7,eb,-O,-U,-N,-S,-List.map_map];refine ck _ _ (eE (aC:=⟨[oi E I,dq qA],[]⟩) λah rE=> ?_);simp(disch:=first|omega|simp only[DI.ae];omega) [G8,G6,G7,-O,-U,-N,-S,-List.map_map];refine dU _ _ (eE (aC:=⟨[oi E I,dq qA],[]⟩) λgC uV=> ?_);simp(disch:=first|omega|simp only[DI.ae];omega) [G9,G2,G3,G4,G5,-O,-U,-N,-S,-List.map_map];refine bm _ _ (eE (aC:=⟨[oi E I,dq qA],[]⟩) λai0 QF=> ?_);simp(disch:=first|omega|simp only[DI.ae];omega) [LH,LG,LF,-O,-U,-N,-S,-List.map_map];refine eE (aC:=⟨[oi E I,dq qA],[]⟩) λaW dU=> ?_;simp(disch:=first|omega|simp only[DI.ae];omega) [G9,G2,G3,G4,G5,eb,-O,-U,-N,-S,-List.map_map];refine eE (aC:=⟨[oi E I,dq qA],[]⟩) λL ck=> ?_;simp(disch:=first|omega|simp only[DI.ae];omega) [G8,G6,G7,eb,-O,-U,-N,-S,-List.map_map];refine ck _ _ (eE (aC:=⟨[oi E I,dq qA],[]⟩) λah rE=> ?_);simp(disch:=first|omega|simp only[DI.ae];omega) [G8,G6,G7,-O,-U,-N,-S,-List.map_map];refine dU _ _ (eE (aC:=⟨[oi E I,dq qA],[]⟩) λgC uV=> ?_);simp(disch:=first|omega|simp only[DI.ae];omega) [G9,G2,G3,G4,G5,-O,-U,-N,-S,-List.map_map];refine QF _ _ (eE (aC:=⟨[oi E I,dq qA],[]⟩) λaFX aJU=> ?_);simp(disch:=first|omega|simp only[DI.ae];omega) [LH,LG,LF,f,N9,su,rZ,-O,-U,-N,-S,-List.map_map]
def D7(l:List b1):Prop:=l.length<1000000/\ ∀x∈l,bH al 170 [dy x] (.bool true)
omit E I in
theorem ajF{l:List b1}(h:D7 l):bH al 172 [h5 l,.func (.func 170) #[] #[]] (.bool true):=by have:=W0 (u:=170) (l:=l) (p:= λ_=>true) h.1 λx G=>h.2 x G;have e:(l.all λ_=>true)=true:=eQ.2 λ_ _=>rfl;rw[e]at this;exact this
noncomputable def IS:bC al:= .dN 172 (List b1) D7 (λl=>[h5 l,.func (.func 170) #[] #[]]) (λ_=> .bool true) λ_ h=>ajF h
omit E I in
@[simp] theorem aOw:IS.f=172:=rfl
omit E I in
theorem U1{l:List b1}(h:D7 l):IS.fn [h5 l,.func (.func 170) #[] #[]]=some (.bool true):=bC.eh (x:=l) h λy af=>by simpa using af
theorem aAo:D7 [⟨false,[1],[J]⟩]:=⟨by simp,λx G=>by simp at G;subst G;exact aFK E I⟩
omit E I in
theorem aAn:D7 [⟨false,[1],[1]⟩]:=⟨by decide,λx G=>by simp at G;subst G;exact RI (by unfold b1.c7;decide)⟩
omit E I in
theorem aAm:D7 [⟨false,[],[1]⟩]:=⟨by decide,λx G=>by simp at G;subst G;exact RI (by unfold b1.c7;decide)⟩
noncomputable def IU(eO:ByteArray):bC al:=dq (Ya E I (eO:=eO))
theorem U4{eO:ByteArray}:(IU E I eO).f=176:=rfl
theorem aAO{eO:ByteArray}:bH al 112 [zu (Ea eO J)] (.bool true):=by
  have bu:=U1 (aAo E I);have bN:=U1 aAn;have cn:=U1 aAm;have eW:=ahC E I;have aJ:(dq Iz).fn [Y 1,Y 1]=some (.tuple #[.agg #[.bool false,bT [1],bT [1]],Y 0]):=iG Iz;have aU:(dq IA).fn [aj [[.bool false,bT [1],bT [1]]] 3]=some (.tuple #[.agg #[.bool false,bT [1],bT [1]],Y 0]):=iG IA;have cu:(dq Iy).fn [.agg #[.bool false,aj [[eV 1]] 1,aj [[eV 1]] 1],.agg #[.bool false,aj [[eV 1]] 1,aj [[eV 1]] 1]]=some (.tuple #[Y 0,Y 0]):=iG Iy;have gO:(IU E I eO).fn [.agg #[.string eO,aj [[.bool false,bT [1],bT [1]]] 3,aj [[h5 [⟨false,[],[1]⟩]]] 1,aj [[.bool false,bT [1],bT [J]]] 3]]=some (.bool true):=iG (Ya E I (eO:=eO));simp only[h5,mO,xP,eb]at bu bN cn;have dd:dK 1 1 4=true:=by decide
  refine ei (dD (aC:=⟨[r7,IS,oi E I,dq Iz,dq IA,dq Iy,IU E I eO],[]⟩) anh (by kernel_rfl) (by simp[RM]) ?_);simp(disch:=first|omega|simp only[DI.ae];omega) [RM,aah,aai,aaj,aak,gZ,Ea,eb,bu,bN,dd,N9,U4,-O,-U,-N,-S,-List.map_map];refine eE (aC:=⟨[r7,IS,oi E I,dq Iz,dq IA,dq Iy,IU E I eO],[]⟩) λcS bm=> ?_;simp(disch:=first|omega|simp only[DI.ae];omega) [RU,RO,RP,RQ,RR,RS,RT,RN,eb,cn,eW,N9,U4,-O,-U,-N,-S,-List.map_map];refine bm _ _ (eE (aC:=⟨[r7,IS,oi E I,dq Iz,dq IA,dq Iy,IU E I eO],[]⟩) λaW dU=> ?_);simp(disch:=first|omega|simp only[DI.ae];omega) [RU,RO,RP,RQ,-O,-U,-N,-S,-List.map_map];simp(disch:=first|omega|simp only[DI.ae];omega) [RR,RS,RT,RN,eb,aJ,aU,cu,gO,N9,U4,-O,-U,-N,-S,-List.map_map]
omit E I in
theorem aEJ{x:ik}(aa:x.c7):bH al 112 [zu x] (.bool x.mJ):=by obtain⟨eO,s,cy,e⟩:=x;obtain⟨J,E,I,rfl,rfl,rfl⟩:=aa;exact aAO E I (eO:=eO)
theorem Pb:bH al 190 [h5 [⟨false,[1],[J]⟩],Y 1] (.bool true):=by have a:(dq (Jp E I)).fn [.agg #[.bool false,aj [[eV 1]] 1,aj [[eV J]] 1]]=some (.bool true):=iG (Jp E I);refine ei (dD (aC:=⟨[dq (Jp E I)],[]⟩) abY (by kernel_rfl) (by simp[De]) ?_);simp(disch:=first|omega|simp only[DI.ae];omega) [De,LN,LO,LP,eb,-O,-U,-N,-S,-List.map_map];refine eE (aC:=⟨[dq (Jp E I)],[]⟩) λcS bm=> ?_;simp(disch:=first|omega|simp only[DI.ae];omega) [Hn,AE,yC,a,eb,-O,-U,-N,-S,-List.map_map];refine bm _ _ (eE (aC:=⟨[dq (Jp E I)],[]⟩) λcS bm=> ?_);simp(disch:=first|omega|simp only[DI.ae];omega) [Hn,AE,yC,yC,AE,-O,-U,-N,-S,-List.map_map]
omit E I in
theorem WB:bH al 190 [h5 [⟨false,[1],[1]⟩],Y 1] (.bool true):=UR (l:=[⟨false,[1],[1]⟩]) (n:=1) (λx G=>by simp at G;subst G;unfold b1.c7;decide) (by decide)
omit E I in
theorem aiR:bH al 190 [h5 [⟨false,[],[1]⟩],Y 1] (.bool true):=UR (l:=[⟨false,[],[1]⟩]) (n:=1) (λx G=>by simp at G;subst G;unfold b1.c7;decide) (by decide)
noncomputable def ql:bC al:=q8 (dq (Pb E I)) (q8 (dq WB) (dq aiR) rfl) rfl
theorem Om:(ql E I).f=190:=rfl
theorem aDe:(ql E I).fn [aj [[.bool false,bT [1],bT [J]]] 3,Y 1]=some (.bool true):=xv (iG (Pb E I))
theorem aDd:(ql E I).fn [aj [[.bool false,bT [1],bT [1]]] 3,Y 1]=some (.bool true):=vH (vG (Pb E I) λh=>by simp[eb]at h;omega) (xv (iG WB))
theorem aDc:(ql E I).fn [aj [[.bool false,bT [],bT [1]]] 3,Y 1]=some (.bool true):=vH (vG (Pb E I) λh=>by simp[eb]at h) (vH (vG WB λh=>by simp[eb]at h) (iG aiR))
noncomputable def q9:bC al:=q8 (dq (UQ (x:=⟨false,[],[1]⟩) (by unfold b1.c7;decide) rfl)) (dq (aiP E I)) rfl
theorem Ok:(q9 E I).f=139:=rfl
theorem aDa:(q9 E I).fn [.agg #[.bool false,aj [] 1,aj [[eV 1]] 1]]=some (Y 0):=xv (iG (UQ (x:=⟨false,[],[1]⟩) (by unfold b1.c7;decide) rfl))
theorem aDb:(q9 E I).fn [.agg #[.bool false,aj [[eV 1]] 1,aj [[eV J]] 1]]=some (Y 1):=vH (vG _ (ahD E I)) (iG (aiP E I))
theorem aAN{eO:ByteArray}:bH al 137 [zu (Ea eO J)] (.bool true):=by have bu:=aDe E I;have bN:=aDd E I;have cn:=aDc E I;have eW:=aDa E I;have fU:=aDb E I;have aJ:(dq q4).fn [Y 1]=some (.agg #[.bool false,bT [1],bT [1]]):=iG q4;have aU:(dq r5).fn [aj [[.bool false,bT [1],bT [1]]] 3]=some (.tuple #[.agg #[.bool false,bT [1],bT [1]],Y 0]):=iG r5;have cu:(dq r4).fn [.agg #[.bool false,aj [[eV 1]] 1,aj [[eV 1]] 1],.agg #[.bool false,aj [[eV 1]] 1,aj [[eV 1]] 1]]=some (.bool true):=iG r4;refine ei (dD (aC:=⟨[ql E I,q9 E I,dq q4,dq r5,dq r4],[]⟩) aok (by kernel_rfl) (by simp[R4]) ?_);simp(disch:=first|omega|simp only[DI.ae];omega) [R4,aaC,aaD,aaG,aaH,aaI,aaJ,aaK,aaL,aaE,aaF,bu,bN,Ok,Om,gZ,Ea,eb,-O,-U,-N,-S,-List.map_map];refine eE (aC:=⟨[ql E I,q9 E I,dq q4,dq r5,dq r4],[]⟩) λcS bm=> ?_;simp(disch:=first|omega|simp only[DI.ae];omega) [Sb,R9,cn,eW,Ok,Om,eb,-O,-U,-N,-S,-List.map_map];refine bm _ _ (eE (aC:=⟨[ql E I,q9 E I,dq q4,dq r5,dq r4],[]⟩) λaW dU=> ?_);simp(disch:=first|omega|simp only[DI.ae];omega) [Sb,R9,aJ,aU,cu,Ok,Om,eb,-O,-U,-N,-S,-List.map_map];refine eE (aC:=⟨[ql E I,q9 E I,dq q4,dq r5,dq r4],[]⟩) λP wC=> ?_;simp(disch:=first|omega|simp only[DI.ae];omega) [Se,Sa,-O,-U,-N,-S,-List.map_map];refine eE (aC:=⟨[ql E I,q9 E I,dq q4,dq r5,dq r4],[]⟩) λQ b2=> ?_;simp(disch:=first|omega|simp only[DI.ae];omega) [Sd,R5,R6,fU,Ok,Om,eb,-O,-U,-N,-S,-List.map_map];refine eE (aC:=⟨[ql E I,q9 E I,dq q4,dq r5,dq r4],[]⟩) λR je=> ?_;simp(disch:=first|omega|simp only[DI.ae];omega) [Sc,R7,-O,-U,-N,-S,-List.map_map];refine je _ _ (eE (aC:=⟨[ql E I,q9 E I,dq q4,dq r5,dq r4],[]⟩) λaF3 KM=> ?_);simp(disch:=first|omega|simp only[DI.ae];omega) [Sc,R7,-O,-U,-N,-S,-List.map_map];refine b2 _ _ (eE (aC:=⟨[ql E I,q9 E I,dq q4,dq r5,dq r4],[]⟩) λaF2 aJZ=> ?_);simp(disch:=first|omega|simp only[DI.ae];omega) [Sd,R5,R6,-O,-U,-N,-S,-List.map_map];refine wC _ _ (eE (aC:=⟨[ql E I,q9 E I,dq q4,dq r5,dq r4],[]⟩) λaF0 aJY=> ?_);simp(disch:=first|omega|simp only[DI.ae];omega) [Se,Sa,-O,-U,-N,-S,-List.map_map];refine eE (aC:=⟨[ql E I,q9 E I,dq q4,dq r5,dq r4],[]⟩) λdX z9=> ?_;simp(disch:=first|omega|simp only[DI.ae];omega) [Sf,R8,-O,-U,-N,-S,-List.map_map];refine z9 _ _ (eE (aC:=⟨[ql E I,q9 E I,dq q4,dq r5,dq r4],[]⟩) λaF7 aJ0=> ?_);simp(disch:=first|omega|simp only[DI.ae];omega) [Sf,R8,-O,-U,-N,-S,-List.map_map]
omit E I in
theorem aC3{x:ik}(aa:x.c7):bH al 137 [zu x] (.bool x.mJ):=by obtain⟨eO,s,cy,e⟩:=x;obtain⟨J,E,I,rfl,rfl,rfl⟩:=aa;exact aAN E I (eO:=eO)
end
noncomputable def Eu:bC al:= .dN 170 b1 b1.c7 (λx=>[dy x]) (λx=> .bool x.bF.small) λ_ aa=>RI aa
@[simp] theorem aOJ:Eu.f=170:=rfl
@[simp] theorem aOK{n:Bool}{a b:List Int}(h:(b1.mk n a b).c7):Eu.fn [.agg #[.bool n,bT a,bT b]]=some (.bool (b1.mk n a b).bF.small):=bC.eh (x:=b1.mk n a b) h λy af=>zv af
noncomputable def Oa:bC al:= .dN 171 b1 b1.c7 (λx=>[dy x]) (λx=> .bool (decide (0<x.bF.n))) λ_ aa=>Pq aa
@[simp] theorem aOs:Oa.f=171:=rfl
@[simp] theorem aOt{n:Bool}{a b:List Int}(h:(b1.mk n a b).c7):Oa.fn [.agg #[.bool n,bT a,bT b]]=some (.bool (decide (0<(b1.mk n a b).bF.n))):=bC.eh (x:=b1.mk n a b) h λy af=>zv af
end Go.Proofs.YtmmkkggfmigppaaGreat
namespace Go.Big
structure pQ where
  a:Int
  b:Int
  c:Int
  d:Int
  e:Int
  deriving DecidableEq
structure B9 where
  name:ByteArray
  ext:Int
  NY:Int
  Ny:Int
  deriving DecidableEq
structure gB where
  name:ByteArray
  jY:Int
  parent:Int
  jc:Int
  oj:b1
  deriving DecidableEq
structure mQ where
  name:ByteArray
  model:Int
  w9:Int
  deriving DecidableEq
structure iL where
  name:ByteArray
  k:Int
  m:Int
  q:Int
  aC:pQ
  bf:List Int
  j2:List b1
  pE:b1
  fw:b1
  deriving DecidableEq
structure qy where
  name:ByteArray
  qi:Int
  deriving DecidableEq
structure bg where
  ext:Int
  cN:List ik
  bf:List B9
  bP:List gB
  aZ:List mQ
  cK:List iL
  cm:List qy
  deriving DecidableEq
def bg.nil:bg:=⟨0,[],[],[],[],[],[]⟩
end Go.Big
namespace Go.Proofs.YtmmkkggfmigppaaGreat
open Go Go.DI Go.Big
abbrev fT(s:ByteArray):Value:= .string s
abbrev zV(l:List ByteArray):Value:=aj (l.map λs=>[fT s]) 1
abbrev cp(l:List Int):Value:=aj (l.map λs=>[Y s]) 1
def gE(x:B9):List Value:=[fT x.name,Y x.ext,Y x.NY,Y x.Ny]
def ez(x:gB):List Value:=[fT x.name,Y x.jY,Y x.parent,Y x.jc,.bool x.oj.kh,bT x.oj.a,bT x.oj.b]
def gr(x:mQ):List Value:=[fT x.name,Y x.model,Y x.w9]
def e5(x:iL):List Value:=[fT x.name,Y x.k,Y x.m,Y x.q,Y x.aC.a,Y x.aC.b,Y x.aC.c,Y x.aC.d,Y x.aC.e,cp x.bf,h5 x.j2,.bool x.pE.kh,bT x.pE.a,bT x.pE.b,.bool x.fw.kh,bT x.fw.a,bT x.fw.b]
def hx(x:qy):List Value:=[fT x.name,Y x.qi]
def aL(x:bg):List Value:=[Y x.ext,aj (x.cN.map gZ) 4,aj (x.bf.map gE) 4,aj (x.bP.map ez) 7,aj (x.aZ.map gr) 3,aj (x.cK.map e5) 17,aj (x.cm.map hx) 2]
@[simp] theorem aRK{l dh:List ByteArray}:(l.map λs=>[fT s])=(dh.map λs=>[fT s])↔l=dh:=xa λx y h=>by simpa using h
@[simp] theorem afU{l dh:List Int}:(l.map λs=>[Y s])=(dh.map λs=>[Y s])↔l=dh:=xa λx y h=>by simpa using h
end Go.Proofs.YtmmkkggfmigppaaGreat
namespace Go.Big
def pn(x:eN):Bool:=x.ok&&decide (od x .nJ<=0)
def oN(x:b1):Bool:=x.bF.small&&decide (0<x.bF.n)
def nM(m:Int)(r:List b1)(t h:b1):Bool:=decide ((r.length:Int)=if 1>m then 1 else m)&&(r.all oN&&(t.bF.small&&(pn t.bF&&h.bF.small)))
end Go.Big
namespace Go.Proofs.YtmmkkggfmigppaaGreat
open Go Go.DI Go.Big
theorem aAa{x:b1}(aa:x.c7):bH al 230 [dy x] (.bool (pn x.bF)):=aAb aa
theorem aBY{x:b1}(aa:x.c7):bH al 229 [dy x] (.bool (oN x)):=by refine ei (dD (aC:=⟨[Eu,Oa],[]⟩) atu (by kernel_rfl) (by simp[SC]) ?_);cases h:x.bF.small<;>simp(disch:=first|omega|simp only[aO];omega) [SC,adb,ade,eb,h,oN,-O,-U,-N,-S,-List.map_map]
noncomputable def U9:bC al:= .dN 230 b1 b1.c7 (λx=>[dy x]) (λx=> .bool (pn x.bF)) λ_ aa=>aAa aa
@[simp] theorem aOR:U9.f=230:=rfl
@[simp] theorem aOS{n:Bool}{a b:List Int}(h:(b1.mk n a b).c7):U9.fn [.agg #[.bool n,bT a,bT b]]=some (.bool (pn (b1.mk n a b).bF)):=bC.eh (x:=b1.mk n a b) h λy af=>zv af
noncomputable def Vo:bC al:= .dN 172 (List b1) (λl=>(∀x∈l,x.c7)/\l.length<1000000) (λl=>[h5 l,.func (.func 229) #[] #[]]) (λl=> .bool (l.all oN)) λ_ h=>W0 h.2 λx G=>aBY (h.1 x G)
@[simp] theorem aPV:Vo.f=172:=rfl
@[simp] theorem aPW{l:List b1}(h:(∀x∈l,x.c7)/\l.length<1000000):Vo.fn [aj (l.map eb) 3,.func (.func 229) #[] #[]]=some (.bool (l.all oN)):=bC.eh (x:=l) h λy af=>by simpa using af
theorem aBZ{m:Int}{r:List b1}{t h:b1}(aw:(∀x∈r,x.c7)/\r.length<1000000)(bA:t.c7)(aQ:h.c7):bH al 178 [Y m,h5 r,dy t,dy h] (.bool (nM m r t h)):=by
  refine ei (dD (aC:=⟨[Vo,Eu,U9],[]⟩) aqh (by kernel_rfl) (by simp[Db]) ?_);by_cases E:(r.length:Int)=if 1>m then 1 else m
  · cases I:r.all oN
    · simp(disch:=first|omega|simp only[aO];omega) [Db,Ha,Hb,eb,E,I,nM,-O,-U,-N,-S,-List.map_map]
    · cases av:t.bF.small
      · simp(disch:=first|omega|simp only[aO];omega) [Db,Ha,Hb,eb,E,I,av,nM,-O,-U,-N,-S,-List.map_map]
      · cases aH:pn t.bF<;>simp(disch:=first|omega|simp only[aO];omega) [Db,Ha,Hb,eb,E,I,av,aH,nM,-O,-U,-N,-S,-List.map_map]
  · simp(disch:=first|omega|simp only[aO];omega) [Db,Ha,Hb,eb,E,nM,-O,-U,-N,-S,-List.map_map]
end Go.Proofs.YtmmkkggfmigppaaGreat
namespace Go.Big
def lN(k m q:Int)(s:pQ):Bool:=dK k 1 6&&(dK m 0 4&&(decide (k+m<=8)&&(dK q k (k+m)&&(decide (s.a=0)&&(dK s.a 0 8&&(dK s.b 0 8&&(dK s.c 0 8&&(dK s.d 0 8&&dK s.e 0 8))))))))
end Go.Big
namespace Go.Proofs.YtmmkkggfmigppaaGreat
open Go Go.DI Go.Big
theorem am7{x:Int}:bH al 228 [Y x] (.bool (dK x 0 8)):=by refine ei (dD (aC:=⟨[r7],[]⟩) att (by kernel_rfl) (by simp[SB]) ?_);simp(disch:=first|omega|simp only[aO];omega) [SB,ac9,ada,-O,-U,-N,-S,-List.map_map]
noncomputable def U6:bC al:= .dN 228 (Int) (λx=>True) (λx=>[Y x]) (λx=> .bool (dK x 0 8)) (λx h=>am7)
@[simp] theorem aOH:U6.f=228:=rfl
@[simp] theorem aOI{x:Int}:U6.fn ([Y x])=some (.bool (dK x 0 8)):=bC.eh (x:=x) trivial λy af=>by simpa using af
theorem W1{l:List Int}(az:l.length<1000000):bH al 227 [cp l,.func (.func 228) #[] #[]] (.bool (l.all λx=>dK x 0 8)):=by
  refine ei (dD (aC:=⟨[],[]⟩) ats (by kernel_rfl) (by simp[SA]) ?_);simp(disch:=first|omega|simp only[aO];omega) [SA,ac7,ac8,-O,-U,-N,-S,-List.map_map];refine h9 (aC:=⟨[U6],[]⟩) (λi A t=>((l.take i).all λx=>dK x 0 8)=true/\A 1= .func (.func 228) #[] #[]/\A 7=cp l/\A 8=Y l.length/\A 9=Y i) l.length ?_ ?_ 0 _ _ (ht _) ⟨by simp,by simp,by simp,by simp,by simp⟩
  · rintro i A t ai ⟨aA,ba,fa,b9,gT⟩ cS bm;have G:l[i]?=some l[i]:=cD ai;have ax:l[i]∈l:=jQ ai;have cg:=gY (n:=i) (by omega);have b6:(i:Int)<l.length:=(by omega);cases hb:dK l[i] 0 8
    · simp(disch:=first|omega|simp only[aO];omega) [Me,Hw,Hx,Hy,Hz,ba,fa,b9,gT,b6,hb,-O,-U,-N,-S,-List.map_map];exact⟨_,ax,hb⟩
    · simp(disch:=first|omega|simp only[aO];omega) [Me,Hw,Hx,Hy,Hz,ba,fa,b9,gT,b6,cg,hb,-O,-U,-N,-S,-List.map_map];exact bm _ _ ⟨by rw[l6 G,s6,aA];simp[hb],by simp[ba],by simp[fa],by simp[b9],by simp⟩
  · rintro A t ⟨aA,ba,fa,b9,gT⟩;rw[nk]at aA;simp(disch:=first|omega|simp only[aO];omega) [Me,Hw,Hx,Hy,Hz,b9,gT,Hz,Hw,Hx,Hy,-O,-U,-N,-S,-List.map_map];simpa using aA
noncomputable def U0:bC al:= .dN 227 (List Int) (λl=>l.length<1000000) (λl=>[cp l,.func (.func 228) #[] #[]]) (λl=> .bool (l.all λx=>dK x 0 8)) λ_ h=>W1 h
@[simp] theorem aOu:U0.f=227:=rfl
@[simp] theorem aOv{a b c d e:Int}:U0.fn [aj [[Y a],[Y b],[Y c],[Y d],[Y e]] 1,.func (.func 228) #[] #[]]=some (.bool (dK a 0 8&&(dK b 0 8&&(dK c 0 8&&(dK d 0 8&&dK e 0 8))))):=by
  have:=bC.eh (ok:= λ_ h=>W1 h) (x:=[a,b,c,d,e]) (bX:= λl=>l.length<1000000) (enc:= λl=>[cp l,.func (.func 228) #[] #[]]) (by simp) λy af=>afU.1 (ZF.1 (List.cons.inj af).1).1;have e:[a,b,c,d,e].all (λx=>dK x 0 8)=(dK a 0 8&&(dK b 0 8&&(dK c 0 8&&(dK d 0 8&&dK e 0 8)))):=by simp
  rw[<-e];exact this
theorem aBe{k m q:Int}{s:pQ}:bH al 177 [Y k,Y m,Y q,.agg #[Y s.a,Y s.b,Y s.c,Y s.d,Y s.e]] (.bool (lN k m q s)):=by
  refine ei (dD (aC:=⟨[r7,U0],[]⟩) aqg (by kernel_rfl) (by simp[yB]) ?_);have amg:5<=maxLen:=by unfold maxLen;omega
  cases E:dK k 1 6
  · simp(disch:=first|omega|simp only[aO];omega) [yB,AA,AB,AD,E,lN,-O,-U,-N,-S,-List.map_map]
  · cases I:dK m 0 4
    · simp(disch:=first|omega|simp only[aO];omega) [yB,AA,AB,AD,E,I,lN,-O,-U,-N,-S,-List.map_map]
    · have cg:IntKind.i64.wrap (k+m)=k+m:=(by simp[dK]at E I;exact fV (by omega) (by omega));by_cases av:k+m<=8
      · have rD: ¬(8<k+m):=(by omega);cases aH:dK q k (k+m)
        · simp(disch:=first|omega|simp only[aO];omega) [yB,AA,AB,AD,E,I,av,rD,aH,cg,lN,-O,-U,-N,-S,-List.map_map]
        · by_cases br:s.a=0
          · simp(disch:=first|omega|simp only[aO];omega) [yB,AA,AB,AD,E,I,av,rD,aH,br,cg,amg,su,rZ,lN,-O,-U,-N,-S,-List.map_map]
          · simp(disch:=first|omega|simp only[aO];omega) [yB,AA,AB,AD,E,I,av,rD,aH,br,cg,lN,-O,-U,-N,-S,-List.map_map]
      · have rD:8<k+m:=(by omega);simp(disch:=first|omega|simp only[aO];omega) [yB,AA,AB,AD,E,I,av,rD,cg,lN,-O,-U,-N,-S,-List.map_map]
end Go.Proofs.YtmmkkggfmigppaaGreat
namespace Go.DI
open Go
section
variable {P:Program}
open Classical in
noncomputable def ie.dN(f:Nat)(eo:Type)(enc:eo->List Value)(u:eo->W->Option (Value×W))(ok: ∀x t r aI,u x t=some (r,aI)-> ∀cj:Value->W->Prop,cj r aI->fi P f (enc x) t cj):ie P:=
  ⟨f,λargs t=>if h: ∃x,enc x=args then u h.choose t else none,λargs t r aI h=>by
    split at h
    · next G=>have:=ok _ t r aI h;rw[G.choose_spec]at this;exact this
    · cases h⟩
theorem ie.eh{f:Nat}{eo:Type}{enc:eo->List Value}{u:eo->W->Option (Value×W)}{ok: ∀x t r aI,u x t=some (r,aI)-> ∀cj:Value->W->Prop,cj r aI->fi P f (enc x) t cj}{x:eo}{t:W}(ai: ∀y,enc y=enc x->y=x):(ie.dN f eo enc u ok).fn (enc x) t=u x t:=by have gP: ∃y,enc y=enc x:=⟨x,rfl⟩;simp only[ie.dN,dif_pos gP];rw[ai _ gP.choose_spec]
end
end Go.DI
namespace Go.Proofs.YtmmkkggfmigppaaGreat
open Go Go.DI Go.Big
noncomputable def Vb:bC al:= .dN 179 (ByteArray) (λT=>True) (λT=>[.string T]) (λT=> .bool (nH T)) (λT h=>aAR)
@[simp] theorem aO0:Vb.f=179:=rfl
@[simp] theorem aO1{T:ByteArray}:Vb.fn ([.string T])=some (.bool (nH T)):=bC.eh (x:=T) trivial λy af=>by simpa using af
noncomputable def Vw:bC al:= .dN 112 ik ik.c7 (λx=>[zu x]) (λx=> .bool x.mJ) λ_ h=>aEJ h
@[simp] theorem aQd:Vw.f=112:=rfl
theorem aim{x:ik}{n:ByteArray}{s e:List b1}{cy:List (List b1)}(h:[zu x]=[.agg #[fT n,h5 s,X9 cy,h5 e]]):x=⟨n,s,cy,e⟩:=by obtain⟨ho,dG,cd,km⟩:=x;simpa[gZ]using h
@[simp] theorem aQe{n:ByteArray}{s e:List b1}{cy:List (List b1)}(h:(ik.mk n s cy e).c7):Vw.fn [.agg #[fT n,aj (s.map eb) 3,aj (cy.map λr=>[h5 r]) 1,aj (e.map eb) 3]]=some (.bool (ik.mk n s cy e).mJ):=bC.eh (x:=ik.mk n s cy e) h λy af=>aim af
end Go.Proofs.YtmmkkggfmigppaaGreat
namespace Go.Big
def pQ.at(s:pQ)(i:Int):Int:=if i=0 then s.a else if i=1 then s.b else if i=2 then s.c else if i=3 then s.d else s.e
end Go.Big
namespace Go.Proofs.YtmmkkggfmigppaaGreat
open Go Go.DI Go.Big
noncomputable def Vc:bC al:= .dN 177 (Int×Int×Int×pQ) (λ_=>True) (λp=>[Y p.1,Y p.2.1,Y p.2.2.1,.agg #[Y p.2.2.2.a,Y p.2.2.2.b,Y p.2.2.2.c,Y p.2.2.2.d,Y p.2.2.2.e]]) (λp=> .bool (lN p.1 p.2.1 p.2.2.1 p.2.2.2)) λ_ _=>aBe
@[simp] theorem aO2:Vc.f=177:=rfl
@[simp] theorem aO3{k m q a b c d e:Int}:Vc.fn [Y k,Y m,Y q,.agg #[Y a,Y b,Y c,Y d,Y e]]=some (.bool (lN k m q ⟨a,b,c,d,e⟩)):=bC.eh (x:=(k,m,q,(⟨a,b,c,d,e⟩:pQ))) trivial λy af=>by obtain⟨nj,se,EU,Jl,Jm,O6,O7,O8⟩:=y;simp at af;obtain⟨E,I,av,aH,br,cW,fu,hK⟩:=af;simp[E,I,av,aH,br,cW,fu,hK]
noncomputable def Vp:bC al:= .dN 178 (Int×List b1×b1×b1) (λp=>((∀x∈p.2.1,x.c7)/\p.2.1.length<1000000)/\p.2.2.1.c7/\p.2.2.2.c7) (λp=>[Y p.1,h5 p.2.1,dy p.2.2.1,dy p.2.2.2]) (λp=> .bool (nM p.1 p.2.1 p.2.2.1 p.2.2.2)) λ_ h=>aBZ h.1 h.2.1 h.2.2
@[simp] theorem aPT:Vp.f=178:=rfl
@[simp] theorem aPU{m:Int}{r:List b1}{n ho:Bool}{a b dG cd:List Int}(h:((∀x∈r,x.c7)/\r.length<1000000)/\(b1.mk n a b).c7/\(b1.mk ho dG cd).c7):Vp.fn [Y m,aj (r.map eb) 3,.agg #[.bool n,bT a,bT b],.agg #[.bool ho,bT dG,bT cd]]=some (.bool (nM m r ⟨n,a,b⟩ ⟨ho,dG,cd⟩)):=bC.eh (x:=(m,r,(⟨n,a,b⟩:b1),(⟨ho,dG,cd⟩:b1))) h λy af=>by obtain⟨nj,se,⟨EU,Jl,Jm⟩,⟨O6,O7,O8⟩⟩:=y;simp[eb]at af;obtain⟨E,I,⟨av,aH,br⟩,cW,fu,hK⟩:=af;simp[E,I,av,aH,br,cW,fu,hK]
def l1(s:ByteArray):List ByteArray->Option Nat
  |[]=>none
  |x::l=>if s=x then some 0 else(l1 s l).map (· +1)
theorem aEX{a b c:Int}:bH al 134 [Y a,Y b,Y c] (.bool (dK a b c)):=by
  refine ei (dD (aC:=⟨[],[]⟩) aog (by kernel_rfl) (by simp[Ln]) ?_);by_cases h:b<=a
  · have bS:a>=b:=h;simp(disch:=first|omega|simp only[aO];omega) [Ln,R1,R2,h,dK,-O,-U,-N,-S,-List.map_map]
  · have bS: ¬a>=b:=h;simp(disch:=first|omega|simp only[aO];omega) [Ln,R1,R2,h,dK,-O,-U,-N,-S,-List.map_map]
noncomputable def r8:bC al:= .dN 134 (Int×Int×Int) (λ⟨a,b,c⟩=>True) (λ⟨a,b,c⟩=>[Y a,Y b,Y c]) (λ⟨a,b,c⟩=> .bool (dK a b c)) (λ⟨a,b,c⟩ h=>aEX)
@[simp] theorem aQh:r8.f=134:=rfl
@[simp] theorem aQi{a:Int}{b:Int}{c:Int}:r8.fn ([Y a,Y b,Y c])=some (.bool (dK a b c)):=bC.eh (x:=(a,b,c)) trivial λy af=>by obtain⟨uA,nj,se⟩:=y;simpa using af
def r9(a b c d e f:Int):Bool:=decide (a<=4)&&(decide (b<=4)&&(decide (c<=40)&&(decide (d<=24)&&(decide (e<=4)&&decide (f<=12)))))
theorem aCC{a b c d e f:Int}:bH al 135 [Y a,Y b,Y c,Y d,Y e,Y f] (.bool (r9 a b c d e f)):=by
  refine ei (dD (aC:=⟨[],[]⟩) aoh (by kernel_rfl) (by simp[yz]) ?_);by_cases E:a<=4
  · by_cases I:b<=4
    · by_cases av:c<=40
      · by_cases aH:d<=24
        · by_cases br:e<=4
          · simp(disch:=first|omega|simp only[aO];omega) [yz,Ay,Az,E,I,av,aH,br,r9,-O,-U,-N,-S,-List.map_map]
          · simp(disch:=first|omega|simp only[aO];omega) [yz,Ay,Az,E,I,av,aH,br,r9,-O,-U,-N,-S,-List.map_map]
        · simp(disch:=first|omega|simp only[aO];omega) [yz,Ay,Az,E,I,av,aH,r9,-O,-U,-N,-S,-List.map_map]
      · simp(disch:=first|omega|simp only[aO];omega) [yz,Ay,Az,E,I,av,r9,-O,-U,-N,-S,-List.map_map]
    · simp(disch:=first|omega|simp only[aO];omega) [yz,Ay,Az,E,I,r9,-O,-U,-N,-S,-List.map_map]
  · simp(disch:=first|omega|simp only[aO];omega) [yz,Ay,Az,E,r9,-O,-U,-N,-S,-List.map_map]
noncomputable def Ew:bC al:= .dN 135 (Int×Int×Int×Int×Int×Int) (λ⟨a,b,c,d,e,f⟩=>True) (λ⟨a,b,c,d,e,f⟩=>[Y a,Y b,Y c,Y d,Y e,Y f]) (λ⟨a,b,c,d,e,f⟩=> .bool (r9 a b c d e f)) (λ⟨a,b,c,d,e,f⟩ h=>aCC)
@[simp] theorem aPG:Ew.f=135:=rfl
@[simp] theorem aPH{a:Int}{b:Int}{c:Int}{d:Int}{e:Int}{f:Int}:Ew.fn ([Y a,Y b,Y c,Y d,Y e,Y f])=some (.bool (r9 a b c d e f)):=bC.eh (x:=(a,b,c,d,e,f)) trivial λy af=>by obtain⟨uA,nj,se,EU,Jl,Jm⟩:=y;simpa using af
def yw(s:ByteArray)(l:List ByteArray):Int:=match l1 s l with
  |none=> -1
  |some i=>i
theorem RF{s:ByteArray}{l:List ByteArray}: ∀{i:Nat},(∀j (h:j<l.length),j<i->l[j]≠s)->i<=l.length->l1 s l=(l1 s (l.drop i)).map (· +i)
  |0,_,_=>by simp
  | i+1,h,ai=>by rw[RF (i:=i) (λj bj F8=>h j bj (by omega)) (by omega)];have G:l.drop i=l[i]::l.drop (i+1):=Pg (by omega);have cJ: ¬s=l[i]:= λe=>h i (by omega) (by omega) e.symm;rw[G];simp only[l1,if_neg cJ,Option.map_map];congr 1;funext k;simp only[Function.comp_apply];omega
theorem ZI{l:List ByteArray}{s:ByteArray}(az:l.length<1000000):bH al 189 [zV l,fT s] (Y (yw s l)):=by
  refine ei (dD (aC:=⟨[],[]⟩) aqX (by kernel_rfl) (by simp[Sk]) ?_);simp(disch:=first|omega|simp only[aO];omega) [Sk,abQ,abR,-O,-U,-N,-S,-List.map_map];refine h9 (aC:=⟨[],[]⟩) (λi A t=>(∀j (h:j<l.length),j<i->l[j]≠s)/\A 0=zV l/\A 1=fT s/\A 5=Y i) l.length ?_ ?_ 0 _ _ (ht _) ⟨by simp,by simp,by simp,by simp⟩
  · rintro i A t ai ⟨aA,cE,ba,cq⟩ cS bm;have G:l[i]?=some l[i]:=cD ai;have cg:=gY (n:=i) (by omega);have b6:(i:Int)<l.length:=(by omega);by_cases hb:l[i]=s
    · have e:yw s l=i:=by
        unfold yw;rw[RF aA (by omega),Pg ai];simp[l1,hb]
      simp(disch:=first|omega|simp only[aO];omega) [LM,Hk,Hl,cE,ba,cq,b6,hb,e,-O,-U,-N,-S,-List.map_map]
    · simp(disch:=first|omega|simp only[aO];omega) [LM,Hk,Hl,cE,ba,cq,b6,cg,hb,-O,-U,-N,-S,-List.map_map];exact bm _ _ ⟨λj bj F8=>by
        by_cases e:j=i
        · subst e;exact hb
        · exact aA j bj (by omega),by simp[cE],by simp[ba],by simp⟩
  · rintro A t ⟨aA,cE,ba,cq⟩;have e:yw s l= -1:=by
      unfold yw;rw[RF aA (ey _),List.drop_length];rfl
    simp(disch:=first|omega|simp only[aO];omega) [LM,Hk,Hl,cE,cq,Hl,Hk,e,-O,-U,-N,-S,-List.map_map]
noncomputable def Oi:bC al:= .dN 140 b1 b1.c7 (λx=>[dy x]) (λx=> .bool x.bF.small) λ_ aa=>ahu aa
@[simp] theorem aPJ:Oi.f=140:=rfl
@[simp] theorem aPK{n:Bool}{a b:List Int}(h:(b1.mk n a b).c7):Oi.fn [.agg #[.bool n,bT a,bT b]]=some (.bool (b1.mk n a b).bF.small):=bC.eh (x:=b1.mk n a b) h λy af=>zv af
noncomputable def zh:bC al:= .dN 139 b1 (λx=>x.c7/\x.bF.ok=true) (λx=>[dy x]) (λx=>Y (od x.bF .nil)) λ_ aa=>UQ aa.1 aa.2
@[simp] theorem aPE:zh.f=139:=rfl
@[simp] theorem aPF{n:Bool}{a b:List Int}(h:(b1.mk n a b).c7/\(b1.mk n a b).bF.ok=true):zh.fn [.agg #[.bool n,bT a,bT b]]=some (Y (od (b1.mk n a b).bF .nil)):=bC.eh (x:=b1.mk n a b) h λy af=>zv af
noncomputable def Ex:bC al:= .dN 138 b1 b1.c7 (λx=>[dy x]) (λx=> .bool x.bF.ok) λ_ aa=>aC1 aa
@[simp] theorem aPP:Ex.f=138:=rfl
@[simp] theorem aPQ{n:Bool}{a b:List Int}(h:(b1.mk n a b).c7):Ex.fn [.agg #[.bool n,bT a,bT b]]=some (.bool (b1.mk n a b).bF.ok):=bC.eh (x:=b1.mk n a b) h λy af=>zv af
theorem agX{x:eN}(dk:0<=x.n):(od x .nil=0)=(x.n=0):=by
  have e:x.n*eN.nil.d=x.n:=by show x.n*1=x.n;omega
  have aU:eN.nil.n*x.d=0:=by show 0*x.d=0;omega
  unfold od;rw[e,aU];apply propext;split
  · omega
  · split<;>omega
theorem aBq{x:eN}(dk:0<=x.n):(od x .nil=0)= ¬(0<x.n):=by rw[agX dk];apply propext;omega
def ry(k m:Int):Bool:=decide (1<=k)&&(decide (k<=6)&&(decide (0<=m)&&(decide (m<=4)&&decide (k+m<=8))))
theorem aky{k m:Int}:bH al 197 [Y k,Y m] (.bool (ry k m)):=by
  refine ei (dD (aC:=⟨[],[]⟩) ard (by kernel_rfl) (by simp[AF]) ?_);by_cases E:1<=k
  · have jF:k>=1:=E;by_cases I:k<=6
    · by_cases av:0<=m
      · have rD:m>=0:=av;by_cases aH:m<=4
        · have cg:IntKind.i64.wrap (k+m)=k+m:=fV (by omega) (by omega);simp(disch:=first|omega|simp only[aO];omega) [AF,Dh,Di,E,I,av,aH,cg,ry,-O,-U,-N,-S,-List.map_map]
        · simp(disch:=first|omega|simp only[aO];omega) [AF,Dh,Di,E,I,av,aH,ry,-O,-U,-N,-S,-List.map_map]
      · have rD: ¬m>=0:=av;simp(disch:=first|omega|simp only[aO];omega) [AF,Dh,Di,E,I,av,ry,-O,-U,-N,-S,-List.map_map]
    · simp(disch:=first|omega|simp only[aO];omega) [AF,Dh,Di,E,I,ry,-O,-U,-N,-S,-List.map_map]
  · have jF: ¬k>=1:=E;simp(disch:=first|omega|simp only[aO];omega) [AF,Dh,Di,E,ry,-O,-U,-N,-S,-List.map_map]
noncomputable def Ob:bC al:= .dN 197 (Int×Int) (λ⟨k,m⟩=>True) (λ⟨k,m⟩=>[Y k,Y m]) (λ⟨k,m⟩=> .bool (ry k m)) (λ⟨k,m⟩ h=>aky)
@[simp] theorem aOz:Ob.f=197:=rfl
@[simp] theorem aOA{k:Int}{m:Int}:Ob.fn ([Y k,Y m])=some (.bool (ry k m)):=bC.eh (x:=(k,m)) trivial λy af=>by obtain⟨uA,nj⟩:=y;simpa using af
theorem akx{k m:Int}:ry k m=(dK k 1 6&&(dK m 0 4&&decide (k+m<=8))):=by simp only[ry,dK,zI]
def BU(s:pQ):Bool:=dK s.b 0 8&&(dK s.c 0 8&&(dK s.d 0 8&&dK s.e 0 8))
theorem aCj{k m q:Int}{s:pQ}:bH al 141 [Y k,Y m,Y q,.agg #[Y s.a,Y s.b,Y s.c,Y s.d,Y s.e]] (.bool (lN k m q s)):=by
  refine ei (dD (aC:=⟨[Ob,r8],[]⟩) aol (by kernel_rfl) (by simp[C7]) ?_);have e:lN k m q s=(ry k m&&(dK q k (k+m)&&(decide (s.a=0)&&BU s))):=by
    rw[akx];by_cases aA:s.a=0
    · simp[lN,BU,aA,show dK 0 0 8=true from rfl,zI]
    · simp[lN,BU,aA]
  rw[e];cases E:ry k m
  · simp(disch:=first|omega|simp only[aO];omega) [C7,GQ,GR,GS,yA,E,-O,-U,-N,-S,-List.map_map]
  · have cg:IntKind.i64.wrap (k+m)=k+m:=(by simp[ry]at E;exact fV (by omega) (by omega));cases I:dK q k (k+m)
    · simp(disch:=first|omega|simp only[aO];omega) [C7,GQ,GR,GS,yA,E,I,cg,-O,-U,-N,-S,-List.map_map]
    · by_cases av:s.a=0
      · simp(disch:=first|omega|simp only[aO];omega) [C7,GQ,GR,GS,E,I,av,cg,-O,-U,-N,-S,-List.map_map];refine h9 (aC:=⟨[Ob,r8],[]⟩) (λi A t=>(∀j:Nat,j<i->dK (s.at ((j:Int)+1)) 0 8=true)/\t.X 0=some ⟨[Y 0,Y s.b,Y s.c,Y s.d,Y s.e],true⟩/\A 7=cw 0/\A 9=Y ((i:Int)+1)) 4 ?_ ?_ 0 _ _ (ht _) ⟨by simp,by simp(disch:=first|omega|simp only[aO];omega) [-O,-U,-N,-S,-List.map_map],by simp,by simp⟩
        · rintro i A t ai ⟨aA,aN,fa,gT⟩ cS bm;have fl:=a6 aN;have aH:i=0\/i=1\/i=2\/i=3:=(by omega);cases hb:dK (s.at ((i:Int)+1)) 0 8
          · have aU:BU s=false:=by
              rcases aH with rfl|rfl|rfl|rfl<;>simp[pQ.at]at hb<;>simp[BU,hb]
            rcases aH with rfl|rfl|rfl|rfl<;>simp[pQ.at]at hb<;>simp(disch:=first|omega|simp only[aO];omega) [Ls,GU,yA,fa,gT,aN,hb,aU,-O,-U,-N,-S,-List.map_map]
          · have az: ∀j:Nat,j<i+1->dK (s.at ((j:Int)+1)) 0 8=true:= λj bj=>by
              by_cases e:j=i
              · subst e;exact hb
              · exact aA j (by omega)
            rcases aH with rfl|rfl|rfl|rfl<;>simp[pQ.at]at hb<;>simp(disch:=first|omega|simp only[aO];omega) [Ls,GU,yA,fa,gT,aN,hb,-O,-U,-N,-S,-List.map_map]<;>exact bm _ _ ⟨az,aN,by simp[fa],by simp;rfl⟩
        · rintro A t ⟨aA,aN,fa,gT⟩;have aU:BU s=true:=by
            have pv:=aA 0 (by decide);have gd:=aA 1 (by decide);have hj:=aA 2 (by decide);have ix:=aA 3 (by decide);simp[pQ.at]at pv gd hj ix;simp[BU,pv,gd,hj,ix]
          simp(disch:=first|omega|simp only[aO];omega) [Ls,GU,yA,yA,GU,gT,aU,-O,-U,-N,-S,-List.map_map]
      · simp(disch:=first|omega|simp only[aO];omega) [C7,GQ,GR,GS,yA,E,I,av,cg,-O,-U,-N,-S,-List.map_map]
noncomputable def Oj(n:Nat)(az:n<1000000):bC al:= .dN 190 (List b1) (λl=> ∀x∈l,x.c7) (λl=>[h5 l,Y n]) (λl=> .bool (decide (l.length=n)&&l.all λx=>x.bF.small)) λ_ h=>UR h az
@[simp] theorem aPL{n:Nat}{az:n<1000000}:(Oj n az).f=190:=rfl
@[simp] theorem aPM{n:Nat}{az:n<1000000}{l:List b1}(h: ∀x∈l,x.c7):(Oj n az).fn [aj (l.map eb) 3,Y n]=some (.bool (decide (l.length=n)&&l.all λx=>x.bF.small)):=bC.eh (x:=l) h λy af=>by simpa using af
theorem aCb{m:Int}(dk:0<=m)(aH:m<=4){l:List b1}(aa:(∀x∈l,x.c7)/\l.length<1000000):bH al 198 [h5 l,Y m] (.bool (decide ((l.length:Int)=if 1>m then 1 else m)&&l.all oN)):=by
  obtain⟨n,az⟩: ∃n:Nat,(if 1>m then(1:Int)else m)=n:=⟨(if 1>m then(1:Int)else m).toNat,by split<;>omega⟩;have yk:(if m<1 then(1:Int)else m)=n:=az;have Zb:n<1000000:=by split at az<;>omega
  rw[az];have hV:decide ((l.length:Int)=(n:Int))=decide (l.length=n):=by congr 1;apply propext;omega
  rw[hV];refine ei (dD (aC:=⟨[Oj n Zb,zh],[]⟩) are (by kernel_rfl) (by simp[LU]) ?_);obtain⟨rH,sB⟩:=aa;cases E:(decide (l.length=n)&&l.all λx=>x.bF.small)
  · have e:(decide (l.length=n)&&l.all oN)=false:=by
      by_cases aB:l.length=n
      · simp only[aB,decide_true,s8,zF]at E⊢;obtain⟨x,G,h⟩:=E;exact⟨x,G,by simp only[oN,a1,not_and];intro bS;exact absurd bS h⟩
      · simp[aB]
    rw[e];simp(disch:=first|omega|simp only[aO];omega) [LU,Sp,Sq,Sr,Dj,yk,E,-O,-U,-N,-S,-List.map_map]
  · simp(disch:=first|omega|simp only[aO];omega) [LU,Sp,Sq,Sr,yk,E,-O,-U,-N,-S,-List.map_map];simp only[a1,e2]at E;obtain⟨aB,E⟩:=E;have wv:decide (l.length=n)=true:=(by simp[aB]);rw[wv,s8];refine h9 (aC:=⟨[Oj n Zb,zh],[]⟩) (λi A t=>(l.take i).all oN=true/\A 0=h5 l/\A 5=Y i) l.length ?_ ?_ 0 _ _ (ht _) ⟨by simp,by simp,by simp⟩
    · rintro i A t ai ⟨aA,cE,cq⟩ cS bm;have G:l[i]?=some l[i]:=cD ai;have ax:l[i]∈l:=jQ ai;have cg:=gY (n:=i) (by omega);have b6:(i:Int)<l.length:=(by omega);have fk:=eQ.1 E _ ax;have Rq:l[i].c7/\l[i].bF.ok=true:=⟨rH _ ax,ahR fk⟩;have bK:=aBq (b1.hS Rq.1);by_cases ab:0<l[i].bF.n
      · have Rv: ¬od l[i].bF .nil=0:=(by rw[bK];exact λh=>h ab);simp(disch:=first|omega|simp only[aO];omega) [LV,Ho,Dj,cE,cq,b6,cg,eb,Rv,-O,-U,-N,-S,-List.map_map];exact bm _ _ ⟨by rw[l6 G,s6,aA];simp[oN,fk,ab],by simp[cE],by simp⟩
      · have Rv:od l[i].bF .nil=0:=(by rw[bK];exact ab);simp(disch:=first|omega|simp only[aO];omega) [LV,Ho,Dj,cE,cq,b6,eb,Rv,-O,-U,-N,-S,-List.map_map];exact⟨_,ax,by simp[oN,ab]⟩
    · rintro A t ⟨aA,cE,cq⟩;rw[nk]at aA;simp(disch:=first|omega|simp only[aO];omega) [LV,Ho,Dj,cE,cq,Dj,Ho,-O,-U,-N,-S,-List.map_map];simpa using aA
noncomputable def U8(o:b1)(h:bH al 193 [Y 1] (dy o)):bC al:= .dN 193 Unit (λ_=>True) (λ_=>[Y 1]) (λ_=>dy o) λ_ _=>h
@[simp] theorem aOP{o:b1}{h:bH al 193 [Y 1] (dy o)}:(U8 o h).f=193:=rfl
@[simp] theorem aOQ{o:b1}{h:bH al 193 [Y 1] (dy o)}:(U8 o h).fn [Y 1]=some (dy o):=bC.eh (x:=()) trivial λ_ _=>rfl
noncomputable def Va(o:b1)(h: ∀x:b1,(x.c7/\x.bF.ok=true)->bH al 199 [dy o,dy x] (.bool (!pn x.bF))):bC al:= .dN 199 b1 (λx=>x.c7/\x.bF.ok=true) (λx=>[dy o,dy x]) (λx=> .bool (!pn x.bF)) h
@[simp] theorem aOT{o:b1}{h: ∀x:b1,(x.c7/\x.bF.ok=true)->bH al 199 [dy o,dy x] (.bool (!pn x.bF))}:(Va o h).f=199:=rfl
@[simp] theorem aOU{o:b1}{h: ∀x:b1,(x.c7/\x.bF.ok=true)->bH al 199 [dy o,dy x] (.bool (!pn x.bF))}{n:Bool}{a b:List Int}(G:(b1.mk n a b).c7/\(b1.mk n a b).bF.ok=true):(Va o h).fn [.agg #[.bool o.kh,bT o.a,bT o.b],.agg #[.bool n,bT a,bT b]]=some (.bool (!pn (b1.mk n a b).bF)):=
  bC.eh (x:=b1.mk n a b) G λy af=>by obtain⟨ho,dG,cd⟩:=y;simpa[eb]using af
theorem aAc(x:b1)(G:x.c7/\x.bF.ok=true):bH al 199 [dy ⟨false,[1],[1]⟩,dy x] (.bool (!pn x.bF)):=by
  have h:=aCf G.1;have e: ∀y∈I6,decide (od .nJ y.bF<0)= !pn y.bF:=by decide
  rw[<-e x G.1];exact h
noncomputable def Vq(m:Int)(h:0<=m/\m<=4):bC al:= .dN 198 (List b1) (λl=>(∀x∈l,x.c7)/\l.length<1000000) (λl=>[h5 l,Y m]) (λl=> .bool (decide ((l.length:Int)=if 1>m then 1 else m)&&l.all oN)) λ_ aa=>aCb h.1 h.2 aa
@[simp] theorem aPX{m:Int}{h:0<=m/\m<=4}:(Vq m h).f=198:=rfl
@[simp] theorem aPY{m:Int}{h:0<=m/\m<=4}{l:List b1}(aa:(∀x∈l,x.c7)/\l.length<1000000):(Vq m h).fn [aj (l.map eb) 3,Y m]=some (.bool (decide ((l.length:Int)=if 1>m then 1 else m)&&l.all oN)):=bC.eh (x:=l) aa λy af=>by simpa using af
theorem akP{o:b1}(aE:bH al 193 [Y 1] (dy o))(aB: ∀x:b1,(x.c7/\x.bF.ok=true)->bH al 199 [dy o,dy x] (.bool (!pn x.bF))){m:Int}(ax:0<=m/\m<=4){r:List b1}{t h:b1}(aw:(∀x∈r,x.c7)/\r.length<1000000)(bA:t.c7)(aQ:h.c7):
    bH al 142 [Y m,h5 r,dy t,dy h] (.bool (nM m r t h)):=by
  refine ei (dD (aC:=⟨[Vq m ax,Oi,U8 o aE,Va o aB],[]⟩) aom (by kernel_rfl) (by simp[C8]) ?_);have e:nM m r t h=((decide ((r.length:Int)=if 1>m then 1 else m)&&r.all oN)&&(t.bF.small&&(pn t.bF&&h.bF.small))):=by unfold nM;rw[zI]
  rw[e];cases E:(decide ((r.length:Int)=if 1>m then 1 else m)&&r.all oN)
  · simp(disch:=first|omega|simp only[aO];omega) [C8,GV,GW,eb,E,-O,-U,-N,-S,-List.map_map]
  · cases I:t.bF.small
    · simp(disch:=first|omega|simp only[aO];omega) [C8,GV,GW,eb,E,I,-O,-U,-N,-S,-List.map_map]
    · have aKp:t.c7/\t.bF.ok=true:=⟨bA,ahR I⟩;cases av:pn t.bF
      · simp(disch:=first|omega|simp only[aO];omega) [C8,GV,GW,eb,E,I,av,-O,-U,-N,-S,-List.map_map]
      · simp(disch:=first|omega|simp only[aO];omega) [C8,GV,GW,eb,E,I,av,-O,-U,-N,-S,-List.map_map]
theorem akO{m:Int}(ax:0<=m/\m<=4){r:List b1}{t h:b1}(aw:(∀x∈r,x.c7)/\r.length<1000000)(bA:t.c7)(aQ:h.c7):bH al 142 [Y m,h5 r,dy t,dy h] (.bool (nM m r t h)):=
  akP (o:=⟨false,[1],[1]⟩) q4 aAc ax aw bA aQ
theorem tM{a b c:Int}:dK a b c=true↔b<=a/\a<=c:=by simp[dK]
def dS{c4:Type}(f:Nat->c4)(i:Nat)(v:c4):Nat->c4:= λk=>if k=i then v else f k
@[simp] theorem sc{c4:Type}{f:Nat->c4}{i:Nat}{v:c4}:dS f i v i=v:=by simp[dS]
theorem nR{c4:Type}{f:Nat->c4}{i k:Nat}{v:c4}(h:k≠i):dS f i v k=f k:=by simp[dS,h]
def eG(l:List ByteArray):List Value:=(l.map λs=>[fT s]).flatten
theorem Ui{l:List ByteArray}: ∀r∈l.map (λs=>[fT s]),r.length=1/\ ∀v∈r,ha v=true:= λr aw=>by obtain⟨x,_,rfl⟩:=hn.1 aw;exact⟨rfl,λv ad=>by simp at ad;subst ad;rfl⟩
theorem Ee{l:List ByteArray}{n:Nat}(az:l.length=n):(∀t,fy (fy (DI.dI 8 t)) (me 1 n (eG l))=some (l.map λs=>[fT s]))/\(∀t,(eG l).flatMap (ed 8 t)=[])/\(eG l).length=n:=by
  have bK: ∀r∈l.map (λs=>[fT s]),r.length=1:= λr h=>(Ui r h).1;have av:(eG l).length=n:=by rw[eG,sq bK,j5,az,Nat.mul_one]
  refine⟨λt=> ?_,λt=>IE λv ad=> ?_,av⟩
  · have:=Kb bK;rw[j5,az]at this;rw[eG,this];exact Is λr h=>Is λv ad=>x6 ((Ui r h).2 v ad)
  · obtain⟨r,aw,rL⟩:=List.mem_flatten.1 ad;exact(Ui r aw).2 v rL
theorem Bv{l:List ByteArray}{s:ByteArray}:eG (l++[s])=eG l++[fT s]:=by simp[eG]
noncomputable def Vn:bC al:= .dN 137 ik ik.c7 (λx=>[zu x]) (λx=> .bool x.mJ) λ_ h=>aC3 h
@[simp] theorem aPR:Vn.f=137:=rfl
@[simp] theorem aPS{n:ByteArray}{s e:List b1}{cy:List (List b1)}(h:(ik.mk n s cy e).c7):Vn.fn [.agg #[fT n,aj (s.map eb) 3,aj (cy.map λr=>[h5 r]) 1,aj (e.map eb) 3]]=some (.bool (ik.mk n s cy e).mJ):=bC.eh (x:=ik.mk n s cy e) h λy af=>aim af
noncomputable def Vk:bC al:= .dN 141 (Int×Int×Int×pQ) (λ_=>True) (λp=>[Y p.1,Y p.2.1,Y p.2.2.1,.agg #[Y p.2.2.2.a,Y p.2.2.2.b,Y p.2.2.2.c,Y p.2.2.2.d,Y p.2.2.2.e]]) (λp=> .bool (lN p.1 p.2.1 p.2.2.1 p.2.2.2)) λ_ _=>aCj
@[simp] theorem aPu:Vk.f=141:=rfl
@[simp] theorem aPv{k m q a b c d e:Int}:Vk.fn [Y k,Y m,Y q,.agg #[Y a,Y b,Y c,Y d,Y e]]=some (.bool (lN k m q ⟨a,b,c,d,e⟩)):=bC.eh (x:=(k,m,q,(⟨a,b,c,d,e⟩:pQ))) trivial λy af=>by obtain⟨nj,se,EU,Jl,Jm,O6,O7,O8⟩:=y;simp at af;obtain⟨E,I,av,aH,br,cW,fu,hK⟩:=af;simp[E,I,av,aH,br,cW,fu,hK]
noncomputable def Vj:bC al:= .dN 142 (Int×List b1×b1×b1) (λp=>(0<=p.1/\p.1<=4)/\((∀x∈p.2.1,x.c7)/\p.2.1.length<1000000)/\p.2.2.1.c7/\p.2.2.2.c7) (λp=>[Y p.1,h5 p.2.1,dy p.2.2.1,dy p.2.2.2]) (λp=> .bool (nM p.1 p.2.1 p.2.2.1 p.2.2.2)) λ_ h=>akO h.1 h.2.1 h.2.2.1 h.2.2.2
@[simp] theorem aPo:Vj.f=142:=rfl
@[simp] theorem aPp{m:Int}{r:List b1}{n ho:Bool}{a b dG cd:List Int}(h:(0<=m/\m<=4)/\((∀x∈r,x.c7)/\r.length<1000000)/\(b1.mk n a b).c7/\(b1.mk ho dG cd).c7):Vj.fn [Y m,aj (r.map eb) 3,.agg #[.bool n,bT a,bT b],.agg #[.bool ho,bT dG,bT cd]]=some (.bool (nM m r ⟨n,a,b⟩ ⟨ho,dG,cd⟩)):=bC.eh (x:=(m,r,(⟨n,a,b⟩:b1),(⟨ho,dG,cd⟩:b1))) h λy af=>by obtain⟨nj,se,⟨EU,Jl,Jm⟩,⟨O6,O7,O8⟩⟩:=y;simp[eb]at af;obtain⟨E,I,⟨av,aH,br⟩,cW,fu,hK⟩:=af;simp[E,I,av,aH,br,cW,fu,hK]
theorem Jj{P:Program}{c:H}{A:aR}{t:W}{Q:dA->aR->W->Prop}(d J:Nat)(aD:A d= .slice none 0 0)(h: ∀aI,aI.next=t.next+1->aI.X t.next=some ⟨[],true⟩->(∀a,a<t.next->aI.X a=t.X a)->fZ P c (qt A d (.slice (some ⟨t.next,0,none⟩) 0 J)) aI Q):fZ P c A t Q:=
  ES (d:=d) (J:=J) aD (h _ (by simp) (eD (by simp)) λa aA=>by rw[bR (by omega),W.e0])
def pX(l:List ByteArray):List (Value×Value):=l.map λx=>(fT x,.bool true)
theorem Ua{s:ByteArray}: ∀{l:List ByteArray},jk (fT s) (pX l)=(l1 s l).map λ_=> .bool true
  |[]=>rfl
  | x::l=>by
    simp only[pX,mO,jk,o7,l1];by_cases h:s=x
    · simp[h]
    · have:=Ua (s:=s) (l:=l);simp only[pX]at this;simp only[h,decide_false,if_false,this,Option.map_map,kB];rfl
theorem agC{s:ByteArray}: ∀{l:List ByteArray},l1 s l=none->lM (fT s) (.bool true) (pX l)=pX (l++[s])
  |[],_=>by simp[pX,lM]
  | x::l,h=>by
    simp only[l1]at h;split at h
    · cases h
    · next K=>have:=agC (s:=s) (l:=l) (by cases bd:l1 s l with|none=>rfl|some v=>rw[bd]at h;cases h);simp only[pX]at this;simp only[pX,mO,lM,o7,K,decide_false,kB,if_false,xK,this]
theorem azQ{s:ByteArray}{l:List ByteArray}:oa .str (fT s) (pX l)=true:=by simp only[oa,pX,n6,s8,List.all_map,eQ];intro x _;rfl
theorem ZC{s:ByteArray}: ∀{l:List ByteArray},s∉l->l1 s l=none
  |[],_=>rfl
  | x::l,h=>by simp only[hH,not_or]at h;simp only[l1,if_neg h.1,ZC h.2];rfl
theorem aBb{l:List ByteArray}(h:l.Nodup){i:Nat}(ai:i<l.length):l[i]∉l.take i:= λax=>by
  obtain⟨j,bj,bn⟩:=j4 ax;rw[List.getElem_take]at bn;have oF:j<i:=by rw[nU]at bj;omega
  exact(B3.1 h j i (by omega) ai oF) bn
theorem Ed{l:List ByteArray}:(eG l).length=l.length:=(Ee (l:=l) rfl).2.2
noncomputable def er(l:List ByteArray):Bool:=l.all nH&&decide l.Nodup
theorem agO{c4:Type}{l:List c4}{i:Nat}(ai:i<l.length)(h:(l.take i).Nodup)(az:l[i]∉l.take i):(l.take (i+1)).Nodup:=by rw[l6 (cD ai),vU];exact⟨h,by simp,λa aA b hb=>by simp at hb;subst hb;exact λe=>az (e▸aA)⟩
theorem ZD{s:ByteArray}: ∀{l:List ByteArray} {k:Nat},l1 s l=some k->s∈l
  |[],k,h=>by cases h
  | x::l,k,h=>by
    simp only[l1]at h;split at h
    · next e=>exact e▸List.mem_cons_self ..
    · cases bd:l1 s l with
      |none=>rw[bd]at h;cases h
      |some j=>exact B4 _ (ZD bd)
theorem T8{s:ByteArray}: ∀{l:List ByteArray},s∈l->l1 s l≠none
  |[],h=>by cases h
  | x::l,h=>by
    simp only[l1];split
    · exact λh=>by cases h
    · next e=>
      have ax:s∈l:=by
        rcases hH.1 h with rfl|h
        · exact absurd rfl e
        · exact h
      have:=T8 ax;intro bd;cases bK:l1 s l with
      |none=>exact this bK
      |some k=>rw[bK]at bd;cases bd
theorem akN{l:List ByteArray}{i:Nat}(ai:i<l.length)(h:l[i]∈l.take i):er l=false:=by unfold er;rw[zC];exact .inr (zH λaD=>aBb aD ai h)
theorem aBd{l:List ByteArray}{i:Nat}(ai:i<l.length)(h:nH l[i]=false):er l=false:=by unfold er;rw[zC];exact .inl (by rw[zF];exact⟨_,jQ ai,by simp[h]⟩)
theorem aEu{l:List ByteArray}(az:l.length<1000000):bH al 114 [zV l] (.bool (er l)):=by
  refine ei (dD (aC:=⟨[],[]⟩) anj (by kernel_rfl) (by simp[RV]) ?_);simp(disch:=first|omega|simp only[aO];omega) [RV,aal,aam,aan,-O,-U,-N,-S,-List.map_map];refine h9 (aC:=⟨[Vb],[]⟩) (λi A t=>((l.take i).all nH=true/\(l.take i).Nodup)/\t.eS 0=some (pX (l.take i))/\A 3= .map (some 0)/\A 7=zV l/\A 8=Y l.length/\A 9=Y i) l.length ?_ ?_ 0 _ _ (ht _) ⟨by simp,by simp(disch:=first|omega|simp only[aO];omega) [pX,-O,-U,-N,-S,-List.map_map],by simp,by simp,by simp,by simp⟩
  · rintro i A t ai ⟨⟨aA,aD⟩,z4,eL,fa,b9,gT⟩ cS bm;have G:l[i]?=some l[i]:=cD ai;have cg:=gY (n:=i) (by omega);have b6:(i:Int)<l.length:=(by omega);have aa:oa .str (fT l[i]) (pX (l.take i))=true:=azQ;have aMq:=a6 (iz z4).1;cases kr:nH l[i]
    · have a2:=aBd ai kr;simp(disch:=first|omega|simp only[aO];omega) [GI,CZ,C0,C1,C2,fa,b9,gT,b6,kr,a2,-jk,-lM,-oa,-O,-U,-N,-S,-List.map_map]
    · cases ep:l1 l[i] (l.take i)with
      | some k=>have a2:=akN ai (ZD ep);have aT:jk (fT l[i]) (pX (l.take i))=some (.bool true):=(by rw[Ua,ep];rfl);simp(disch:=first|omega|simp only[aO];omega) [GI,CZ,C0,C1,C2,eL,fa,b9,gT,b6,kr,z4,aT,aa,a2,-jk,-lM,-oa,-O,-U,-N,-S,-List.map_map]
      | none=>have aT:jk (fT l[i]) (pX (l.take i))=none:=(by rw[Ua,ep];rfl);have ny:l[i]∉l.take i:= λax=>T8 ax ep;simp(disch:=first|omega|simp only[aO];omega) [GI,CZ,C0,C1,C2,eL,fa,b9,gT,b6,cg,kr,z4,aT,aa,-jk,-lM,-oa,-O,-U,-N,-S,-List.map_map];refine bm _ _ ⟨⟨by rw[l6 G,s6,aA];simp[kr],agO ai aD ny⟩,?_,by simp[eL],by simp[fa],by simp[b9],by simp⟩;rw[l6 G,<-agC ep];simp(disch:=first|omega|simp only[aO];omega) [-lM,-O,-U,-N,-S,-List.map_map]
  · rintro A t ⟨⟨aA,aD⟩,z4,eL,fa,b9,gT⟩;rw[nk]at aA aD;have a2:er l=true:=(by simp[er,aA,aD]);simp(disch:=first|omega|simp only[aO];omega) [GI,CZ,C0,C1,C2,b9,gT,C2,CZ,C0,C1,a2,-O,-U,-N,-S,-List.map_map]
noncomputable def Vs:bC al:= .dN 114 (List ByteArray) (λl=>l.length<1000000) (λl=>[zV l]) (λl=> .bool (er l)) λ_ h=>aEu h
@[simp] theorem aP3:Vs.f=114:=rfl
@[simp] theorem aP4{l:List ByteArray}(h:l.length<1000000):Vs.fn [aj (l.map λs=>[fT s]) 1]=some (.bool (er l)):=bC.eh (x:=l) h λy af=>by simpa using af
def iK(x:iL)(n:Nat):Bool:=lN x.k x.m x.q x.aC&&(!x.bf.isEmpty&&(nM x.m x.j2 x.pE x.fw&&((x.bf.all λm=>dK m 0 ((n:Int)-1))&&decide x.bf.Nodup)))
structure iL.fO(x:iL):Prop where
  gx:(∀y∈x.j2,y.c7)/\x.j2.length<1000000
  aTa:x.pE.c7
  aSZ:x.fw.c7
  len:x.bf.length<1000000
theorem aBc{l:List Int}(h:l.Nodup){i:Nat}(ai:i<l.length):l[i]∉l.take i:= λax=>by
  obtain⟨j,bj,bn⟩:=j4 ax;rw[List.getElem_take]at bn;have oF:j<i:=by rw[nU]at bj;omega
  exact(B3.1 h j i (by omega) ai oF) bn
theorem aEN{x:iL}{n:Nat}(az:n<1000000)(h:iL.fO x):bH al 113 [.agg (e5 x).toArray,Y n] (.bool (iK x n)):=by
  refine ei (dD (aC:=⟨[Vc,Vp],[]⟩) ani (by kernel_rfl) (by simp[CV]) ?_);obtain⟨aH,br,cW,iZ⟩:=h;cases E:lN x.k x.m x.q x.aC
  · have a2:iK x n=false:=(by simp[iK,E]);simp(disch:=first|omega|simp only[aO];omega) [CV,GC,GD,GF,GG,wW,e5,E,a2,-O,-U,-N,-S,-List.map_map]
  by_cases lI:x.bf.length=0
  · have l0:(x.bf.length:Int)=0:=(by omega);have a2:iK x n=false:=by
      have:x.bf.isEmpty=true:=(by rw[Pf];exact lI);simp[iK,this]
    simp(disch:=first|omega|simp only[aO];omega) [CV,GC,GD,GF,GG,wW,e5,E,lI,a2,-O,-U,-N,-S,-List.map_map]
  have l0: ¬(x.bf.length:Int)=0:=by omega
  have Gi:((∀y∈x.j2,y.c7)/\x.j2.length<1000000)/\x.pE.c7/\x.fw.c7:=⟨aH,br,cW⟩;cases av:nM x.m x.j2 x.pE x.fw
  · have a2:iK x n=false:=(by simp[iK,av]);simp(disch:=first|omega|simp only[aO];omega) [CV,GC,GD,GF,GG,wW,e5,E,av,lI,a2,-O,-U,-N,-S,-List.map_map]
  have al8:(n:Int)*1<=140737488355328/\n<=140737488355328/\(n:Int)<=140737488355328/\(n:Int)<=9223372036854775807:=by omega
  have alX:x.bf.isEmpty=false:=by
    cases bd:x.bf.isEmpty
    · rfl
    · rw[Pf]at bd;exact absurd bd lI
  have Rm:iK x n=((x.bf.all λm=>dK m 0 ((n:Int)-1))&&decide x.bf.Nodup):=by simp[iK,E,av,alX]
  simp(disch:=first|omega|simp only[aO];omega) [CV,GC,GD,GF,GG,e5,E,av,lI,al8,-O,-U,-N,-S,-List.map_map];refine h9 (aC:=⟨[r7],[]⟩) (λi A t=> ∃aV:List Bool,aV.length=n/\(∀j:Nat,j<n->aV[j]?=some (decide ((j:Int)∈x.bf.take i)))/\((x.bf.take i).all λm=>dK m 0 ((n:Int)-1))=true/\(x.bf.take i).Nodup/\t.X 3=some ⟨aV.map Value.bool,true⟩/\A 1=Y n/\A 5= .slice (some ⟨3,0,none⟩) n 1/\A 39=cp x.bf/\A 40=Y x.bf.length/\A 41=Y i) x.bf.length ?_ ?_ 0 _ _ (ht _) ⟨List.replicate n false,by simp,λj bj=>by simp[bj],by simp,by simp,by simp(disch:=first|omega|simp only[aO];omega) [-O,-U,-N,-S,-List.map_map],by simp,by simp,by simp,by simp,by simp⟩
  · rintro i A t ai ⟨aV,FX,cT,hX,js,KE,ba,cq,IP,Et,IQ⟩ cS bm;have G:x.bf[i]?=some x.bf[i]:=cD ai;have cg:=gY (n:=i) (by omega);have c8:IntKind.i64.wrap ((n:Int)-1)=(n:Int)-1:=fV (by omega) (by omega);have b6:(i:Int)<x.bf.length:=(by omega);cases sA:dK x.bf[i] 0 ((n:Int)-1)
    · have a2:iK x n=false:=by
        rw[Rm,zC];exact .inl (by rw[zF];exact⟨_,jQ ai,by simp[sA]⟩)
      simp(disch:=first|omega|simp only[aO];omega) [GH,CW,CX,CY,wW,ba,IP,Et,IQ,b6,c8,sA,a2,-O,-U,-N,-S,-List.map_map]
    have Y2:=tM.1 sA;obtain⟨aW,dU⟩:=jS Y2.1;rw[dU]at sA Y2;have mB:aW<n:=(by omega);have tz:(aW:Int)<(n:Int):=(by omega);have YG:aW+1<=n:=mB;have Zz:x.bf[i]?=some (aW:Int):=(by rw[G,dU]);have aMw:=a6 KE;by_cases ax:(aW:Int)∈x.bf.take i
    · have QL:aV[aW]?=some true:=(by rw[cT aW mB];simp[ax]);have Qz:(aV.map Value.bool)[aW]?=some (.bool true):=(by rw[oZ,QL];rfl);have a2:iK x n=false:=by
        rw[Rm,zC];exact .inr (zH λaD=>aBc aD ai (dU▸ax))
      simp(disch:=first|omega|simp only[aO];omega) [GH,CW,CX,CY,wW,ba,cq,IP,Et,IQ,b6,c8,F4,dU,tz,YG,FX,Qz,sA,KE,a2,-O,-U,-N,-S,-List.map_map]
    · have QL:aV[aW]?=some false:=(by rw[cT aW mB];simp[ax]);have Qz:(aV.map Value.bool)[aW]?=some (.bool false):=(by rw[oZ,QL];rfl);have aly: ∀j:Nat,j<n->(aV.set aW true)[j]?=some (decide ((j:Int)∈x.bf.take (i+1))):= λj bj=>by
        rw[s5,l6 Zz];by_cases e:aW=j
        · subst e;simp[FX,mB]
        · rw[if_neg e,cT j bj];have: ¬(j:Int)=(aW:Int):=(by omega);simp[this]
      simp(disch:=first|omega|simp only[aO];omega) [GH,CW,CX,CY,wW,ba,cq,IP,Et,IQ,b6,cg,c8,F4,dU,tz,YG,FX,Qz,sA,KE,-O,-U,-N,-S,-List.map_map];refine bm _ _ ⟨aV.set aW true,by simp[FX],aly,?_,agO ai js (dU▸ax),?_,by simp[ba],by simp[cq],by simp[IP],by simp[Et],by simp⟩
      · rw[l6 Zz,s6,hX];simp[sA]
      · simp(disch:=first|omega|simp only[aO];omega) [-O,-U,-N,-S,-List.map_map]
  · rintro A t ⟨aV,FX,cT,hX,js,KE,ba,cq,IP,Et,IQ⟩;rw[nk]at hX js;have a2:iK x n=true:=(by rw[Rm,hX];simp[js]);simp(disch:=first|omega|simp only[aO];omega) [GH,CW,CX,CY,wW,Et,IQ,wW,CW,CX,CY,a2,-O,-U,-N,-S,-List.map_map]
noncomputable def Vx(n:Nat)(az:n<1000000):bC al:= .dN 113 iL iL.fO (λx=>[.agg (e5 x).toArray,Y n]) (λx=> .bool (iK x n)) λ_ h=>aEN az h
@[simp] theorem aQf{n:Nat}{az:n<1000000}:(Vx n az).f=113:=rfl
@[simp] theorem aQg{n:Nat}{az:n<1000000}{x:iL}(h:iL.fO x):(Vx n az).fn [.agg #[fT x.name,Y x.k,Y x.m,Y x.q,Y x.aC.a,Y x.aC.b,Y x.aC.c,Y x.aC.d,Y x.aC.e,cp x.bf,h5 x.j2,.bool x.pE.kh,bT x.pE.a,bT x.pE.b,.bool x.fw.kh,bT x.fw.a,bT x.fw.b],Y n]=some (.bool (iK x n)):=bC.eh (x:=x) h λy af=>by obtain⟨nj,se,EU,Jl,⟨Jm,O6,O7,O8,aTq⟩,aTi,aTj,⟨aTk,aTl,aTm⟩,⟨aTn,aTo,aTp⟩⟩:=y;obtain⟨cb,cG,dn,gy,⟨pG,rg,aiE,aiF,O5⟩,O4,aTb,⟨aTc,aTd,aTe⟩,⟨aTf,aTg,aTh⟩⟩:=x;simp[e5]at af;obtain⟨E,I,av,aH,br,cW,fu,hK,iZ,x9,KH,FV,Qt,Qu,Qv,Qw,Qx⟩:=af;subst E;subst I;subst av;subst aH;subst br;subst cW;subst fu;subst hK;subst iZ;subst x9;subst KH;subst FV;subst Qt;subst Qu;subst Qv;subst Qw;subst Qx;rfl
def oh(d:gB):Bool:=decide (d.name=⟨#[]⟩)&&(decide (d.jY=0)&&(decide (d.parent= -1)&&(decide (d.jc=0)&&(d.oj.bF.small&& !decide (0<d.oj.bF.n)))))
def Bg(ds:List gB)(d:gB):Bool:=match ds[d.parent.toNat]? with
  |some q=>decide (q.jY=d.jY-1)
  |none=>false
def lk(ds:List gB)(i:Nat)(d:gB):Bool:=dK d.parent 0 i&&(Bg ds d&&(dK d.jY 1 4&&(dK d.jc 1 64&&d.oj.bF.small)))
def nZ(ds:List gB):Bool:=match ds with
  |[]=>false
  | r::l=>oh r&&(List.range l.length).all λi=>match l[i]? with
    |some d=>lk ds i d
    |none=>true
theorem PW{r:gB}{l:List gB}:nZ (r::l)=(oh r&&(List.range l.length).all λi=>match l[i]? with
    |some d=>lk (r::l) i d
    |none=>true):=rfl
structure bg.fO(u:bg):Prop where
  cN: ∀x∈u.cN,x.c7
  bP: ∀x∈u.bP,x.oj.c7
  cK: ∀x∈u.cK,iL.fO x
  Bt:u.cN.length<=1000
  eO:u.bf.length<=1000
  jN:u.bP.length<=1000
  pr:u.aZ.length<=1000
  xb:u.cK.length<=1000
  rV:u.cm.length<=1000
theorem akG{r:gB}{l:List gB}{i:Nat}{d:gB}(G:l[i]?=some d)(h:lk (r::l) i d=false):nZ (r::l)=false:=by rw[PW];rw[zC];refine .inr ?_;rw[zF];exact⟨i,ou.2 (dO.1 G).1,by simp[G,h]⟩
theorem akF{r:gB}{l:List gB}(aw:oh r=true)(h: ∀j d,l[j]?=some d->lk (r::l) j d=true):nZ (r::l)=true:=by
  rw[PW];rw[aw,s8,eQ];intro i ai;cases G:l[i]? with
  |none=>rfl
  |some d=>exact h i d G
theorem aEI{u:bg}(h:bg.fO u):bH al 111 [.agg (aL u).toArray] (.bool (nZ u.bP)):=by
  refine ei (dD (aC:=⟨[Eu,Oa],[]⟩) ang (by kernel_rfl) (by simp[u7]) ?_);have js:=h.jN;cases ja:u.bP with
  | nil=>have l0:(u.bP.length:Int)=0:=(by rw[ja];rfl);have rJ:u.bP.length=0:=(by rw[ja];rfl);have a2:nZ []=false:=rfl;simp(disch:=first|omega|simp only[aO];omega) [u7,wO,wP,wQ,wR,wS,pk,aL,a2,ja,-O,-U,-N,-S,-List.map_map]
  |cons R ds=>
  have eA:u.bP.length=ds.length+1:=by rw[ja];rfl
  have l0: ¬(u.bP.length:Int)=0:=by omega
  have lI:(0:Int)<u.bP.length:=by omega
  have rJ: ¬u.bP.length=0:=by omega
  have n3:0<u.bP.length:=by omega
  have al6:1<=u.bP.length:=by omega
  have Q4:(1:Int)<=u.bP.length:=by omega
  have fM:u.bP[0]?=some R:=by rw[ja];rfl
  have en:R.oj.c7:=h.bP R (by rw[ja];simp);have oG:u.bP[0]=R:=by have:=cD n3;rw[fM]at this;exact(Option.some.inj this).symm
  have PY:(List.take u.bP.length (u.bP.map ez)).tail=ds.map ez:=by rw[jT (by simp),ja];rfl
  have PZ:u.bP.length-1=ds.length:=by omega
  have tG:oh R=false->nZ (R::ds)=false:= λh=>by rw[PW,h];rfl
  rw[<-ja]at tG⊢;by_cases bO:R.name=⟨#[]⟩
  case neg=>have a2:=tG (by simp[oh,bO]);simp(disch:=first|omega|simp only[aO];omega) [u7,wO,wP,wQ,wR,wS,pk,aL,ez,rJ,n3,oG,bO,a2,-O,-U,-N,-S,-List.map_map]
  by_cases cA:R.jY=0
  case neg=>have a2:=tG (by simp[oh,cA]);simp(disch:=first|omega|simp only[aO];omega) [u7,wO,wP,wQ,wR,wS,pk,aL,ez,rJ,n3,oG,bO,cA,a2,-O,-U,-N,-S,-List.map_map]
  by_cases gz:R.parent= -1
  case neg=>have a2:=tG (by simp[oh,gz]);simp(disch:=first|omega|simp only[aO];omega) [u7,wO,wP,wQ,wR,wS,pk,aL,ez,rJ,n3,oG,bO,cA,gz,a2,-O,-U,-N,-S,-List.map_map]
  by_cases hJ:R.jc=0
  case neg=>have a2:=tG (by simp[oh,hJ]);simp(disch:=first|omega|simp only[aO];omega) [u7,wO,wP,wQ,wR,wS,pk,aL,ez,rJ,n3,oG,bO,cA,gz,hJ,a2,-O,-U,-N,-S,-List.map_map]
  cases iy:R.oj.bF.small
  · have a2:=tG (by simp[oh,iy]);simp(disch:=first|omega|simp only[aO];omega) [u7,wO,wP,wQ,wR,wS,pk,aL,ez,rJ,n3,oG,bO,cA,gz,hJ,iy,a2,-O,-U,-N,-S,-List.map_map]
  by_cases nW:0<R.oj.bF.n
  · have a2:=tG (by simp[oh,nW]);simp(disch:=first|omega|simp only[aO];omega) [u7,wO,wP,wQ,wR,wS,pk,aL,ez,rJ,n3,oG,bO,cA,gz,hJ,iy,nW,a2,-O,-U,-N,-S,-List.map_map]
  have amK:oh R=true:=by simp[oh,bO,cA,gz,hJ,iy,nW]
  simp(disch:=first|omega|simp only[aO];omega) [u7,wO,wP,wQ,wR,wS,aL,ez,rJ,n3,Q4,oG,bO,cA,gz,hJ,iy,nW,-O,-U,-N,-S,-List.map_map];rw[PY,PZ];refine h9 (aC:=⟨[r7,Eu],[]⟩) (λi A t=>(∀j d,j<i->ds[j]?=some d->lk u.bP j d=true)/\t.X 0=some ⟨aL u,true⟩/\A 1=cw 0/\A 45=aj (ds.map ez) 7/\A 46=Y ds.length/\A 47=Y i) ds.length ?_ ?_ 0 _ _ (ht _) ⟨λj d h=>absurd h (xN _),by simp(disch:=first|omega|simp only[aO];omega) [aL,-O,-U,-N,-S,-List.map_map],by simp,by simp,by simp,by simp⟩
  · rintro i A t ai ⟨hX,aN,ba,ze,xr,zf⟩ cS bm;have G:ds[i]?=some ds[i]:=cD ai;have cg:=gY (n:=i) (by omega);have b6:(i:Int)<ds.length:=(by omega);have fl:=a6 aN;have Bq: ∀k,¬t.next+k=0:= λk=>by omega
    have pg:ds[i].oj.c7:=h.bP _ (by rw[ja];exact B4 _ (jQ ai));have e1:lk u.bP i ds[i]=false->nZ u.bP=false:= λaT=>by rw[ja]at aT⊢;exact akG G aT
    cases g5:dK ds[i].parent 0 (i:Int)
    · have a2:=e1 (by simp[lk,g5]);simp(disch:=first|omega|simp only[aO];omega) [yy,wT,wU,wV,pk,ez,ze,xr,zf,b6,g5,a2,-O,-U,-N,-S,-List.map_map]
    have akB:=tM.1 g5;obtain⟨aW,dU⟩:=jS akB.1;have gd:aW<=i:=(by omega);have z7:aW<u.bP.length:=(by omega);have bd:u.bP[aW]?=some u.bP[aW]:=cD z7;have mB:(aW:Int)<u.bP.length:=(by omega);have Za:Bg u.bP ds[i]=decide (u.bP[aW].jY=ds[i].jY-1):=(by unfold Bg;rw[dU,ot,bd]);rw[dU]at g5;by_cases gN:u.bP[aW].jY=IntKind.i64.wrap (ds[i].jY-1)
    case neg=>
      have a2:=e1 (by
        rw[lk,Za];cases jo:dK ds[i].jY 1 4
        · simp
        · have:=tM.1 jo;rw[fV (by omega) (by omega)]at gN;simp[gN])
      simp(disch:=first|omega|simp only[aO];omega) [yy,wT,wU,wV,pk,aL,ez,ba,ze,xr,zf,aN,b6,dU,mB,g5,gN,a2,-O,-U,-N,-S,-List.map_map]
    cases jo:dK ds[i].jY 1 4
    · have a2:=e1 (by simp[lk,jo]);simp(disch:=first|omega|simp only[aO];omega) [yy,wT,wU,wV,pk,aL,ez,ba,ze,xr,zf,aN,b6,dU,mB,g5,gN,jo,a2,-O,-U,-N,-S,-List.map_map]
    cases tm:dK ds[i].jc 1 64
    · have a2:=e1 (by simp[lk,tm]);simp(disch:=first|omega|simp only[aO];omega) [yy,wT,wU,wV,pk,aL,ez,ba,ze,xr,zf,aN,b6,dU,mB,g5,gN,jo,tm,a2,-O,-U,-N,-S,-List.map_map]
    cases tn:ds[i].oj.bF.small
    · have a2:=e1 (by simp[lk,tn]);simp(disch:=first|omega|simp only[aO];omega) [yy,wT,wU,wV,pk,aL,ez,ba,ze,xr,zf,aN,b6,dU,mB,g5,gN,jo,tm,tn,a2,-O,-U,-N,-S,-List.map_map]
    have p3:lk u.bP i ds[i]=true:=(by have:=tM.1 jo;have XZ:=gN;rw[fV (by omega) (by omega)]at XZ;rw[lk,Za,dU,g5,jo,tm,tn,XZ];simp);simp(disch:=first|omega|simp only[aO];omega) [yy,wT,wU,wV,pk,aL,ez,ba,ze,xr,zf,aN,b6,cg,dU,mB,g5,gN,jo,tm,tn,-O,-U,-N,-S,-List.map_map];refine bm _ _ ⟨λj d bj aD=> ?_,by simp(disch:=first|omega|simp only[aO];omega) [aN,aL,-O,-U,-N,-S,-List.map_map],by simp[ba],by simp[ze],by simp[xr],by simp⟩;by_cases e:j=i
    · subst e;rw[G]at aD;cases aD;exact p3
    · exact hX j d (by omega) aD
  · rintro A t ⟨hX,aN,ba,ze,xr,zf⟩;have a2:nZ u.bP=true:=by
      rw[ja];refine akF amK λj d aD=> ?_;rw[<-ja];exact hX j d (dO.1 aD).1 aD
    simp(disch:=first|omega|simp only[aO];omega) [yy,wT,wU,wV,pk,xr,zf,pk,wT,wU,wV,a2,-O,-U,-N,-S,-List.map_map]
noncomputable def Vv(u:bg)(h:bg.fO u):bC al:= .dN 111 Unit (λ_=>True) (λ_=>[.agg (aL u).toArray]) (λ_=> .bool (nZ u.bP)) λ_ _=>aEI h
@[simp] theorem aQb{u:bg}{h:bg.fO u}:(Vv u h).f=111:=rfl
@[simp] theorem aQc{u:bg}{h:bg.fO u}:(Vv u h).fn [.agg #[Y u.ext,aj (u.cN.map gZ) 4,aj (u.bf.map gE) 4,aj (u.bP.map ez) 7,aj (u.aZ.map gr) 3,aj (u.cK.map e5) 17,aj (u.cm.map hx) 2]]=some (.bool (nZ u.bP)):=bC.eh (x:=()) trivial λ_ _=>rfl
end Go.Proofs.YtmmkkggfmigppaaGreat
