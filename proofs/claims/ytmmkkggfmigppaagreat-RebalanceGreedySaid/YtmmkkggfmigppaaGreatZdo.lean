/- A part of the proof. -/
import Derived.Test.YtmmkkggfmigppaaGreatZdn
set_option linter.all false
set_option maxRecDepth 20000
set_option maxHeartbeats 16000000
noncomputable section
namespace Go.Proofs.YtmmkkggfmigppaaGreat
open Go Go.DI Go.Big
attribute [local simp] ih ht ij jy k3 lE eW
abbrev Z4:AN V:= .B9 140 Am Am.BA (λx=>[BK x]) (λx=> .bool x.AZ.small) λ_ a=>lv a
variable{a b:List Int}{n:Bool}{l:List Am}{x:Int}
theorem a5Z(h:(Am.mk n a b).BA):Z4.fn [.agg #[.bool n,AT a,AT b]]=some (.bool (Am.mk n a b).AZ.small):=AN.BH (x:=Am.mk n a b) h λy c=>P5 c
theorem gN{n:Nat}(j: ∀x∈l,x.BA)(r:n<1000000):AO V 190 [DU l,Z n] (.bool (decide (l.length=n)&&l.all λx=>x.AZ.small)):=by
 have U:(l.all λx=>x.AZ.small)=true:=BR.2 λ_ _=>rfl;refine BQ (Ax (aC:=⟨[Z4],[]⟩) WI.2 ?_);by_cases h:l.length=n
 ·have d:((l.length:Nat):Int)=(n:Int):=(by omega);simp(disch:=omega)[WI,dG,d];refine Cc (aC:=⟨[Z4],[]⟩) (λi A t=>A 0=DU l/\A 1=Z n/\A 5=Z i) n ?_ ?_ 0 _ _ (C8 _) ⟨by simp,by simp,by simp⟩
  ·rintro i A t s ⟨e,c,g⟩ u m;have v:l[i]?=some l[i]:=AP (by omega);have o:l[i].BA:=j _ (Dq _);have p:=BZ (n:=i) (by omega);have q:(i:Int)<n:=(by omega);have f:Z4.fn [.agg #[.bool l[i].Hq,AT l[i].a,AT l[i].b]]=some (.bool true):=a5Z (n:=l[i].Hq) (a:=l[i].a) (b:=l[i].b) o;simp(disch:=first|omega|simp only[DI.AB];omega)[Wf,PW,e,c,g,q,p,f,BT,-H,-D,-I,-F,-List.map_map];exact⟨by omega,m _ _ ⟨by simp[e],by simp[c],by simp⟩⟩
  ·rintro A t ⟨e,c,g⟩;simp[Wf,PW,c,g,PW];simp[h];exact BR.1 U
 ·have d: ¬((l.length:Nat):Int)=(n:Int):=(by omega);simp[WI,dG,PW,d,h]
theorem yB:AO V 193 [Z 0] (.agg #[.bool false,Ed,AT [1]]):=Ch (by kernel_rfl)
theorem fk:AO V 194 [Ed] Ed:=Ch (by kernel_rfl)
theorem jh:AO V 246 [Ed] (.bool false):=Ch (by kernel_rfl)
theorem aX:AO V 194 [AT [0]] Ed:=Ch (by kernel_rfl)
theorem eA:AO V 241 [AT [1],Ed] (Z 1):=Ch (by kernel_rfl)
theorem k2:AO V 240 [AT [1],AT [1]] (AT [1]):=Ch (by kernel_rfl)
theorem vJ: ¬Ed=O [[Ag x]] 1:=by unfold O;simp
theorem aBn: ¬O [[Ag x]] 1=Ed:=by unfold O;simp
def Xh:AN V:=Je (B8 jh) TN rfl
theorem a3V:Xh.f=246:=rfl
theorem a5I:Xh.fn [Ed]=some (.bool false):=NF (E6 jh)
theorem aBq(h:x≠0):Xh.fn [O [[Ag x]] 1]=some (.bool false):=MP (Md jh (by simp[vJ])) (a4k h)
def XD:AN V:=Je (B8 fk) Im rfl
theorem a0J:XD.f=194:=rfl
theorem a0z:XD.fn [Ed]=some Ed:=NF (E6 fk)
theorem a7d(h:x≠0):XD.fn [O [[Ag x]] 1]=some (AT [x]):=MP (Md fk (by simp[vJ])) (yy h)
section
variable {z:Int} (B:2<=z) (g:z<200)
include B g
theorem lZ:AO V 268 [Ed,AT [z]] Ed:=by have f:(B8 aX).fn [O [[Ag 0]] 1]=some Ed:=E6 aX;refine BQ (Ax (aC:=⟨[B8 aX],[]⟩) XX.2 ?_);simp[XX,m6];refine Ba (aC:=⟨[B8 aX],[]⟩) λb c=> ?_;simp[om,l8,l8,f,RD,OO]
theorem iT:AO V 260 [Ed,AT [z]] (.tuple #[Ed,Z 0]):=by
 have a:z≠0:=by omega
 have b:=a5I;have c:=aBq a;have a3:=a0z;have a4:=a7d a;have d:(B8 (lZ B g)).fn [Ed,O [[Ag z]] 1]=some Ed:=E6 (lZ B g);refine BQ (Ax (aC:=⟨[Xh,XD,B8 (lZ B g)],[]⟩) bk.2 ?_);simp[bk,ph,b,c,a3,a4,d,a3V,a0J]
theorem wY:AO V 240 [Ed,AT [z]] Ed:=by have a:(B8 (iT B g)).fn [Ed,O [[Ag z]] 1]=some (.tuple #[Ed,Z 0]):=E6 (iT B g);refine BQ (Ax (aC:=⟨[B8 (iT B g)],[]⟩) ao.2 ?_);simp[ao,pO,a]
def X9:AN V:=Je (B8 k2) (B8 (wY B g)) rfl
theorem aC8:(X9 B g).f=240:=rfl
theorem a7T:(X9 B g).fn [O [[Ag 1]] 1,O [[Ag 1]] 1]=some (AT [1]):=NF (E6 k2)
theorem a2f:(X9 B g).fn [Ed,O [[Ag z]] 1]=some Ed:=MP (Md k2 (λh=>aBn (List.cons.inj h).1)) (E6 (wY B g))
theorem gh:AO V 195 [BK ⟨false,[1],[z]⟩,.agg #[.bool false,Ed,AT [1]]] (Z 1):=by have a:=a7T B g;have b:=a2f B g;have a3:(B8 eA).fn [O [[Ag 1]] 1,Ed]=some (Z 1):=E6 eA;refine BQ (Ax (aC:=⟨[X9 B g,B8 eA],[]⟩) ZO.2 ?_);simp[ZO,qb,a,b,a3,aC8,BT]
theorem pl:AO V 139 [BK ⟨false,[1],[z]⟩] (Z 1):=by have a:=E6 yB;have b:(B8 (gh B g)).fn [.agg #[.bool false,O [[Ag 1]] 1,O [[Ag z]] 1],.agg #[.bool false,Ed,O [[Ag 1]] 1]]=some (Z 1):=E6 (gh B g);refine BQ (Ax (aC:=⟨[B8 yB,B8 (gh B g)],[]⟩) bI.2 ?_);simp[bI,pw,a,b,BT]
theorem nz:([BK ⟨false,[],[1]⟩]:List Value)≠[BK ⟨false,[1],[z]⟩]:= λh=>by simp[BT]at h
def I4:AN V:=Je (B8 (fq (x:=⟨false,[],[1]⟩) (by unfold Am.BA;decide))) (B8 (rA B g)) rfl
theorem av:(I4 B g).f=171:=rfl
theorem r1:(I4 B g).fn [.agg #[.bool false,O [] 1,O [[Ag 1]] 1]]=some (.bool false):=NF (E6 (fq (x:=⟨false,[],[1]⟩) (by unfold Am.BA;decide)))
theorem aDH:(I4 B g).fn [.agg #[.bool false,O [[Ag 1]] 1,O [[Ag z]] 1]]=some (.bool true):=MP (Md _ (nz B g)) (E6 (rA B g))
variable{b:Bool}{l:List Am}{x:F9}
omit B g in
theorem Vj:AO V 226 [.bool b] (.bool b):=by refine BQ (Ax (aC:=⟨[],[]⟩) w2.2 ?_);simp[w2,wT]
omit B g in
theorem Jz:AO V 225 [O [[.bool true]] 1,.func (.func 226) #[] #[]] (.bool true):=by have f:(B8 (Vj (b:=true))).fn [.bool true]=some (.bool true):=E6 Vj;refine BQ (Ax (aC:=⟨[B8 (Vj (b:=true))],[]⟩) u5.2 ?_);simp[u5,th];refine Ba (aC:=⟨[B8 (Vj (b:=true))],[]⟩) λd c=> ?_;simp[l1,dS,f];refine c _ _ (Ba (aC:=⟨[B8 (Vj (b:=true))],[]⟩) λd c=> ?_);simp[l1,dS,dS]
def Ry(BV:ByteArray)(z:Int):F9:=⟨BV,[⟨false,[1],[1]⟩],[[⟨false,[],[1]⟩]],[⟨false,[1],[z]⟩]⟩
theorem nq{BV:ByteArray}:AO V 176 [Ow (Ry BV z)] (.bool true):=by have n:=r1 B g;have d:=aDH B g;have f:(B8 Jz).fn [O [[.bool true]] 1,.func (.func 226) #[] #[]]=some (.bool true):=E6 Jz;refine BQ (Ax (aC:=⟨[I4 B g,B8 Jz],[]⟩) wu.2 ?_);simp[wu,lu,CS,Ry,BT];refine Ba (aC:=⟨[I4 B g,B8 Jz],[]⟩) λo e=> ?_;simp[ZP,Zz];refine Ba (aC:=⟨[I4 B g,B8 Jz],[]⟩) λh b=> ?_;simp[WZ,d,BT];refine Ba (aC:=⟨[I4 B g,B8 Jz],[]⟩) λL c=> ?_;simp[VO,BT];refine c _ _ (Ba (aC:=⟨[I4 B g,B8 Jz],[]⟩) λi j=> ?_);simp[VO];refine b _ _ (Ba (aC:=⟨[I4 B g,B8 Jz],[]⟩) λk l=> ?_);simp[WZ];refine e _ _ (Ba (aC:=⟨[I4 B g,B8 Jz],[]⟩) λp m=> ?_);simp[ZP,Zz];refine Ba (aC:=⟨[I4 B g,B8 Jz],[]⟩) λh b=> ?_;simp[WZ,BT];refine Ba (aC:=⟨[I4 B g,B8 Jz],[]⟩) λL c=> ?_;simp[VO,BT];refine c _ _ (Ba (aC:=⟨[I4 B g,B8 Jz],[]⟩) λi j=> ?_);simp[VO];refine b _ _ (Ba (aC:=⟨[I4 B g,B8 Jz],[]⟩) λk l=> ?_);simp[WZ];refine m _ _ (Ba (aC:=⟨[I4 B g,B8 Jz],[]⟩) λq r=> ?_);simp[ZP,Zz,f,av,RD,OO]
def SS(l:List Am):Prop:=l.length<1000000/\ ∀x∈l,AO V 170 [BK x] (.bool true)
omit B g in
theorem a89(h:SS l):AO V 172 [DU l,.func (.func 170) #[] #[]] (.bool true):=by have:=mx (u:=170) (l:=l) (p:= λ_=>true) h.1 λx a=>h.2 x a;have e:(l.all λ_=>true)=true:=BR.2 λ_ _=>rfl;rw[e]at this;exact this
abbrev dN:AN V:= .B9 172 (List Am) SS (λl=>[DU l,.func (.func 170) #[] #[]]) (λ_=> .bool true) λ_ h=>a89 h
omit B g in
theorem eJ(h:SS l):dN.fn [DU l,.func (.func 170) #[] #[]]=some (.bool true):=AN.BH (x:=l) h λy a=>by simpa using a
theorem aDL:SS [⟨false,[1],[z]⟩]:=⟨by simp,λx a=>by simp at a;subst a;exact a1R B g⟩
omit B g in
theorem a4a:SS [⟨false,[1],[1]⟩]:=⟨by decide,λx a=>by simp at a;subst a;exact hD (by unfold Am.BA;decide)⟩
omit B g in
theorem a2Q:SS [⟨false,[],[1]⟩]:=⟨by decide,λx a=>by simp at a;subst a;exact hD (by unfold Am.BA;decide)⟩
def V8(BV:ByteArray):AN V:=B8 (nq B g (BV:=BV))
theorem ee{BV:ByteArray}:(V8 B g BV).f=176:=rfl
theorem yT{BV:ByteArray}:AO V 112 [Ow (Ry BV z)] (.bool true):=by
 have a:=eJ (aDL B g);have b:=eJ a4a;have a3:=eJ a2Q;have a4:=r1 B g;have d:(B8 Wh).fn [Z 1,Z 1]=some (.tuple #[.agg #[.bool false,AT [1],AT [1]],Z 0]):=E6 Wh;have e:(B8 WX).fn [O [[.bool false,AT [1],AT [1]]] 3]=some (.tuple #[.agg #[.bool false,AT [1],AT [1]],Z 0]):=E6 WX;have f:(B8 Ul).fn [.agg #[.bool false,O [[Ag 1]] 1,O [[Ag 1]] 1],.agg #[.bool false,O [[Ag 1]] 1,O [[Ag 1]] 1]]=some (.tuple #[Z 0,Z 0]):=E6 Ul;have h:(V8 B g BV).fn [.agg #[.string BV,O [[.bool false,AT [1],AT [1]]] 3,O [[DU [⟨false,[],[1]⟩]]] 1,O [[.bool false,AT [1],AT [z]]] 3]]=some (.bool true):=E6 (nq B g (BV:=BV));simp only[DU,Dl,List.map_nil,BT]at a b a3;have i:C1 1 1 4=true:=by decide
 refine BQ (Ax (aC:=⟨[LH,dN,I4 B g,B8 Wh,B8 WX,B8 Ul,V8 B g BV],[]⟩) wa.2 ?_);simp[wa,sY,CS,Ry,BT,a,b,i,av,ee];refine Ba (aC:=⟨[LH,dN,I4 B g,B8 Wh,B8 WX,B8 Ul,V8 B g BV],[]⟩) λk j=> ?_;simp[ju,kE,BT,a3,a4,av,ee];refine j _ _ (Ba (aC:=⟨[LH,dN,I4 B g,B8 Wh,B8 WX,B8 Ul,V8 B g BV],[]⟩) λl m=> ?_);simp[ju];simp[kE,BT,d,e,f,h,av,ee]
omit B g in
theorem a19(a:x.BA):AO V 112 [Ow x] (.bool x.Mo):=by obtain⟨BV,s,w,e⟩:=x;obtain⟨z,B,g,rfl,rfl,rfl⟩:=a;exact yT B g (BV:=BV)
theorem cj:AO V 190 [DU [⟨false,[1],[z]⟩],Z 1] (.bool true):=by have a:(B8 (Wr B g)).fn [.agg #[.bool false,O [[Ag 1]] 1,O [[Ag z]] 1]]=some (.bool true):=E6 (Wr B g);refine BQ (Ax (aC:=⟨[B8 (Wr B g)],[]⟩) WI.2 ?_);simp[WI,dG,BT];refine Ba (aC:=⟨[B8 (Wr B g)],[]⟩) λd c=> ?_;simp[Wf,PW,a,BT];refine c _ _ (Ba (aC:=⟨[B8 (Wr B g)],[]⟩) λd c=> ?_);simp[Wf,PW,PW]
omit B g in
theorem ea:AO V 190 [DU [⟨false,[1],[1]⟩],Z 1] (.bool true):=gN (l:=[⟨false,[1],[1]⟩]) (n:=1) (λx a=>by simp at a;subst a;unfold Am.BA;decide) (by decide)
omit B g in
theorem o0:AO V 190 [DU [⟨false,[],[1]⟩],Z 1] (.bool true):=gN (l:=[⟨false,[],[1]⟩]) (n:=1) (λx a=>by simp at a;subst a;unfold Am.BA;decide) (by decide)
def J3:AN V:=Je (B8 (cj B g)) (Je (B8 ea) (B8 o0) rfl) rfl
theorem Yo:(J3 B g).f=190:=rfl
theorem a28:(J3 B g).fn [O [[.bool false,AT [1],AT [z]]] 3,Z 1]=some (.bool true):=NF (E6 (cj B g))
theorem a5y:(J3 B g).fn [O [[.bool false,AT [1],AT [1]]] 3,Z 1]=some (.bool true):=MP (Md (cj B g) λh=>by simp[BT]at h;omega) (NF (E6 ea))
theorem yx:(J3 B g).fn [O [[.bool false,AT [],AT [1]]] 3,Z 1]=some (.bool true):=MP (Md (cj B g) λh=>by simp[BT]at h) (MP (Md ea λh=>by simp[BT]at h) (E6 o0))
def Ji:AN V:=Je (B8 (jQ (x:=⟨false,[],[1]⟩) (by unfold Am.BA;decide) rfl)) (B8 (pl B g)) rfl
theorem ZA:(Ji B g).f=139:=rfl
theorem a14:(Ji B g).fn [.agg #[.bool false,O [] 1,O [[Ag 1]] 1]]=some (Z 0):=NF (E6 (jQ (x:=⟨false,[],[1]⟩) (by unfold Am.BA;decide) rfl))
theorem a0a:(Ji B g).fn [.agg #[.bool false,O [[Ag 1]] 1,O [[Ag z]] 1]]=some (Z 1):=MP (Md _ (nz B g)) (E6 (pl B g))
theorem a41{BV:ByteArray}:AO V 137 [Ow (Ry BV z)] (.bool true):=by have b:=a28 B g;have c:=a5y B g;have a3:=yx B g;have a4:=a14 B g;have d:=a0a B g;have e:(B8 JY).fn [Z 1]=some (.agg #[.bool false,AT [1],AT [1]]):=E6 JY;have f:(B8 Kq).fn [O [[.bool false,AT [1],AT [1]]] 3]=some (.tuple #[.agg #[.bool false,AT [1],AT [1]],Z 0]):=E6 Kq;have h:(B8 Ko).fn [.agg #[.bool false,O [[Ag 1]] 1,O [[Ag 1]] 1],.agg #[.bool false,O [[Ag 1]] 1,O [[Ag 1]] 1]]=some (.bool true):=E6 Ko;refine BQ (Ax (aC:=⟨[J3 B g,Ji B g,B8 JY,B8 Kq,B8 Ko],[]⟩) xG.2 ?_);simp[xG,qd,b,c,ZA,Yo,CS,Ry,BT];refine Ba (aC:=⟨[J3 B g,Ji B g,B8 JY,B8 Kq,B8 Ko],[]⟩) λn i=> ?_;simp[ha,a3,a4,ZA,Yo,BT];refine i _ _ (Ba (aC:=⟨[J3 B g,Ji B g,B8 JY,B8 Kq,B8 Ko],[]⟩) λo p=> ?_);simp[ha,e,f,h,ZA,Yo,BT];refine Ba (aC:=⟨[J3 B g,Ji B g,B8 JY,B8 Kq,B8 Ko],[]⟩) λP j=> ?_;simp[fI];refine Ba (aC:=⟨[J3 B g,Ji B g,B8 JY,B8 Kq,B8 Ko],[]⟩) λQ k=> ?_;simp[hx,d,ZA,Yo,BT];refine Ba (aC:=⟨[J3 B g,Ji B g,B8 JY,B8 Kq,B8 Ko],[]⟩) λR l=> ?_;simp[fr];refine l _ _ (Ba (aC:=⟨[J3 B g,Ji B g,B8 JY,B8 Kq,B8 Ko],[]⟩) λq r=> ?_);simp[fr];refine k _ _ (Ba (aC:=⟨[J3 B g,Ji B g,B8 JY,B8 Kq,B8 Ko],[]⟩) λs t=> ?_);simp[hx];refine j _ _ (Ba (aC:=⟨[J3 B g,Ji B g,B8 JY,B8 Kq,B8 Ko],[]⟩) λu v=> ?_);simp[fI];refine Ba (aC:=⟨[J3 B g,Ji B g,B8 JY,B8 Kq,B8 Ko],[]⟩) λw m=> ?_;simp[ey];refine m _ _ (Ba (aC:=⟨[J3 B g,Ji B g,B8 JY,B8 Kq,B8 Ko],[]⟩) λx y=> ?_);simp[ey]
omit B g in
theorem a36(a:x.BA):AO V 137 [Ow x] (.bool x.Mo):=by obtain⟨BV,s,w,e⟩:=x;obtain⟨z,B,g,rfl,rfl,rfl⟩:=a;exact a41 B g (BV:=BV)
end
abbrev UH:AN V:= .B9 170 Am Am.BA (λx=>[BK x]) (λx=> .bool x.AZ.small) λ_ a=>hD a
@[simp] theorem aHf(h:(Am.mk n a b).BA):UH.fn [.agg #[.bool n,AT a,AT b]]=some (.bool (Am.mk n a b).AZ.small):=AN.BH (x:=Am.mk n a b) h λy c=>P5 c
abbrev l7:AN V:= .B9 171 Am Am.BA (λx=>[BK x]) (λx=> .bool (decide (0<x.AZ.n))) λ_ a=>fq a
@[simp] theorem aI2(h:(Am.mk n a b).BA):l7.fn [.agg #[.bool n,AT a,AT b]]=some (.bool (decide (0<(Am.mk n a b).AZ.n))):=AN.BH (x:=Am.mk n a b) h λy c=>P5 c
end Go.Proofs.YtmmkkggfmigppaaGreat
namespace Go.Big
structure Ij where
 a:Int
 b:Int
 c:Int
 d:Int
 e:Int
 deriving DecidableEq
structure SX where
 name:ByteArray
 ext:Int
 aAp:Int
 a5n:Int
 deriving DecidableEq
structure Ct where
 name:ByteArray
 Fw:Int
 parent:Int
 Rk:Int
 Hm:Am
 deriving DecidableEq
structure HJ where
 name:ByteArray
 model:Int
 Ou:Int
 deriving DecidableEq
structure Dg where
 name:ByteArray
 k:Int
 m:Int
 q:Int
 Dz:Ij
 Af:List Int
 Mx:List Am
 KR:Am
 KV:Am
 deriving DecidableEq
structure Jl where
 name:ByteArray
 JS:Int
 deriving DecidableEq
structure AL where
 ext:Int
 Bu:List F9
 Af:List SX
 A5:List Ct
 A4:List HJ
 B7:List Dg
 A3:List Jl
 deriving DecidableEq
end Go.Big
namespace Go.Proofs.YtmmkkggfmigppaaGreat
open Go Go.DI Go.Big
abbrev CU(s:ByteArray):Value:= .string s
abbrev Q6(l:List ByteArray):Value:=O (l.map λs=>[CU s]) 1
abbrev AK(l:List Int):Value:=O (l.map λs=>[Z s]) 1
def CX(x:SX):List Value:=[CU x.name,Z x.ext,Z x.aAp,Z x.a5n]
def Bq(x:Ct):List Value:=[CU x.name,Z x.Fw,Z x.parent,Z x.Rk,.bool x.Hm.Hq,AT x.Hm.a,AT x.Hm.b]
def Bx(x:HJ):List Value:=[CU x.name,Z x.model,Z x.Ou]
def BE(x:Dg):List Value:=[CU x.name,Z x.k,Z x.m,Z x.q,Z x.Dz.a,Z x.Dz.b,Z x.Dz.c,Z x.Dz.d,Z x.Dz.e,AK x.Af,DU x.Mx,.bool x.KR.Hq,AT x.KR.a,AT x.KR.b,.bool x.KV.Hq,AT x.KV.a,AT x.KV.b]
def CW(x:Jl):List Value:=[CU x.name,Z x.JS]
def A7(x:AL):List Value:=[Z x.ext,O (x.Bu.map CS) 4,O (x.Af.map CX) 4,O (x.A5.map Bq) 7,O (x.A4.map Bx) 3,O (x.B7.map BE) 17,O (x.A3.map CW) 2]
variable{K l:List ByteArray}
@[simp] theorem aL8:(l.map λs=>[CU s])=(K.map λs=>[CU s])↔l=K:=OZ λx y h=>by simpa using h
@[simp] theorem n7{l K:List Int}:(l.map λs=>[Z s])=(K.map λs=>[Z s])↔l=K:=OZ λx y h=>by simpa using h
end Go.Proofs.YtmmkkggfmigppaaGreat
namespace Go.Big
def JB(x:Bi):Bool:=x.ok&&decide (Iw x .Gx<=0)
def IC(x:Am):Bool:=x.AZ.small&&decide (0<x.AZ.n)
def JR(m:Int)(r:List Am)(t h:Am):Bool:=decide ((r.length:Int)=if 1>m then 1 else m)&&(r.all IC&&(t.AZ.small&&(JB t.AZ&&h.AZ.small)))
end Go.Big
namespace Go.Proofs.YtmmkkggfmigppaaGreat
open Go Go.DI Go.Big
variable{x:Am}{n:Bool}{l r:List Am}{m:Int}
theorem yZ(a:x.BA):AO V 230 [BK x] (.bool (JB x.AZ)):=a0Z a
theorem a3j(a:x.BA):AO V 229 [BK x] (.bool (IC x)):=by refine BQ (Ax (aC:=⟨[UH,l7],[]⟩) nA.2 ?_);cases h:x.AZ.small<;>simp(disch:=first|omega|simp only[A9];omega)[nA,ur,BT,h,IC]
abbrev pB:AN V:= .B9 230 Am Am.BA (λx=>[BK x]) (λx=> .bool (JB x.AZ)) λ_ a=>yZ a
@[simp] theorem aEK{a b:List Int}(h:(Am.mk n a b).BA):pB.fn [.agg #[.bool n,AT a,AT b]]=some (.bool (JB (Am.mk n a b).AZ)):=AN.BH (x:=Am.mk n a b) h λy c=>P5 c
abbrev td:AN V:= .B9 172 (List Am) (λl=>(∀x∈l,x.BA)/\l.length<1000000) (λl=>[DU l,.func (.func 229) #[] #[]]) (λl=> .bool (l.all IC)) λ_ h=>mx h.2 λx a=>a3j (h.1 x a)
@[simp] theorem aLc(h:(∀x∈l,x.BA)/\l.length<1000000):td.fn [O (l.map BT) 3,.func (.func 229) #[] #[]]=some (.bool (l.all IC)):=AN.BH (x:=l) h λy a=>by simpa using a
theorem a0w{t h:Am}(c:(∀x∈r,x.BA)/\r.length<1000000)(d:t.BA)(e:h.BA):AO V 178 [Z m,DU r,BK t,BK h] (.bool (JR m r t h)):=by
 refine BQ (Ax (aC:=⟨[td,UH,pB],[]⟩) UJ.2 ?_);by_cases B:(r.length:Int)=if 1>m then 1 else m
 ·cases g:r.all IC
  ·simp(disch:=omega)[UJ,UZ,BT,B,g,JR]
  ·cases a:t.AZ.small
   ·simp(disch:=first|omega|simp only[A9];omega)[UJ,UZ,BT,B,g,a,JR]
   ·cases b:JB t.AZ<;>simp(disch:=first|omega|simp only[A9];omega)[UJ,UZ,BT,B,g,a,b,JR]
 ·simp[UJ,UZ,BT,B,JR]
end Go.Proofs.YtmmkkggfmigppaaGreat
namespace Go.Big
def FI(k m q:Int)(s:Ij):Bool:=C1 k 1 6&&(C1 m 0 4&&(decide (k+m<=8)&&(C1 q k (k+m)&&(decide (s.a=0)&&(C1 s.a 0 8&&(C1 s.b 0 8&&(C1 s.c 0 8&&(C1 s.d 0 8&&C1 s.e 0 8))))))))
end Go.Big
namespace Go.Proofs.YtmmkkggfmigppaaGreat
open Go Go.DI Go.Big
variable{x:Int}{l:List Int}{s:Ij}
theorem aAr:AO V 228 [Z x] (.bool (C1 x 0 8)):=by refine BQ (Ax (aC:=⟨[LH],[]⟩) nu.2 ?_);simp[nu,qg]
abbrev o4:AN V:= .B9 228 (Int) (λx=>True) (λx=>[Z x]) (λx=> .bool (C1 x 0 8)) (λx h=>aAr)
@[simp] theorem aLf:o4.fn ([Z x])=some (.bool (C1 x 0 8)):=AN.BH (x:=x) trivial λy a=>by simpa using a
theorem lx(p:l.length<1000000):AO V 227 [AK l,.func (.func 228) #[] #[]] (.bool (l.all λx=>C1 x 0 8)):=by
 refine BQ (Ax (aC:=⟨[],[]⟩) tq.2 ?_);simp[tq,sg];refine Cc (aC:=⟨[o4],[]⟩) (λi A t=>((l.take i).all λx=>C1 x 0 8)=true/\A 1= .func (.func 228) #[] #[]/\A 7=AK l/\A 8=Z l.length/\A 9=Z i) l.length ?_ ?_ 0 _ _ (C8 _) ⟨by simp,by simp,by simp,by simp,by simp⟩
 ·rintro i A t f ⟨b,c,d,a,e⟩ q j;have k:l[i]?=some l[i]:=AP f;have m:l[i]∈l:=Dq f;have o:=BZ (n:=i) (by omega);have g:(i:Int)<l.length:=(by omega);cases hb:C1 l[i] 0 8
  ·simp(disch:=first|omega|simp only[A9];omega)[YJ,US,c,d,a,e,g,hb];exact⟨_,m,hb⟩
  ·simp(disch:=first|omega|simp only[A9];omega)[YJ,US,c,d,a,e,g,o,hb,-H,-D,-I,-F,-List.map_map];exact j _ _ ⟨by rw[Nl k,List.all_append,b];simp[hb],by simp[c],by simp[d],by simp[a],by simp⟩
 ·rintro A t ⟨b,c,d,a,e⟩;rw[FJ]at b;simp[YJ,US,a,e,US];simpa using b
abbrev n9:AN V:= .B9 227 (List Int) (λl=>l.length<1000000) (λl=>[AK l,.func (.func 228) #[] #[]]) (λl=> .bool (l.all λx=>C1 x 0 8)) λ_ h=>lx h
@[simp] theorem aJF{a b c d e:Int}:n9.fn [O [[Z a],[Z b],[Z c],[Z d],[Z e]] 1,.func (.func 228) #[] #[]]=some (.bool (C1 a 0 8&&(C1 b 0 8&&(C1 c 0 8&&(C1 d 0 8&&C1 e 0 8))))):=by
  have:=AN.BH (ok:= λ_ h=>lx h) (x:=[a,b,c,d,e]) (c1:= λl=>l.length<1000000) (enc:= λl=>[AK l,.func (.func 228) #[] #[]]) (by simp) λy f=>n7.1 (qM.1 (List.cons.inj f).1).1;have e:[a,b,c,d,e].all (λx=>C1 x 0 8)=(C1 a 0 8&&(C1 b 0 8&&(C1 c 0 8&&(C1 d 0 8&&C1 e 0 8)))):=by simp
  rw[<-e];exact this
theorem a11{k m q:Int}:AO V 177 [Z k,Z m,Z q,.agg #[Z s.a,Z s.b,Z s.c,Z s.d,Z s.e]] (.bool (FI k m q s)):=by
 refine BQ (Ax (aC:=⟨[LH,n9],[]⟩) QE.2 ?_);have n:5<=maxLen:=by unfold maxLen;omega
 cases B:C1 k 1 6
 ·simp[QE,Qz,B,FI]
 ·cases g:C1 m 0 4
  ·simp[QE,Qz,B,g,FI]
  ·have h:IntKind.i64.wrap (k+m)=k+m:=(by simp[C1]at B g;exact Ac (by omega) (by omega));by_cases i:k+m<=8
   ·have f: ¬(8<k+m):=(by omega);cases j:C1 q k (k+m)
    ·simp[QE,Qz,B,g,i,f,j,h,FI]
    ·by_cases l:s.a=0
     ·simp[QE,Qz,B,g,i,f,j,l,h,n,RD,OO,FI]
     ·simp[QE,Qz,B,g,i,f,j,l,h,FI]
   ·have f:8<k+m:=(by omega);simp[QE,Qz,B,g,i,f,h,FI]
end Go.Proofs.YtmmkkggfmigppaaGreat
namespace Go.DI
open Go
variable {P:Program}
open Classical in
def Cp.B9(f:Nat)(bT:Type)(enc:bT->List Value)(u:bT->X->Option (Value×X))(ok: ∀x t r a,u x t=some (r,a)-> ∀a7:Value->X->Prop,a7 r a->Bh P f (enc x) t a7):Cp P:=
 ⟨f,λargs t=>if h: ∃x,enc x=args then u h.choose t else none,λargs t r a h=>by
  split at h
  ·next b=>have:=ok _ t r a h;rw[b.choose_spec]at this;exact this
  ·cases h⟩
variable{bT:Type}{f:Nat}
@[simp] theorem Cp.aCM{enc:bT->List Value}{u:bT->X->Option (Value×X)}{ok: ∀x t r a,u x t=some (r,a)-> ∀a7:Value->X->Prop,a7 r a->Bh P f (enc x) t a7}:(Cp.B9 f bT enc u ok).f=f:=rfl
theorem Cp.BH{enc:bT->List Value}{u:bT->X->Option (Value×X)}{ok: ∀x t r a,u x t=some (r,a)-> ∀a7:Value->X->Prop,a7 r a->Bh P f (enc x) t a7}{x:bT}{t:X}(c: ∀y,enc y=enc x->y=x):(Cp.B9 f bT enc u ok).fn (enc x) t=u x t:=by have b: ∃y,enc y=enc x:=⟨x,rfl⟩;simp only[Cp.B9,dif_pos b];rw[c _ b.choose_spec]
end Go.DI
namespace Go.Proofs.YtmmkkggfmigppaaGreat
open Go Go.DI Go.Big
abbrev m4:AN V:= .B9 179 (ByteArray) (λT=>True) (λT=>[.string T]) (λT=> .bool (Ie T)) (λT h=>a4g)
variable{T n:ByteArray}{w:List (List Am)}{e s:List Am}{x:F9}
@[simp] theorem aGE:m4.fn ([.string T])=some (.bool (Ie T)):=AN.BH (x:=T) trivial λy a=>by simpa using a
abbrev mF:AN V:= .B9 112 F9 F9.BA (λx=>[Ow x]) (λx=> .bool x.Mo) λ_ h=>a19 h
theorem o6(h:[Ow x]=[.agg #[CU n,DU s,qX w,DU e]]):x=⟨n,s,w,e⟩:=by obtain⟨ho,G,C,a⟩:=x;simpa[CS]using h
@[simp] theorem aJr(h:(F9.mk n s w e).BA):mF.fn [.agg #[CU n,O (s.map BT) 3,O (w.map λr=>[DU r]) 1,O (e.map BT) 3]]=some (.bool (F9.mk n s w e).Mo):=AN.BH (x:=F9.mk n s w e) h λy a=>o6 a
end Go.Proofs.YtmmkkggfmigppaaGreat
namespace Go.Big
def Ij.at(s:Ij)(i:Int):Int:=if i=0 then s.a else if i=1 then s.b else if i=2 then s.c else if i=3 then s.d else s.e
end Go.Big
namespace Go.Proofs.YtmmkkggfmigppaaGreat
open Go Go.DI Go.Big
abbrev nH:AN V:= .B9 177 (Int×Int×Int×Ij) (λ_=>True) (λp=>[Z p.1,Z p.2.1,Z p.2.2.1,.agg #[Z p.2.2.2.a,Z p.2.2.2.b,Z p.2.2.2.c,Z p.2.2.2.d,Z p.2.2.2.e]]) (λp=> .bool (FI p.1 p.2.1 p.2.2.1 p.2.2.2)) λ_ _=>a11
variable{c d e k m q f:Int}{a b C G:List Int}{ho n:Bool}{r:List Am}{l:List ByteArray}{s:ByteArray}{x:Bi}{o h t:Am}{J:Type}{i:Nat}{w:List (List Am)}{A:A2}{P:Program}{Q:BM->A2->X->Prop}{u:AL}
@[simp] theorem aDZ{a b:Int}:nH.fn [Z k,Z m,Z q,.agg #[Z a,Z b,Z c,Z d,Z e]]=some (.bool (FI k m q ⟨a,b,c,d,e⟩)):=AN.BH (x:=(k,m,q,(⟨a,b,c,d,e⟩:Ij))) trivial λy f=>by obtain⟨p,r,s,t,u,v,w,z⟩:=y;simp at f;obtain⟨B,g,h,i,j,l,n,o⟩:=f;simp[B,g,h,i,j,l,n,o]
abbrev oh:AN V:= .B9 178 (Int×List Am×Am×Am) (λp=>((∀x∈p.2.1,x.BA)/\p.2.1.length<1000000)/\p.2.2.1.BA/\p.2.2.2.BA) (λp=>[Z p.1,DU p.2.1,BK p.2.2.1,BK p.2.2.2]) (λp=> .bool (JR p.1 p.2.1 p.2.2.1 p.2.2.2)) λ_ h=>a0w h.1 h.2.1 h.2.2
@[simp] theorem aHK(h:((∀x∈r,x.BA)/\r.length<1000000)/\(Am.mk n a b).BA/\(Am.mk ho G C).BA):oh.fn [Z m,O (r.map BT) 3,.agg #[.bool n,AT a,AT b],.agg #[.bool ho,AT G,AT C]]=some (.bool (JR m r ⟨n,a,b⟩ ⟨ho,G,C⟩)):=AN.BH (x:=(m,r,(⟨n,a,b⟩:Am),(⟨ho,G,C⟩:Am))) h λy c=>by obtain⟨l,o,⟨p,q,s⟩,⟨t,u,v⟩⟩:=y;simp[BT]at c;obtain⟨B,g,⟨d,e,f⟩,i,j,k⟩:=c;simp[B,g,d,e,f,i,j,k]
def H9(s:ByteArray):List ByteArray->Option Nat
 |[]=>none
 |x::l=>if s=x then some 0 else(H9 s l).map (· +1)
theorem aBY{a b:Int}:AO V 134 [Z a,Z b,Z c] (.bool (C1 a b c)):=by
 refine BQ (Ax (aC:=⟨[],[]⟩) jV.2 ?_);by_cases h:b<=a
 ·have d:a>=b:=h;simp[jV,fe,h,C1]
 ·have d: ¬a>=b:=h;simp[jV,fe,h,C1]
abbrev Li:AN V:= .B9 134 (Int×Int×Int) (λ⟨a,b,c⟩=>True) (λ⟨a,b,c⟩=>[Z a,Z b,Z c]) (λ⟨a,b,c⟩=> .bool (C1 a b c)) (λ⟨a,b,c⟩ h=>aBY)
@[simp] theorem aFc{a:Int}{b:Int}:Li.fn ([Z a,Z b,Z c])=some (.bool (C1 a b c)):=AN.BH (x:=(a,b,c)) trivial λy d=>by obtain⟨e,f,g⟩:=y;simpa using d
def L5(a b c d e f:Int):Bool:=decide (a<=4)&&(decide (b<=4)&&(decide (c<=40)&&(decide (d<=24)&&(decide (e<=4)&&decide (f<=12)))))
theorem a48{a b:Int}:AO V 135 [Z a,Z b,Z c,Z d,Z e,Z f] (.bool (L5 a b c d e f)):=by
 refine BQ (Ax (aC:=⟨[],[]⟩) QD.2 ?_);by_cases B:a<=4
 ·by_cases g:b<=4
  ·by_cases h:c<=40
   ·by_cases i:d<=24
    ·by_cases j:e<=4
     ·simp[QD,Q4,B,g,h,i,j,L5]
     ·simp[QD,Q4,B,g,h,i,j,L5]
    ·simp[QD,Q4,B,g,h,i,L5]
   ·simp[QD,Q4,B,g,h,L5]
  ·simp[QD,Q4,B,g,L5]
 ·simp[QD,Q4,B,L5]
abbrev YI:AN V:= .B9 135 (Int×Int×Int×Int×Int×Int) (λ⟨a,b,c,d,e,f⟩=>True) (λ⟨a,b,c,d,e,f⟩=>[Z a,Z b,Z c,Z d,Z e,Z f]) (λ⟨a,b,c,d,e,f⟩=> .bool (L5 a b c d e f)) (λ⟨a,b,c,d,e,f⟩ h=>a48)
@[simp] theorem aE2{a:Int}{b:Int}:YI.fn ([Z a,Z b,Z c,Z d,Z e,Z f])=some (.bool (L5 a b c d e f)):=AN.BH (x:=(a,b,c,d,e,f)) trivial λy g=>by obtain⟨h,i,j,k,l,m⟩:=y;simpa using g
def PK(s:ByteArray)(l:List ByteArray):Int:=match H9 s l with
 |none=> -1
 |some i=>i
theorem iO{s:ByteArray}{l:List ByteArray}: ∀{i:Nat},(∀j (h:j<l.length),j<i->l[j]≠s)->i<=l.length->H9 s l=(H9 s (l.drop i)).map (· +i)
 |0,_,_=>by simp
 | i+1,h,d=>by rw[iO (i:=i) (λj a f=>h j a (by omega)) (by omega)];have b:l.drop i=l[i]::l.drop (i+1):=Ht (by omega);have c: ¬s=l[i]:= λe=>h i (by omega) (by omega) e.symm;rw[b];simp only[H9,if_neg c,Option.map_map];congr 1;funext k;simp only[Function.comp_apply];omega
theorem pz(q:l.length<1000000):AO V 189 [Q6 l,CU s] (Z (PK s l)):=by
 refine BQ (Ax (aC:=⟨[],[]⟩) qC.2 ?_);simp[qC,sc];refine Cc (aC:=⟨[],[]⟩) (λi A t=>(∀j (h:j<l.length),j<i->l[j]≠s)/\A 0=Q6 l/\A 1=CU s/\A 5=Z i) l.length ?_ ?_ 0 _ _ (C8 _) ⟨by simp,by simp,by simp,by simp⟩
 ·rintro i A t f ⟨b,a,c,d⟩ r m;have u:l[i]?=some l[i]:=AP f;have o:=BZ (n:=i) (by omega);have g:(i:Int)<l.length:=(by omega);by_cases hb:l[i]=s
  ·have e:PK s l=i:=by
    unfold PK;rw[iO b (by omega),Ht f];simp[H9,hb]
   simp(disch:=omega)[Xd,VW,a,c,d,g,hb,e]
  ·simp(disch:=first|omega|simp only[A9];omega)[Xd,VW,a,c,d,g,o,hb,-H,-D,-I,-F,-List.map_map];exact m _ _ ⟨λj p v=>by
    by_cases e:j=i
    ·subst e;exact hb
    ·exact b j p (by omega),by simp[a],by simp[c],by simp⟩
 ·rintro A t ⟨b,a,c,d⟩;have e:PK s l= -1:=by
   unfold PK;rw[iO b (Aj _),List.drop_length];rfl
  simp[Xd,VW,a,d,VW,e]
abbrev eH:AN V:= .B9 140 Am Am.BA (λx=>[BK x]) (λx=> .bool x.AZ.small) λ_ a=>lv a
@[simp] theorem aGT(h:(Am.mk n a b).BA):eH.fn [.agg #[.bool n,AT a,AT b]]=some (.bool (Am.mk n a b).AZ.small):=AN.BH (x:=Am.mk n a b) h λy c=>P5 c
abbrev TB:AN V:= .B9 139 Am (λx=>x.BA/\x.AZ.ok=true) (λx=>[BK x]) (λx=>Z (Iw x.AZ .nil)) λ_ a=>jQ a.1 a.2
@[simp] theorem aHt(h:(Am.mk n a b).BA/\(Am.mk n a b).AZ.ok=true):TB.fn [.agg #[.bool n,AT a,AT b]]=some (Z (Iw (Am.mk n a b).AZ .nil)):=AN.BH (x:=Am.mk n a b) h λy c=>P5 c
abbrev XY:AN V:= .B9 138 Am Am.BA (λx=>[BK x]) (λx=> .bool x.AZ.ok) λ_ a=>a5V a
@[simp] theorem aIJ(h:(Am.mk n a b).BA):XY.fn [.agg #[.bool n,AT a,AT b]]=some (.bool (Am.mk n a b).AZ.ok):=AN.BH (x:=Am.mk n a b) h λy c=>P5 c
theorem pY(b:0<=x.n):(Iw x .nil=0)=(x.n=0):=by
 have e:x.n*Bi.nil.d=x.n:=by show x.n*1=x.n;omega
 have a:Bi.nil.n*x.d=0:=by show 0*x.d=0;omega
 unfold Iw;rw[e,a];apply propext;split
 ·omega
 ·split<;>omega
theorem aCG(a:0<=x.n):(Iw x .nil=0)= ¬(0<x.n):=by rw[pY a];apply propext;omega
def KO(k m:Int):Bool:=decide (1<=k)&&(decide (k<=6)&&(decide (0<=m)&&(decide (m<=4)&&decide (k+m<=8))))
theorem a7W:AO V 197 [Z k,Z m] (.bool (KO k m)):=by
 refine BQ (Ax (aC:=⟨[],[]⟩) SU.2 ?_);by_cases B:1<=k
 ·have c:k>=1:=B;by_cases g:k<=6
  ·by_cases a:0<=m
   ·have d:m>=0:=a;by_cases b:m<=4
    ·have e:IntKind.i64.wrap (k+m)=k+m:=Ac (by omega) (by omega);simp[SU,TR,B,g,a,b,e,KO]
    ·simp[SU,TR,B,g,a,b,KO]
   ·have d: ¬m>=0:=a;simp[SU,TR,B,g,a,KO]
  ·simp[SU,TR,B,g,KO]
 ·have c: ¬k>=1:=B;simp[SU,TR,B,KO]
abbrev fH:AN V:= .B9 197 (Int×Int) (λ⟨k,m⟩=>True) (λ⟨k,m⟩=>[Z k,Z m]) (λ⟨k,m⟩=> .bool (KO k m)) (λ⟨k,m⟩ h=>a7W)
@[simp] theorem aLD:fH.fn ([Z k,Z m])=some (.bool (KO k m)):=AN.BH (x:=(k,m)) trivial λy a=>by obtain⟨b,c⟩:=y;simpa using a
theorem a02:KO k m=(C1 k 1 6&&(C1 m 0 4&&decide (k+m<=8))):=by simp only[KO,C1,Bool.and_assoc]
def Px(s:Ij):Bool:=C1 s.b 0 8&&(C1 s.c 0 8&&(C1 s.d 0 8&&C1 s.e 0 8))
theorem aCz{s:Ij}:AO V 141 [Z k,Z m,Z q,.agg #[Z s.a,Z s.b,Z s.c,Z s.d,Z s.e]] (.bool (FI k m q s)):=by
 refine BQ (Ax (aC:=⟨[fH,Li],[]⟩) WS.2 ?_);have e:FI k m q s=(KO k m&&(C1 q k (k+m)&&(decide (s.a=0)&&Px s))):=by
  rw[a02];by_cases f:s.a=0
  ·simp[FI,Px,f,show C1 0 0 8=true from rfl,Bool.and_assoc]
  ·simp[FI,Px,f]
 rw[e];cases B:KO k m
 ·simp[WS,Um,Pl,B]
 ·have o:IntKind.i64.wrap (k+m)=k+m:=(by simp[KO]at B;exact Ac (by omega) (by omega));cases g:C1 q k (k+m)
  ·simp[WS,Um,Pl,B,g,o]
  ·by_cases u:s.a=0
   ·simp[WS,Um,B,g,u,o];refine Cc (aC:=⟨[fH,Li],[]⟩) (λi A t=>(∀j:Nat,j<i->C1 (s.at ((j:Int)+1)) 0 8=true)/\t.Y 0=some ⟨[Z 0,Z s.b,Z s.c,Z s.d,Z s.e],true⟩/\A 7=AG 0/\A 9=Z ((i:Int)+1)) 4 ?_ ?_ 0 _ _ (C8 _) ⟨by simp,by simp,by simp,by simp⟩
    ·rintro i A t F ⟨f,h,l,n⟩ G C;have H:=E h;have p:i=0\/i=1\/i=2\/i=3:=(by omega);cases hb:C1 (s.at ((i:Int)+1)) 0 8
     ·have r:Px s=false:=by
       rcases p with rfl|rfl|rfl|rfl<;>simp[Ij.at]at hb<;>simp[Px,hb]
      rcases p with rfl|rfl|rfl|rfl<;>simp[Ij.at]at hb<;>simp[YS,Pl,l,n,h,hb,r]
     ·have D: ∀j:Nat,j<i+1->C1 (s.at ((j:Int)+1)) 0 8=true:= λj I=>by
       by_cases e:j=i
       ·subst e;exact hb
       ·exact f j (by omega)
      rcases p with rfl|rfl|rfl|rfl<;>simp[Ij.at]at hb<;>simp[YS,Pl,l,n,h,hb]<;>exact C _ _ ⟨D,h,by simp[l],by simp;rfl⟩
    ·rintro A t ⟨f,h,l,n⟩;have r:Px s=true:=by
      have v:=f 0 (by decide);have w:=f 1 (by decide);have x:=f 2 (by decide);have y:=f 3 (by decide);simp[Ij.at]at v w x y;simp[Px,v,w,x,y]
     simp[YS,Pl,Pl,n,r]
   ·simp[WS,Um,Pl,B,g,u,o]
abbrev hc(n:Nat)(a:n<1000000):AN V:= .B9 190 (List Am) (λl=> ∀x∈l,x.BA) (λl=>[DU l,Z n]) (λl=> .bool (decide (l.length=n)&&l.all λx=>x.AZ.small)) λ_ h=>gN h a
@[simp] theorem aM1{n:Nat}{a:n<1000000}{l:List Am}(h: ∀x∈l,x.BA):(hc n a).fn [O (l.map BT) 3,Z n]=some (.bool (decide (l.length=n)&&l.all λx=>x.AZ.small)):=AN.BH (x:=l) h λy b=>by simpa using b
theorem aCa(I:0<=m)(J:m<=4){l:List Am}(w:(∀x∈l,x.BA)/\l.length<1000000):AO V 198 [DU l,Z m] (.bool (decide ((l.length:Int)=if 1>m then 1 else m)&&l.all IC)):=by
 obtain⟨n,g⟩: ∃n:Nat,(if 1>m then(1:Int)else m)=n:=⟨(if 1>m then(1:Int)else m).toNat,by split<;>omega⟩;have p:(if m<1 then(1:Int)else m)=n:=g;have q:n<1000000:=by split at g<;>omega
 rw[g];have y:decide ((l.length:Int)=(n:Int))=decide (l.length=n):=by congr 1;apply propext;omega
 rw[y];refine BQ (Ax (aC:=⟨[hc n q,TB],[]⟩) ld.2 ?_);obtain⟨C,K⟩:=w;cases B:(decide (l.length=n)&&l.all λx=>x.AZ.small)
 ·have e:(decide (l.length=n)&&l.all IC)=false:=by
   by_cases b:l.length=n
   ·simp only[b,decide_true,Bool.true_and,List.all_eq_false]at B⊢;obtain⟨x,j,h⟩:=B;exact⟨x,j,by simp only[IC,AF,not_and];intro D;exact absurd D h⟩
   ·simp[b]
  rw[e];simp(disch:=omega)[ld,kd,Ri,p,B]
 ·simp(disch:=first|omega|simp only[A9];omega)[ld,kd,p,B];simp only[AF,BW]at B;obtain⟨b,B⟩:=B;have E:decide (l.length=n)=true:=(by simp[b]);rw[E,Bool.true_and];refine Cc (aC:=⟨[hc n q,TB],[]⟩) (λi A t=>(l.take i).all IC=true/\A 0=DU l/\A 5=Z i) l.length ?_ ?_ 0 _ _ (C8 _) ⟨by simp,by simp,by simp⟩
  ·rintro i A t r ⟨c,a,d⟩ L F;have j:l[i]?=some l[i]:=AP r;have k:l[i]∈l:=Dq r;have G:=BZ (n:=i) (by omega);have s:(i:Int)<l.length:=(by omega);have u:=BR.1 B _ k;have H:l[i].BA/\l[i].AZ.ok=true:=⟨C _ k,sN u⟩;have v:=aCG (Am.tS H.1);by_cases f:0<l[i].AZ.n
   ·have o: ¬Iw l[i].AZ .nil=0:=(by rw[v];exact λh=>h f);simp(disch:=first|omega|simp only[A9];omega)[dR,Ri,a,d,s,G,BT,o];exact F _ _ ⟨by rw[Nl j,List.all_append,c];simp[IC,u,f],by simp[a],by simp⟩
   ·have o:Iw l[i].AZ .nil=0:=(by rw[v];exact f);simp(disch:=omega)[dR,Ri,a,d,s,BT,o];exact⟨_,k,by simp[IC,f]⟩
  ·rintro A t ⟨c,a,d⟩;rw[FJ]at c;simp[dR,Ri,a,d,Ri];simpa using c
abbrev p3(o:Am)(h:AO V 193 [Z 1] (BK o)):AN V:= .B9 193 Unit (λ_=>True) (λ_=>[Z 1]) (λ_=>BK o) λ_ _=>h
@[simp] theorem aI3{h:AO V 193 [Z 1] (BK o)}:(p3 o h).fn [Z 1]=some (BK o):=AN.BH (x:=()) trivial λ_ _=>rfl
abbrev yF(o:Am)(h: ∀x:Am,(x.BA/\x.AZ.ok=true)->AO V 199 [BK o,BK x] (.bool (!JB x.AZ))):AN V:= .B9 199 Am (λx=>x.BA/\x.AZ.ok=true) (λx=>[BK o,BK x]) (λx=> .bool (!JB x.AZ)) h
@[simp] theorem aIF{h: ∀x:Am,(x.BA/\x.AZ.ok=true)->AO V 199 [BK o,BK x] (.bool (!JB x.AZ))}(c:(Am.mk n a b).BA/\(Am.mk n a b).AZ.ok=true):(yF o h).fn [.agg #[.bool o.Hq,AT o.a,AT o.b],.agg #[.bool n,AT a,AT b]]=some (.bool (!JB (Am.mk n a b).AZ)):=
  AN.BH (x:=Am.mk n a b) c λy d=>by obtain⟨ho,G,C⟩:=y;simpa[BT]using d
theorem zN(x:Am)(a:x.BA/\x.AZ.ok=true):AO V 199 [BK ⟨false,[1],[1]⟩,BK x] (.bool (!JB x.AZ)):=by
 have h:=a3b a.1;have e: ∀y∈VG,decide (Iw .Gx y.AZ<0)= !JB y.AZ:=by decide
 rw[<-e x a.1];exact h
abbrev uC(m:Int)(h:0<=m/\m<=4):AN V:= .B9 198 (List Am) (λl=>(∀x∈l,x.BA)/\l.length<1000000) (λl=>[DU l,Z m]) (λl=> .bool (decide ((l.length:Int)=if 1>m then 1 else m)&&l.all IC)) λ_ a=>aCa h.1 h.2 a
@[simp] theorem aEk{h:0<=m/\m<=4}{l:List Am}(a:(∀x∈l,x.BA)/\l.length<1000000):(uC m h).fn [O (l.map BT) 3,Z m]=some (.bool (decide ((l.length:Int)=if 1>m then 1 else m)&&l.all IC)):=AN.BH (x:=l) a λy b=>by simpa using b
theorem zq(b:AO V 193 [Z 1] (BK o))(c: ∀x:Am,(x.BA/\x.AZ.ok=true)->AO V 199 [BK o,BK x] (.bool (!JB x.AZ)))(d:0<=m/\m<=4)(i:(∀x∈r,x.BA)/\r.length<1000000)(f:t.BA)(j:h.BA):
 AO V 142 [Z m,DU r,BK t,BK h] (.bool (JR m r t h)):=by
 refine BQ (Ax (aC:=⟨[uC m d,eH,p3 o b,yF o c],[]⟩) Uh.2 ?_);have e:JR m r t h=((decide ((r.length:Int)=if 1>m then 1 else m)&&r.all IC)&&(t.AZ.small&&(JB t.AZ&&h.AZ.small))):=by unfold JR;rw[Bool.and_assoc]
 rw[e];cases B:(decide ((r.length:Int)=if 1>m then 1 else m)&&r.all IC)
 ·simp(disch:=omega)[Uh,Uo,BT,B]
 ·cases g:t.AZ.small
  ·simp(disch:=first|omega|simp only[A9];omega)[Uh,Uo,BT,B,g]
  ·have l:t.BA/\t.AZ.ok=true:=⟨f,sN g⟩;cases a:JB t.AZ
   ·simp(disch:=first|omega|simp only[A9];omega)[Uh,Uo,BT,B,g,a]
   ·simp(disch:=first|omega|simp only[A9];omega)[Uh,Uo,BT,B,g,a]
theorem a39(a:0<=m/\m<=4)(b:(∀x∈r,x.BA)/\r.length<1000000)(c:t.BA)(d:h.BA):AO V 142 [Z m,DU r,BK t,BK h] (.bool (JR m r t h)):=
 zq (o:=⟨false,[1],[1]⟩) JY zN a b c d
theorem KU{a b:Int}:C1 a b c=true↔b<=a/\a<=c:=by simp[C1]
def DD(f:Nat->J)(i:Nat)(v:J):Nat->J:= λk=>if k=i then v else f k
@[simp] theorem OJ{f:Nat->J}{v:J}:DD f i v i=v:=by simp[DD]
theorem Jv{f:Nat->J}{k:Nat}{v:J}(h:k≠i):DD f i v k=f k:=by simp[DD,h]
def DR(l:List ByteArray):List Value:=(l.map λs=>[CU s]).flatten
theorem iB: ∀r∈l.map (λs=>[CU s]),r.length=1/\ ∀v∈r,DA v=true:= λr b=>by obtain⟨x,_,rfl⟩:=CG.1 b;exact⟨rfl,λv a=>by simp at a;subst a;rfl⟩
theorem rB{n:Nat}(b:l.length=n):(∀t,C6 (C6 (DI.B3 8 t)) (Fc 1 n (DR l))=some (l.map λs=>[CU s]))/\(∀t,(DR l).flatMap (BL 8 t)=[])/\(DR l).length=n:=by
 have c: ∀r∈l.map (λs=>[CU s]),r.length=1:= λr h=>(iB r h).1;have d:(DR l).length=n:=by rw[DR,LV c,E9,b,Nat.mul_one]
 refine⟨λt=> ?_,λt=>ZX λv a=> ?_,d⟩
 ·have:=aQ c;rw[E9,b]at this;rw[DR,this];exact Xg λr h=>Xg λv a=>PJ ((iB r h).2 v a)
 ·obtain⟨r,e,f⟩:=Mv.1 a;exact(iB r e).2 v f
theorem ry:DR (l++[s])=DR l++[CU s]:=by simp[DR]
abbrev uK:AN V:= .B9 137 F9 F9.BA (λx=>[Ow x]) (λx=> .bool x.Mo) λ_ h=>a36 h
@[simp] theorem aIT{n:ByteArray}{s e:List Am}(h:(F9.mk n s w e).BA):uK.fn [.agg #[CU n,O (s.map BT) 3,O (w.map λr=>[DU r]) 1,O (e.map BT) 3]]=some (.bool (F9.mk n s w e).Mo):=AN.BH (x:=F9.mk n s w e) h λy a=>o6 a
abbrev wg:AN V:= .B9 141 (Int×Int×Int×Ij) (λ_=>True) (λp=>[Z p.1,Z p.2.1,Z p.2.2.1,.agg #[Z p.2.2.2.a,Z p.2.2.2.b,Z p.2.2.2.c,Z p.2.2.2.d,Z p.2.2.2.e]]) (λp=> .bool (FI p.1 p.2.1 p.2.2.1 p.2.2.2)) λ_ _=>aCz
@[simp] theorem aLR{a b:Int}:wg.fn [Z k,Z m,Z q,.agg #[Z a,Z b,Z c,Z d,Z e]]=some (.bool (FI k m q ⟨a,b,c,d,e⟩)):=AN.BH (x:=(k,m,q,(⟨a,b,c,d,e⟩:Ij))) trivial λy f=>by obtain⟨p,r,s,t,u,v,w,z⟩:=y;simp at f;obtain⟨B,g,h,i,j,l,n,o⟩:=f;simp[B,g,h,i,j,l,n,o]
abbrev rE:AN V:= .B9 142 (Int×List Am×Am×Am) (λp=>(0<=p.1/\p.1<=4)/\((∀x∈p.2.1,x.BA)/\p.2.1.length<1000000)/\p.2.2.1.BA/\p.2.2.2.BA) (λp=>[Z p.1,DU p.2.1,BK p.2.2.1,BK p.2.2.2]) (λp=> .bool (JR p.1 p.2.1 p.2.2.1 p.2.2.2)) λ_ h=>a39 h.1 h.2.1 h.2.2.1 h.2.2.2
@[simp] theorem aJb(h:(0<=m/\m<=4)/\((∀x∈r,x.BA)/\r.length<1000000)/\(Am.mk n a b).BA/\(Am.mk ho G C).BA):rE.fn [Z m,O (r.map BT) 3,.agg #[.bool n,AT a,AT b],.agg #[.bool ho,AT G,AT C]]=some (.bool (JR m r ⟨n,a,b⟩ ⟨ho,G,C⟩)):=AN.BH (x:=(m,r,(⟨n,a,b⟩:Am),(⟨ho,G,C⟩:Am))) h λy c=>by obtain⟨l,o,⟨p,q,s⟩,⟨t,u,v⟩⟩:=y;simp[BT]at c;obtain⟨B,g,⟨d,e,f⟩,i,j,k⟩:=c;simp[B,g,d,e,f,i,j,k]
theorem Vs{c:CF}{t:X}(d z:Nat)(e:A d= .slice none 0 0)(h: ∀b,b.ac=t.ac+1->b.Y t.ac=some ⟨[],true⟩->(∀a,a<t.ac->b.Y a=t.Y a)->Bc P c (Fg A d (.slice (some ⟨t.ac,0,none⟩) 0 z)) b Q):Bc P c A t Q:=
 SP (d:=d) (z:=z) e (h _ (by simp) (AR (by simp)) λa f=>by rw[A6 (by omega),X.Ab])
@[simp] theorem oo{a b:ByteArray}:Hz (.string a) (.string b)=decide (a=b):=rfl
@[simp] theorem aG1{k c:IntKind}{a b:Int}:Hz (.int k a) (.int c b)=decide (a=b):=rfl
def Jj(l:List ByteArray):List (Value×Value):=l.map λx=>(CU x,.bool true)
theorem oN{s:ByteArray}: ∀{l:List ByteArray},Cy (CU s) (Jj l)=(H9 s l).map λ_=> .bool true
 |[]=>rfl
 | x::l=>by
   simp only[Jj,Dl,Cy,oo,H9];by_cases h:s=x
   ·simp[h]
   ·have:=oN (s:=s) (l:=l);simp only[Jj]at this;simp only[h,decide_false,if_false,this,Option.map_map,E3];rfl
theorem tD{s:ByteArray}: ∀{l:List ByteArray},H9 s l=none->Dy (CU s) (.bool true) (Jj l)=Jj (l++[s])
 |[],_=>by simp[Jj,Dy]
 | x::l,h=>by
   simp only[H9]at h;split at h
   ·cases h
   ·next a=>have:=tD (s:=s) (l:=l) (by cases b:H9 s l with|none=>rfl|some v=>rw[b]at h;cases h);simp only[Jj]at this;simp only[Jj,Dl,Dy,oo,a,decide_false,E3,if_false,Js,this]
theorem a4A:ET .str (CU s) (Jj l)=true:=by simp only[ET,Jj,DX,Bool.true_and,List.all_map,BR];intro x _;rfl
theorem eN: ∀{l:List ByteArray},s∉l->H9 s l=none
 |[],_=>rfl
 | x::l,h=>by simp only[CZ,not_or]at h;simp only[H9,if_neg h.1,eN h.2];rfl
theorem a1u(h:l.Nodup)(b:i<l.length):l[i]∉l.take i:= λc=>by
 obtain⟨j,d,a⟩:=E5 c;rw[List.getElem_take]at a;have e:j<i:=by rw[IG]at d;omega
 exact(Mb.1 h j i (by omega) b e) a
theorem vO:(DR l).length=l.length:=(rB (l:=l) rfl).2.2
def EW(l:List ByteArray):Bool:=l.all Ie&&decide l.Nodup
theorem qD{s:ByteArray}: ∀{l:List ByteArray},s∈l->H9 s l≠none
 |[],h=>by cases h
 | x::l,h=>by
   simp only[H9];split
   ·exact λh=>by cases h
   ·next e=>
    have c:s∈l:=by
     rcases CZ.1 h with rfl|h
     ·exact absurd rfl e
     ·exact h
    have:=qD c;intro a;cases b:H9 s l with
    |none=>exact this b
    |some k=>rw[b]at a;cases a
theorem a5q(u:l.length<1000000)(b:EW l=true):AO V 114 [Q6 l] (.bool true):=by
 refine BQ (Ax (aC:=⟨[],[]⟩) tA.2 ?_);simp only[EW,AF,BW,BR]at b;simp[tA,xZ];refine Cc (aC:=⟨[m4],[]⟩) (λi A t=>t.Bs 0=some (Jj (l.take i))/\A 3= .map (some 0)/\A 7=Q6 l/\A 8=Z l.length/\A 9=Z i) l.length ?_ ?_ 0 _ _ (C8 _) ⟨by simp(disch:=first|omega|simp only[A9];omega)[Jj],by simp,by simp,by simp,by simp⟩
 ·rintro i A t c ⟨d,e,f,a,g⟩ v k;have m:l[i]?=some l[i]:=AP c;have o:=BZ (n:=i) (by omega);have p:(i:Int)<l.length:=(by omega);have q:ET .str (CU l[i]) (Jj (l.take i))=true:=a4A;have w:=E (DO d).1;have r:=b.1 _ (Dq c);have h:H9 l[i] (l.take i)=none:=eN (a1u b.2 c);have s:Cy (CU l[i]) (Jj (l.take i))=none:=(by rw[oN,h];rfl);simp(disch:=first|omega|simp only[A9];omega)[iX,Y7,e,f,a,g,p,o,r,d,s,q,-Cy,-Dy,-ET,-H,-D,-I,-F,-List.map_map];refine k _ _ ⟨?_,by simp[e],by simp[f],by simp[a],by simp⟩;rw[Nl m,<-tD h];simp(disch:=omega)
 ·rintro A t ⟨d,e,f,a,g⟩;simp[iX,Y7,a,g,Y7]
abbrev tY:AN V:= .B9 114 (List ByteArray) (λl=>l.length<1000000/\EW l=true) (λl=>[Q6 l]) (λl=> .bool true) λ_ h=>a5q h.1 h.2
@[simp] theorem aGN(h:l.length<1000000/\EW l=true):tY.fn [O (l.map λs=>[CU s]) 1]=some (.bool true):=AN.BH (x:=l) h λy a=>by simpa using a
def K3(x:Dg)(n:Nat):Bool:=FI x.k x.m x.q x.Dz&&(!x.Af.isEmpty&&(JR x.m x.Mx x.KR x.KV&&((x.Af.all λm=>C1 m 0 ((n:Int)-1))&&decide x.Af.Nodup)))
structure Dg.Cu(x:Dg):Prop where
 DB:(∀y∈x.Mx,y.BA)/\x.Mx.length<1000000
 aMI:x.KR.BA
 aMH:x.KV.BA
 len:x.Af.length<1000000
theorem xy{l:List Int}(h:l.Nodup)(b:i<l.length):l[i]∉l.take i:= λc=>by
 obtain⟨j,d,a⟩:=E5 c;rw[List.getElem_take]at a;have e:j<i:=by rw[IG]at d;omega
 exact(Mb.1 h j i (by omega) b e) a
theorem aA5{x:Dg}{n:Nat}(A4:n<1000000)(h:Dg.Cu x)(v:K3 x n=true):AO V 113 [.agg (BE x).toArray,Z n] (.bool true):=by
 refine BQ (Ax (aC:=⟨[nH,oh],[]⟩) ng.2 ?_);obtain⟨C,G,J,A5⟩:=h;simp only[K3,AF,JQ,BW,BR]at v;obtain⟨B,K,L,M,N⟩:=v;have O: ¬x.Af.length=0:= λe=>by rw[<-List.isEmpty_iff_length_eq_zero,K]at e;cases e
 have A6: ¬(x.Af.length:Int)=0:=by omega
 have A7:((∀y∈x.Mx,y.BA)/\x.Mx.length<1000000)/\x.KR.BA/\x.KV.BA:=⟨C,G,J⟩;have P:(n:Int)*1<=140737488355328/\n<=140737488355328/\(n:Int)<=140737488355328/\(n:Int)<=9223372036854775807:=by omega
 simp(disch:=first|omega|simp only[A9];omega)[ng,pL,BE,B,L,O,P,-H,-D,-I,-F,-List.map_map];refine Cc (aC:=⟨[LH],[]⟩) (λi A t=> ∃b:List Bool,b.length=n/\(∀j:Nat,j<n->b[j]?=some (decide ((j:Int)∈x.Af.take i)))/\t.Y 3=some ⟨b.map Value.bool,true⟩/\A 1=Z n/\A 5= .slice (some ⟨3,0,none⟩) n 1/\A 39=AK x.Af/\A 40=Z x.Af.length/\A 41=Z i) x.Af.length ?_ ?_ 0 _ _ (C8 _) ⟨List.replicate n false,by simp,λj g=>by simp[g],by simp(disch:=first|omega|simp only[A9];omega)[-H,-D,-I,-F,-List.map_map],by simp,by simp,by simp,by simp,by simp⟩
 ·rintro i A t k ⟨b,c,l,m,o,p,q,d,r⟩ A8 Q;have R:x.Af[i]?=some x.Af[i]:=AP k;have S:=BZ (n:=i) (by omega);have T:IntKind.i64.wrap ((n:Int)-1)=(n:Int)-1:=Ac (by omega) (by omega);have U:(i:Int)<x.Af.length:=(by omega);have f:=M _ (Dq k);have w:=xy N k;obtain⟨a,s⟩:=Dp (KU.1 f).1;rw[s]at f w;have AA:=KU.1 f;have u:a<n:=(by omega);have W:(a:Int)<(n:Int):=(by omega);have X:a+1<=n:=u;have A0:x.Af[i]?=some (a:Int):=(by rw[R,s]);have AB:=E m;have A1:b[a]?=some false:=(by rw[l a u];simp[w]);have A2:(b.map Value.bool)[a]?=some (.bool false):=(by rw[GX,A1];rfl);have A3: ∀j:Nat,j<n->(b.set a true)[j]?=some (decide ((j:Int)∈x.Af.take (i+1))):= λj g=>by
   rw[Ih,Nl A0];by_cases e:a=j
   ·subst e;simp[c,u]
   ·rw[if_neg e,l j g];have: ¬(j:Int)=(a:Int):=(by omega);simp[this]
  simp(disch:=first|omega|simp only[A9];omega)[gW,XI,o,p,q,d,r,U,S,T,BG,s,W,X,c,A2,f,m,-H,-D,-I,-F,-List.map_map];refine Q _ _ ⟨b.set a true,by simp[c],A3,?_,by simp[o],by simp[p],by simp[q],by simp[d],by simp⟩;simp(disch:=first|omega|simp only[A9];omega)
 ·rintro A t ⟨b,c,l,m,o,p,q,d,r⟩;simp(disch:=first|omega|simp only[A9];omega)[gW,XI,d,r,XI]
abbrev pv(n:Nat)(a:n<1000000):AN V:= .B9 113 Dg (λx=>Dg.Cu x/\K3 x n=true) (λx=>[.agg (BE x).toArray,Z n]) (λx=> .bool true) λ_ h=>aA5 a h.1 h.2
@[simp] theorem aHG{n:Nat}{i:n<1000000}{x:Dg}(h:Dg.Cu x/\K3 x n=true):(pv n i).fn [.agg #[CU x.name,Z x.k,Z x.m,Z x.q,Z x.Dz.a,Z x.Dz.b,Z x.Dz.c,Z x.Dz.d,Z x.Dz.e,AK x.Af,DU x.Mx,.bool x.KR.Hq,AT x.KR.a,AT x.KR.b,.bool x.KV.Hq,AT x.KV.a,AT x.KV.b],Z n]=some (.bool true):=AN.BH (x:=x) h λy f=>by obtain⟨F,G,H,I,⟨J,K,L,M,N⟩,O,P,⟨Q,R,S⟩,⟨T,U,V⟩⟩:=y;obtain⟨W,X,Y,A0,⟨A1,A2,A3,A4,A5⟩,A6,A7,⟨A8,A9,AA⟩,⟨AB,AD,AE⟩⟩:=x;simp[BE]at f;obtain⟨B,g,j,l,o,p,r,s,t,u,v,w,z,A,C,D,E⟩:=f;subst B;subst g;subst j;subst l;subst o;subst p;subst r;subst s;subst t;subst u;subst v;subst w;subst z;subst A;subst C;subst D;subst E;rfl
def Na(d:Ct):Bool:=decide (d.name=⟨#[]⟩)&&(decide (d.Fw=0)&&(decide (d.parent= -1)&&(decide (d.Rk=0)&&(d.Hm.AZ.small&& !decide (0<d.Hm.AZ.n)))))
def Vl(ds:List Ct)(d:Ct):Bool:=match ds[d.parent.toNat]? with
 |some q=>decide (q.Fw=d.Fw-1)
 |none=>false
def O2(ds:List Ct)(i:Nat)(d:Ct):Bool:=C1 d.parent 0 i&&(Vl ds d&&(C1 d.Fw 1 4&&(C1 d.Rk 1 64&&d.Hm.AZ.small)))
def Kw(ds:List Ct):Bool:=match ds with
 |[]=>false
 | r::l=>Na r&&(List.range l.length).all λi=>match l[i]? with
   |some d=>O2 ds i d
   |none=>true
theorem ej{r:Ct}{l:List Ct}:Kw (r::l)=(Na r&&(List.range l.length).all λi=>match l[i]? with
 |some d=>O2 (r::l) i d
 |none=>true):=rfl
structure AL.Cu(u:AL):Prop where
 Bu: ∀x∈u.Bu,x.BA
 A5: ∀x∈u.A5,x.Hm.BA
 B7: ∀x∈u.B7,Dg.Cu x
 e9:u.Bu.length<=1000
 BV:u.Af.length<=1000
 Cg:u.A5.length<=1000
 Es:u.A4.length<=1000
 eB:u.B7.length<=1000
 EF:u.A3.length<=1000
theorem a83{r:Ct}{l:List Ct}{d:Ct}(a:l[i]?=some d)(h:O2 (r::l) i d=false):Kw (r::l)=false:=by rw[ej];rw[Bool.and_eq_false_iff];refine .inr ?_;rw[List.all_eq_false];exact⟨i,G3.2 (Ae.1 a).1,by simp[a,h]⟩
theorem rk{r:Ct}{l:List Ct}(h:Kw (r::l)=true){d:Ct}(a:l[i]?=some d):O2 (r::l) i d=true:=by
 cases b:O2 (r::l) i d
 ·rw[a83 a b]at h;cases h
 ·rfl
theorem aCH{u:AL}(h:AL.Cu u)(b:Kw u.A5=true):AO V 111 [.agg (A7 u).toArray] (.bool true):=by
 refine BQ (Ax (aC:=⟨[UH,l7],[]⟩) rZ.2 ?_);have A4:=h.Cg;cases a:u.A5 with
 |nil=>rw[a]at b;cases b
 |cons R ds=>
 have A6:u.A5.length=ds.length+1:=by rw[a];rfl
 have A8: ¬(u.A5.length:Int)=0:=by omega
 have AA:(0:Int)<u.A5.length:=by omega
 have v: ¬u.A5.length=0:=by omega
 have w:0<u.A5.length:=by omega
 have AB:1<=u.A5.length:=by omega
 have x:(1:Int)<=u.A5.length:=by omega
 have y:u.A5[0]?=some R:=by rw[a];rfl
 have AD:R.Hm.BA:=h.A5 R (by rw[a];simp);have z:=(Ae.1 y).2;have B:(List.take u.A5.length (u.A5.map Bq)).tail=ds.map Bq:=by rw[DP (by simp),a];rfl
 have C:u.A5.length-1=ds.length:=by omega
 have p:Na R=true:=by rw[a,ej,AF]at b;exact b.1
 simp only[Na,AF,BW,JQ,OB]at p;obtain⟨G,J,K,L,M,N⟩:=p;simp(disch:=first|omega|simp only[A9];omega)[rZ,nb,A7,Bq,v,w,x,z,G,J,K,L,M,N];rw[B,C];refine Cc (aC:=⟨[LH,UH],[]⟩) (λi A t=>t.Y 0=some ⟨A7 u,true⟩/\A 1=AG 0/\A 45=O (ds.map Bq) 7/\A 46=Z ds.length/\A 47=Z i) ds.length ?_ ?_ 0 _ _ (C8 _) ⟨by simp(disch:=first|omega|simp only[A9];omega)[A7,-H,-D,-I,-F,-List.map_map],by simp,by simp,by simp,by simp⟩
 ·rintro i A t q ⟨d,f,g,e,j⟩ AE P;have Q:ds[i]?=some ds[i]:=AP q;have S:=BZ (n:=i) (by omega);have T:(i:Int)<ds.length:=(by omega);have AI:=E d;have AJ:ds[i].Hm.BA:=h.A5 _ (by rw[a];exact Pc _ (Dq q));have k:=rk (a▸b) Q;rw[<-a]at k;simp only[O2,AF]at k;obtain⟨l,m,r,U,W⟩:=k;have X:=KU.1 l;have AK:=KU.1 r;obtain⟨c,o⟩:=Dp X.1;have A0:c<u.A5.length:=(by omega);have A1:u.A5[c]?=some u.A5[c]:=AP A0;have A2:(c:Int)<u.A5.length:=(by omega);rw[o]at l;have A3:u.A5[c].Fw=IntKind.i64.wrap (ds[i].Fw-1):=by
   unfold Vl at m;rw[o,Dx,A1]at m;rw[Ac (by omega) (by omega)];simpa using m
  simp(disch:=first|omega|simp only[A9];omega)[kO,bj,Zf,Zy,dX,A7,Bq,f,g,e,j,d,T,S,o,A2,l,A3,r,U,W,-H,-D,-I,-F,-List.map_map];exact P _ _ ⟨by simp(disch:=first|omega|simp only[A9];omega)[d,A7,-H,-D,-I,-F,-List.map_map],by simp[f],by simp[g],by simp[e],by simp⟩
 ·rintro A t ⟨d,f,g,e,j⟩;simp[kO,bj,Zf,Zy,dX,e,j,dX,bj,Zf,Zy]
abbrev xv(u:AL)(h:AL.Cu u)(a:Kw u.A5=true):AN V:= .B9 111 Unit (λ_=>True) (λ_=>[.agg (A7 u).toArray]) (λ_=> .bool true) λ_ _=>aCH h a
@[simp] theorem aHQ{h:AL.Cu u}{a:Kw u.A5=true}:(xv u h a).fn [.agg #[Z u.ext,O (u.Bu.map CS) 4,O (u.Af.map CX) 4,O (u.A5.map Bq) 7,O (u.A4.map Bx) 3,O (u.B7.map BE) 17,O (u.A3.map CW) 2]]=some (.bool true):=AN.BH (x:=()) trivial λ_ _=>rfl
end Go.Proofs.YtmmkkggfmigppaaGreat
end
