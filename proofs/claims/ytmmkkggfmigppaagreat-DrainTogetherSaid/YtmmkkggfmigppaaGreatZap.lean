/-
  A part of the proof, shortened by tools of ours.
-/
import Derived.Test.YtmmkkggfmigppaaGreatZao
set_option linter.all false
set_option maxRecDepth 8000
set_option maxHeartbeats 16000000
namespace Go.Proofs.YtmmkkggfmigppaaGreat
open Go Go.DI Go.Big
attribute [local simp] adI adJ adK adL adX adY adZ
noncomputable def NF:bx N:= .cK 140 cq cq.dq (λx=>[dL x]) (λx=> .bool x.bZ.small) λ_ S=>ao1 S
@[simp] theorem aVa:NF.f=140:=rfl
theorem aGm{n:Bool}{a b:List Int}(h:(cq.mk n a b).dq):NF.fn [.agg #[.bool n,b5 a,b5 b]]=some (.bool (cq.mk n a b).bZ.small):=bx.dx (x:=cq.mk n a b) h λy Y=>C3 Y
theorem abV{l:List cq}{n:Nat}(S: ∀x∈l,x.dq)(ae:n<1000000):bP N 190 [iP l,E n] (.bool (decide (l.length=n)&&l.all λx=>x.bZ.small)):=by
 have O:(l.all λx=>x.bZ.small)=true:=dP.2 λ_ _=>rfl;refine du (c2 (ax:=⟨[NF],[]⟩) ajC (by kernel_rfl) (by simp[Hm]) ?_);by_cases az:l.length=n
 ·have ib:((l.length:Nat):Int)=(n:Int):=(by omega);simp(disch:=omega) [Hm,Q9,ib];refine gR (ax:=⟨[NF],[]⟩) (λi z t=>z 0=iP l/\z 1=E n/\z 5=E i) n ?_ ?_ 0 _ _ (gi _) ⟨by simp,by simp,by simp⟩
  ·rintro i z t W ⟨bO,aU,bz⟩ bM a1;have B:l[i]?=some l[i]:=c1 (by omega);have ab:l[i].dq:=S _ (kd _);have br:=fz (n:=i) (by omega);have bC:(i:Int)<n:=(by omega);have f:NF.fn [.agg #[.bool l[i].ku,b5 l[i].a,b5 l[i].b]]=some (.bool true):=aGm (n:=l[i].ku) (a:=l[i].a) (b:=l[i].b) ab;simp(disch:=first|omega|simp only[DI.aK];omega) [Li,B2,bO,aU,bz,bC,br,f,ew,-an,-au,-ak,-aq,-List.map_map];exact⟨by omega,a1 _ _ ⟨by simp[bO],by simp[aU],by simp⟩⟩
  ·rintro z t ⟨bO,aU,bz⟩;simp[Li,B2,aU,bz,B2];simp[az];exact dP.1 O
 ·have ib: ¬((l.length:Nat):Int)=(n:Int):=(by omega);simp[Hm,Q9,B2,ib,az]
theorem aqS:bP N 193 [E 0] (.agg #[.bool false,kH,b5 [1]]):=gV (by kernel_rfl)
theorem aeb:bP N 194 [kH] kH:=gV (by kernel_rfl)
theorem ad4:bP N 246 [kH] (.bool false):=gV (by kernel_rfl)
theorem UE:bP N 194 [b5 [0]] kH:=gV (by kernel_rfl)
theorem ad1:bP N 241 [b5 [1],kH] (E 1):=gV (by kernel_rfl)
theorem aea:bP N 240 [b5 [1],b5 [1]] (b5 [1]):=gV (by kernel_rfl)
theorem anB{x:Int}: ¬kH=ad [[ez x]] 1:=by unfold ad;simp
theorem aC9{x:Int}: ¬ad [[ez x]] 1=kH:=by unfold ad;simp
noncomputable def T1:bx N:=tP (dA ad4) FE rfl
theorem aGz:T1.f=246:=rfl
theorem aGx:T1.fn [kH]=some (.bool false):=AK (jU ad4)
theorem aGy{x:Int}(h:x≠0):T1.fn [ad [[ez x]] 1]=some (.bool false):=y3 (y2 ad4 (by simp[anB])) (aGA h)
noncomputable def T5:bx N:=tP (dA aeb) q4 rfl
theorem aGG:T5.f=194:=rfl
theorem aGE:T5.fn [kH]=some kH:=AK (jU aeb)
theorem aGF{x:Int}(h:x≠0):T5.fn [ad [[ez x]] 1]=some (b5 [x]):=y3 (y2 aeb (by simp[anB])) (aGH h)
section
variable {G:Int} (A:2<=G) (D:G<200)
include A D
theorem ad9:bP N 268 [kH,b5 [G]] kH:=by have f:(dA UE).fn [ad [[ez 0]] 1]=some kH:=jU UE;refine du (c2 (ax:=⟨[dA UE],[]⟩) akK (by kernel_rfl) (by simp[RG]) ?_);simp[RG,akJ];refine eF (ax:=⟨[dA UE],[]⟩) λbM a1=> ?_;simp[akL,YF,YF,f,Br,yX]
theorem ad5:bP N 260 [kH,b5 [G]] (.tuple #[kH,E 0]):=by
 have bw:G≠0:=by omega
 have bt:=aGx;have bR:=aGy bw;have a3:=aGE;have a4:=aGF bw;have ft:(dA (ad9 A D)).fn [kH,ad [[ez G]] 1]=some kH:=jU (ad9 A D);refine du (c2 (ax:=⟨[T1,T5,dA (ad9 A D)],[]⟩) akI (by kernel_rfl) (by simp[RF]) ?_);simp[RF,akH,bt,bR,a3,a4,ft,aGz,aGG]
theorem aqZ:bP N 240 [kH,b5 [G]] kH:=by have ft:(dA (ad5 A D)).fn [kH,ad [[ez G]] 1]=some (.tuple #[kH,E 0]):=jU (ad5 A D);refine du (c2 (ax:=⟨[dA (ad5 A D)],[]⟩) akm (by kernel_rfl) (by simp[Rv]) ?_);simp[Rv,akl,ft]
noncomputable def T4:bx N:=tP (dA aea) (dA (aqZ A D)) rfl
theorem aGD:(T4 A D).f=240:=rfl
theorem aGB:(T4 A D).fn [ad [[ez 1]] 1,ad [[ez 1]] 1]=some (b5 [1]):=AK (jU aea)
theorem aGC:(T4 A D).fn [kH,ad [[ez G]] 1]=some kH:=y3 (y2 aea (λh=>aC9 (List.cons.inj h).1)) (jU (aqZ A D))
theorem ad6:bP N 195 [dL ⟨false,[1],[G]⟩,.agg #[.bool false,kH,b5 [1]]] (E 1):=by have bt:=aGB A D;have bR:=aGC A D;have a3:(dA ad1).fn [ad [[ez 1]] 1,kH]=some (E 1):=jU ad1;refine du (c2 (ax:=⟨[T4 A D,dA ad1],[]⟩) ajH (by kernel_rfl) (by simp[Rb]) ?_);simp[Rb,ajG,bt,bR,a3,aGD,ew]
theorem aqW:bP N 139 [dL ⟨false,[1],[G]⟩] (E 1):=by have bt:=jU aqS;have bR:(dA (ad6 A D)).fn [.agg #[.bool false,ad [[ez 1]] 1,ad [[ez G]] 1],.agg #[.bool false,kH,ad [[ez 1]] 1]]=some (E 1):=jU (ad6 A D);refine du (c2 (ax:=⟨[dA aqS,dA (ad6 A D)],[]⟩) ai3 (by kernel_rfl) (by simp[QT]) ?_);simp[QT,ai2,bt,bR,ew]
theorem api:([dL ⟨false,[],[1]⟩]:List Value)≠[dL ⟨false,[1],[G]⟩]:= λh=>by simp[ew]at h
noncomputable def qf:bx N:=tP (dA (U2 (x:=⟨false,[],[1]⟩) (by unfold cq.dq;decide))) (dA (aq6 A D)) rfl
theorem TL:(qf A D).f=171:=rfl
theorem aph:(qf A D).fn [.agg #[.bool false,ad [] 1,ad [[ez 1]] 1]]=some (.bool false):=AK (jU (U2 (x:=⟨false,[],[1]⟩) (by unfold cq.dq;decide)))
theorem aGc:(qf A D).fn [.agg #[.bool false,ad [[ez 1]] 1,ad [[ez G]] 1]]=some (.bool true):=y3 (y2 _ (api A D)) (jU (aq6 A D))
omit A D in
theorem KN{b:Bool}:bP N 226 [.bool b] (.bool b):=by refine du (c2 (ax:=⟨[],[]⟩) ayt (by kernel_rfl) (by simp[Yp]) ?_);simp[Yp,aj6]
omit A D in
theorem s8:bP N 225 [ad [[.bool true]] 1,.func (.func 226) #[] #[]] (.bool true):=by have f:(dA (KN (b:=true))).fn [.bool true]=some (.bool true):=jU KN;refine du (c2 (ax:=⟨[dA (KN (b:=true))],[]⟩) ays (by kernel_rfl) (by simp[Yn]) ?_);simp[Yn,aj5];refine eF (ax:=⟨[dA (KN (b:=true))],[]⟩) λbM a1=> ?_;simp[Yo,Rp,f];refine a1 _ _ (eF (ax:=⟨[dA (KN (b:=true))],[]⟩) λbM a1=> ?_);simp[Yo,Rp,Rp]
def HV(ev:ByteArray)(G:Int):la:=⟨ev,[⟨false,[1],[1]⟩],[[⟨false,[],[1]⟩]],[⟨false,[1],[G]⟩]⟩
theorem af1{ev:ByteArray}:bP N 176 [C2 (HV ev G)] (.bool true):=by have bt:=aph A D;have bR:=aGc A D;have f:(dA s8).fn [ad [[.bool true]] 1,.func (.func 226) #[] #[]]=some (.bool true):=jU s8;refine du (c2 (ax:=⟨[qf A D,dA s8],[]⟩) axW (by kernel_rfl) (by simp[Yb]) ?_);simp[Yb,ajm,gf,HV,ew];refine eF (ax:=⟨[qf A D,dA s8],[]⟩) λbM a1=> ?_;simp[Q3,Q2];refine eF (ax:=⟨[qf A D,dA s8],[]⟩) λaR dz=> ?_;simp[K8,bR,ew];refine eF (ax:=⟨[qf A D,dA s8],[]⟩) λL gd=> ?_;simp[K7,ew];refine gd _ _ (eF (ax:=⟨[qf A D,dA s8],[]⟩) λX eE=> ?_);simp[K7];refine dz _ _ (eF (ax:=⟨[qf A D,dA s8],[]⟩) λaA eH=> ?_);simp[K8];refine a1 _ _ (eF (ax:=⟨[qf A D,dA s8],[]⟩) λaeo GD=> ?_);simp[Q3,Q2];refine eF (ax:=⟨[qf A D,dA s8],[]⟩) λaR dz=> ?_;simp[K8,ew];refine eF (ax:=⟨[qf A D,dA s8],[]⟩) λL gd=> ?_;simp[K7,ew];refine gd _ _ (eF (ax:=⟨[qf A D,dA s8],[]⟩) λX eE=> ?_);simp[K7];refine dz _ _ (eF (ax:=⟨[qf A D,dA s8],[]⟩) λaA eH=> ?_);simp[K8];refine GD _ _ (eF (ax:=⟨[qf A D,dA s8],[]⟩) λaJJ aOF=> ?_);simp[Q3,Q2,f,TL,Br,yX]
def HT(l:List cq):Prop:=l.length<1000000/\ ∀x∈l,bP N 170 [dL x] (.bool true)
omit A D in
theorem ar1{l:List cq}(h:HT l):bP N 172 [iP l,.func (.func 170) #[] #[]] (.bool true):=by have:=aeH (u:=170) (l:=l) (p:= λ_=>true) h.1 λx B=>h.2 x B;have e:(l.all λ_=>true)=true:=dP.2 λ_ _=>rfl;rw[e]at this;exact this
noncomputable def Nt:bx N:= .cK 172 (List cq) HT (λl=>[iP l,.func (.func 170) #[] #[]]) (λ_=> .bool true) λ_ h=>ar1 h
omit A D in
@[simp] theorem aTC:Nt.f=172:=rfl
omit A D in
theorem ab7{l:List cq}(h:HT l):Nt.fn [iP l,.func (.func 170) #[] #[]]=some (.bool true):=bx.dx (x:=l) h λy Y=>by simpa using Y
theorem aCF:HT [⟨false,[1],[G]⟩]:=⟨by simp,λx B=>by simp at B;subst B;exact aJv A D⟩
omit A D in
theorem aCE:HT [⟨false,[1],[1]⟩]:=⟨by decide,λx B=>by simp at B;subst B;exact Xw (by unfold cq.dq;decide)⟩
omit A D in
theorem aCD:HT [⟨false,[],[1]⟩]:=⟨by decide,λx B=>by simp at B;subst B;exact Xw (by unfold cq.dq;decide)⟩
noncomputable def Nw(ev:ByteArray):bx N:=dA (af1 A D (ev:=ev))
theorem ab9{ev:ByteArray}:(Nw A D ev).f=176:=rfl
theorem aC5{ev:ByteArray}:bP N 112 [C2 (HV ev G)] (.bool true):=by
 have bt:=ab7 (aCF A D);have bR:=ab7 aCE;have a3:=ab7 aCD;have a4:=aph A D;have aD:(dA M9).fn [E 1,E 1]=some (.tuple #[.agg #[.bool false,b5 [1],b5 [1]],E 0]):=jU M9;have aJ:(dA Na).fn [ad [[.bool false,b5 [1],b5 [1]]] 3]=some (.tuple #[.agg #[.bool false,b5 [1],b5 [1]],E 0]):=jU Na;have cg:(dA M7).fn [.agg #[.bool false,ad [[ez 1]] 1,ad [[ez 1]] 1],.agg #[.bool false,ad [[ez 1]] 1,ad [[ez 1]] 1]]=some (.tuple #[E 0,E 0]):=jU M7;have gA:(Nw A D ev).fn [.agg #[.string ev,ad [[.bool false,b5 [1],b5 [1]]] 3,ad [[iP [⟨false,[],[1]⟩]]] 1,ad [[.bool false,b5 [1],b5 [G]]] 3]]=some (.bool true):=jU (af1 A D (ev:=ev));simp only[iP,lO,List.map_nil,ew]at bt bR a3;have er:fH 1 1 4=true:=by decide
 refine du (c2 (ax:=⟨[u5,Nt,qf A D,dA M9,dA Na,dA M7,Nw A D ev],[]⟩) axz (by kernel_rfl) (by simp[XH]) ?_);simp[XH,aim,gf,HV,ew,bt,bR,er,TL,ab9];refine eF (ax:=⟨[u5,Nt,qf A D,dA M9,dA Na,dA M7,Nw A D ev],[]⟩) λbM a1=> ?_;simp[XJ,XI,ew,a3,a4,TL,ab9];refine a1 _ _ (eF (ax:=⟨[u5,Nt,qf A D,dA M9,dA Na,dA M7,Nw A D ev],[]⟩) λaR dz=> ?_);simp[XJ];simp[XI,ew,aD,aJ,cg,gA,TL,ab9]
omit A D in
theorem aIg{x:la}(S:x.dq):bP N 112 [C2 x] (.bool x.yM):=by obtain⟨ev,s,cC,e⟩:=x;obtain⟨G,A,D,rfl,rfl,rfl⟩:=S;exact aC5 A D (ev:=ev)
theorem UD:bP N 190 [iP [⟨false,[1],[G]⟩],E 1] (.bool true):=by have a:(dA (Oe A D)).fn [.agg #[.bool false,ad [[ez 1]] 1,ad [[ez G]] 1]]=some (.bool true):=jU (Oe A D);refine du (c2 (ax:=⟨[dA (Oe A D)],[]⟩) ajC (by kernel_rfl) (by simp[Hm]) ?_);simp[Hm,Q9,ew];refine eF (ax:=⟨[dA (Oe A D)],[]⟩) λbM a1=> ?_;simp[Li,B2,a,ew];refine a1 _ _ (eF (ax:=⟨[dA (Oe A D)],[]⟩) λbM a1=> ?_);simp[Li,B2,B2]
omit A D in
theorem ad8:bP N 190 [iP [⟨false,[1],[1]⟩],E 1] (.bool true):=abV (l:=[⟨false,[1],[1]⟩]) (n:=1) (λx B=>by simp at B;subst B;unfold cq.dq;decide) (by decide)
omit A D in
theorem aqY:bP N 190 [iP [⟨false,[],[1]⟩],E 1] (.bool true):=abV (l:=[⟨false,[],[1]⟩]) (n:=1) (λx B=>by simp at B;subst B;unfold cq.dq;decide) (by decide)
noncomputable def sK:bx N:=tP (dA (UD A D)) (tP (dA ad8) (dA aqY) rfl) rfl
theorem T0:(sK A D).f=190:=rfl
theorem aGu:(sK A D).fn [ad [[.bool false,b5 [1],b5 [G]]] 3,E 1]=some (.bool true):=AK (jU (UD A D))
theorem aGt:(sK A D).fn [ad [[.bool false,b5 [1],b5 [1]]] 3,E 1]=some (.bool true):=y3 (y2 (UD A D) λh=>by simp[ew]at h;omega) (AK (jU ad8))
theorem aGs:(sK A D).fn [ad [[.bool false,b5 [],b5 [1]]] 3,E 1]=some (.bool true):=y3 (y2 (UD A D) λh=>by simp[ew]at h) (y3 (y2 ad8 λh=>by simp[ew]at h) (jU aqY))
noncomputable def tQ:bx N:=tP (dA (abU (x:=⟨false,[],[1]⟩) (by unfold cq.dq;decide) rfl)) (dA (aqW A D)) rfl
theorem TY:(tQ A D).f=139:=rfl
theorem aGq:(tQ A D).fn [.agg #[.bool false,ad [] 1,ad [[ez 1]] 1]]=some (E 0):=AK (jU (abU (x:=⟨false,[],[1]⟩) (by unfold cq.dq;decide) rfl))
theorem aGr:(tQ A D).fn [.agg #[.bool false,ad [[ez 1]] 1,ad [[ez G]] 1]]=some (E 1):=y3 (y2 _ (api A D)) (jU (aqW A D))
theorem aC3{ev:ByteArray}:bP N 137 [C2 (HV ev G)] (.bool true):=by have bt:=aGu A D;have bR:=aGt A D;have a3:=aGs A D;have a4:=aGq A D;have ft:=aGr A D;have aD:(dA tO).fn [E 1]=some (.agg #[.bool false,b5 [1],b5 [1]]):=jU tO;have aJ:(dA u1).fn [ad [[.bool false,b5 [1],b5 [1]]] 3]=some (.tuple #[.agg #[.bool false,b5 [1],b5 [1]],E 0]):=jU u1;have cg:(dA u0).fn [.agg #[.bool false,ad [[ez 1]] 1,ad [[ez 1]] 1],.agg #[.bool false,ad [[ez 1]] 1,ad [[ez 1]] 1]]=some (.bool true):=jU u0;refine du (c2 (ax:=⟨[sK A D,tQ A D,dA tO,dA u1,dA u0],[]⟩) axH (by kernel_rfl) (by simp[X1]) ?_);simp[X1,aiZ,bt,bR,TY,T0,gf,HV,ew];refine eF (ax:=⟨[sK A D,tQ A D,dA tO,dA u1,dA u0],[]⟩) λbM a1=> ?_;simp[X2,a3,a4,TY,T0,ew];refine a1 _ _ (eF (ax:=⟨[sK A D,tQ A D,dA tO,dA u1,dA u0],[]⟩) λaR dz=> ?_);simp[X2,aD,aJ,cg,TY,T0,ew];refine eF (ax:=⟨[sK A D,tQ A D,dA tO,dA u1,dA u0],[]⟩) λP gq=> ?_;simp[X5];refine eF (ax:=⟨[sK A D,tQ A D,dA tO,dA u1,dA u0],[]⟩) λQ bb=> ?_;simp[X4,ft,TY,T0,ew];refine eF (ax:=⟨[sK A D,tQ A D,dA tO,dA u1,dA u0],[]⟩) λR c0=> ?_;simp[X3];refine c0 _ _ (eF (ax:=⟨[sK A D,tQ A D,dA tO,dA u1,dA u0],[]⟩) λaJS x9=> ?_);simp[X3];refine bb _ _ (eF (ax:=⟨[sK A D,tQ A D,dA tO,dA u1,dA u0],[]⟩) λaJR aOJ=> ?_);simp[X4];refine gq _ _ (eF (ax:=⟨[sK A D,tQ A D,dA tO,dA u1,dA u0],[]⟩) λaJQ aOI=> ?_);simp[X5];refine eF (ax:=⟨[sK A D,tQ A D,dA tO,dA u1,dA u0],[]⟩) λdX Ki=> ?_;simp[X6];refine Ki _ _ (eF (ax:=⟨[sK A D,tQ A D,dA tO,dA u1,dA u0],[]⟩) λaJW aOK=> ?_);simp[X6]
omit A D in
theorem aF6{x:la}(S:x.dq):bP N 137 [C2 x] (.bool x.yM):=by obtain⟨ev,s,cC,e⟩:=x;obtain⟨G,A,D,rfl,rfl,rfl⟩:=S;exact aC3 A D (ev:=ev)
end
noncomputable def Iw:bx N:= .cK 170 cq cq.dq (λx=>[dL x]) (λx=> .bool x.bZ.small) λ_ S=>Xw S
@[simp] theorem aTZ:Iw.f=170:=rfl
@[simp] theorem aT0{n:Bool}{a b:List Int}(h:(cq.mk n a b).dq):Iw.fn [.agg #[.bool n,b5 a,b5 b]]=some (.bool (cq.mk n a b).bZ.small):=bx.dx (x:=cq.mk n a b) h λy Y=>C3 Y
noncomputable def TM:bx N:= .cK 171 cq cq.dq (λx=>[dL x]) (λx=> .bool (decide (0<x.bZ.n))) λ_ S=>U2 S
@[simp] theorem aTy:TM.f=171:=rfl
@[simp] theorem aTz{n:Bool}{a b:List Int}(h:(cq.mk n a b).dq):TM.fn [.agg #[.bool n,b5 a,b5 b]]=some (.bool (decide (0<(cq.mk n a b).bZ.n))):=bx.dx (x:=cq.mk n a b) h λy Y=>C3 Y
end Go.Proofs.YtmmkkggfmigppaaGreat
namespace Go.Big
structure rn where
 a:Int
 b:Int
 c:Int
 d:Int
 e:Int
 deriving DecidableEq
structure F8 where
 name:ByteArray
 ext:Int
 an9:Int
 amP:Int
 deriving DecidableEq
structure ho where
 name:ByteArray
 jQ:Int
 parent:Int
 iu:Int
 pk:cq
 deriving DecidableEq
structure oS where
 name:ByteArray
 model:Int
 yD:Int
 deriving DecidableEq
structure hQ where
 name:ByteArray
 k:Int
 m:Int
 q:Int
 ax:rn
 cr:List Int
 pe:List cq
 qi:cq
 m7:cq
 deriving DecidableEq
structure s5 where
 name:ByteArray
 p9:Int
 deriving DecidableEq
structure aG where
 ext:Int
 eI:List la
 cr:List F8
 aP:List ho
 aY:List oS
 dj:List hQ
 aZ:List s5
 deriving DecidableEq
end Go.Big
namespace Go.Proofs.YtmmkkggfmigppaaGreat
open Go Go.DI Go.Big
abbrev gD(s:ByteArray):Value:= .string s
abbrev DF(l:List ByteArray):Value:=ad (l.map λs=>[gD s]) 1
abbrev bm(l:List Int):Value:=ad (l.map λs=>[E s]) 1
def gp(x:F8):List Value:=[gD x.name,E x.ext,E x.an9,E x.amP]
def eG(x:ho):List Value:=[gD x.name,E x.jQ,E x.parent,E x.iu,.bool x.pk.ku,b5 x.pk.a,b5 x.pk.b]
def fk(x:oS):List Value:=[gD x.name,E x.model,E x.yD]
def dE(x:hQ):List Value:=[gD x.name,E x.k,E x.m,E x.q,E x.ax.a,E x.ax.b,E x.ax.c,E x.ax.d,E x.ax.e,bm x.cr,iP x.pe,.bool x.qi.ku,b5 x.qi.a,b5 x.qi.b,.bool x.m7.ku,b5 x.m7.a,b5 x.m7.b]
def ga(x:s5):List Value:=[gD x.name,E x.p9]
def aI(x:aG):List Value:=[E x.ext,ad (x.eI.map gf) 4,ad (x.cr.map gp) 4,ad (x.aP.map eG) 7,ad (x.aY.map fk) 3,ad (x.dj.map dE) 17,ad (x.aZ.map ga) 2]
@[simp] theorem aXj{l c5:List ByteArray}:(l.map λs=>[gD s])=(c5.map λs=>[gD s])↔l=c5:=Cj λx y h=>by simpa using h
@[simp] theorem amy{l c5:List Int}:(l.map λs=>[E s])=(c5.map λs=>[E s])↔l=c5:=Cj λx y h=>by simpa using h
end Go.Proofs.YtmmkkggfmigppaaGreat
namespace Go.Big
def rL(x:eQ):Bool:=x.ok&&decide (rQ x .mv<=0)
def q1(x:cq):Bool:=x.bZ.small&&decide (0<x.bZ.n)
def sF(m:Int)(r:List cq)(t h:cq):Bool:=decide ((r.length:Int)=if 1>m then 1 else m)&&(r.all q1&&(t.bZ.small&&(rL t.bZ&&h.bZ.small)))
end Go.Big
namespace Go.Proofs.YtmmkkggfmigppaaGreat
open Go Go.DI Go.Big
theorem aCk{x:cq}(S:x.dq):bP N 230 [dL x] (.bool (rL x.bZ)):=aCl S
theorem aEJ{x:cq}(S:x.dq):bP N 229 [dL x] (.bool (q1 x)):=by refine du (c2 (ax:=⟨[Iw,TM],[]⟩) ayw (by kernel_rfl) (by simp[Ys]) ?_);cases h:x.bZ.small<;>simp(disch:=first|omega|simp only[bE];omega) [Ys,aj9,ew,h,q1]
noncomputable def acg:bx N:= .cK 230 cq cq.dq (λx=>[dL x]) (λx=> .bool (rL x.bZ)) λ_ S=>aCk S
@[simp] theorem aT7:acg.f=230:=rfl
@[simp] theorem aT8{n:Bool}{a b:List Int}(h:(cq.mk n a b).dq):acg.fn [.agg #[.bool n,b5 a,b5 b]]=some (.bool (rL (cq.mk n a b).bZ)):=bx.dx (x:=cq.mk n a b) h λy Y=>C3 Y
noncomputable def acA:bx N:= .cK 172 (List cq) (λl=>(∀x∈l,x.dq)/\l.length<1000000) (λl=>[iP l,.func (.func 229) #[] #[]]) (λl=> .bool (l.all q1)) λ_ h=>aeH h.2 λx B=>aEJ (h.1 x B)
@[simp] theorem aVu:acA.f=172:=rfl
@[simp] theorem aVv{l:List cq}(h:(∀x∈l,x.dq)/\l.length<1000000):acA.fn [ad (l.map ew) 3,.func (.func 229) #[] #[]]=some (.bool (l.all q1)):=bx.dx (x:=l) h λy Y=>by simpa using Y
theorem aEK{m:Int}{r:List cq}{t h:cq}(al:(∀x∈r,x.dq)/\r.length<1000000)(ba:t.dq)(bT:h.dq):bP N 178 [E m,iP r,dL t,dL h] (.bool (sF m r t h)):=by
 refine du (c2 (ax:=⟨[acA,Iw,acg],[]⟩) axY (by kernel_rfl) (by simp[Hh]) ?_);by_cases A:(r.length:Int)=if 1>m then 1 else m
 ·cases D:r.all q1
  ·simp(disch:=omega) [Hh,K9,ew,A,D,sF]
  ·cases ai:t.bZ.small
   ·simp(disch:=first|omega|simp only[bE];omega) [Hh,K9,ew,A,D,ai,sF]
   ·cases aT:rL t.bZ<;>simp(disch:=first|omega|simp only[bE];omega) [Hh,K9,ew,A,D,ai,aT,sF]
 ·simp[Hh,K9,ew,A,sF]
end Go.Proofs.YtmmkkggfmigppaaGreat
namespace Go.Big
def mr(k m q:Int)(s:rn):Bool:=fH k 1 6&&(fH m 0 4&&(decide (k+m<=8)&&(fH q k (k+m)&&(decide (s.a=0)&&(fH s.a 0 8&&(fH s.b 0 8&&(fH s.c 0 8&&(fH s.d 0 8&&fH s.e 0 8))))))))
end Go.Big
namespace Go.Proofs.YtmmkkggfmigppaaGreat
open Go Go.DI Go.Big
theorem axb{x:Int}:bP N 228 [E x] (.bool (fH x 0 8)):=by refine du (c2 (ax:=⟨[u5],[]⟩) ayv (by kernel_rfl) (by simp[Yr]) ?_);simp[Yr,aj8]
noncomputable def acd:bx N:= .cK 228 (Int) (λx=>True) (λx=>[E x]) (λx=> .bool (fH x 0 8)) (λx h=>axb)
@[simp] theorem aTX:acd.f=228:=rfl
@[simp] theorem aTY{x:Int}:acd.fn ([E x])=some (.bool (fH x 0 8)):=bx.dx (x:=x) trivial λy Y=>by simpa using Y
theorem aeI{l:List Int}(ae:l.length<1000000):bP N 227 [bm l,.func (.func 228) #[] #[]] (.bool (l.all λx=>fH x 0 8)):=by
 refine du (c2 (ax:=⟨[],[]⟩) ayu (by kernel_rfl) (by simp[Yq]) ?_);simp[Yq,aj7];refine gR (ax:=⟨[acd],[]⟩) (λi z t=>((l.take i).all λx=>fH x 0 8)=true/\z 1= .func (.func 228) #[] #[]/\z 7=bm l/\z 8=E l.length/\z 9=E i) l.length ?_ ?_ 0 _ _ (gi _) ⟨by simp,by simp,by simp,by simp,by simp⟩
 ·rintro i z t W ⟨aa,aU,ca,bl,cP⟩ bM a1;have B:l[i]?=some l[i]:=c1 W;have ab:l[i]∈l:=kd W;have br:=fz (n:=i) (by omega);have bC:(i:Int)<l.length:=(by omega);cases hb:fH l[i] 0 8
  ·simp(disch:=first|omega|simp only[bE];omega) [Rq,Lp,aU,ca,bl,cP,bC,hb];exact⟨_,ab,hb⟩
  ·simp(disch:=first|omega|simp only[bE];omega) [Rq,Lp,aU,ca,bl,cP,bC,br,hb,-an,-au,-ak,-aq,-List.map_map];exact a1 _ _ ⟨by rw[FN B,F3,aa];simp[hb],by simp[aU],by simp[ca],by simp[bl],by simp⟩
 ·rintro z t ⟨aa,aU,ca,bl,cP⟩;rw[mY]at aa;simp[Rq,Lp,bl,cP,Lp];simpa using aa
noncomputable def ab6:bx N:= .cK 227 (List Int) (λl=>l.length<1000000) (λl=>[bm l,.func (.func 228) #[] #[]]) (λl=> .bool (l.all λx=>fH x 0 8)) λ_ h=>aeI h
@[simp] theorem aTA:ab6.f=227:=rfl
@[simp] theorem aTB{a b c d e:Int}:ab6.fn [ad [[E a],[E b],[E c],[E d],[E e]] 1,.func (.func 228) #[] #[]]=some (.bool (fH a 0 8&&(fH b 0 8&&(fH c 0 8&&(fH d 0 8&&fH e 0 8))))):=by
  have:=bx.dx (ok:= λ_ h=>aeI h) (x:=[a,b,c,d,e]) (cD:= λl=>l.length<1000000) (enc:= λl=>[bm l,.func (.func 228) #[] #[]]) (by simp) λy Y=>amy.1 (ah5.1 (List.cons.inj Y).1).1;have e:[a,b,c,d,e].all (λx=>fH x 0 8)=(fH a 0 8&&(fH b 0 8&&(fH c 0 8&&(fH d 0 8&&fH e 0 8)))):=by simp
  rw[<-e];exact this
theorem aDv{k m q:Int}{s:rn}:bP N 177 [E k,E m,E q,.agg #[E s.a,E s.b,E s.c,E s.d,E s.e]] (.bool (mr k m q s)):=by
 refine du (c2 (ax:=⟨[u5,ab6],[]⟩) axX (by kernel_rfl) (by simp[B0]) ?_);have av3:5<=maxLen:=by unfold maxLen;omega
 cases A:fH k 1 6
 ·simp[B0,Ev,A,mr]
 ·cases D:fH m 0 4
  ·simp[B0,Ev,A,D,mr]
  ·have br:IntKind.i64.wrap (k+m)=k+m:=(by simp[fH]at A D;exact cY (by omega) (by omega));by_cases ai:k+m<=8
   ·have ux: ¬(8<k+m):=(by omega);cases aT:fH q k (k+m)
    ·simp[B0,Ev,A,D,ai,ux,aT,br,mr]
    ·by_cases bF:s.a=0
     ·simp[B0,Ev,A,D,ai,ux,aT,bF,br,av3,Br,yX,mr]
     ·simp[B0,Ev,A,D,ai,ux,aT,bF,br,mr]
   ·have ux:8<k+m:=(by omega);simp[B0,Ev,A,D,ai,ux,br,mr]
end Go.Proofs.YtmmkkggfmigppaaGreat
namespace Go.DI
open Go
section
variable {P:Program}
open Classical in
noncomputable def jg.cK(f:Nat)(ao:Type)(enc:ao->List Value)(u:ao->H->Option (Value×H))(ok: ∀x t r af,u x t=some (r,af)-> ∀bA:Value->H->Prop,bA r af->fc P f (enc x) t bA):jg P:=
 ⟨f,λargs t=>if h: ∃x,enc x=args then u h.choose t else none,λargs t r af h=>by
  split at h
  ·next B=>have:=ok _ t r af h;rw[B.choose_spec]at this;exact this
  ·cases h⟩
theorem jg.dx{f:Nat}{ao:Type}{enc:ao->List Value}{u:ao->H->Option (Value×H)}{ok: ∀x t r af,u x t=some (r,af)-> ∀bA:Value->H->Prop,bA r af->fc P f (enc x) t bA}{x:ao}{t:H}(W: ∀y,enc y=enc x->y=x):(jg.cK f ao enc u ok).fn (enc x) t=u x t:=by have g2: ∃y,enc y=enc x:=⟨x,rfl⟩;simp only[jg.cK,dif_pos g2];rw[W _ g2.choose_spec]
end
end Go.DI
namespace Go.Proofs.YtmmkkggfmigppaaGreat
open Go Go.DI Go.Big
noncomputable def aci:bx N:= .cK 179 (ByteArray) (λT=>True) (λT=>[.string T]) (λT=> .bool (rN T)) (λT h=>aC6)
@[simp] theorem aUg:aci.f=179:=rfl
@[simp] theorem aUh{T:ByteArray}:aci.fn ([.string T])=some (.bool (rN T)):=bx.dx (x:=T) trivial λy Y=>by simpa using Y
noncomputable def acG:bx N:= .cK 112 la la.dq (λx=>[C2 x]) (λx=> .bool x.yM) λ_ h=>aIg h
@[simp] theorem aVM:acG.f=112:=rfl
theorem aql{x:la}{n:ByteArray}{s e:List cq}{cC:List (List cq)}(h:[C2 x]=[.agg #[gD n,iP s,afY cC,iP e]]):x=⟨n,s,cC,e⟩:=by obtain⟨gQ,ed,cw,nw⟩:=x;simpa[gf]using h
@[simp] theorem aVN{n:ByteArray}{s e:List cq}{cC:List (List cq)}(h:(la.mk n s cC e).dq):acG.fn [.agg #[gD n,ad (s.map ew) 3,ad (cC.map λr=>[iP r]) 1,ad (e.map ew) 3]]=some (.bool (la.mk n s cC e).yM):=bx.dx (x:=la.mk n s cC e) h λy Y=>aql Y
end Go.Proofs.YtmmkkggfmigppaaGreat
namespace Go.Big
def rn.at(s:rn)(i:Int):Int:=if i=0 then s.a else if i=1 then s.b else if i=2 then s.c else if i=3 then s.d else s.e
end Go.Big
namespace Go.Proofs.YtmmkkggfmigppaaGreat
open Go Go.DI Go.Big
noncomputable def acj:bx N:= .cK 177 (Int×Int×Int×rn) (λ_=>True) (λp=>[E p.1,E p.2.1,E p.2.2.1,.agg #[E p.2.2.2.a,E p.2.2.2.b,E p.2.2.2.c,E p.2.2.2.d,E p.2.2.2.e]]) (λp=> .bool (mr p.1 p.2.1 p.2.2.1 p.2.2.2)) λ_ _=>aDv
@[simp] theorem aUk:acj.f=177:=rfl
@[simp] theorem aUl{k m q a b c d e:Int}:acj.fn [E k,E m,E q,.agg #[E a,E b,E c,E d,E e]]=some (.bool (mr k m q ⟨a,b,c,d,e⟩)):=bx.dx (x:=(k,m,q,(⟨a,b,c,d,e⟩:rn))) trivial λy Y=>by obtain⟨h6,mA,vd,AT,Ob,IW,C4,IX⟩:=y;simp at Y;obtain⟨A,D,ai,aT,bF,cW,dU,g1⟩:=Y;simp[A,D,ai,aT,bF,cW,dU,g1]
noncomputable def acB:bx N:= .cK 178 (Int×List cq×cq×cq) (λp=>((∀x∈p.2.1,x.dq)/\p.2.1.length<1000000)/\p.2.2.1.dq/\p.2.2.2.dq) (λp=>[E p.1,iP p.2.1,dL p.2.2.1,dL p.2.2.2]) (λp=> .bool (sF p.1 p.2.1 p.2.2.1 p.2.2.2)) λ_ h=>aEK h.1 h.2.1 h.2.2
@[simp] theorem aVs:acB.f=178:=rfl
@[simp] theorem aVt{m:Int}{r:List cq}{n gQ:Bool}{a b ed cw:List Int}(h:((∀x∈r,x.dq)/\r.length<1000000)/\(cq.mk n a b).dq/\(cq.mk gQ ed cw).dq):acB.fn [E m,ad (r.map ew) 3,.agg #[.bool n,b5 a,b5 b],.agg #[.bool gQ,b5 ed,b5 cw]]=some (.bool (sF m r ⟨n,a,b⟩ ⟨gQ,ed,cw⟩)):=bx.dx (x:=(m,r,(⟨n,a,b⟩:cq),(⟨gQ,ed,cw⟩:cq))) h λy Y=>by obtain⟨h6,mA,⟨vd,AT,Ob⟩,⟨IW,C4,IX⟩⟩:=y;simp[ew]at Y;obtain⟨A,D,⟨ai,aT,bF⟩,cW,dU,g1⟩:=Y;simp[A,D,ai,aT,bF,cW,dU,g1]
def o3(s:ByteArray):List ByteArray->Option Nat
 |[]=>none
 |x::l=>if s=x then some 0 else(o3 s l).map (· +1)
theorem aIw{a b c:Int}:bP N 134 [E a,E b,E c] (.bool (fH a b c)):=by
 refine du (c2 (ax:=⟨[],[]⟩) axD (by kernel_rfl) (by simp[QQ]) ?_);by_cases h:b<=a
 ·have cn:a>=b:=h;simp[QQ,X0,h,fH]
 ·have cn: ¬a>=b:=h;simp[QQ,X0,h,fH]
noncomputable def wa:bx N:= .cK 134 (Int×Int×Int) (λ⟨a,b,c⟩=>True) (λ⟨a,b,c⟩=>[E a,E b,E c]) (λ⟨a,b,c⟩=> .bool (fH a b c)) (λ⟨a,b,c⟩ h=>aIw)
@[simp] theorem aVS:wa.f=134:=rfl
@[simp] theorem aVT{a:Int}{b:Int}{c:Int}:wa.fn ([E a,E b,E c])=some (.bool (fH a b c)):=bx.dx (x:=(a,b,c)) trivial λy Y=>by obtain⟨ko,h6,mA⟩:=y;simpa using Y
def wc(a b c d e f:Int):Bool:=decide (a<=4)&&(decide (b<=4)&&(decide (c<=40)&&(decide (d<=24)&&(decide (e<=4)&&decide (f<=12)))))
theorem aFA{a b c d e f:Int}:bP N 135 [E a,E b,E c,E d,E e,E f] (.bool (wc a b c d e f)):=by
 refine du (c2 (ax:=⟨[],[]⟩) axE (by kernel_rfl) (by simp[BY]) ?_);by_cases A:a<=4
 ·by_cases D:b<=4
  ·by_cases ai:c<=40
   ·by_cases aT:d<=24
    ·by_cases bF:e<=4
     ·simp[BY,Es,A,D,ai,aT,bF,wc]
     ·simp[BY,Es,A,D,ai,aT,bF,wc]
    ·simp[BY,Es,A,D,ai,aT,wc]
   ·simp[BY,Es,A,D,ai,wc]
  ·simp[BY,Es,A,D,wc]
 ·simp[BY,Es,A,wc]
noncomputable def ND:bx N:= .cK 135 (Int×Int×Int×Int×Int×Int) (λ⟨a,b,c,d,e,f⟩=>True) (λ⟨a,b,c,d,e,f⟩=>[E a,E b,E c,E d,E e,E f]) (λ⟨a,b,c,d,e,f⟩=> .bool (wc a b c d e f)) (λ⟨a,b,c,d,e,f⟩ h=>aFA)
@[simp] theorem aU8:ND.f=135:=rfl
@[simp] theorem aU9{a:Int}{b:Int}{c:Int}{d:Int}{e:Int}{f:Int}:ND.fn ([E a,E b,E c,E d,E e,E f])=some (.bool (wc a b c d e f)):=bx.dx (x:=(a,b,c,d,e,f)) trivial λy Y=>by obtain⟨ko,h6,mA,vd,AT,Ob⟩:=y;simpa using Y
def BW(s:ByteArray)(l:List ByteArray):Int:=match o3 s l with
 |none=> -1
 |some i=>i
theorem Xs{s:ByteArray}{l:List ByteArray}: ∀{i:Nat},(∀j (h:j<l.length),j<i->l[j]≠s)->i<=l.length->o3 s l=(o3 s (l.drop i)).map (· +i)
 |0,_,_=>by simp
 | i+1,h,W=>by rw[Xs (i:=i) (λj aX PY=>h j aX (by omega)) (by omega)];have B:l.drop i=l[i]::l.drop (i+1):=rb (by omega);have bG: ¬s=l[i]:= λe=>h i (by omega) (by omega) e.symm;rw[B];simp only[o3,if_neg bG,Option.map_map];congr 1;funext k;simp only[Function.comp_apply];omega
theorem ah8{l:List ByteArray}{s:ByteArray}(ae:l.length<1000000):bP N 189 [DF l,gD s] (E (BW s l)):=by
 refine du (c2 (ax:=⟨[],[]⟩) ax6 (by kernel_rfl) (by simp[Yg]) ?_);simp[Yg,ajA];refine gR (ax:=⟨[],[]⟩) (λi z t=>(∀j (h:j<l.length),j<i->l[j]≠s)/\z 0=DF l/\z 1=gD s/\z 5=E i) l.length ?_ ?_ 0 _ _ (gi _) ⟨by simp,by simp,by simp,by simp⟩
 ·rintro i z t W ⟨aa,bO,aU,bz⟩ bM a1;have B:l[i]?=some l[i]:=c1 W;have br:=fz (n:=i) (by omega);have bC:(i:Int)<l.length:=(by omega);by_cases hb:l[i]=s
  ·have e:BW s l=i:=by
    unfold BW;rw[Xs aa (by omega),rb W];simp[o3,hb]
   simp(disch:=omega) [Q8,Lg,bO,aU,bz,bC,hb,e]
  ·simp(disch:=first|omega|simp only[bE];omega) [Q8,Lg,bO,aU,bz,bC,br,hb,-an,-au,-ak,-aq,-List.map_map];exact a1 _ _ ⟨λj aX PY=>by
    by_cases e:j=i
    ·subst e;exact hb
    ·exact aa j aX (by omega),by simp[bO],by simp[aU],by simp⟩
 ·rintro z t ⟨aa,bO,aU,bz⟩;have e:BW s l= -1:=by
   unfold BW;rw[Xs aa (c8 _),List.drop_length];rfl
  simp[Q8,Lg,bO,bz,Lg,e]
noncomputable def TW:bx N:= .cK 140 cq cq.dq (λx=>[dL x]) (λx=> .bool x.bZ.small) λ_ S=>ao1 S
@[simp] theorem aVb:TW.f=140:=rfl
@[simp] theorem aVc{n:Bool}{a b:List Int}(h:(cq.mk n a b).dq):TW.fn [.agg #[.bool n,b5 a,b5 b]]=some (.bool (cq.mk n a b).bZ.small):=bx.dx (x:=cq.mk n a b) h λy Y=>C3 Y
noncomputable def Fz:bx N:= .cK 139 cq (λx=>x.dq/\x.bZ.ok=true) (λx=>[dL x]) (λx=>E (rQ x.bZ .nil)) λ_ S=>abU S.1 S.2
@[simp] theorem aU6:Fz.f=139:=rfl
@[simp] theorem aU7{n:Bool}{a b:List Int}(h:(cq.mk n a b).dq/\(cq.mk n a b).bZ.ok=true):Fz.fn [.agg #[.bool n,b5 a,b5 b]]=some (E (rQ (cq.mk n a b).bZ .nil)):=bx.dx (x:=cq.mk n a b) h λy Y=>C3 Y
noncomputable def NG:bx N:= .cK 138 cq cq.dq (λx=>[dL x]) (λx=> .bool x.bZ.ok) λ_ S=>aF4 S
@[simp] theorem aVl:NG.f=138:=rfl
@[simp] theorem aVm{n:Bool}{a b:List Int}(h:(cq.mk n a b).dq):NG.fn [.agg #[.bool n,b5 a,b5 b]]=some (.bool (cq.mk n a b).bZ.ok):=bx.dx (x:=cq.mk n a b) h λy Y=>C3 Y
theorem anZ{x:eQ}(bY:0<=x.n):(rQ x .nil=0)=(x.n=0):=by
 have e:x.n*eQ.nil.d=x.n:=by show x.n*1=x.n;omega
 have aJ:eQ.nil.n*x.d=0:=by show 0*x.d=0;omega
 unfold rQ;rw[e,aJ];apply propext;split
 ·omega
 ·split<;>omega
theorem aDH{x:eQ}(bY:0<=x.n):(rQ x .nil=0)= ¬(0<x.n):=by rw[anZ bY];apply propext;omega
def uq(k m:Int):Bool:=decide (1<=k)&&(decide (k<=6)&&(decide (0<=m)&&(decide (m<=4)&&decide (k+m<=8))))
theorem as9{k m:Int}:bP N 197 [E k,E m] (.bool (uq k m)):=by
 refine du (c2 (ax:=⟨[],[]⟩) ayf (by kernel_rfl) (by simp[Ew]) ?_);by_cases A:1<=k
 ·have jP:k>=1:=A;by_cases D:k<=6
  ·by_cases ai:0<=m
   ·have ux:m>=0:=ai;by_cases aT:m<=4
    ·have br:IntKind.i64.wrap (k+m)=k+m:=cY (by omega) (by omega);simp[Ew,Hp,A,D,ai,aT,br,uq]
    ·simp[Ew,Hp,A,D,ai,aT,uq]
   ·have ux: ¬m>=0:=ai;simp[Ew,Hp,A,D,ai,uq]
  ·simp[Ew,Hp,A,D,uq]
 ·have jP: ¬k>=1:=A;simp[Ew,Hp,A,uq]
noncomputable def TN:bx N:= .cK 197 (Int×Int) (λ⟨k,m⟩=>True) (λ⟨k,m⟩=>[E k,E m]) (λ⟨k,m⟩=> .bool (uq k m)) (λ⟨k,m⟩ h=>as9)
@[simp] theorem aTH:TN.f=197:=rfl
@[simp] theorem aTI{k:Int}{m:Int}:TN.fn ([E k,E m])=some (.bool (uq k m)):=bx.dx (x:=(k,m)) trivial λy Y=>by obtain⟨ko,h6⟩:=y;simpa using Y
theorem as8{k m:Int}:uq k m=(fH k 1 6&&(fH m 0 4&&decide (k+m<=8))):=by simp only[uq,fH,Bool.and_assoc]
def FL(s:rn):Bool:=fH s.b 0 8&&(fH s.c 0 8&&(fH s.d 0 8&&fH s.e 0 8))
theorem aFf{k m q:Int}{s:rn}:bP N 141 [E k,E m,E q,.agg #[E s.a,E s.b,E s.c,E s.d,E s.e]] (.bool (mr k m q s)):=by
 refine du (c2 (ax:=⟨[TN,wa],[]⟩) axI (by kernel_rfl) (by simp[Hf]) ?_);have e:mr k m q s=(uq k m&&(fH q k (k+m)&&(decide (s.a=0)&&FL s))):=by
  rw[as8];by_cases aa:s.a=0
  ·simp[mr,FL,aa,show fH 0 0 8=true from rfl,Bool.and_assoc]
  ·simp[mr,FL,aa]
 rw[e];cases A:uq k m
 ·simp[Hf,K3,BZ,A]
 ·have br:IntKind.i64.wrap (k+m)=k+m:=(by simp[uq]at A;exact cY (by omega) (by omega));cases D:fH q k (k+m)
  ·simp[Hf,K3,BZ,A,D,br]
  ·by_cases ai:s.a=0
   ·simp[Hf,K3,A,D,ai,br];refine gR (ax:=⟨[TN,wa],[]⟩) (λi z t=>(∀j:Nat,j<i->fH (s.at ((j:Int)+1)) 0 8=true)/\t.I 0=some ⟨[E 0,E s.b,E s.c,E s.d,E s.e],true⟩/\z 7=bH 0/\z 9=E ((i:Int)+1)) 4 ?_ ?_ 0 _ _ (gi _) ⟨by simp,by simp,by simp,by simp⟩
    ·rintro i z t W ⟨aa,aL,ca,cP⟩ bM a1;have dD:=aM aL;have aT:i=0\/i=1\/i=2\/i=3:=(by omega);cases hb:fH (s.at ((i:Int)+1)) 0 8
     ·have aJ:FL s=false:=by
       rcases aT with rfl|rfl|rfl|rfl<;>simp[rn.at]at hb<;>simp[FL,hb]
      rcases aT with rfl|rfl|rfl|rfl<;>simp[rn.at]at hb<;>simp[QV,BZ,ca,cP,aL,hb,aJ]
     ·have ae: ∀j:Nat,j<i+1->fH (s.at ((j:Int)+1)) 0 8=true:= λj aX=>by
       by_cases e:j=i
       ·subst e;exact hb
       ·exact aa j (by omega)
      rcases aT with rfl|rfl|rfl|rfl<;>simp[rn.at]at hb<;>simp[QV,BZ,ca,cP,aL,hb]<;>exact a1 _ _ ⟨ae,aL,by simp[ca],by simp;rfl⟩
    ·rintro z t ⟨aa,aL,ca,cP⟩;have aJ:FL s=true:=by
      have pb:=aa 0 (by decide);have ef:=aa 1 (by decide);have e2:=aa 2 (by decide);have hF:=aa 3 (by decide);simp[rn.at]at pb ef e2 hF;simp[FL,pb,ef,e2,hF]
     simp[QV,BZ,BZ,cP,aJ]
   ·simp[Hf,K3,BZ,A,D,ai,br]
noncomputable def TX(n:Nat)(ae:n<1000000):bx N:= .cK 190 (List cq) (λl=> ∀x∈l,x.dq) (λl=>[iP l,E n]) (λl=> .bool (decide (l.length=n)&&l.all λx=>x.bZ.small)) λ_ h=>abV h ae
@[simp] theorem aVd{n:Nat}{ae:n<1000000}:(TX n ae).f=190:=rfl
@[simp] theorem aVe{n:Nat}{ae:n<1000000}{l:List cq}(h: ∀x∈l,x.dq):(TX n ae).fn [ad (l.map ew) 3,E n]=some (.bool (decide (l.length=n)&&l.all λx=>x.bZ.small)):=bx.dx (x:=l) h λy Y=>by simpa using Y
theorem aEY{m:Int}(bY:0<=m)(aT:m<=4){l:List cq}(S:(∀x∈l,x.dq)/\l.length<1000000):bP N 198 [iP l,E m] (.bool (decide ((l.length:Int)=if 1>m then 1 else m)&&l.all q1)):=by
 obtain⟨n,ae⟩: ∃n:Nat,(if 1>m then(1:Int)else m)=n:=⟨(if 1>m then(1:Int)else m).toNat,by split<;>omega⟩;have BN:(if m<1 then(1:Int)else m)=n:=ae;have w0:n<1000000:=by split at ae<;>omega
 rw[ae];have hc:decide ((l.length:Int)=(n:Int))=decide (l.length=n):=by congr 1;apply propext;omega
 rw[hc];refine du (c2 (ax:=⟨[TX n w0,Fz],[]⟩) ayg (by kernel_rfl) (by simp[Rd]) ?_);obtain⟨nB,qL⟩:=S;cases A:(decide (l.length=n)&&l.all λx=>x.bZ.small)
 ·have e:(decide (l.length=n)&&l.all q1)=false:=by
   by_cases az:l.length=n
   ·simp only[az,decide_true,C9,IY]at A⊢;obtain⟨x,B,h⟩:=A;exact⟨x,B,by simp only[q1,a6,not_and];intro cn;exact absurd cn h⟩
   ·simp[az]
  rw[e];simp(disch:=omega) [Rd,Yj,Hq,BN,A]
 ·simp(disch:=first|omega|simp only[bE];omega) [Rd,Yj,BN,A];simp only[a6,ey]at A;obtain⟨az,A⟩:=A;have wK:decide (l.length=n)=true:=(by simp[az]);rw[wK,C9];refine gR (ax:=⟨[TX n w0,Fz],[]⟩) (λi z t=>(l.take i).all q1=true/\z 0=iP l/\z 5=E i) l.length ?_ ?_ 0 _ _ (gi _) ⟨by simp,by simp,by simp⟩
  ·rintro i z t W ⟨aa,bO,bz⟩ bM a1;have B:l[i]?=some l[i]:=c1 W;have ab:l[i]∈l:=kd W;have br:=fz (n:=i) (by omega);have bC:(i:Int)<l.length:=(by omega);have fT:=dP.1 A _ ab;have Xd:l[i].dq/\l[i].bZ.ok=true:=⟨nB _ ab,apz fT⟩;have bw:=aDH (cq.h1 Xd.1);by_cases Z:0<l[i].bZ.n
   ·have w7: ¬rQ l[i].bZ .nil=0:=(by rw[bw];exact λh=>h Z);simp(disch:=first|omega|simp only[bE];omega) [Re,Hq,bO,bz,bC,br,ew,w7];exact a1 _ _ ⟨by rw[FN B,F3,aa];simp[q1,fT,Z],by simp[bO],by simp⟩
   ·have w7:rQ l[i].bZ .nil=0:=(by rw[bw];exact Z);simp(disch:=omega) [Re,Hq,bO,bz,bC,ew,w7];exact⟨_,ab,by simp[q1,Z]⟩
  ·rintro z t ⟨aa,bO,bz⟩;rw[mY]at aa;simp[Re,Hq,bO,bz,Hq];simpa using aa
noncomputable def acf(o:cq)(h:bP N 193 [E 1] (dL o)):bx N:= .cK 193 Unit (λ_=>True) (λ_=>[E 1]) (λ_=>dL o) λ_ _=>h
@[simp] theorem aT5{o:cq}{h:bP N 193 [E 1] (dL o)}:(acf o h).f=193:=rfl
@[simp] theorem aT6{o:cq}{h:bP N 193 [E 1] (dL o)}:(acf o h).fn [E 1]=some (dL o):=bx.dx (x:=()) trivial λ_ _=>rfl
noncomputable def ach(o:cq)(h: ∀x:cq,(x.dq/\x.bZ.ok=true)->bP N 199 [dL o,dL x] (.bool (!rL x.bZ))):bx N:= .cK 199 cq (λx=>x.dq/\x.bZ.ok=true) (λx=>[dL o,dL x]) (λx=> .bool (!rL x.bZ)) h
@[simp] theorem aT9{o:cq}{h: ∀x:cq,(x.dq/\x.bZ.ok=true)->bP N 199 [dL o,dL x] (.bool (!rL x.bZ))}:(ach o h).f=199:=rfl
@[simp] theorem aUa{o:cq}{h: ∀x:cq,(x.dq/\x.bZ.ok=true)->bP N 199 [dL o,dL x] (.bool (!rL x.bZ))}{n:Bool}{a b:List Int}(B:(cq.mk n a b).dq/\(cq.mk n a b).bZ.ok=true):(ach o h).fn [.agg #[.bool o.ku,b5 o.a,b5 o.b],.agg #[.bool n,b5 a,b5 b]]=some (.bool (!rL (cq.mk n a b).bZ)):=
  bx.dx (x:=cq.mk n a b) B λy Y=>by obtain⟨gQ,ed,cw⟩:=y;simpa[ew]using Y
theorem aCm(x:cq)(B:x.dq/\x.bZ.ok=true):bP N 199 [dL ⟨false,[1],[1]⟩,dL x] (.bool (!rL x.bZ)):=by
 have h:=aE6 B.1;have e: ∀y∈NQ,decide (rQ .mv y.bZ<0)= !rL y.bZ:=by decide
 rw[<-e x B.1];exact h
noncomputable def acC(m:Int)(h:0<=m/\m<=4):bx N:= .cK 198 (List cq) (λl=>(∀x∈l,x.dq)/\l.length<1000000) (λl=>[iP l,E m]) (λl=> .bool (decide ((l.length:Int)=if 1>m then 1 else m)&&l.all q1)) λ_ S=>aEY h.1 h.2 S
@[simp] theorem aVw{m:Int}{h:0<=m/\m<=4}:(acC m h).f=198:=rfl
@[simp] theorem aVx{m:Int}{h:0<=m/\m<=4}{l:List cq}(S:(∀x∈l,x.dq)/\l.length<1000000):(acC m h).fn [ad (l.map ew) 3,E m]=some (.bool (decide ((l.length:Int)=if 1>m then 1 else m)&&l.all q1)):=bx.dx (x:=l) S λy Y=>by simpa using Y
theorem atK{o:cq}(aB:bP N 193 [E 1] (dL o))(az: ∀x:cq,(x.dq/\x.bZ.ok=true)->bP N 199 [dL o,dL x] (.bool (!rL x.bZ))){m:Int}(ab:0<=m/\m<=4){r:List cq}{t h:cq}(al:(∀x∈r,x.dq)/\r.length<1000000)(ba:t.dq)(bT:h.dq):
 bP N 142 [E m,iP r,dL t,dL h] (.bool (sF m r t h)):=by
 refine du (c2 (ax:=⟨[acC m ab,TW,acf o aB,ach o az],[]⟩) axJ (by kernel_rfl) (by simp[Hg]) ?_);have e:sF m r t h=((decide ((r.length:Int)=if 1>m then 1 else m)&&r.all q1)&&(t.bZ.small&&(rL t.bZ&&h.bZ.small))):=by unfold sF;rw[Bool.and_assoc]
 rw[e];cases A:(decide ((r.length:Int)=if 1>m then 1 else m)&&r.all q1)
 ·simp(disch:=omega) [Hg,K4,ew,A]
 ·cases D:t.bZ.small
  ·simp(disch:=first|omega|simp only[bE];omega) [Hg,K4,ew,A,D]
  ·have aPm:t.dq/\t.bZ.ok=true:=⟨ba,apz D⟩;cases ai:rL t.bZ
   ·simp(disch:=first|omega|simp only[bE];omega) [Hg,K4,ew,A,D,ai]
   ·simp(disch:=first|omega|simp only[bE];omega) [Hg,K4,ew,A,D,ai]
theorem atJ{m:Int}(ab:0<=m/\m<=4){r:List cq}{t h:cq}(al:(∀x∈r,x.dq)/\r.length<1000000)(ba:t.dq)(bT:h.dq):bP N 142 [E m,iP r,dL t,dL h] (.bool (sF m r t h)):=
 atK (o:=⟨false,[1],[1]⟩) tO aCm ab al ba bT
theorem uG{a b c:Int}:fH a b c=true↔b<=a/\a<=c:=by simp[fH]
def h5{dF:Type}(f:Nat->dF)(i:Nat)(v:dF):Nat->dF:= λk=>if k=i then v else f k
@[simp] theorem AP{dF:Type}{f:Nat->dF}{i:Nat}{v:dF}:h5 f i v i=v:=by simp[h5]
theorem tU{dF:Type}{f:Nat->dF}{i k:Nat}{v:dF}(h:k≠i):h5 f i v k=f k:=by simp[h5,h]
def iH(l:List ByteArray):List Value:=(l.map λs=>[gD s]).flatten
theorem aaI{l:List ByteArray}: ∀r∈l.map (λs=>[gD s]),r.length=1/\ ∀v∈r,hB v=true:= λr al=>by obtain⟨x,_,rfl⟩:=gG.1 al;exact⟨rfl,λv M=>by simp at M;subst M;rfl⟩
theorem anE{l:List ByteArray}{n:Nat}(ae:l.length=n):(∀t,fD (fD (DI.dt 8 t)) (ld 1 n (iH l))=some (l.map λs=>[gD s]))/\(∀t,(iH l).flatMap (et 8 t)=[])/\(iH l).length=n:=by
 have bw: ∀r∈l.map (λs=>[gD s]),r.length=1:= λr h=>(aaI r h).1;have ai:(iH l).length=n:=by rw[iH,wO bw,k8,ae,Nat.mul_one]
 refine⟨λt=> ?_,λt=>TA λv M=> ?_,ai⟩
 ·have:=O3 bw;rw[k8,ae]at this;rw[iH,this];exact MY λr h=>MY λv M=>DL ((aaI r h).2 v M)
 ·obtain⟨r,al,tx⟩:=zf.1 M;exact(aaI r al).2 v tx
theorem anD{l:List ByteArray}{s:ByteArray}:iH (l++[s])=iH l++[gD s]:=by simp[iH]
noncomputable def acx:bx N:= .cK 137 la la.dq (λx=>[C2 x]) (λx=> .bool x.yM) λ_ h=>aF6 h
@[simp] theorem aVn:acx.f=137:=rfl
@[simp] theorem aVo{n:ByteArray}{s e:List cq}{cC:List (List cq)}(h:(la.mk n s cC e).dq):acx.fn [.agg #[gD n,ad (s.map ew) 3,ad (cC.map λr=>[iP r]) 1,ad (e.map ew) 3]]=some (.bool (la.mk n s cC e).yM):=bx.dx (x:=la.mk n s cC e) h λy Y=>aql Y
noncomputable def acs:bx N:= .cK 141 (Int×Int×Int×rn) (λ_=>True) (λp=>[E p.1,E p.2.1,E p.2.2.1,.agg #[E p.2.2.2.a,E p.2.2.2.b,E p.2.2.2.c,E p.2.2.2.d,E p.2.2.2.e]]) (λp=> .bool (mr p.1 p.2.1 p.2.2.1 p.2.2.2)) λ_ _=>aFf
@[simp] theorem aUX:acs.f=141:=rfl
@[simp] theorem aUY{k m q a b c d e:Int}:acs.fn [E k,E m,E q,.agg #[E a,E b,E c,E d,E e]]=some (.bool (mr k m q ⟨a,b,c,d,e⟩)):=bx.dx (x:=(k,m,q,(⟨a,b,c,d,e⟩:rn))) trivial λy Y=>by obtain⟨h6,mA,vd,AT,Ob,IW,C4,IX⟩:=y;simp at Y;obtain⟨A,D,ai,aT,bF,cW,dU,g1⟩:=Y;simp[A,D,ai,aT,bF,cW,dU,g1]
noncomputable def acr:bx N:= .cK 142 (Int×List cq×cq×cq) (λp=>(0<=p.1/\p.1<=4)/\((∀x∈p.2.1,x.dq)/\p.2.1.length<1000000)/\p.2.2.1.dq/\p.2.2.2.dq) (λp=>[E p.1,iP p.2.1,dL p.2.2.1,dL p.2.2.2]) (λp=> .bool (sF p.1 p.2.1 p.2.2.1 p.2.2.2)) λ_ h=>atJ h.1 h.2.1 h.2.2.1 h.2.2.2
@[simp] theorem aUP:acr.f=142:=rfl
@[simp] theorem aUQ{m:Int}{r:List cq}{n gQ:Bool}{a b ed cw:List Int}(h:(0<=m/\m<=4)/\((∀x∈r,x.dq)/\r.length<1000000)/\(cq.mk n a b).dq/\(cq.mk gQ ed cw).dq):acr.fn [E m,ad (r.map ew) 3,.agg #[.bool n,b5 a,b5 b],.agg #[.bool gQ,b5 ed,b5 cw]]=some (.bool (sF m r ⟨n,a,b⟩ ⟨gQ,ed,cw⟩)):=bx.dx (x:=(m,r,(⟨n,a,b⟩:cq),(⟨gQ,ed,cw⟩:cq))) h λy Y=>by obtain⟨h6,mA,⟨vd,AT,Ob⟩,⟨IW,C4,IX⟩⟩:=y;simp[ew]at Y;obtain⟨A,D,⟨ai,aT,bF⟩,cW,dU,g1⟩:=Y;simp[A,D,ai,aT,bF,cW,dU,g1]
theorem N9{P:Program}{c:aw}{z:aC}{t:H}{Q:cM->aC->H->Prop}(d G:Nat)(aV:z d= .slice none 0 0)(h: ∀af,af.next=t.next+1->af.I t.next=some ⟨[],true⟩->(∀a,a<t.next->af.I a=t.I a)->ec P c (k7 z d (.slice (some ⟨t.next,0,none⟩) 0 G)) af Q):ec P c z t Q:=
 tY (d:=d) (G:=G) aV (h _ (by simp) (cx (by simp)) λa aa=>by rw[a7 (by omega),H.cJ])
def tg(l:List ByteArray):List (Value×Value):=l.map λx=>(gD x,.bool true)
theorem am9{s:ByteArray}: ∀{l:List ByteArray},jR (gD s) (tg l)=(o3 s l).map λ_=> .bool true
 |[]=>rfl
 | x::l=>by
   simp only[tg,lO,jR,pW,o3];by_cases h:s=x
   ·simp[h]
   ·have:=am9 (s:=s) (l:=l);simp only[tg]at this;simp only[h,decide_false,if_false,this,Option.map_map,je];rfl
theorem ano{s:ByteArray}: ∀{l:List ByteArray},o3 s l=none->lK (gD s) (.bool true) (tg l)=tg (l++[s])
 |[],_=>by simp[tg,lK]
 | x::l,h=>by
   simp only[o3]at h;split at h
   ·cases h
   ·next F=>have:=ano (s:=s) (l:=l) (by cases bo:o3 s l with|none=>rfl|some v=>rw[bo]at h;cases h);simp only[tg]at this;simp only[tg,lO,lK,pW,F,decide_false,je,if_false,tZ,this]
theorem aBT{s:ByteArray}{l:List ByteArray}:ob .str (gD s) (tg l)=true:=by simp only[ob,tg,pJ,C9,List.all_map,dP];intro x _;rfl
theorem Xt{s:ByteArray}: ∀{l:List ByteArray},s∉l->o3 s l=none
 |[],_=>rfl
 | x::l,h=>by simp only[hi,not_or]at h;simp only[o3,if_neg h.1,Xt h.2];rfl
theorem aDu{l:List ByteArray}(h:l.Nodup){i:Nat}(W:i<l.length):l[i]∉l.take i:= λab=>by
 obtain⟨j,aX,aQ⟩:=lN ab;rw[List.getElem_take]at aQ;have lD:j<i:=by rw[ri]at aX;omega
 exact(za.1 h j i (by omega) W lD) aQ
theorem anC{l:List ByteArray}:(iH l).length=l.length:=(anE (l:=l) rfl).2.2
noncomputable def kA(l:List ByteArray):Bool:=l.all rN&&decide l.Nodup
theorem am4{s:ByteArray}: ∀{l:List ByteArray},s∈l->o3 s l≠none
 |[],h=>by cases h
 | x::l,h=>by
   simp only[o3];split
   ·exact λh=>by cases h
   ·next e=>
    have ab:s∈l:=by
     rcases hi.1 h with rfl|h
     ·exact absurd rfl e
     ·exact h
    have:=am4 ab;intro bo;cases bw:o3 s l with
    |none=>exact this bw
    |some k=>rw[bw]at bo;cases bo
theorem aH0{l:List ByteArray}(ae:l.length<1000000)(a9:kA l=true):bP N 114 [DF l] (.bool true):=by
 refine du (c2 (ax:=⟨[],[]⟩) axB (by kernel_rfl) (by simp[XM]) ?_);simp only[kA,a6,ey,dP]at a9;simp(disch:=first|omega|simp only[bE];omega) [XM,aio,-an,-au,-ak,-aq,-List.map_map];refine gR (ax:=⟨[aci],[]⟩) (λi z t=>t.fu 0=some (tg (l.take i))/\z 3= .map (some 0)/\z 7=DF l/\z 8=E l.length/\z 9=E i) l.length ?_ ?_ 0 _ _ (gi _) ⟨by simp(disch:=first|omega|simp only[bE];omega) [tg,-an,-au,-ak,-aq,-List.map_map],by simp,by simp,by simp,by simp⟩
 ·rintro i z t W ⟨zL,bW,ca,bl,cP⟩ bM a1;have B:l[i]?=some l[i]:=c1 W;have br:=fz (n:=i) (by omega);have bC:(i:Int)<l.length:=(by omega);have S:ob .str (gD l[i]) (tg (l.take i))=true:=aBT;have aCv:=aM (jb zL).1;have l3:=a9.1 _ (kd W);have eP:o3 l[i] (l.take i)=none:=Xt (aDu a9.2 W);have a5:jR (gD l[i]) (tg (l.take i))=none:=(by rw[am9,eP];rfl);simp(disch:=first|omega|simp only[bE];omega) [XN,Qt,bW,ca,bl,cP,bC,br,l3,zL,a5,S,-jR,-lK,-ob,-an,-au,-ak,-aq,-List.map_map];refine a1 _ _ ⟨?_,by simp[bW],by simp[ca],by simp[bl],by simp⟩;rw[FN B,<-ano eP];simp(disch:=first|omega|simp only[bE];omega) [-lK,-an,-au,-ak,-aq,-List.map_map]
 ·rintro z t ⟨zL,bW,ca,bl,cP⟩;simp(disch:=first|omega|simp only[bE];omega) [XN,Qt,bl,cP,Qt,-an,-au,-ak,-aq,-List.map_map]
noncomputable def acE:bx N:= .cK 114 (List ByteArray) (λl=>l.length<1000000/\kA l=true) (λl=>[DF l]) (λl=> .bool true) λ_ h=>aH0 h.1 h.2
@[simp] theorem aVE:acE.f=114:=rfl
@[simp] theorem aVF{l:List ByteArray}(h:l.length<1000000/\kA l=true):acE.fn [ad (l.map λs=>[gD s]) 1]=some (.bool true):=bx.dx (x:=l) h λy Y=>by simpa using Y
def tW(x:hQ)(n:Nat):Bool:=mr x.k x.m x.q x.ax&&(!x.cr.isEmpty&&(sF x.m x.pe x.qi x.m7&&((x.cr.all λm=>fH m 0 ((n:Int)-1))&&decide x.cr.Nodup)))
structure hQ.fX(x:hQ):Prop where
 gW:(∀y∈x.pe,y.dq)/\x.pe.length<1000000
 aY3:x.qi.dq
 aYC:x.m7.dq
 len:x.cr.length<1000000
theorem anJ{l:List Int}(h:l.Nodup){i:Nat}(W:i<l.length):l[i]∉l.take i:= λab=>by
 obtain⟨j,aX,aQ⟩:=lN ab;rw[List.getElem_take]at aQ;have lD:j<i:=by rw[ri]at aX;omega
 exact(za.1 h j i (by omega) W lD) aQ
theorem aIl{x:hQ}{n:Nat}(ae:n<1000000)(h:hQ.fX x)(M:tW x n=true):bP N 113 [.agg (dE x).toArray,E n] (.bool true):=by
 refine du (c2 (ax:=⟨[acj,acB],[]⟩) axA (by kernel_rfl) (by simp[XK]) ?_);obtain⟨aT,bF,cW,iQ⟩:=h;simp only[tW,a6,r7,ey,dP]at M;obtain⟨A,avE,ai,fl,eW⟩:=M;have BL: ¬x.cr.length=0:= λe=>by rw[<-List.isEmpty_iff_length_eq_zero,avE]at e;cases e
 have oE: ¬(x.cr.length:Int)=0:=by omega
 have vO:((∀y∈x.pe,y.dq)/\x.pe.length<1000000)/\x.qi.dq/\x.m7.dq:=⟨aT,bF,cW⟩;have avX:(n:Int)*1<=140737488355328/\n<=140737488355328/\(n:Int)<=140737488355328/\(n:Int)<=9223372036854775807:=by omega
 simp(disch:=first|omega|simp only[bE];omega) [XK,ain,dE,A,ai,BL,avX,-an,-au,-ak,-aq,-List.map_map];refine gR (ax:=⟨[u5],[]⟩) (λi z t=> ∃aN:List Bool,aN.length=n/\(∀j:Nat,j<n->aN[j]?=some (decide ((j:Int)∈x.cr.take i)))/\t.I 3=some ⟨aN.map Value.bool,true⟩/\z 1=E n/\z 5= .slice (some ⟨3,0,none⟩) n 1/\z 39=bm x.cr/\z 40=E x.cr.length/\z 41=E i) x.cr.length ?_ ?_ 0 _ _ (gi _) ⟨List.replicate n false,by simp,λj aX=>by simp[aX],by simp(disch:=first|omega|simp only[bE];omega) [-an,-au,-ak,-aq,-List.map_map],by simp,by simp,by simp,by simp,by simp⟩
 ·rintro i z t W ⟨aN,pD,b9,VZ,aU,bz,ab4,TJ,qe⟩ bM a1;have B:x.cr[i]?=some x.cr[i]:=c1 W;have br:=fz (n:=i) (by omega);have ct:IntKind.i64.wrap ((n:Int)-1)=(n:Int)-1:=cY (by omega) (by omega);have bC:(i:Int)<x.cr.length:=(by omega);have zU:=fl _ (kd W);have ab:=anJ eW W;obtain⟨aR,dz⟩:=jX (uG.1 zU).1;rw[dz]at zU ab;have aOU:=uG.1 zU;have uy:aR<n:=(by omega);have x7:(aR:Int)<(n:Int):=(by omega);have avc:aR+1<=n:=uy;have awL:x.cr[i]?=some (aR:Int):=(by rw[B,dz]);have aRB:=aM VZ;have avr:aN[aR]?=some false:=(by rw[b9 aR uy];simp[ab]);have au9:(aN.map Value.bool)[aR]?=some (.bool false):=(by rw[rh,avr];rfl);have au8: ∀j:Nat,j<n->(aN.set aR true)[j]?=some (decide ((j:Int)∈x.cr.take (i+1))):= λj aX=>by
   rw[AX,FN awL];by_cases e:aR=j
   ·subst e;simp[pD,uy]
   ·rw[if_neg e,b9 j aX];have: ¬(j:Int)=(aR:Int):=(by omega);simp[this]
  simp(disch:=first|omega|simp only[bE];omega) [XL,Qs,aU,bz,ab4,TJ,qe,bC,br,ct,fC,dz,x7,avc,pD,au9,zU,VZ,-an,-au,-ak,-aq,-List.map_map];refine a1 _ _ ⟨aN.set aR true,by simp[pD],au8,?_,by simp[aU],by simp[bz],by simp[ab4],by simp[TJ],by simp⟩;simp(disch:=first|omega|simp only[bE];omega) [-an,-au,-ak,-aq,-List.map_map]
 ·rintro z t ⟨aN,pD,b9,VZ,aU,bz,ab4,TJ,qe⟩;simp(disch:=first|omega|simp only[bE];omega) [XL,Qs,TJ,qe,Qs,-an,-au,-ak,-aq,-List.map_map]
noncomputable def acH(n:Nat)(ae:n<1000000):bx N:= .cK 113 hQ (λx=>hQ.fX x/\tW x n=true) (λx=>[.agg (dE x).toArray,E n]) (λx=> .bool true) λ_ h=>aIl ae h.1 h.2
@[simp] theorem aVQ{n:Nat}{ae:n<1000000}:(acH n ae).f=113:=rfl
@[simp] theorem aVR{n:Nat}{ae:n<1000000}{x:hQ}(h:hQ.fX x/\tW x n=true):(acH n ae).fn [.agg #[gD x.name,E x.k,E x.m,E x.q,E x.ax.a,E x.ax.b,E x.ax.c,E x.ax.d,E x.ax.e,bm x.cr,iP x.pe,.bool x.qi.ku,b5 x.qi.a,b5 x.qi.b,.bool x.m7.ku,b5 x.m7.a,b5 x.m7.b],E n]=some (.bool true):=bx.dx (x:=x) h λy Y=>by obtain⟨h6,mA,vd,AT,⟨Ob,IW,C4,IX,aZk⟩,aZc,aZd,⟨aZe,aZf,aZg⟩,⟨aZh,aZi,aZj⟩⟩:=y;obtain⟨oQ,pT,nO,sT,⟨AS,Oa,aqM,aIK,aIL⟩,aY4,aY5,⟨aY6,aY7,aY8⟩,⟨aY9,aZa,aZb⟩⟩:=x;simp[dE]at Y;obtain⟨A,D,ai,aT,bF,cW,dU,g1,iQ,DQ,PD,J5,V1,Bv,V2,V3,V4⟩:=Y;subst A;subst D;subst ai;subst aT;subst bF;subst cW;subst dU;subst g1;subst iQ;subst DQ;subst PD;subst J5;subst V1;subst Bv;subst V2;subst V3;subst V4;rfl
end Go.Proofs.YtmmkkggfmigppaaGreat
