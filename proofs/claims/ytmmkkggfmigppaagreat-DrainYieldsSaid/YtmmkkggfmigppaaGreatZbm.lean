/-
  A part of the proof, shortened by tools of ours.
-/
import Derived.Test.YtmmkkggfmigppaaGreatZbl
set_option linter.all false
set_option maxRecDepth 8000
set_option maxHeartbeats 16000000
namespace Go.Proofs.YtmmkkggfmigppaaGreat
open Go Go.DI Go.Big
section
set_option maxRecDepth 100000
def aqP:List (Nat×ca):=[(59,Sf),(107,QI),(138,Rc),(139,Rd),(140,Re),(167,Rg),(168,Rh),(169,Ri),(170,Rj),(171,Rk),(173,akr),(174,aks),(175,akt),(191,akK),(192,akL),(193,akM),(194,HP),(195,Rv),(196,Rw),(199,akR),(213,RC),(215,RE),(216,RF),(217,ak0),(218,ak1),(219,RG),(220,ak6),(221,RH),(222,RI),(223,alb),(230,ali),(239,alq),(240,RP),(241,RQ),(246,RR),(247,HX),(248,RS),(249,alE),(251,RT),(253,RV),(254,alJ),(257,alK),(258,alL),(274,al1),(275,al2),(260,RZ),(268,R0),(271,R1),(272,alZ),(273,H0),(278,R2)]
theorem aIw:OI N aqP:=⟨⟨⟨by kernel_rfl,amn⟩,by kernel_rfl⟩,⟨⟨⟨by kernel_rfl,ajq⟩,by kernel_rfl⟩,⟨⟨⟨by kernel_rfl,aj9⟩,by kernel_rfl⟩,⟨⟨⟨by kernel_rfl,akb⟩,by kernel_rfl⟩,⟨⟨⟨by kernel_rfl,akd⟩,by kernel_rfl⟩,⟨⟨⟨by kernel_rfl,akg⟩,by kernel_rfl⟩,⟨⟨⟨by kernel_rfl,aki⟩,by kernel_rfl⟩,⟨⟨⟨by kernel_rfl,akk⟩,by kernel_rfl⟩,⟨⟨⟨by kernel_rfl,akn⟩,by kernel_rfl⟩,⟨⟨⟨by kernel_rfl,akp⟩,by kernel_rfl⟩,⟨⟨⟨by kernel_rfl,azp⟩,by kernel_rfl⟩,⟨⟨⟨by kernel_rfl,azs⟩,by kernel_rfl⟩,⟨⟨⟨by kernel_rfl,azu⟩,by kernel_rfl⟩,⟨⟨⟨by kernel_rfl,azH⟩,by kernel_rfl⟩,⟨⟨⟨by kernel_rfl,azK⟩,by kernel_rfl⟩,⟨⟨⟨by kernel_rfl,azM⟩,by kernel_rfl⟩,⟨⟨⟨by kernel_rfl,YN⟩,by kernel_rfl⟩,⟨⟨⟨by kernel_rfl,akO⟩,by kernel_rfl⟩,⟨⟨⟨by kernel_rfl,akQ⟩,by kernel_rfl⟩,⟨⟨⟨by kernel_rfl,azQ⟩,by kernel_rfl⟩,⟨⟨⟨by kernel_rfl,akU⟩,by kernel_rfl⟩,⟨⟨⟨by kernel_rfl,akW⟩,by kernel_rfl⟩,⟨⟨⟨by kernel_rfl,akY⟩,by kernel_rfl⟩,⟨⟨⟨by kernel_rfl,azT⟩,by kernel_rfl⟩,⟨⟨⟨by kernel_rfl,azV⟩,by kernel_rfl⟩,⟨⟨⟨by kernel_rfl,ak3⟩,by kernel_rfl⟩,⟨⟨⟨by kernel_rfl,azX⟩,by kernel_rfl⟩,⟨⟨⟨by kernel_rfl,ak8⟩,by kernel_rfl⟩,⟨⟨⟨by kernel_rfl,ala⟩,by kernel_rfl⟩,⟨⟨⟨by kernel_rfl,azZ⟩,by kernel_rfl⟩,⟨⟨⟨by kernel_rfl,az7⟩,by kernel_rfl⟩,⟨⟨⟨by kernel_rfl,aAh⟩,by kernel_rfl⟩,⟨⟨⟨by kernel_rfl,alv⟩,by kernel_rfl⟩,⟨⟨⟨by kernel_rfl,alx⟩,by kernel_rfl⟩,⟨⟨⟨by kernel_rfl,alz⟩,by kernel_rfl⟩,⟨⟨⟨by kernel_rfl,Y3⟩,by kernel_rfl⟩,⟨⟨⟨by kernel_rfl,alC⟩,by kernel_rfl⟩,⟨⟨⟨by kernel_rfl,aAn⟩,by kernel_rfl⟩,⟨⟨⟨by kernel_rfl,alG⟩,by kernel_rfl⟩,⟨⟨⟨by kernel_rfl,alI⟩,by kernel_rfl⟩,⟨⟨⟨by kernel_rfl,aAr⟩,by kernel_rfl⟩,⟨⟨⟨by kernel_rfl,aAz⟩,by kernel_rfl⟩,⟨⟨⟨by kernel_rfl,aAB⟩,by kernel_rfl⟩,⟨⟨⟨by kernel_rfl,aAN⟩,by kernel_rfl⟩,⟨⟨⟨by kernel_rfl,aAQ⟩,by kernel_rfl⟩,⟨⟨⟨by kernel_rfl,alR⟩,by kernel_rfl⟩,⟨⟨⟨by kernel_rfl,alT⟩,by kernel_rfl⟩,⟨⟨⟨by kernel_rfl,alY⟩,by kernel_rfl⟩,⟨⟨⟨by kernel_rfl,aAG⟩,by kernel_rfl⟩,⟨⟨⟨by kernel_rfl,Zd⟩,by kernel_rfl⟩,⟨⟨⟨by kernel_rfl,al4⟩,by kernel_rfl⟩,trivial⟩⟩⟩⟩⟩⟩⟩⟩⟩⟩⟩⟩⟩⟩⟩⟩⟩⟩⟩⟩⟩⟩⟩⟩⟩⟩⟩⟩⟩⟩⟩⟩⟩⟩⟩⟩⟩⟩⟩⟩⟩⟩⟩⟩⟩⟩⟩⟩⟩⟩⟩
theorem g5{f:Nat}{args:List Value}{r:Value}(h:ag7 (N0 aqP).F [] 100000 80 f args r=true):bP N f args r:=avj (Ja aIw) aor h
theorem Gq{p:cv->Prop}(bX:p ⟨false,[],[1]⟩)(A:p ⟨false,[1],[1]⟩)(E:p ⟨false,[1],[2]⟩)(ao:p ⟨false,[1],[1000]⟩)(aS:p ⟨false,[30],[1]⟩){x:cv}(B:x.dz):p x:=by
 simp only[cv.dz,NV,hv,kQ,or_false]at B;rcases B with rfl|rfl|rfl|rfl|rfl
 ·exact bX
 ·exact A
 ·exact E
 ·exact ao
 ·exact aS
theorem X3{x:cv}(O:x.dz):bP N 170 [dW x] (.bool x.b0.small):=
 Gq (p:= λx=>bP N 170 [dW x] (.bool x.b0.small)) (g5 (by kernel_rfl)) (g5 (by kernel_rfl)) (g5 (by kernel_rfl)) (g5 (by kernel_rfl)) (g5 (by kernel_rfl)) O
theorem Ve{x:cv}(O:x.dz):bP N 171 [dW x] (.bool (decide (0<x.b0.n))):=
 Gq (p:= λx=>bP N 171 [dW x] (.bool (decide (0<x.b0.n)))) (g5 (by kernel_rfl)) (g5 (by kernel_rfl)) (g5 (by kernel_rfl)) (g5 (by kernel_rfl)) (g5 (by kernel_rfl)) O
theorem aDj{x:cv}(O:x.dz):bP N 230 [dW x] (.bool (decide (r1 x.b0 .mK<=0))):=
 Gq (p:= λx=>bP N 230 [dW x] (.bool (decide (r1 x.b0 .mK<=0)))) (g5 (by kernel_rfl)) (g5 (by kernel_rfl)) (g5 (by kernel_rfl)) (g5 (by kernel_rfl)) (g5 (by kernel_rfl)) O
theorem aql{x:cv}(O:x.dz):bP N 140 [dW x] (.bool x.b0.small):=
 Gq (p:= λx=>bP N 140 [dW x] (.bool x.b0.small)) (g5 (by kernel_rfl)) (g5 (by kernel_rfl)) (g5 (by kernel_rfl)) (g5 (by kernel_rfl)) (g5 (by kernel_rfl)) O
theorem acU{x:cv}(O:x.dz)(aSE:x.b0.ok=true):bP N 139 [dW x] (D (r1 x.b0 .nil)):=
 Gq (p:= λx=>bP N 139 [dW x] (D (r1 x.b0 .nil))) (g5 (by kernel_rfl)) (g5 (by kernel_rfl)) (g5 (by kernel_rfl)) (g5 (by kernel_rfl)) (g5 (by kernel_rfl)) O
theorem aHk{x:cv}(O:x.dz):bP N 138 [dW x] (.bool x.b0.ok):=
 Gq (p:= λx=>bP N 138 [dW x] (.bool x.b0.ok)) (g5 (by kernel_rfl)) (g5 (by kernel_rfl)) (g5 (by kernel_rfl)) (g5 (by kernel_rfl)) (g5 (by kernel_rfl)) O
theorem aGn{x:cv}(O:x.dz):bP N 199 [dW ⟨false,[1],[1]⟩,dW x] (.bool (decide (r1 .mK x.b0<0))):=
 Gq (p:= λx=>bP N 199 [dW ⟨false,[1],[1]⟩,dW x] (.bool (decide (r1 .mK x.b0<0)))) (g5 (by kernel_rfl)) (g5 (by kernel_rfl)) (g5 (by kernel_rfl)) (g5 (by kernel_rfl)) (g5 (by kernel_rfl)) O
theorem ue:bP N 193 [D 1] (dW ⟨false,[1],[1]⟩):=g5 (by kernel_rfl)
theorem avw:bP N 59 [D 0,D 1] (dW ⟨false,[],[1]⟩):=by have h:bP N 59 [D 0,D 1] (.agg #[.bool false,.slice none 0 0,b6 [1]]):=g5 (by kernel_rfl);intro u m vs df ag;refine(h u m vs df ag).bt λr U ⟨A,E,cE,ao,aS,bI⟩=>⟨A,E,cE,ao,aS,?_⟩;obtain⟨ys,rfl,aA⟩:=bI.tQ;obtain⟨a,b,c,e,aE,a5,ch⟩:=bM.aIW (x:= .bool false) (y:= .slice none 0 0) (I:=b6 [1]) aA;have dw:ys= #[a,b,c]:=DK.1 e;subst dw;rw[a5.hB rfl];exact bM.agg (bM.cons aE (bM.cons (.jI rfl) (bM.cons ch bM.nil)))
theorem avx:bP N 59 [D 1,D 1] (dW ⟨false,[1],[1]⟩):=g5 (by kernel_rfl)
theorem avy:bP N 59 [D 1,D 2] (dW ⟨false,[1],[2]⟩):=g5 (by kernel_rfl)
theorem avz:bP N 59 [D 1,D 1000] (dW ⟨false,[1],[1000]⟩):=g5 (by kernel_rfl)
theorem avA:bP N 59 [D 30,D 1] (dW ⟨false,[30],[1]⟩):=g5 (by kernel_rfl)
theorem Nl:bP N 174 [D 1,D 1] (.tuple #[dW ⟨false,[1],[1]⟩,D 0]):=g5 (by kernel_rfl)
theorem Nm:bP N 173 [iU [⟨false,[1],[1]⟩]] (.tuple #[dW ⟨false,[1],[1]⟩,D 0]):=g5 (by kernel_rfl)
theorem Nj:bP N 175 [dW ⟨false,[1],[1]⟩,dW ⟨false,[1],[1]⟩] (.tuple #[D 0,D 0]):=g5 (by kernel_rfl)
theorem vt:bP N 191 [iU [⟨false,[1],[1]⟩]] (.tuple #[dW ⟨false,[1],[1]⟩,D 0]):=g5 (by kernel_rfl)
theorem vr:bP N 192 [dW ⟨false,[1],[1]⟩,dW ⟨false,[1],[1]⟩] (.bool true):=g5 (by kernel_rfl)
end
theorem ael{x:Int}(bX:0<=x)(A:x<4294967296):IntKind.u32.wrap x=x:=by show x%4294967296=x;omega
theorem aen{x:Int}(bX:0<=x)(A:x<18446744073709551616):IntKind.u64.wrap x=x:=by show x%18446744073709551616=x;omega
theorem aeC:IntKind.i64.wrap 0=0:=by decide
theorem aeD:IntKind.i64.wrap 1=1:=by decide
theorem aeE:IntKind.i64.wrap 2=2:=by decide
theorem aeF:IntKind.i64.wrap (-1)= -1:=by decide
theorem aeS:IntKind.u64.wrap 0=0:=by decide
theorem aeT:IntKind.u64.wrap 1=1:=by decide
theorem aeU:IntKind.u32.wrap 0=0:=by decide
attribute [local simp] aeC aeD aeE aeF aeS aeT aeU
theorem acO{x:Int}: ∀r∈[[dS x]],r.length=1/\ ∀v∈r,hH v=true:= λr ar=>by simp at ar;subst ar;exact⟨rfl,λv M=>by simp at M;subst M;rfl⟩
theorem aKX{x:Int}(B:x≠0):bP N 248 [b6 [x]] (D 1):=by refine dJ (c3 (ay:=⟨[],[]⟩) alC (by kernel_rfl) (by simp[RS]) ?_);simp[RS,alB];refine eS (ay:=⟨[],[]⟩) λbO a1=> ?_;simp[alD,B]
noncomputable def yc:bF N:= .cM 248 Int (λx=>x≠0) (λx=>[b6 [x]]) (λ_=>D 1) λ_ h=>aKX h
@[simp] theorem aX8:yc.f=248:=rfl
@[simp] theorem aX9{x:Int}(h:x≠0):yc.fn [ai [[dS x]] 1]=some (D 1):=bF.dK (x:=x) h λy Z=>by simpa using Z
theorem aKW{x:Int}(B:x≠0):bP N 271 [b6 [x]] (.bool false):=by refine dJ (c3 (ay:=⟨[yc],[]⟩) alY (by kernel_rfl) (by simp[R1]) ?_);simp(disch:=omega) [R1,alX]
noncomputable def IZ:bF N:= .cM 271 Int (λx=>x≠0) (λx=>[b6 [x]]) (λ_=> .bool false) λ_ h=>aKW h
@[simp] theorem aX6:IZ.f=271:=rfl
@[simp] theorem aX7{x:Int}(h:x≠0):IZ.fn [ai [[dS x]] 1]=some (.bool false):=bF.dK (x:=x) h λy Z=>by simpa using Z
theorem aK2{x:Int}(B:x≠0):bP N 253 [b6 [x]] (b6 [x]):=by refine dJ (c3 (ay:=⟨[yc],[]⟩) alI (by kernel_rfl) (by simp[RV]) ?_);simp(disch:=omega) [RV,alH];exact uS (n:=8) (bJ:=[[dS x]]) (w:=true) (by simp(disch:=first|omega|simp only[DI.aw];omega) [-ab,-ah,-aa,-ad,-List.map_map]) rfl acO
noncomputable def Dh:bF N:= .cM 253 Int (λx=>x≠0) (λx=>[b6 [x]]) (λx=>b6 [x]) λ_ h=>aK2 h
@[simp] theorem aYi:Dh.f=253:=rfl
@[simp] theorem aYj{x:Int}(h:x≠0):Dh.fn [ai [[dS x]] 1]=some (b6 [x]):=bF.dK (x:=x) h λy Z=>by simpa using Z
theorem aKQ{x y:Int}(B:x≠0)(Z:y≠0):bP N 222 [b6 [x],b6 [y]] (D (if x<y then-1 else if x>y then 1 else 0)):=by
 refine dJ (c3 (ay:=⟨[yc],[]⟩) ala (by kernel_rfl) (by simp[RI]) ?_);simp(disch:=omega) [RI,ak9];refine eS (ay:=⟨[yc],[]⟩) λbO a1=> ?_;by_cases ck:x<y
 ·simp[LZ,HT,ck]
 by_cases c9:x>y
 ·simp[LZ,HT,ck,c9]
 simp[LZ,HT,ck,c9];refine a1 _ _ (eS (ay:=⟨[yc],[]⟩) λbO a1=> ?_);simp[LZ,HT,HT,ck,c9]
noncomputable def Ut:bF N:= .cM 222 (Int×Int) (λx=>x.1≠0/\x.2≠0) (λx=>[b6 [x.1],b6 [x.2]]) (λx=>D (if x.1<x.2 then-1 else if x.1>x.2 then 1 else 0)) λ_ h=>aKQ h.1 h.2
@[simp] theorem aX1:Ut.f=222:=rfl
@[simp] theorem aX2{x y:Int}(h:x≠0/\y≠0):Ut.fn [ai [[dS x]] 1,ai [[dS y]] 1]=some (D (if x<y then-1 else if x>y then 1 else 0)):=bF.dK (x:=(x,y)) h λ⟨a,b⟩ Z=>by simpa using Z
theorem aKZ:bP N 217 [.int .u64 0] (b6 []):=g5 (by kernel_rfl)
noncomputable def adR:bF N:= .cM 217 Unit (λ_=>True) (λ_=>[.int .u64 0]) (λ_=>b6 []) λ_ _=>aKZ
@[simp] theorem aYc:adR.f=217:=rfl
@[simp] theorem aYd:adR.fn [.int .u64 0]=some (b6 []):=bF.dK (x:=()) trivial λ_ _=>rfl
section
variable {I:Int} (A:2<=I) (E:I<200)
include A E
theorem aK1:bP N 278 [b6 [I],.int .u32 1] (.tuple #[b6 [I],.int .u32 0]):=by
 have bE:I≠0:=by omega
 have cr:IntKind.u64.wrap I=I:=aen (by omega) (by omega);have ea:IntKind.u32.wrap I=I:=ael (by omega) (by omega);have aG:I.tdiv 1=I:=by simp
 have aN:I.tmod 1=0:=by simp
 refine dJ (c3 (ay:=⟨[yc],[]⟩) al4 (by kernel_rfl) (by simp[R2]) ?_);simp(disch:=omega) [R2,al3];refine eS (ay:=⟨[yc],[]⟩) λbO a1=> ?_;have ko:max (I%2^IntKind.u64.bits) 0=I:=by show max (I%18446744073709551616) 0=I;omega
 simp(disch:=first|omega|simp only[DI.aw];omega) [Ze,R3,cr,ea,ko,aG,aN,-ab,-ah,-aa,-ad,-List.map_map];refine a1 _ _ (eS (ay:=⟨[yc],[]⟩) λbO a1=> ?_);simp(disch:=omega) [Ze,R3,R3,B2,zs];simp(disch:=first|omega|simp only[DI.aw];omega) [avL]
theorem aKR:bP N 273 [b6 [1],b6 [I]] (.tuple #[.slice none 0 0,b6 [1]]):=by
 have bE:I≠0:=by omega
 have c:(1:Int)<I:=by omega
 have ed:(1:Int)≠0:=by decide
 refine dJ (c3 (ay:=⟨[Ut,Dh],[]⟩) Zd (by kernel_rfl) (by simp[H0]) ?_);simp(disch:=omega) [H0,Zc,c]
noncomputable def adT:bF N:= .cM 278 Unit (λ_=>True) (λ_=>[b6 [I],.int .u32 1]) (λ_=> .tuple #[b6 [I],.int .u32 0]) λ_ _=>aK1 A E
@[simp] theorem aYg:(adT A E).f=278:=rfl
@[simp] theorem aYh:(adT A E).fn [ai [[dS I]] 1,.int .u32 1]=some (.tuple #[b6 [I],.int .u32 0]):=bF.dK (x:=()) trivial λ_ _=>rfl
theorem aKS:bP N 273 [b6 [I],b6 [1]] (.tuple #[b6 [I],b6 []]):=by
 have bE:I≠0:=by omega
 have c: ¬I<1:=by omega
 have c9:I>1:=by omega
 have k9:(1:Int)<I:=by omega
 have ed:(1:Int)≠0:=by decide
 refine dJ (c3 (ay:=⟨[Ut,adT A E,adR],[]⟩) Zd (by kernel_rfl) (by simp[H0]) ?_);simp(disch:=omega) [H0,Zc,al0,c,c9]
noncomputable def F8:bF N:= .cM 273 Bool (λ_=>True) (λb=>if b then[b6 [1],b6 [I]]else[b6 [I],b6 [1]]) (λb=>if b then .tuple #[.slice none 0 0,b6 [1]]else .tuple #[b6 [I],b6 []]) λb _=>by
 cases b
 ·exact aKS A E
 ·exact aKR A E
@[simp] theorem aX3:(F8 A E).f=273:=rfl
theorem aHZ:(F8 A E).fn [ai [[dS 1]] 1,ai [[dS I]] 1]=some (.tuple #[.slice none 0 0,b6 [1]]):=bF.dK (x:=true) trivial λb hb=>by
 cases b
 ·simp at hb;omega
 ·rfl
theorem aH0:(F8 A E).fn [ai [[dS I]] 1,ai [[dS 1]] 1]=some (.tuple #[b6 [I],b6 []]):=bF.dK (x:=false) trivial λb hb=>by
 cases b
 ·rfl
 ·simp at hb;omega
theorem aKU:bP N 251 [b6 [1],b6 [I]] (.tuple #[b6 [1],D 0]):=by
 have bE:I≠0:=by omega
 have ed:(1:Int)≠0:=by decide
 have gI:=aHZ A E;have hz:=aH0 A E;refine dJ (c3 (ay:=⟨[IZ,Dh,F8 A E],[]⟩) alG (by kernel_rfl) (by simp[RT]) ?_);simp(disch:=omega) [RT,alF];refine eS (ay:=⟨[IZ,Dh,F8 A E],[]⟩) λbO a1=> ?_;simp[RU,L4,gI];refine a1 _ _ (eS (ay:=⟨[IZ,Dh,F8 A E],[]⟩) λbO a1=> ?_);simp[RU,L4,hz];refine a1 _ _ (eS (ay:=⟨[IZ,Dh,F8 A E],[]⟩) λbO a1=> ?_);simp[RU,L4,L4]
omit A E in
theorem atF: ∀(n:Nat) (v k:Int),0<=v->v<2^n->0<=k->k+n<=1000-> ∃fk,k<=fk/\fk<=k+n/\(0<v->k<fk)/\ ∀(z:aD) (t:G) (Q:cO->aD->G->Prop),z 5=dS v->z 4=D k->
 (∀K,K 4=D fk->Q (.cF 0) K t)->ee N (.loop LX) z t Q:=by
 intro n;induction n with
 | zero=>intro v k bX A _ _;have M:v=0:=(by simp at A;omega);subst M;refine⟨k,vJ _,by omega,λh=>absurd h (by decide),λz t Q bD dp a6=> ?_⟩;refine eS (ay:=⟨[],[]⟩) λbO a1=> ?_;simp[LX,bD];exact a6 _ (by simp[dp])
 | succ n cj=>
   intro v k bX A O aj;by_cases M:v=0
   ·subst M;refine⟨k,vJ _,by omega,λh=>absurd h (by decide),λz t Q bD dp a6=> ?_⟩;refine eS (ay:=⟨[],[]⟩) λbO a1=> ?_;simp[LX,bD];exact a6 _ (by simp[dp])
   ·have ae:0<v:=(by omega);have ao:(2:Int)^(n+1)=2*2^n:=(by rw[Int.pow_succ];omega);obtain⟨fk,a,b,c,d⟩:=cj (v/2) (k+1) (by omega) (by omega) (by omega) (by omega);refine⟨fk,by omega,by omega,λ_=>by omega,λz t Q bD dp a6=> ?_⟩;refine eS (ay:=⟨[],[]⟩) λbO a1=> ?_;have cr:IntKind.i64.wrap (k+1)=k+1:=db (by omega) (by omega);simp[LX,bD,dp,ae,cr];refine a1 _ _ (d _ _ _ ?_ (by simp) a6);rw[aJi,if_pos rfl,Int.fdiv_eq_ediv_of_nonneg _ (by decide)]
theorem U0: ∃b:Int,1<=b/\b<=8/\bP N 216 [b6 [I]] (D b):=by
 have bE:I≠0:=by omega
 obtain⟨fk,a,b,c,d⟩:=atF 8 I 0 (by omega) (by show I<256;omega) (by omega) (by omega);refine⟨fk,by have:=c (by omega);omega,by omega,?_⟩;refine dJ (c3 (ay:=⟨[yc],[]⟩) akY (by kernel_rfl) (by simp[RF]) ?_);simp(disch:=first|omega|simp only[DI.aw];omega) [RF,akX];refine d _ _ _ (by simp) (by simp) λK dp=> ?_;simp[akZ,dp]
omit A E in
theorem atE:bP N 216 [b6 [1]] (D 1):=g5 (by kernel_rfl)
omit A E in
noncomputable def F7(b:Int)(hb:bP N 216 [b6 [I]] (D b)):bF N:= .cM 216 Bool (λ_=>True) (λc=>if c then[b6 [1]]else[b6 [I]]) (λc=>if c then D 1 else D b) λc _=>by
 cases c
 ·exact hb
 ·exact atE
omit A E in
@[simp] theorem aX0{b:Int}{hb:bP N 216 [b6 [I]] (D b)}:(F7 b hb).f=216:=rfl
theorem Us{b:Int}{hb:bP N 216 [b6 [I]] (D b)}:(F7 b hb).fn [ai [[dS 1]] 1]=some (D 1):=bF.dK (x:=true) trivial λc av=>by
 cases c
 ·simp at av;omega
 ·rfl
theorem adO{b:Int}{hb:bP N 216 [b6 [I]] (D b)}:(F7 b hb).fn [ai [[dS I]] 1]=some (D b):=bF.dK (x:=false) trivial λc av=>by
 cases c
 ·rfl
 ·simp at av;omega
noncomputable def adP:bF N:= .cM 251 Unit (λ_=>True) (λ_=>[b6 [1],b6 [I]]) (λ_=> .tuple #[b6 [1],D 0]) λ_ _=>aKU A E
@[simp] theorem aX4:(adP A E).f=251:=rfl
@[simp] theorem aX5:(adP A E).fn [ai [[dS 1]] 1,ai [[dS I]] 1]=some (.tuple #[b6 [1],D 0]):=bF.dK (x:=()) trivial λ_ _=>rfl
theorem aKY:bP N 219 [.bool false,b6 [1],b6 [I]] (.tuple #[dW ⟨false,[1],[I]⟩,D 0]):=by
 have bE:I≠0:=by omega
 have ed:(1:Int)≠0:=by decide
 obtain⟨b,eH,eN,hb⟩:=U0 A E;have ej:=Us A E (hb:=hb);have eD:=adO A E (hb:=hb);have c: ¬b>4096:=by omega
 have nF: ¬(4096:Int)<b:=by omega
 refine dJ (c3 (ay:=⟨[adP A E,F7 b hb,Dh],[]⟩) ak3 (by kernel_rfl) (by simp[RG]) ?_);simp(disch:=first|omega|simp only[DI.aw];omega) [RG,ak2,ej,eD,c,eL,-ab,-ah,-aa,-ad,-List.map_map]
theorem aK3:bP N 221 [dW ⟨false,[1],[I]⟩] (.bool true):=by
 obtain⟨b,eH,eN,hb⟩:=U0 A E;have ej:=Us A E (hb:=hb);have eD:=adO A E (hb:=hb);have c:0<b:=by omega
 have nF:b<=4096:=by omega
 refine dJ (c3 (ay:=⟨[F7 b hb],[]⟩) ak8 (by kernel_rfl) (by simp[RH]) ?_);simp[RH,ak7,ej,eD,c,nF,eL]
noncomputable def adQ:bF N:= .cM 219 Unit (λ_=>True) (λ_=>[.bool false,b6 [1],b6 [I]]) (λ_=> .tuple #[dW ⟨false,[1],[I]⟩,D 0]) λ_ _=>aKY A E
@[simp] theorem aYa:(adQ A E).f=219:=rfl
@[simp] theorem aYb:(adQ A E).fn [.bool false,ai [[dS 1]] 1,ai [[dS I]] 1]=some (.tuple #[dW ⟨false,[1],[I]⟩,D 0]):=bF.dK (x:=()) trivial λ_ _=>rfl
noncomputable def adU:bF N:= .cM 221 Unit (λ_=>True) (λ_=>[dW ⟨false,[1],[I]⟩]) (λ_=> .bool true) λ_ _=>aK3 A E
@[simp] theorem aYk:(adU A E).f=221:=rfl
@[simp] theorem aYl:(adU A E).fn [.agg #[.bool false,ai [[dS 1]] 1,ai [[dS I]] 1]]=some (.bool true):=bF.dK (x:=()) trivial λ_ _=>rfl
theorem aK0:bP N 215 [dW ⟨false,[1],[I]⟩] (.tuple #[dW ⟨false,[1],[I]⟩,D 0]):=by refine dJ (c3 (ay:=⟨[adU A E,adQ A E],[]⟩) akW (by kernel_rfl) (by simp[RE]) ?_);simp[RE,akV,eL]
noncomputable def adS:bF N:= .cM 215 Unit (λ_=>True) (λ_=>[dW ⟨false,[1],[I]⟩]) (λ_=> .tuple #[dW ⟨false,[1],[I]⟩,D 0]) λ_ _=>aK0 A E
@[simp] theorem aYe:(adS A E).f=215:=rfl
@[simp] theorem aYf:(adS A E).fn [.agg #[.bool false,ai [[dS 1]] 1,ai [[dS I]] 1]]=some (.tuple #[dW ⟨false,[1],[I]⟩,D 0]):=bF.dK (x:=()) trivial λ_ _=>rfl
theorem aKV:bP N 170 [dW ⟨false,[1],[I]⟩] (.bool true):=by
 obtain⟨b,eH,eN,hb⟩:=U0 A E;have ej:=Us A E (hb:=hb);have eD:=adO A E (hb:=hb);have c:b<=32:=by omega
 refine dJ (c3 (ay:=⟨[adS A E,F7 b hb],[]⟩) akn (by kernel_rfl) (by simp[Rj]) ?_);simp[Rj,akm,ej,eD,c,eL]
theorem asu:bP N 171 [dW ⟨false,[1],[I]⟩] (.bool true):=by obtain⟨b,eH,eN,hb⟩:=U0 A E;have ej:=Us A E (hb:=hb);refine dJ (c3 (ay:=⟨[F7 b hb],[]⟩) akp (by kernel_rfl) (by simp[Rk]) ?_);simp[Rk,ako,ej,eL]
end
attribute [local simp] aeC aeD aeE aeF aeS aeT aeU
abbrev kM:Value:= .slice none 0 0
noncomputable def dI{f:Nat}{args:List Value}{r:Value}(h:bP N f args r):bF N:= .cM f Unit (λ_=>True) (λ_=>args) (λ_=>r) λ_ _=>h
@[simp] theorem aV9{f:Nat}{args:List Value}{r:Value}{h:bP N f args r}:(dI h).f=f:=rfl
theorem jX{f:Nat}{args:List Value}{r:Value}(h:bP N f args r):(dI h).fn args=some r:=bF.dK (x:=()) trivial λ_ _=>rfl
theorem zx{f:Nat}{args l1:List Value}{r:Value}(h:bP N f args r)(aj:args≠l1):(dI h).fn l1=none:=by unfold dI bF.cM;simp only;rw[dif_neg];rintro⟨_,_,e⟩;exact aj e
noncomputable def uf(a b:bF N)(h:b.f=a.f):bF N:=⟨a.f,λargs=>match a.fn args with
 |some r=>some r
 | none=>b.fn args,λargs r ar=>by
   cases ag:a.fn args with
   |some eA=>rw[ag]at ar;cases ar;exact a.ok args r ag
   |none=>rw[ag]at ar;have:=b.ok args r ar;rw[h]at this;exact this⟩
@[simp] theorem aWa{a b:bF N}{h:b.f=a.f}:(uf a b h).f=a.f:=rfl
theorem Bd{a b:bF N}{h:b.f=a.f}{args:List Value}{r:Value}(ag:a.fn args=some r):(uf a b h).fn args=some r:=by simp only[uf,ag]
theorem zy{a b:bF N}{h:b.f=a.f}{args:List Value}{r:Value}(ag:a.fn args=none)(hb:b.fn args=some r):(uf a b h).fn args=some r:=by simp only[uf,ag,hb]
theorem aKF{x:Int}(B:x≠0):bP N 194 [b6 [x]] (b6 [x]):=by refine dJ (c3 (ay:=⟨[],[]⟩) YN (by kernel_rfl) (by simp[HP]) ?_);simp[HP,YM];refine eS (ay:=⟨[],[]⟩) λbO a1=> ?_;simp[Ru,HQ,HQ,B];exact uS (n:=8) (bJ:=[[dS x]]) (w:=true) (by simp) rfl acO
theorem aKE{x:Int}(B:x≠0):bP N 194 [b6 [x,0]] (b6 [x]):=by refine dJ (c3 (ay:=⟨[],[]⟩) YN (by kernel_rfl) (by simp[HP]) ?_);simp[HP,YM];refine eS (ay:=⟨[],[]⟩) λbO a1=> ?_;simp[Ru,HQ];refine a1 _ _ (eS (ay:=⟨[],[]⟩) λbO a1=> ?_);simp[Ru,HQ,HQ,B];exact uS (n:=8) (bJ:=[[dS x]]) (w:=true) (by simp) rfl acO
noncomputable def rp:bF N:= .cM 194 Int (λx=>x≠0) (λx=>[b6 [x]]) (λx=>b6 [x]) λ_ h=>aKF h
@[simp] theorem aXX:rp.f=194:=rfl
@[simp] theorem aHY{x:Int}(h:x≠0):rp.fn [ai [[dS x]] 1]=some (b6 [x]):=bF.dK (x:=x) h λy Z=>by simpa using Z
noncomputable def adM:bF N:= .cM 194 Int (λx=>x≠0) (λx=>[b6 [x,0]]) (λx=>b6 [x]) λ_ h=>aKE h
@[simp] theorem aXV:adM.f=194:=rfl
@[simp] theorem aXW{x:Int}(h:x≠0):adM.fn [ai [[dS x],[dS 0]] 1]=some (b6 [x]):=bF.dK (x:=x) h λy Z=>by simpa using Z
theorem aKB{x:Int}(B:x≠0):bP N 246 [b6 [x]] (.bool false):=by refine dJ (c3 (ay:=⟨[rp],[]⟩) alz (by kernel_rfl) (by simp[RR]) ?_);simp(disch:=omega) [RR,aly]
noncomputable def F6:bF N:= .cM 246 Int (λx=>x≠0) (λx=>[b6 [x]]) (λ_=> .bool false) λ_ h=>aKB h
@[simp] theorem aXJ:F6.f=246:=rfl
@[simp] theorem aHR{x:Int}(h:x≠0):F6.fn [ai [[dS x]] 1]=some (.bool false):=bF.dK (x:=x) h λy Z=>by simpa using Z
theorem aKz{x y:Int}(B:x≠0)(Z:y≠0):bP N 241 [b6 [x],b6 [y]] (D (if x<y then-1 else if x>y then 1 else 0)):=by
 refine dJ (c3 (ay:=⟨[rp],[]⟩) alx (by kernel_rfl) (by simp[RQ]) ?_);simp(disch:=omega) [RQ,alw];refine eS (ay:=⟨[rp],[]⟩) λbO a1=> ?_;by_cases ck:x<y
 ·simp[L1,HW,ck]
 by_cases c9:x>y
 ·simp[L1,HW,ck,c9]
 simp[L1,HW,ck,c9];refine a1 _ _ (eS (ay:=⟨[rp],[]⟩) λbO a1=> ?_);simp[L1,HW,HW,ck,c9]
noncomputable def IY:bF N:= .cM 241 (Int×Int) (λx=>x.1≠0/\x.2≠0) (λx=>[b6 [x.1],b6 [x.2]]) (λx=>D (if x.1<x.2 then-1 else if x.1>x.2 then 1 else 0)) λ_ h=>aKz h.1 h.2
@[simp] theorem aXE:IY.f=241:=rfl
@[simp] theorem aXF{x y:Int}(h:x≠0/\y≠0):IY.fn [ai [[dS x]] 1,ai [[dS y]] 1]=some (D (if x<y then-1 else if x>y then 1 else 0)):=bF.dK (x:=(x,y)) h λ⟨a,b⟩ Z=>by simpa using Z
theorem UW:bP N 168 [.int .u64 0] kM:=g5 (by kernel_rfl)
theorem aKD{x:Int}(A:0<x)(E:x<4294967296):bP N 168 [.int .u64 x] (b6 [x]):=by
 have B:x≠0:=by omega
 have cr:IntKind.u32.wrap x=x:=ael (by omega) (by omega);have aG:x.fdiv 4294967296=0:=by rw[Int.fdiv_eq_ediv_of_nonneg _ (by decide)];omega
 refine dJ (c3 (ay:=⟨[adM],[]⟩) aki (by kernel_rfl) (by simp[Rh]) ?_);simp(disch:=first|omega|simp only[DI.aw];omega) [Rh,akh,cr,aG,B2,zs]
noncomputable def adJ:bF N:= .cM 168 Int (λx=>0<x/\x<4294967296) (λx=>[.int .u64 x]) (λx=>b6 [x]) λ_ h=>aKD h.1 h.2
@[simp] theorem aXM:adJ.f=168:=rfl
@[simp] theorem aXN{x:Int}(h:0<x/\x<4294967296):adJ.fn [.int .u64 x]=some (b6 [x]):=bF.dK (x:=x) h λy Z=>by simpa using Z
section
variable {I:Int} (A:2<=I) (E:I<200)
include A E
theorem aeX:bP N 247 [b6 [1],b6 [I]] (.tuple #[kM,b6 [1]]):=by
 have bE:I≠0:=by omega
 have c:(1:Int)<I:=by omega
 have ed:(1:Int)≠0:=by decide
 refine dJ (c3 (ay:=⟨[IY,rp],[]⟩) Y3 (by kernel_rfl) (by simp[HX]) ?_);simp(disch:=omega) [HX,Y2,c]
theorem asd:bP N 247 [b6 [I],b6 [1]] (.tuple #[b6 [I],kM]):=by
 have bE:I≠0:=by omega
 have c: ¬I<1:=by omega
 have c9:I>1:=by omega
 have k9:(1:Int)<I:=by omega
 have ed:(1:Int)≠0:=by decide
 have cr:IntKind.u64.wrap I=I:=aen (by omega) (by omega);have ea:IntKind.u32.wrap I=I:=ael (by omega) (by omega);have ko:max (I%2^IntKind.u64.bits) 0=I:=by show max (I%18446744073709551616) 0=I;omega
 have aG:I.tdiv 1=I:=by simp
 have aN:I.tmod 1=0:=by simp
 have ek:=jX UW;refine dJ (c3 (ay:=⟨[IY,rp,dI UW],[]⟩) Y3 (by kernel_rfl) (by simp[HX]) ?_);simp(disch:=first|omega|simp only[DI.aw];omega) [HX,Y2,alA,c,c9,-ab,-ah,-aa,-ad,-List.map_map];refine eS (ay:=⟨[IY,rp,dI UW],[]⟩) λbO a1=> ?_;simp(disch:=first|omega|simp only[DI.aw];omega) [Y5,cr,ea,ko,aG,aN,-ab,-ah,-aa,-ad,-List.map_map];refine a1 _ _ (eS (ay:=⟨[IY,rp,dI UW],[]⟩) λbO a1=> ?_);simp(disch:=first|omega|simp only[DI.aw];omega) [Y5,Y4,Y4,ek,B2,zs,-ab,-ah,-aa,-ad,-List.map_map]
theorem aKA:([b6 [1],b6 [I]]:List Value)≠[b6 [I],b6 [1]]:= λh=>by simp at h;omega
noncomputable def F5:bF N:=uf (dI (aeX A E)) (dI (asd A E)) rfl
@[simp] theorem aXG:(F5 A E).f=247:=rfl
theorem aHM:(F5 A E).fn [ai [[dS 1]] 1,ai [[dS I]] 1]=some (.tuple #[kM,b6 [1]]):=Bd (jX (aeX A E))
theorem aHN:(F5 A E).fn [ai [[dS I]] 1,ai [[dS 1]] 1]=some (.tuple #[b6 [I],kM]):=zy (zx (aeX A E) (aKA A E)) (jX (asd A E))
theorem ase:bP N 213 [b6 [1],b6 [I]] (.tuple #[b6 [1],D 0]):=by
 have bE:I≠0:=by omega
 have ed:(1:Int)≠0:=by decide
 have gI:=aHM A E;have hz:=aHN A E;refine dJ (c3 (ay:=⟨[F6,rp,F5 A E],[]⟩) akU (by kernel_rfl) (by simp[RC]) ?_);simp(disch:=omega) [RC,akT];refine eS (ay:=⟨[F6,rp,F5 A E],[]⟩) λbO a1=> ?_;simp[RD,LW,gI];refine a1 _ _ (eS (ay:=⟨[F6,rp,F5 A E],[]⟩) λbO a1=> ?_);simp[RD,LW,hz];refine a1 _ _ (eS (ay:=⟨[F6,rp,F5 A E],[]⟩) λbO a1=> ?_);simp[RD,LW,LW]
noncomputable def adI:bF N:=dI (ase A E)
@[simp] theorem aXH:(adI A E).f=213:=rfl
@[simp] theorem aXI:(adI A E).fn [ai [[dS 1]] 1,ai [[dS I]] 1]=some (.tuple #[b6 [1],D 0]):=jX (ase A E)
theorem asg:bP N 167 [.bool false,b6 [1],b6 [I]] (dW ⟨false,[1],[I]⟩):=by
 have bE:I≠0:=by omega
 have ed:(1:Int)≠0:=by decide
 refine dJ (c3 (ay:=⟨[adI A E,rp],[]⟩) akg (by kernel_rfl) (by simp[Rg]) ?_);simp(disch:=first|omega|simp only[DI.aw];omega) [Rg,akf,ed,eL,-ab,-ah,-aa,-ad,-List.map_map]
theorem aso:bP N 138 [dW ⟨false,[1],[I]⟩] (.bool true):=by
 have bE:I≠0:=by omega
 have ed:(1:Int)≠0:=by decide
 refine dJ (c3 (ay:=⟨[rp],[]⟩) aj9 (by kernel_rfl) (by simp[Rc]) ?_);simp(disch:=first|omega|simp only[DI.aw];omega) [Rc,aj8,eL]
noncomputable def adN:bF N:=dI (aso A E)
@[simp] theorem aXY:(adN A E).f=138:=rfl
@[simp] theorem aXZ:(adN A E).fn [.agg #[.bool false,ai [[dS 1]] 1,ai [[dS I]] 1]]=some (.bool true):=jX (aso A E)
noncomputable def Uo:bF N:=dI (asg A E)
@[simp] theorem aXK:(Uo A E).f=167:=rfl
@[simp] theorem aXL:(Uo A E).fn [.bool false,ai [[dS 1]] 1,ai [[dS I]] 1]=some (dW ⟨false,[1],[I]⟩):=jX (asg A E)
theorem asi:bP N 196 [dW ⟨false,[1],[I]⟩] (.tuple #[dW ⟨false,[1],[I]⟩,D 0]):=by refine dJ (c3 (ay:=⟨[adN A E,Uo A E],[]⟩) akQ (by kernel_rfl) (by simp[Rw]) ?_);simp[Rw,akP,eL]
noncomputable def adL:bF N:=dI (asi A E)
@[simp] theorem aXQ:(adL A E).f=196:=rfl
@[simp] theorem aXR:(adL A E).fn [.agg #[.bool false,ai [[dS 1]] 1,ai [[dS I]] 1]]=some (.tuple #[dW ⟨false,[1],[I]⟩,D 0]):=jX (asi A E)
theorem Ok:bP N 140 [dW ⟨false,[1],[I]⟩] (.bool true):=by refine dJ (c3 (ay:=⟨[adL A E],[]⟩) akd (by kernel_rfl) (by simp[Re]) ?_);simp[Re,akc,eL]
theorem asl:bP N 169 [D I] (.int .u64 I):=by
 have cr:IntKind.u64.wrap I=I:=aen (by omega) (by omega);have c: ¬I<0:=by omega
 refine dJ (c3 (ay:=⟨[],[]⟩) akk (by kernel_rfl) (by simp[Ri]) ?_);simp[Ri,akj,cr,c]
omit A E in
theorem ae2:bP N 169 [D 1] (.int .u64 1):=g5 (by kernel_rfl)
noncomputable def Up:bF N:=uf (dI ae2) (dI (asl A E)) rfl
@[simp] theorem aXU:(Up A E).f=169:=rfl
@[simp] theorem aXS:(Up A E).fn [D 1]=some (.int .u64 1):=Bd (jX ae2)
@[simp] theorem aXT:(Up A E).fn [D I]=some (.int .u64 I):=zy (zx ae2 (by simp;omega)) (jX (asl A E))
theorem ash:bP N 107 [D 1,D I] (.tuple #[dW ⟨false,[1],[I]⟩,D 0]):=by
 have bE:I≠0:=by omega
 have c: ¬I<0:=by omega
 have bB:(0:Int)<1/\(1:Int)<4294967296:=by decide
 have cC:0<I/\I<4294967296:=by omega
 refine dJ (c3 (ay:=⟨[Up A E,adJ,Uo A E],[]⟩) ajq (by kernel_rfl) (by simp[QI]) ?_);simp(disch:=first|omega|simp only[DI.aw];omega) [QI,ajp,bE,c,eL]
noncomputable def adK:bF N:=dI (ash A E)
@[simp] theorem aXO:(adK A E).f=107:=rfl
@[simp] theorem aXP:(adK A E).fn [D 1,D I]=some (.tuple #[dW ⟨false,[1],[I]⟩,D 0]):=jX (ash A E)
theorem avB:bP N 59 [D 1,D I] (dW ⟨false,[1],[I]⟩):=by refine dJ (c3 (ay:=⟨[adK A E],[]⟩) amn (by kernel_rfl) (by simp[Sf]) ?_);simp[Sf,amm,eL]
end
attribute [local simp] aeC aeD aeE aeF aeS aeT aeU
noncomputable def NM:bF N:= .cM 140 cv cv.dz (λx=>[dW x]) (λx=> .bool x.b0.small) λ_ O=>aql O
@[simp] theorem aWR:NM.f=140:=rfl
theorem aHD{n:Bool}{a b:List Int}(h:(cv.mk n a b).dz):NM.fn [.agg #[.bool n,b6 a,b6 b]]=some (.bool (cv.mk n a b).b0.small):=bF.dK (x:=cv.mk n a b) h λy Z=>DA Z
theorem acV{l:List cv}{n:Nat}(O: ∀x∈l,x.dz)(aj:n<1000000):bP N 190 [iU l,D n] (.bool (decide (l.length=n)&&l.all λx=>x.b0.small)):=by
 have S:(l.all λx=>x.b0.small)=true:=ei.2 λ_ _=>rfl;refine dJ (c3 (ay:=⟨[NM],[]⟩) akJ (by kernel_rfl) (by simp[HO]) ?_);by_cases aA:l.length=n
 ·have h5:((l.length:Nat):Int)=(n:Int):=(by omega);simp(disch:=omega) [HO,Rt,h5];refine gP (ay:=⟨[NM],[]⟩) (λi z t=>z 0=iU l/\z 1=D n/\z 5=D i) n ?_ ?_ 0 _ _ (gd _) ⟨by simp,by simp,by simp⟩
  ·rintro i z t Y ⟨bG,aT,bD⟩ bO a1;have B:l[i]?=some l[i]:=c6 (by omega);have al:l[i].dz:=O _ (kp _);have bp:=fB (n:=i) (by omega);have bA:(i:Int)<n:=(by omega);have f:NM.fn [.agg #[.bool l[i].kx,b6 l[i].a,b6 l[i].b]]=some (.bool true):=aHD (n:=l[i].kx) (a:=l[i].a) (b:=l[i].b) al;simp(disch:=first|omega|simp only[DI.aw];omega) [LS,CA,bG,aT,bD,bA,bp,f,eL,-ab,-ah,-aa,-ad,-List.map_map];exact⟨by omega,a1 _ _ ⟨by simp[bG],by simp[aT],by simp⟩⟩
  ·rintro z t ⟨bG,aT,bD⟩;simp[LS,CA,aT,bD,CA];simp[aA];exact ei.1 S
 ·have h5: ¬((l.length:Nat):Int)=(n:Int):=(by omega);simp[HO,Rt,CA,h5,aA]
theorem asf:bP N 193 [D 0] (.agg #[.bool false,kM,b6 [1]]):=g5 (by kernel_rfl)
theorem ae6:bP N 194 [kM] kM:=g5 (by kernel_rfl)
theorem aeZ:bP N 246 [kM] (.bool false):=g5 (by kernel_rfl)
theorem UY:bP N 194 [b6 [0]] kM:=g5 (by kernel_rfl)
theorem aeW:bP N 241 [b6 [1],kM] (D 1):=g5 (by kernel_rfl)
theorem ae5:bP N 240 [b6 [1],b6 [1]] (b6 [1]):=g5 (by kernel_rfl)
theorem aoV{x:Int}: ¬kM=ai [[dS x]] 1:=by unfold ai;simp
theorem aEj{x:Int}: ¬ai [[dS x]] 1=kM:=by unfold ai;simp
noncomputable def Un:bF N:=uf (dI aeZ) F6 rfl
theorem aHQ:Un.f=246:=rfl
theorem aHO:Un.fn [kM]=some (.bool false):=Bd (jX aeZ)
theorem aHP{x:Int}(h:x≠0):Un.fn [ai [[dS x]] 1]=some (.bool false):=zy (zx aeZ (by simp[aoV])) (aHR h)
noncomputable def Ur:bF N:=uf (dI ae6) rp rfl
theorem aHX:Ur.f=194:=rfl
theorem aHV:Ur.fn [kM]=some kM:=Bd (jX ae6)
theorem aHW{x:Int}(h:x≠0):Ur.fn [ai [[dS x]] 1]=some (b6 [x]):=zy (zx ae6 (by simp[aoV])) (aHY h)
section
variable {I:Int} (A:2<=I) (E:I<200)
include A E
theorem ae4:bP N 268 [kM,b6 [I]] kM:=by have f:(dI UY).fn [ai [[dS 0]] 1]=some kM:=jX UY;refine dJ (c3 (ay:=⟨[dI UY],[]⟩) alT (by kernel_rfl) (by simp[R0]) ?_);simp[R0,alS];refine eS (ay:=⟨[dI UY],[]⟩) λbO a1=> ?_;simp[alU,Za,Za,f,B2,zs]
theorem ae0:bP N 260 [kM,b6 [I]] (.tuple #[kM,D 0]):=by
 have bE:I≠0:=by omega
 have br:=aHO;have bQ:=aHP bE;have a3:=aHV;have a4:=aHW bE;have fz:(dI (ae4 A E)).fn [kM,ai [[dS I]] 1]=some kM:=jX (ae4 A E);refine dJ (c3 (ay:=⟨[Un,Ur,dI (ae4 A E)],[]⟩) alR (by kernel_rfl) (by simp[RZ]) ?_);simp[RZ,alQ,br,bQ,a3,a4,fz,aHQ,aHX]
theorem asn:bP N 240 [kM,b6 [I]] kM:=by have fz:(dI (ae0 A E)).fn [kM,ai [[dS I]] 1]=some (.tuple #[kM,D 0]):=jX (ae0 A E);refine dJ (c3 (ay:=⟨[dI (ae0 A E)],[]⟩) alv (by kernel_rfl) (by simp[RP]) ?_);simp[RP,alu,fz]
noncomputable def Uq:bF N:=uf (dI ae5) (dI (asn A E)) rfl
theorem aHU:(Uq A E).f=240:=rfl
theorem aHS:(Uq A E).fn [ai [[dS 1]] 1,ai [[dS 1]] 1]=some (b6 [1]):=Bd (jX ae5)
theorem aHT:(Uq A E).fn [kM,ai [[dS I]] 1]=some kM:=zy (zx ae5 (λh=>aEj (List.cons.inj h).1)) (jX (asn A E))
theorem ae1:bP N 195 [dW ⟨false,[1],[I]⟩,.agg #[.bool false,kM,b6 [1]]] (D 1):=by have br:=aHS A E;have bQ:=aHT A E;have a3:(dI aeW).fn [ai [[dS 1]] 1,kM]=some (D 1):=jX aeW;refine dJ (c3 (ay:=⟨[Uq A E,dI aeW],[]⟩) akO (by kernel_rfl) (by simp[Rv]) ?_);simp[Rv,akN,br,bQ,a3,aHU,eL]
theorem asj:bP N 139 [dW ⟨false,[1],[I]⟩] (D 1):=by have br:=jX asf;have bQ:(dI (ae1 A E)).fn [.agg #[.bool false,ai [[dS 1]] 1,ai [[dS I]] 1],.agg #[.bool false,kM,ai [[dS 1]] 1]]=some (D 1):=jX (ae1 A E);refine dJ (c3 (ay:=⟨[dI asf,dI (ae1 A E)],[]⟩) akb (by kernel_rfl) (by simp[Rd]) ?_);simp[Rd,aka,br,bQ,eL]
theorem aqB:([dW ⟨false,[],[1]⟩]:List Value)≠[dW ⟨false,[1],[I]⟩]:= λh=>by simp[eL]at h
noncomputable def qy:bF N:=uf (dI (Ve (x:=⟨false,[],[1]⟩) (by unfold cv.dz;decide))) (dI (asu A E)) rfl
theorem T1:(qy A E).f=171:=rfl
theorem aqA:(qy A E).fn [.agg #[.bool false,ai [] 1,ai [[dS 1]] 1]]=some (.bool false):=Bd (jX (Ve (x:=⟨false,[],[1]⟩) (by unfold cv.dz;decide)))
theorem aHu:(qy A E).fn [.agg #[.bool false,ai [[dS 1]] 1,ai [[dS I]] 1]]=some (.bool true):=zy (zx _ (aqB A E)) (jX (asu A E))
omit A E in
theorem Lo{b:Bool}:bP N 226 [.bool b] (.bool b):=by refine dJ (c3 (ay:=⟨[],[]⟩) az1 (by kernel_rfl) (by simp[YU]) ?_);simp[YU,ald]
omit A E in
theorem tm:bP N 225 [ai [[.bool true]] 1,.func (.func 226) #[] #[]] (.bool true):=by have f:(dI (Lo (b:=true))).fn [.bool true]=some (.bool true):=jX Lo;refine dJ (c3 (ay:=⟨[dI (Lo (b:=true))],[]⟩) az0 (by kernel_rfl) (by simp[YS]) ?_);simp[YS,alc];refine eS (ay:=⟨[dI (Lo (b:=true))],[]⟩) λbO a1=> ?_;simp[YT,RJ,f];refine a1 _ _ (eS (ay:=⟨[dI (Lo (b:=true))],[]⟩) λbO a1=> ?_);simp[YT,RJ,RJ]
def Ip(eJ:ByteArray)(I:Int):lo:=⟨eJ,[⟨false,[1],[1]⟩],[[⟨false,[],[1]⟩]],[⟨false,[1],[I]⟩]⟩
theorem ag2{eJ:ByteArray}:bP N 176 [Dz (Ip eJ I)] (.bool true):=by have br:=aqA A E;have bQ:=aHu A E;have f:(dI tm).fn [ai [[.bool true]] 1,.func (.func 226) #[] #[]]=some (.bool true):=jX tm;refine dJ (c3 (ay:=⟨[qy A E,dI tm],[]⟩) azv (by kernel_rfl) (by simp[YH]) ?_);simp[YH,aku,gE,Ip,eL];refine eS (ay:=⟨[qy A E,dI tm],[]⟩) λbO a1=> ?_;simp[Rn,Rm];refine eS (ay:=⟨[qy A E,dI tm],[]⟩) λaR dH=> ?_;simp[LI,bQ,eL];refine eS (ay:=⟨[qy A E,dI tm],[]⟩) λL jx=> ?_;simp[LH,eL];refine jx _ _ (eS (ay:=⟨[qy A E,dI tm],[]⟩) λW dq=> ?_);simp[LH];refine dH _ _ (eS (ay:=⟨[qy A E,dI tm],[]⟩) λaq dM=> ?_);simp[LI];refine a1 _ _ (eS (ay:=⟨[qy A E,dI tm],[]⟩) λU3 El=> ?_);simp[Rn,Rm];refine eS (ay:=⟨[qy A E,dI tm],[]⟩) λaR dH=> ?_;simp[LI,eL];refine eS (ay:=⟨[qy A E,dI tm],[]⟩) λL jx=> ?_;simp[LH,eL];refine jx _ _ (eS (ay:=⟨[qy A E,dI tm],[]⟩) λW dq=> ?_);simp[LH];refine dH _ _ (eS (ay:=⟨[qy A E,dI tm],[]⟩) λaq dM=> ?_);simp[LI];refine El _ _ (eS (ay:=⟨[qy A E,dI tm],[]⟩) λaK9 aQc=> ?_);simp[Rn,Rm,f,T1,B2,zs]
def Im(l:List cv):Prop:=l.length<1000000/\ ∀x∈l,bP N 170 [dW x] (.bool true)
omit A E in
theorem atn{l:List cv}(h:Im l):bP N 172 [iU l,.func (.func 170) #[] #[]] (.bool true):=by have:=afE (u:=170) (l:=l) (p:= λ_=>true) h.1 λx B=>h.2 x B;have e:(l.all λ_=>true)=true:=ei.2 λ_ _=>rfl;rw[e]at this;exact this
noncomputable def NA:bF N:= .cM 172 (List cv) Im (λl=>[iU l,.func (.func 170) #[] #[]]) (λ_=> .bool true) λ_ h=>atn h
omit A E in
@[simp] theorem aVp:NA.f=172:=rfl
omit A E in
theorem ac9{l:List cv}(h:Im l):NA.fn [iU l,.func (.func 170) #[] #[]]=some (.bool true):=bF.dK (x:=l) h λy Z=>by simpa using Z
theorem aDL:Im [⟨false,[1],[I]⟩]:=⟨by simp,λx B=>by simp at B;subst B;exact aKV A E⟩
omit A E in
theorem aDK:Im [⟨false,[1],[1]⟩]:=⟨by decide,λx B=>by simp at B;subst B;exact X3 (by unfold cv.dz;decide)⟩
omit A E in
theorem aDJ:Im [⟨false,[],[1]⟩]:=⟨by decide,λx B=>by simp at B;subst B;exact X3 (by unfold cv.dz;decide)⟩
noncomputable def ND(eJ:ByteArray):bF N:=dI (ag2 A E (eJ:=eJ))
theorem ade{eJ:ByteArray}:(ND A E eJ).f=176:=rfl
theorem aEb{eJ:ByteArray}:bP N 112 [Dz (Ip eJ I)] (.bool true):=by
 have br:=ac9 (aDL A E);have bQ:=ac9 aDK;have a3:=ac9 aDJ;have a4:=aqA A E;have aG:(dI Nl).fn [D 1,D 1]=some (.tuple #[.agg #[.bool false,b6 [1],b6 [1]],D 0]):=jX Nl;have aN:(dI Nm).fn [ai [[.bool false,b6 [1],b6 [1]]] 3]=some (.tuple #[.agg #[.bool false,b6 [1],b6 [1]],D 0]):=jX Nm;have ct:(dI Nj).fn [.agg #[.bool false,ai [[dS 1]] 1,ai [[dS 1]] 1],.agg #[.bool false,ai [[dS 1]] 1,ai [[dS 1]] 1]]=some (.tuple #[D 0,D 0]):=jX Nj;have gC:(ND A E eJ).fn [.agg #[.string eJ,ai [[.bool false,b6 [1],b6 [1]]] 3,ai [[iU [⟨false,[],[1]⟩]]] 1,ai [[.bool false,b6 [1],b6 [I]]] 3]]=some (.bool true):=jX (ag2 A E (eJ:=eJ));simp only[iU,lW,List.map_nil,eL]at br bQ a3;have eH:fO 1 1 4=true:=by decide
 refine dJ (c3 (ay:=⟨[vz,NA,qy A E,dI Nl,dI Nm,dI Nj,ND A E eJ],[]⟩) ay9 (by kernel_rfl) (by simp[Ye]) ?_);simp[Ye,ajv,gE,Ip,eL,br,bQ,eH,T1,ade];refine eS (ay:=⟨[vz,NA,qy A E,dI Nl,dI Nm,dI Nj,ND A E eJ],[]⟩) λbO a1=> ?_;simp[Yg,Yf,eL,a3,a4,T1,ade];refine a1 _ _ (eS (ay:=⟨[vz,NA,qy A E,dI Nl,dI Nm,dI Nj,ND A E eJ],[]⟩) λaR dH=> ?_);simp[Yg];simp[Yf,eL,aG,aN,ct,gC,T1,ade]
omit A E in
theorem aJy{x:lo}(O:x.dz):bP N 112 [Dz x] (.bool x.zh):=by obtain⟨eJ,s,cH,e⟩:=x;obtain⟨I,A,E,rfl,rfl,rfl⟩:=O;exact aEb A E (eJ:=eJ)
theorem UX:bP N 190 [iU [⟨false,[1],[I]⟩],D 1] (.bool true):=by have a:(dI (Ok A E)).fn [.agg #[.bool false,ai [[dS 1]] 1,ai [[dS I]] 1]]=some (.bool true):=jX (Ok A E);refine dJ (c3 (ay:=⟨[dI (Ok A E)],[]⟩) akJ (by kernel_rfl) (by simp[HO]) ?_);simp[HO,Rt,eL];refine eS (ay:=⟨[dI (Ok A E)],[]⟩) λbO a1=> ?_;simp[LS,CA,a,eL];refine a1 _ _ (eS (ay:=⟨[dI (Ok A E)],[]⟩) λbO a1=> ?_);simp[LS,CA,CA]
omit A E in
theorem ae3:bP N 190 [iU [⟨false,[1],[1]⟩],D 1] (.bool true):=acV (l:=[⟨false,[1],[1]⟩]) (n:=1) (λx B=>by simp at B;subst B;unfold cv.dz;decide) (by decide)
omit A E in
theorem asm:bP N 190 [iU [⟨false,[],[1]⟩],D 1] (.bool true):=acV (l:=[⟨false,[],[1]⟩]) (n:=1) (λx B=>by simp at B;subst B;unfold cv.dz;decide) (by decide)
noncomputable def s3:bF N:=uf (dI (UX A E)) (uf (dI ae3) (dI asm) rfl) rfl
theorem Uk:(s3 A E).f=190:=rfl
theorem aHL:(s3 A E).fn [ai [[.bool false,b6 [1],b6 [I]]] 3,D 1]=some (.bool true):=Bd (jX (UX A E))
theorem aHK:(s3 A E).fn [ai [[.bool false,b6 [1],b6 [1]]] 3,D 1]=some (.bool true):=zy (zx (UX A E) λh=>by simp[eL]at h;omega) (Bd (jX ae3))
theorem aHJ:(s3 A E).fn [ai [[.bool false,b6 [],b6 [1]]] 3,D 1]=some (.bool true):=zy (zx (UX A E) λh=>by simp[eL]at h) (zy (zx ae3 λh=>by simp[eL]at h) (jX asm))
noncomputable def ug:bF N:=uf (dI (acU (x:=⟨false,[],[1]⟩) (by unfold cv.dz;decide) rfl)) (dI (asj A E)) rfl
theorem Uj:(ug A E).f=139:=rfl
theorem aHH:(ug A E).fn [.agg #[.bool false,ai [] 1,ai [[dS 1]] 1]]=some (D 0):=Bd (jX (acU (x:=⟨false,[],[1]⟩) (by unfold cv.dz;decide) rfl))
theorem aHI:(ug A E).fn [.agg #[.bool false,ai [[dS 1]] 1,ai [[dS I]] 1]]=some (D 1):=zy (zx _ (aqB A E)) (jX (asj A E))
theorem aD9{eJ:ByteArray}:bP N 137 [Dz (Ip eJ I)] (.bool true):=by have br:=aHL A E;have bQ:=aHK A E;have a3:=aHJ A E;have a4:=aHH A E;have fz:=aHI A E;have aG:(dI ue).fn [D 1]=some (.agg #[.bool false,b6 [1],b6 [1]]):=jX ue;have aN:(dI vt).fn [ai [[.bool false,b6 [1],b6 [1]]] 3]=some (.tuple #[.agg #[.bool false,b6 [1],b6 [1]],D 0]):=jX vt;have ct:(dI vr).fn [.agg #[.bool false,ai [[dS 1]] 1,ai [[dS 1]] 1],.agg #[.bool false,ai [[dS 1]] 1,ai [[dS 1]] 1]]=some (.bool true):=jX vr;refine dJ (c3 (ay:=⟨[s3 A E,ug A E,dI ue,dI vt,dI vr],[]⟩) azg (by kernel_rfl) (by simp[Yx]) ?_);simp[Yx,aj7,br,bQ,Uj,Uk,gE,Ip,eL];refine eS (ay:=⟨[s3 A E,ug A E,dI ue,dI vt,dI vr],[]⟩) λbO a1=> ?_;simp[Yy,a3,a4,Uj,Uk,eL];refine a1 _ _ (eS (ay:=⟨[s3 A E,ug A E,dI ue,dI vt,dI vr],[]⟩) λaR dH=> ?_);simp[Yy,aG,aN,ct,Uj,Uk,eL];refine eS (ay:=⟨[s3 A E,ug A E,dI ue,dI vt,dI vr],[]⟩) λP gr=> ?_;simp[YB];refine eS (ay:=⟨[s3 A E,ug A E,dI ue,dI vt,dI vr],[]⟩) λQ a6=> ?_;simp[YA,fz,Uj,Uk,eL];refine eS (ay:=⟨[s3 A E,ug A E,dI ue,dI vt,dI vr],[]⟩) λR c1=> ?_;simp[Yz];refine c1 _ _ (eS (ay:=⟨[s3 A E,ug A E,dI ue,dI vt,dI vr],[]⟩) λaLi yI=> ?_);simp[Yz];refine a6 _ _ (eS (ay:=⟨[s3 A E,ug A E,dI ue,dI vt,dI vr],[]⟩) λaLh aQg=> ?_);simp[YA];refine gr _ _ (eS (ay:=⟨[s3 A E,ug A E,dI ue,dI vt,dI vr],[]⟩) λaLg aQf=> ?_);simp[YB];refine eS (ay:=⟨[s3 A E,ug A E,dI ue,dI vt,dI vr],[]⟩) λb7 l7=> ?_;simp[YC];refine l7 _ _ (eS (ay:=⟨[s3 A E,ug A E,dI ue,dI vt,dI vr],[]⟩) λaLm ahU=> ?_);simp[YC]
omit A E in
theorem aHm{x:lo}(O:x.dz):bP N 137 [Dz x] (.bool x.zh):=by obtain⟨eJ,s,cH,e⟩:=x;obtain⟨I,A,E,rfl,rfl,rfl⟩:=O;exact aD9 A E (eJ:=eJ)
end
noncomputable def IT:bF N:= .cM 170 cv cv.dz (λx=>[dW x]) (λx=> .bool x.b0.small) λ_ O=>X3 O
@[simp] theorem aVM:IT.f=170:=rfl
@[simp] theorem aVN{n:Bool}{a b:List Int}(h:(cv.mk n a b).dz):IT.fn [.agg #[.bool n,b6 a,b6 b]]=some (.bool (cv.mk n a b).b0.small):=bF.dK (x:=cv.mk n a b) h λy Z=>DA Z
noncomputable def T2:bF N:= .cM 171 cv cv.dz (λx=>[dW x]) (λx=> .bool (decide (0<x.b0.n))) λ_ O=>Ve O
@[simp] theorem aVl:T2.f=171:=rfl
@[simp] theorem aVm{n:Bool}{a b:List Int}(h:(cv.mk n a b).dz):T2.fn [.agg #[.bool n,b6 a,b6 b]]=some (.bool (decide (0<(cv.mk n a b).b0.n))):=bF.dK (x:=cv.mk n a b) h λy Z=>DA Z
end Go.Proofs.YtmmkkggfmigppaaGreat
namespace Go.Big
structure rD where
 a:Int
 b:Int
 c:Int
 d:Int
 e:Int
 deriving DecidableEq
structure GB where
 name:ByteArray
 ext:Int
 apx:Int
 aoa:Int
 deriving DecidableEq
structure hE where
 name:ByteArray
 jR:Int
 parent:Int
 iC:Int
 pB:cv
 deriving DecidableEq
structure o5 where
 name:ByteArray
 model:Int
 y8:Int
 deriving DecidableEq
structure h3 where
 name:ByteArray
 k:Int
 m:Int
 q:Int
 ay:rD
 cx:List Int
 py:List cv
 qB:cv
 ni:cv
 deriving DecidableEq
structure tj where
 name:ByteArray
 qt:Int
 deriving DecidableEq
structure aL where
 ext:Int
 e7:List lo
 cx:List GB
 aO:List hE
 aZ:List o5
 dv:List h3
 a2:List tj
 deriving DecidableEq
end Go.Big
namespace Go.Proofs.YtmmkkggfmigppaaGreat
open Go Go.DI Go.Big
abbrev gL(s:ByteArray):Value:= .string s
abbrev Eb(l:List ByteArray):Value:=ai (l.map λs=>[gL s]) 1
abbrev bq(l:List Int):Value:=ai (l.map λs=>[D s]) 1
def gN(x:GB):List Value:=[gL x.name,D x.ext,D x.apx,D x.aoa]
def e6(x:hE):List Value:=[gL x.name,D x.jR,D x.parent,D x.iC,.bool x.pB.kx,b6 x.pB.a,b6 x.pB.b]
def fH(x:o5):List Value:=[gL x.name,D x.model,D x.y8]
def dU(x:h3):List Value:=[gL x.name,D x.k,D x.m,D x.q,D x.ay.a,D x.ay.b,D x.ay.c,D x.ay.d,D x.ay.e,bq x.cx,iU x.py,.bool x.qB.kx,b6 x.qB.a,b6 x.qB.b,.bool x.ni.kx,b6 x.ni.a,b6 x.ni.b]
def gD(x:tj):List Value:=[gL x.name,D x.qt]
def aI(x:aL):List Value:=[D x.ext,ai (x.e7.map gE) 4,ai (x.cx.map gN) 4,ai (x.aO.map e6) 7,ai (x.aZ.map fH) 3,ai (x.dv.map dU) 17,ai (x.a2.map gD) 2]
@[simp] theorem aYX{l c7:List ByteArray}:(l.map λs=>[gL s])=(c7.map λs=>[gL s])↔l=c7:=CR λx y h=>by simpa using h
@[simp] theorem anQ{l c7:List Int}:(l.map λs=>[D s])=(c7.map λs=>[D s])↔l=c7:=CR λx y h=>by simpa using h
end Go.Proofs.YtmmkkggfmigppaaGreat
namespace Go.Big
def qp(x:e4):Bool:=x.ok&&decide (r1 x .mK<=0)
def rj(x:cv):Bool:=x.b0.small&&decide (0<x.b0.n)
def sY(m:Int)(r:List cv)(t h:cv):Bool:=decide ((r.length:Int)=if 1>m then 1 else m)&&(r.all rj&&(t.b0.small&&(qp t.b0&&h.b0.small)))
end Go.Big
namespace Go.Proofs.YtmmkkggfmigppaaGreat
open Go Go.DI Go.Big
theorem aDi{x:cv}(O:x.dz):bP N 230 [dW x] (.bool (qp x.b0)):=aDj O
theorem aFV{x:cv}(O:x.dz):bP N 229 [dW x] (.bool (rj x)):=by refine dJ (c3 (ay:=⟨[IT,T2],[]⟩) az4 (by kernel_rfl) (by simp[YX]) ?_);cases h:x.b0.small<;>simp(disch:=first|omega|simp only[bS];omega) [YX,alg,eL,h,rj]
noncomputable def adj:bF N:= .cM 230 cv cv.dz (λx=>[dW x]) (λx=> .bool (qp x.b0)) λ_ O=>aDi O
@[simp] theorem aVU:adj.f=230:=rfl
@[simp] theorem aVV{n:Bool}{a b:List Int}(h:(cv.mk n a b).dz):adj.fn [.agg #[.bool n,b6 a,b6 b]]=some (.bool (qp (cv.mk n a b).b0)):=bF.dK (x:=cv.mk n a b) h λy Z=>DA Z
noncomputable def ady:bF N:= .cM 172 (List cv) (λl=>(∀x∈l,x.dz)/\l.length<1000000) (λl=>[iU l,.func (.func 229) #[] #[]]) (λl=> .bool (l.all rj)) λ_ h=>afE h.2 λx B=>aFV (h.1 x B)
@[simp] theorem aXb:ady.f=172:=rfl
@[simp] theorem aXc{l:List cv}(h:(∀x∈l,x.dz)/\l.length<1000000):ady.fn [ai (l.map eL) 3,.func (.func 229) #[] #[]]=some (.bool (l.all rj)):=bF.dK (x:=l) h λy Z=>by simpa using Z
theorem aFW{m:Int}{r:List cv}{t h:cv}(ar:(∀x∈r,x.dz)/\r.length<1000000)(a8:t.dz)(bV:h.dz):bP N 178 [D m,iU r,dW t,dW h] (.bool (sY m r t h)):=by
 refine dJ (c3 (ay:=⟨[ady,IT,adj],[]⟩) azx (by kernel_rfl) (by simp[HJ]) ?_);by_cases A:(r.length:Int)=if 1>m then 1 else m
 ·cases E:r.all rj
  ·simp(disch:=omega) [HJ,LJ,eL,A,E,sY]
  ·cases ao:t.b0.small
   ·simp(disch:=first|omega|simp only[bS];omega) [HJ,LJ,eL,A,E,ao,sY]
   ·cases aS:qp t.b0<;>simp(disch:=first|omega|simp only[bS];omega) [HJ,LJ,eL,A,E,ao,aS,sY]
 ·simp[HJ,LJ,eL,A,sY]
end Go.Proofs.YtmmkkggfmigppaaGreat
namespace Go.Big
def mI(k m q:Int)(s:rD):Bool:=fO k 1 6&&(fO m 0 4&&(decide (k+m<=8)&&(fO q k (k+m)&&(decide (s.a=0)&&(fO s.a 0 8&&(fO s.b 0 8&&(fO s.c 0 8&&(fO s.d 0 8&&fO s.e 0 8))))))))
end Go.Big
namespace Go.Proofs.YtmmkkggfmigppaaGreat
open Go Go.DI Go.Big
theorem ayL{x:Int}:bP N 228 [D x] (.bool (fO x 0 8)):=by refine dJ (c3 (ay:=⟨[vz],[]⟩) az3 (by kernel_rfl) (by simp[YW]) ?_);simp[YW,alf]
noncomputable def adg:bF N:= .cM 228 (Int) (λx=>True) (λx=>[D x]) (λx=> .bool (fO x 0 8)) (λx h=>ayL)
@[simp] theorem aVK:adg.f=228:=rfl
@[simp] theorem aVL{x:Int}:adg.fn ([D x])=some (.bool (fO x 0 8)):=bF.dK (x:=x) trivial λy Z=>by simpa using Z
theorem afF{l:List Int}(aj:l.length<1000000):bP N 227 [bq l,.func (.func 228) #[] #[]] (.bool (l.all λx=>fO x 0 8)):=by
 refine dJ (c3 (ay:=⟨[],[]⟩) az2 (by kernel_rfl) (by simp[YV]) ?_);simp[YV,ale];refine gP (ay:=⟨[adg],[]⟩) (λi z t=>((l.take i).all λx=>fO x 0 8)=true/\z 1= .func (.func 228) #[] #[]/\z 7=bq l/\z 8=D l.length/\z 9=D i) l.length ?_ ?_ 0 _ _ (gd _) ⟨by simp,by simp,by simp,by simp,by simp⟩
 ·rintro i z t Y ⟨ag,aT,cf,bm,cz⟩ bO a1;have B:l[i]?=some l[i]:=c6 Y;have al:l[i]∈l:=kp Y;have bp:=fB (n:=i) (by omega);have bA:(i:Int)<l.length:=(by omega);cases hb:fO l[i] 0 8
  ·simp(disch:=first|omega|simp only[bS];omega) [RK,L0,aT,cf,bm,cz,bA,hb];exact⟨_,al,hb⟩
  ·simp(disch:=first|omega|simp only[bS];omega) [RK,L0,aT,cf,bm,cz,bA,bp,hb,-ab,-ah,-aa,-ad,-List.map_map];exact a1 _ _ ⟨by rw[Gh B,Gt,ag];simp[hb],by simp[aT],by simp[cf],by simp[bm],by simp⟩
 ·rintro z t ⟨ag,aT,cf,bm,cz⟩;rw[mQ]at ag;simp[RK,L0,bm,cz,L0];simpa using ag
noncomputable def ac8:bF N:= .cM 227 (List Int) (λl=>l.length<1000000) (λl=>[bq l,.func (.func 228) #[] #[]]) (λl=> .bool (l.all λx=>fO x 0 8)) λ_ h=>afF h
@[simp] theorem aVn:ac8.f=227:=rfl
@[simp] theorem aVo{a b c d e:Int}:ac8.fn [ai [[D a],[D b],[D c],[D d],[D e]] 1,.func (.func 228) #[] #[]]=some (.bool (fO a 0 8&&(fO b 0 8&&(fO c 0 8&&(fO d 0 8&&fO e 0 8))))):=by
  have:=bF.dK (ok:= λ_ h=>afF h) (x:=[a,b,c,d,e]) (cI:= λl=>l.length<1000000) (enc:= λl=>[bq l,.func (.func 228) #[] #[]]) (by simp) λy Z=>anQ.1 (aje.1 (List.cons.inj Z).1).1;have e:[a,b,c,d,e].all (λx=>fO x 0 8)=(fO a 0 8&&(fO b 0 8&&(fO c 0 8&&(fO d 0 8&&fO e 0 8)))):=by simp
  rw[<-e];exact this
theorem aEG{k m q:Int}{s:rD}:bP N 177 [D k,D m,D q,.agg #[D s.a,D s.b,D s.c,D s.d,D s.e]] (.bool (mI k m q s)):=by
 refine dJ (c3 (ay:=⟨[vz,ac8],[]⟩) azw (by kernel_rfl) (by simp[Cy]) ?_);have axF:5<=maxLen:=by unfold maxLen;omega
 cases A:fO k 1 6
 ·simp[Cy,EX,A,mI]
 ·cases E:fO m 0 4
  ·simp[Cy,EX,A,E,mI]
  ·have bp:IntKind.i64.wrap (k+m)=k+m:=(by simp[fO]at A E;exact db (by omega) (by omega));by_cases ao:k+m<=8
   ·have uT: ¬(8<k+m):=(by omega);cases aS:fO q k (k+m)
    ·simp[Cy,EX,A,E,ao,uT,aS,bp,mI]
    ·by_cases bI:s.a=0
     ·simp[Cy,EX,A,E,ao,uT,aS,bI,bp,axF,B2,zs,mI]
     ·simp[Cy,EX,A,E,ao,uT,aS,bI,bp,mI]
   ·have uT:8<k+m:=(by omega);simp[Cy,EX,A,E,ao,uT,bp,mI]
end Go.Proofs.YtmmkkggfmigppaaGreat
namespace Go.DI
open Go
section
variable {P:Program}
open Classical in
noncomputable def jg.cM(f:Nat)(af:Type)(enc:af->List Value)(u:af->G->Option (Value×G))(ok: ∀x t r X,u x t=some (r,X)-> ∀bu:Value->G->Prop,bu r X->fg P f (enc x) t bu):jg P:=
 ⟨f,λargs t=>if h: ∃x,enc x=args then u h.choose t else none,λargs t r X h=>by
  split at h
  ·next B=>have:=ok _ t r X h;rw[B.choose_spec]at this;exact this
  ·cases h⟩
theorem jg.dK{f:Nat}{af:Type}{enc:af->List Value}{u:af->G->Option (Value×G)}{ok: ∀x t r X,u x t=some (r,X)-> ∀bu:Value->G->Prop,bu r X->fg P f (enc x) t bu}{x:af}{t:G}(Y: ∀y,enc y=enc x->y=x):(jg.cM f af enc u ok).fn (enc x) t=u x t:=by have hX: ∃y,enc y=enc x:=⟨x,rfl⟩;simp only[jg.cM,dif_pos hX];rw[Y _ hX.choose_spec]
end
end Go.DI
namespace Go.Proofs.YtmmkkggfmigppaaGreat
open Go Go.DI Go.Big
noncomputable def adl:bF N:= .cM 179 (ByteArray) (λT=>True) (λT=>[.string T]) (λT=> .bool (rY T)) (λT h=>aEf)
@[simp] theorem aV3:adl.f=179:=rfl
@[simp] theorem aV4{T:ByteArray}:adl.fn ([.string T])=some (.bool (rY T)):=bF.dK (x:=T) trivial λy Z=>by simpa using Z
noncomputable def adF:bF N:= .cM 112 lo lo.dz (λx=>[Dz x]) (λx=> .bool x.zh) λ_ h=>aJy h
@[simp] theorem aXr:adF.f=112:=rfl
theorem arJ{x:lo}{n:ByteArray}{s e:List cv}{cH:List (List cv)}(h:[Dz x]=[.agg #[gL n,iU s,ag0 cH,iU e]]):x=⟨n,s,cH,e⟩:=by obtain⟨g0,ev,cB,nF⟩:=x;simpa[gE]using h
@[simp] theorem aXs{n:ByteArray}{s e:List cv}{cH:List (List cv)}(h:(lo.mk n s cH e).dz):adF.fn [.agg #[gL n,ai (s.map eL) 3,ai (cH.map λr=>[iU r]) 1,ai (e.map eL) 3]]=some (.bool (lo.mk n s cH e).zh):=bF.dK (x:=lo.mk n s cH e) h λy Z=>arJ Z
end Go.Proofs.YtmmkkggfmigppaaGreat
namespace Go.Big
def rD.at(s:rD)(i:Int):Int:=if i=0 then s.a else if i=1 then s.b else if i=2 then s.c else if i=3 then s.d else s.e
end Go.Big
namespace Go.Proofs.YtmmkkggfmigppaaGreat
open Go Go.DI Go.Big
noncomputable def adm:bF N:= .cM 177 (Int×Int×Int×rD) (λ_=>True) (λp=>[D p.1,D p.2.1,D p.2.2.1,.agg #[D p.2.2.2.a,D p.2.2.2.b,D p.2.2.2.c,D p.2.2.2.d,D p.2.2.2.e]]) (λp=> .bool (mI p.1 p.2.1 p.2.2.1 p.2.2.2)) λ_ _=>aEG
@[simp] theorem aV7:adm.f=177:=rfl
@[simp] theorem aV8{k m q a b c d e:Int}:adm.fn [D k,D m,D q,.agg #[D a,D b,D c,D d,D e]]=some (.bool (mI k m q ⟨a,b,c,d,e⟩)):=bF.dK (x:=(k,m,q,(⟨a,b,c,d,e⟩:rD))) trivial λy Z=>by obtain⟨h2,kP,sh,wX,Oh,Ji,DB,UU⟩:=y;simp at Z;obtain⟨A,E,ao,aS,bI,cZ,eg,hf⟩:=Z;simp[A,E,ao,aS,bI,cZ,eg,hf]
noncomputable def adz:bF N:= .cM 178 (Int×List cv×cv×cv) (λp=>((∀x∈p.2.1,x.dz)/\p.2.1.length<1000000)/\p.2.2.1.dz/\p.2.2.2.dz) (λp=>[D p.1,iU p.2.1,dW p.2.2.1,dW p.2.2.2]) (λp=> .bool (sY p.1 p.2.1 p.2.2.1 p.2.2.2)) λ_ h=>aFW h.1 h.2.1 h.2.2
@[simp] theorem aW9:adz.f=178:=rfl
@[simp] theorem aXa{m:Int}{r:List cv}{n g0:Bool}{a b ev cB:List Int}(h:((∀x∈r,x.dz)/\r.length<1000000)/\(cv.mk n a b).dz/\(cv.mk g0 ev cB).dz):adz.fn [D m,ai (r.map eL) 3,.agg #[.bool n,b6 a,b6 b],.agg #[.bool g0,b6 ev,b6 cB]]=some (.bool (sY m r ⟨n,a,b⟩ ⟨g0,ev,cB⟩)):=bF.dK (x:=(m,r,(⟨n,a,b⟩:cv),(⟨g0,ev,cB⟩:cv))) h λy Z=>by obtain⟨h2,kP,⟨sh,wX,Oh⟩,⟨Ji,DB,UU⟩⟩:=y;simp[eL]at Z;obtain⟨A,E,⟨ao,aS,bI⟩,cZ,eg,hf⟩:=Z;simp[A,E,ao,aS,bI,cZ,eg,hf]
def ph(s:ByteArray):List ByteArray->Option Nat
 |[]=>none
 |x::l=>if s=x then some 0 else(ph s l).map (· +1)
theorem aJU{a b c:Int}:bP N 134 [D a,D b,D c] (.bool (fO a b c)):=by
 refine dJ (c3 (ay:=⟨[],[]⟩) azc (by kernel_rfl) (by simp[Ra]) ?_);by_cases h:b<=a
 ·have cw:a>=b:=h;simp[Ra,Yw,h,fO]
 ·have cw: ¬a>=b:=h;simp[Ra,Yw,h,fO]
noncomputable def wL:bF N:= .cM 134 (Int×Int×Int) (λ⟨a,b,c⟩=>True) (λ⟨a,b,c⟩=>[D a,D b,D c]) (λ⟨a,b,c⟩=> .bool (fO a b c)) (λ⟨a,b,c⟩ h=>aJU)
@[simp] theorem aXw:wL.f=134:=rfl
@[simp] theorem aXx{a:Int}{b:Int}{c:Int}:wL.fn ([D a,D b,D c])=some (.bool (fO a b c)):=bF.dK (x:=(a,b,c)) trivial λy Z=>by obtain⟨j6,h2,kP⟩:=y;simpa using Z
def wN(a b c d e f:Int):Bool:=decide (a<=4)&&(decide (b<=4)&&(decide (c<=40)&&(decide (d<=24)&&(decide (e<=4)&&decide (f<=12)))))
theorem aGQ{a b c d e f:Int}:bP N 135 [D a,D b,D c,D d,D e,D f] (.bool (wN a b c d e f)):=by
 refine dJ (c3 (ay:=⟨[],[]⟩) azd (by kernel_rfl) (by simp[Cw]) ?_);by_cases A:a<=4
 ·by_cases E:b<=4
  ·by_cases ao:c<=40
   ·by_cases aS:d<=24
    ·by_cases bI:e<=4
     ·simp[Cw,EU,A,E,ao,aS,bI,wN]
     ·simp[Cw,EU,A,E,ao,aS,bI,wN]
    ·simp[Cw,EU,A,E,ao,aS,wN]
   ·simp[Cw,EU,A,E,ao,wN]
  ·simp[Cw,EU,A,E,wN]
 ·simp[Cw,EU,A,wN]
noncomputable def NL:bF N:= .cM 135 (Int×Int×Int×Int×Int×Int) (λ⟨a,b,c,d,e,f⟩=>True) (λ⟨a,b,c,d,e,f⟩=>[D a,D b,D c,D d,D e,D f]) (λ⟨a,b,c,d,e,f⟩=> .bool (wN a b c d e f)) (λ⟨a,b,c,d,e,f⟩ h=>aGQ)
@[simp] theorem aWP:NL.f=135:=rfl
@[simp] theorem aWQ{a:Int}{b:Int}{c:Int}{d:Int}{e:Int}{f:Int}:NL.fn ([D a,D b,D c,D d,D e,D f])=some (.bool (wN a b c d e f)):=bF.dK (x:=(a,b,c,d,e,f)) trivial λy Z=>by obtain⟨j6,h2,kP,sh,wX,Oh⟩:=y;simpa using Z
def Cu(s:ByteArray)(l:List ByteArray):Int:=match ph s l with
 |none=> -1
 |some i=>i
theorem XZ{s:ByteArray}{l:List ByteArray}: ∀{i:Nat},(∀j (h:j<l.length),j<i->l[j]≠s)->i<=l.length->ph s l=(ph s (l.drop i)).map (· +i)
 |0,_,_=>by simp
 | i+1,h,Y=>by rw[XZ (i:=i) (λj aV W0=>h j aV (by omega)) (by omega)];have B:l.drop i=l[i]::l.drop (i+1):=pG (by omega);have bx: ¬s=l[i]:= λe=>h i (by omega) (by omega) e.symm;rw[B];simp only[ph,if_neg bx,Option.map_map];congr 1;funext k;simp only[Function.comp_apply];omega
theorem aji{l:List ByteArray}{s:ByteArray}(aj:l.length<1000000):bP N 189 [Eb l,gL s] (D (Cu s l)):=by
 refine dJ (c3 (ay:=⟨[],[]⟩) azE (by kernel_rfl) (by simp[YL]) ?_);simp[YL,akH];refine gP (ay:=⟨[],[]⟩) (λi z t=>(∀j (h:j<l.length),j<i->l[j]≠s)/\z 0=Eb l/\z 1=gL s/\z 5=D i) l.length ?_ ?_ 0 _ _ (gd _) ⟨by simp,by simp,by simp,by simp⟩
 ·rintro i z t Y ⟨ag,bG,aT,bD⟩ bO a1;have B:l[i]?=some l[i]:=c6 Y;have bp:=fB (n:=i) (by omega);have bA:(i:Int)<l.length:=(by omega);by_cases hb:l[i]=s
  ·have e:Cu s l=i:=by
    unfold Cu;rw[XZ ag (by omega),pG Y];simp[ph,hb]
   simp(disch:=omega) [Rs,LQ,bG,aT,bD,bA,hb,e]
  ·simp(disch:=first|omega|simp only[bS];omega) [Rs,LQ,bG,aT,bD,bA,bp,hb,-ab,-ah,-aa,-ad,-List.map_map];exact a1 _ _ ⟨λj aV W0=>by
    by_cases e:j=i
    ·subst e;exact hb
    ·exact ag j aV (by omega),by simp[bG],by simp[aT],by simp⟩
 ·rintro z t ⟨ag,bG,aT,bD⟩;have e:Cu s l= -1:=by
   unfold Cu;rw[XZ ag (c8 _),Jk];rfl
  simp[Rs,LQ,bG,bD,LQ,e]
noncomputable def Ug:bF N:= .cM 140 cv cv.dz (λx=>[dW x]) (λx=> .bool x.b0.small) λ_ O=>aql O
@[simp] theorem aWS:Ug.f=140:=rfl
@[simp] theorem aWT{n:Bool}{a b:List Int}(h:(cv.mk n a b).dz):Ug.fn [.agg #[.bool n,b6 a,b6 b]]=some (.bool (cv.mk n a b).b0.small):=bF.dK (x:=cv.mk n a b) h λy Z=>DA Z
noncomputable def F3:bF N:= .cM 139 cv (λx=>x.dz/\x.b0.ok=true) (λx=>[dW x]) (λx=>D (r1 x.b0 .nil)) λ_ O=>acU O.1 O.2
@[simp] theorem aWN:F3.f=139:=rfl
@[simp] theorem aWO{n:Bool}{a b:List Int}(h:(cv.mk n a b).dz/\(cv.mk n a b).b0.ok=true):F3.fn [.agg #[.bool n,b6 a,b6 b]]=some (D (r1 (cv.mk n a b).b0 .nil)):=bF.dK (x:=cv.mk n a b) h λy Z=>DA Z
noncomputable def NN:bF N:= .cM 138 cv cv.dz (λx=>[dW x]) (λx=> .bool x.b0.ok) λ_ O=>aHk O
@[simp] theorem aW2:NN.f=138:=rfl
@[simp] theorem aW3{n:Bool}{a b:List Int}(h:(cv.mk n a b).dz):NN.fn [.agg #[.bool n,b6 a,b6 b]]=some (.bool (cv.mk n a b).b0.ok):=bF.dK (x:=cv.mk n a b) h λy Z=>DA Z
theorem apj{x:e4}(bX:0<=x.n):(r1 x .nil=0)=(x.n=0):=by
 have e:x.n*e4.nil.d=x.n:=by show x.n*1=x.n;omega
 have aN:e4.nil.n*x.d=0:=by show 0*x.d=0;omega
 unfold r1;rw[e,aN];apply propext;split
 ·omega
 ·split<;>omega
theorem aEU{x:e4}(bX:0<=x.n):(r1 x .nil=0)= ¬(0<x.n):=by rw[apj bX];apply propext;omega
end Go.Proofs.YtmmkkggfmigppaaGreat
