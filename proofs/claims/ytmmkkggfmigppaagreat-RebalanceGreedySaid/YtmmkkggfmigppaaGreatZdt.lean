/- A part of the proof. -/
import Derived.Test.YtmmkkggfmigppaaGreatZds
set_option linter.all false
set_option maxRecDepth 20000
set_option maxHeartbeats 16000000
noncomputable section
namespace Go.Proofs.YtmmkkggfmigppaaGreat
open Go Go.DI Go.Big
def OC(aH:Int)(R:List Int):Prop:= ∀y∈R,0<=y/\y<=aH
variable{R l:List Int}{aH y bm:Int}{n i f o:Nat}{u:AL}{t:X}{L:List (List Int)}{args cs A:List Value}{r:Value}
theorem OC.set(h:OC aH R){k:Nat}(a:0<=y/\y<=aH):OC aH (R.set k y):= λx b=>by
 rcases Ml b with q|q
 ·exact h x q
 ·rw[q];exact a
theorem a7s(A5:l.length<=140737488355328)(A7:n<=1000)(A8:0<=aH/\aH<=900000): ∀(r k:Nat) (R:List Int) (i:Nat),k+r=n->R.length=n->OC aH R->i+2*r+10<1000000->
 ∃ (h:List Int) (eo:Nat),h.length=n/\OC aH h/\eo<=i+2*r/\ ∀(m:A2) (t:X) (Q:BM->A2->X->Prop) (a:Nat),m 0=AG 0->m 5=AM a n 1->m 6=Z k->
   t.Y 0=some ⟨[AK l,Z i],true⟩->t.Y a=some ⟨R.map Z,true⟩->a≠0->
   (∀K aA,K 5=AM a n 1->aA.Y 0=some ⟨[AK l,Z eo],true⟩->aA.Y a=some ⟨h.map Z,true⟩->Q (.Ao 0) K aA)->Bc V (.loop Sk) m t Q:=by
 intro r;induction r with
 | zero=>intro k R i U o s W;refine⟨R,i,o,s,by omega,λm t Q a j b p d f g q=> ?_⟩;refine Ba (aC:=⟨[],[Ei]⟩) λC u=> ?_;have c: ¬(k:Int)<n:=(by omega);simp[Sk,b,p,c];exact q _ _ (by simp[b]) d f
 | succ r G=>
   intro k R i U o s W;have L:k<R.length:=(by omega);obtain⟨x,A0⟩:=Cb L;have M:=(Ae.1 A0).2;have A9:=s x (by rw[<-M];exact Dq L);have c:(k:Int)<n:=(by omega);have J:=BZ (n:=k) (by omega);have A1:IntKind.i64.wrap (x+1)=x+1:=Ac (by omega) (by omega);have A3:((i:Int)+1).toNat=i+1:=(by omega);have A4:((R.map Z).drop k).take 1=[Z x]:=by rw[Ht (by simp;omega)];simp[M]
   by_cases N:C2 l i 9=0
   ·obtain⟨h,eo,v,w,O,y⟩:=G (k+1) (R.set k 0) (i+1) (by omega) (by simp[o]) (s.set (by omega)) (by omega);refine⟨h,eo,v,w,by omega,λm t Q a j b p d f g q=> ?_⟩;refine Ba (aC:=⟨[],[Ei]⟩) λC u=> ?_;have P:=E d;have S:=E f;have z: ¬0=a:= λe=>g e.symm;have A:(R.map Z).length=n:=(by simp[o]);simp(disch:=first|omega|simp only[DI.AB];omega)[Sk,j,b,p,d,f,c,N,J,G0,A];refine⟨by omega,u _ _ (y _ _ Q a (by simp[j]) (by simp[b]) (by simp) ?_ ?_ g q)⟩
    ·rw[A6 z,AR (by omega)];simp
    ·rw[AR (by simp;omega),Nx]
   ·by_cases T:C2 l i 9=1
    ·have AA:=FU (l:=l) (i:=i+1) (n:=x+1) (by omega);obtain⟨h,eo,v,w,O,y⟩:=G (k+1) (R.set k (C2 l (i+1) (x+1))) (i+2) (by omega) (by simp[o]) (s.set (by omega)) (by omega);refine⟨h,eo,v,w,by omega,λm t Q a j b p d f g q=> ?_⟩;refine Ba (aC:=⟨[],[Ei]⟩) λC u=> ?_;have P:=E d;have S:=E f;have z: ¬0=a:= λe=>g e.symm;have A:(R.map Z).length=n:=(by simp[o]);simp(disch:=first|omega|simp only[DI.AB];omega)[Sk,j,b,p,d,f,c,T,J,A1,A3,G0,A,A4];refine⟨by omega,u _ _ (y _ _ Q a (by simp[j]) (by simp[b]) (by simp) ?_ ?_ g q)⟩
     ·rw[A6 z,AR (by omega)];simp;omega
     ·rw[AR (by simp;omega),Nx]
    ·obtain⟨h,eo,v,w,O,y⟩:=G (k+1) R (i+1) (by omega) o s (by omega);refine⟨h,eo,v,w,by omega,λm t Q a j b p d f g q=> ?_⟩;refine Ba (aC:=⟨[],[Ei]⟩) λC u=> ?_;have P:=E d;have S:=E f;have z: ¬0=a:= λe=>g e.symm;have A:(R.map Z).length=n:=(by simp[o]);simp(disch:=first|omega|simp only[DI.AB];omega)[Sk,j,b,p,d,c,N,T,J,G0,-H,-D,-I,-F,-List.map_map];refine u _ _ (y _ _ Q a (by simp[j]) (by simp[b]) (by simp) ?_ ?_ g q)
     ·rw[AR (by omega)];simp
     ·rw[A6 g];exact f
theorem aD2(h:B4 u)(W:1<=u.A4.length):Bh V 52 [.agg (A7 u).toArray,.slice none 0 0] Cl λv A=> ∃o,v=AM o u.A4.length 1/\A.Y o=some ⟨(Ck u []).map Z,true⟩:=by
 refine Ax (aC:=⟨[P3 u h.Cu],[]⟩) Sx.2 ?_;have X:=h.ok.Nz;have A0:=h.ok.Es;simp(disch:=first|omega|simp only[DI.AB];omega)[Sx,l5,A7,-H,-D,-I,-F,-List.map_map];refine SP (d:=5) (z:=1) (by simp) ?_;refine Cc (aC:=⟨[P3 u h.Cu],[]⟩) (λi a t=>t.Y 0=some ⟨A7 u,true⟩/\(∃o,o≠0/\a 5=AM o i 1/\t.Y o=some ⟨D4 i (λj=>Z (CN u [] j)),true⟩)/\a 1= .slice none 0 0/\a 2=AG 0/\a 6=Z i) u.A4.length ?_ ?_ 0 _ _ (C8 _) ⟨by simp(disch:=first|omega|simp only[DI.AB];omega)[A7,-H,-D,-I,-F,-List.map_map],⟨2,by decide,by simp,by simp(disch:=first|omega|simp only[DI.AB];omega)[D4,-H,-D,-I,-F,-List.map_map]⟩,by simp,by simp,by simp⟩
 ·rintro i a t r ⟨b,⟨o,C,g,c⟩,k,f,l⟩ A1 G;obtain⟨x,p⟩:=Cb r;have J:=(Ae.1 p).2;obtain⟨K,A2,a3,a4,A3⟩:=h.ok.LG i x p;obtain⟨m,s⟩:=Dp K;have L:m<u.Af.length:=(by omega);obtain⟨y,q⟩:=Cb L;have M:=(Ae.1 q).2;have N:KB u i=y.ext:=(by simp only[KB,p,s,Dx,q]);have hb:=h.ok.ZY m y q;have O:(i:Int)<u.A4.length:=(by omega);have P:(m:Int)<u.Af.length:=(by omega);have A5:i+1<=u.A4.length:=r;have Q:=BZ (n:=i) (by omega);have R:=E b;have A6:=E c;have S:(i+1)*8<=140737488355328/\i<=9223372036854775806:=(by omega);have T: ¬(0:Int)=u.A4.length:=(by omega);have w: ¬u.A4.length=0:=(by omega);have A8: ¬0=u.A4.length:=(by omega);have A9: ¬u.A4=[]:= λe=>by rw[e]at w;exact w rfl
  have U:CN u [] i=y.ext:=(by unfold CN;rw[if_neg (by simp;omega),N]);simp(disch:=first|omega|simp only[DI.AB];omega)[TE,A7,Bx,CX,k,f,g,l,b,c,O,P,Q,J,s,M,T,S,-H,-D,-I,-F,-List.map_map];refine G _ _ ⟨by simp(disch:=first|omega|simp only[DI.AB];omega)[b,A7,-H,-D,-I,-F,-List.map_map],⟨t.ac+3,by omega,by simp,?_⟩,by simp[k],by simp[f],by simp⟩;rw[AR (by simp),DP (by simp),cA,U]
 ·rintro a t ⟨b,⟨o,C,g,c⟩,k,f,l⟩;have R:=E b;simp[TE,A7,b,f,g,l];rw[c,MZ,OX]
def kW(u:AL)(h:B4 u)(b:1<=u.A4.length):Cp V:= .QH 52 Unit (λ_=>True) (λ_=>[.agg (A7 u).toArray,.slice none 0 0]) (λ_=>u.A4.length) (λ_=>1) (λ_=>(Ck u []).map Z) λ_ _=>UF (λv a=>by simp at a;rcases a with rfl|rfl<;>rfl) RG (aD2 h b)
@[simp] theorem aIN{h:B4 u}{a:1<=u.A4.length}:(kW u h a).f=52:=rfl
@[simp] theorem aHJ{h:B4 u}{a:1<=u.A4.length}:(kW u h a).fn [.agg #[Z u.ext,O (u.Bu.map CS) 4,O (u.Af.map CX) 4,O (u.A5.map Bq) 7,O (u.A4.map Bx) 3,O (u.B7.map BE) 17,O (u.A3.map CW) 2],.slice none 0 0] t=some (.slice (some ⟨t.ac,0,none⟩) u.A4.length 1,(t.AE 1).A1 t.ac (some ⟨(Ck u []).map Z,true⟩)):=Cp.Tc (x:=()) trivial λy b=>rfl
theorem aDC(h:B4 u):OC 16 (Ck u []):= λy a=>by
 unfold Ck at a;obtain⟨d,c,rfl⟩:=CG.1 a;have e:d<u.A4.length:=G3.1 c;have f: ¬([]:List Int).length=u.A4.length:=by simp;omega
 simp only[if_neg f];obtain⟨x,b⟩:=Cb e;obtain⟨g,k,a3,a4,l⟩:=h.ok.LG d x b;obtain⟨m,i⟩:=Dp g;have j:m<u.Af.length:=by omega
 obtain⟨y,a⟩:=Cb j;have n:KB u d=y.ext:=by simp only[KB,b,i,Dx,a]
 have hb:=h.ok.ZY m y a;omega
theorem a2z:(Ck u []).length=u.A4.length:=by unfold Ck;simp
theorem a2E(c:l.length<=140737488355328)(p:i<600000)(h:B4 u)(d:1<=u.A4.length): ∃R eo,R.length=u.A4.length/\OC 16 R/\eo<=i+2*u.A4.length/\Bh V 61 [AG 0,.agg (A7 u).toArray] (H8 l i) λv aA=>DI.B3 9 aA v=some (AK R)/\aA.Y 0=some ⟨[AK l,Z eo],true⟩/\0∉DI.BL 9 aA v:=by
 have q:=h.ok.Es;obtain⟨R,eo,b,f,g,j⟩:=a7s (l:=l) c (n:=u.A4.length) (by omega) (aH:=16) (by omega) u.A4.length 0 (Ck u []) i (by omega) a2z (aDC h) (by omega);refine⟨R,eo,b,f,g,?_⟩;refine Ax (aC:=⟨[],[Ei,kW u h d]⟩) an.2 ?_;simp[an,xe,H8,A7];refine j _ _ _ 3 (by simp) (by simp) (by simp) ?_ ?_ (by decide) λs k m o a=> ?_
 ·rw[A6 (by decide),Ab (by simp[Cl]),A6 (by decide),Ab (by simp[Cl]),AR (by simp[Cl])]
 ·exact AR (by simp[Cl])
 simp[m];have e:(R.map Z)=(R.map λx=>[Z x]).flatten:=Jd.symm;rw[e]at a;refine⟨?_,o,ZX a K7 (by decide)⟩;have:=Kn (n:=8) (t:=k) (l:=u.A4.length) a (by simp[b]) K7;exact this
theorem aAC(h:B4 u)(i:L.length=u.A3.length)(c:Lm u L):CP L:=by
 have j:=h.ok.EF;refine⟨by omega,λr d=> ?_⟩;obtain⟨w,f,e⟩:=E5 d;have g:L[w]?=some r:=by rw[AP f,e]
 have a:=(c w r g).1;have b:=L3 h.ok (v:=w) (by omega);omega
theorem a4C(d:L.length=u.A3.length)(e:Lm u L):Cs u L=true:=by unfold Cs;rw[AF,BR];refine⟨decide_eq_true d,λw f=> ?_⟩;have g:=G3.1 f;obtain⟨r,c⟩:=Cb g;obtain⟨a,b⟩:=e w r c;simp only[c];unfold GQ;rw[AF,BR];refine⟨decide_eq_true a,λy h=> ?_⟩;have:=b y h;rw[AF];exact⟨decide_eq_true this.1,decide_eq_true this.2⟩
open Classical in
def R8(f:Nat)(args cs A:List Value)(r:Value)(ok: ∀(t:X) (o:Nat),t.Y o=some ⟨cs,true⟩->Bh V f (.pointer (some ⟨o,0,none⟩)::args) t λv aA=>v=r/\aA=t.A1 o (some ⟨A,true⟩)):Cp V:=
 ⟨f,λc t=>if h: ∃o,Value.pointer (some ⟨o,0,none⟩)::args=c/\t.Y o=some ⟨cs,true⟩then some (r,t.A1 h.choose (some ⟨A,true⟩))else none,λc t g aA h a7 e=>by
  split at h
  ·next d=>cases h;have:=ok t _ d.choose_spec.2;rw[d.choose_spec.1]at this;exact this.AD λv aA ⟨a,b⟩=>by rw[a,b];exact e
  ·cases h⟩
theorem a5h{ok: ∀(t:X) (o:Nat),t.Y o=some ⟨cs,true⟩->Bh V f (.pointer (some ⟨o,0,none⟩)::args) t λv aA=>v=r/\aA=t.A1 o (some ⟨A,true⟩)}(h:t.Y o=some ⟨cs,true⟩):
 (R8 f args cs A r ok).fn (.pointer (some ⟨o,0,none⟩)::args) t=some (r,t.A1 o (some ⟨A,true⟩)):=by
 have a: ∃q,Value.pointer (some ⟨q,0,none⟩)::args=Value.pointer (some ⟨o,0,none⟩)::args/\t.Y q=some ⟨cs,true⟩:=⟨o,rfl,h⟩;have e:a.choose=o:=by have:=a.choose_spec.1;simpa using this
 simp only[R8,dif_pos a];rw[e]
theorem RZ: ∀v∈[AK l,Z i],DA v=true:= λv a=>by simp at a;rcases a with rfl|rfl<;>rfl
theorem a6q(e:l.length<=140737488355328)(f:i<500000)(g:bm<=100): ∃u eo,X3 u bm/\eo<=i+200/\ ∀(t:X) (o:Nat),t.Y o=some ⟨[AK l,Z i],true⟩->Bh V 60 [AG o,Z bm] t λv aA=>v= .agg (A7 u).toArray/\aA=t.A1 o (some ⟨[AK l,Z eo],true⟩):=by obtain⟨u,eo,a,b,c⟩:=a0r e f g;exact⟨u,eo,a,b,λt o h=>ev (by simp) (by simp) RZ RZ (λv d=>by simp at d;subst d;rfl) c h⟩
theorem a01(e:l.length<=140737488355328)(f:i<600000)(h:B4 u)(g:1<=u.A4.length): ∃L eo,L.length=u.A3.length/\Lm u L/\eo<=i+20*u.A3.length/\ ∀(t:X) (o:Nat),t.Y o=some ⟨[AK l,Z i],true⟩->Bh V 48 [AG o,.agg (A7 u).toArray] t λv aA=>v=Bf L/\aA=t.A1 o (some ⟨[AK l,Z eo],true⟩):=by obtain⟨L,eo,a,b,j,c⟩:=aCq e f h g;exact⟨L,eo,a,b,j,λt o k=>ev (by simp) (by simp) RZ RZ (λv d=>by simp at d;subst d;rfl) c k⟩
theorem a4c(e:l.length<=140737488355328)(f:i<600000)(h:B4 u)(g:1<=u.A4.length): ∃R eo,R.length=u.A4.length/\OC 16 R/\eo<=i+2*u.A4.length/\ ∀(t:X) (o:Nat),t.Y o=some ⟨[AK l,Z i],true⟩->Bh V 61 [AG o,.agg (A7 u).toArray] t λv aA=>v=AK R/\aA=t.A1 o (some ⟨[AK l,Z eo],true⟩):=by obtain⟨R,eo,a,b,j,c⟩:=a2E e f h g;exact⟨R,eo,a,b,j,λt o k=>ev (by simp) (by simp) RZ RZ (λv d=>by simp at d;subst d;rfl) c k⟩
open Go Go.DI
section
set_option maxRecDepth 100000
def NR:AU V 16:=AW
def W7:=G (A8 NR.1.body 16719726975)
def Vb:=(G λx=>AA 249 x (A8 NR.1.body 76728703)) W7
def ZG:=(G λx=>AA 73 x (A8 NR.1.body 1231231)) Vb
def Xl:=G (A8 NR.1.body 248191)
def ek:=(G λx y=>AA 121 y (AA 601 x (A8 NR.1.body 2431))) ZG Xl
def fA:=G (A8 NR.1.body 511)
def X8:=(G λx y=>AA 15 y (AA 75 x (A8 NR.1.body 63))) ek fA
def cR:=(G λx=>AA 7 x (A8 NR.1.body 15)) X8
def jj:=(G λx=>AA 15 x NR.1.body) cR
def iH:=AV V 16 ⟨171,[.AH 4],jj⟩
def aBP:AU V 18:=AW
def rM:=G aBP.1.body
def ad:=AV V 18 ⟨22,[.DE 2 true 9,.AH 3],rM⟩
def a5Y:AU V 39:=AW
def a7X:=G a5Y.1.body
def pg:=AV V 39 ⟨96,[.AH 0],a7X⟩
def bU:AU V 41:=AW
def W5:=G (A8 bU.1.body 151)
def wV:=G (A8 bU.1.body 31)
def u9:=(G λx y=>AA 3 y (AA 18 x (A8 bU.1.body 15))) W5 wV
def mK:=(G λx=>AA 15 x bU.1.body) u9
def Zi:=AV V 41 ⟨47,[.AH 8,.AH 9],mK⟩
def JZ:AU V 44:=AW
def a2J:=G (A8 JZ.1.body 157279)
def a8s:=(G λx=>AA 307 x (A8 JZ.1.body 607)) a2J
def a6H:=G (A8 JZ.1.body 610815)
def aBm:=G (A8 JZ.1.body 66769407)
def zX:=(G λx=>AA 3 x (A8 JZ.1.body 33214975)) aBm
def a5S:=(G λx=>AA 31 x (A8 JZ.1.body 1757695)) zX
def aB5:=(G λx=>AA 26 x (A8 JZ.1.body 119295)) a5S
def a0U:=(G λx y=>AA 29 y (AA 149 x (A8 JZ.1.body 4607))) a6H aB5
def a1x:=G (A8 JZ.1.body 2047)
def a0c:=(G λx y=>AA 3 y (AA 8 x (A8 JZ.1.body 1023))) a0U a1x
def a6C:=(G λx=>AA 7 x (A8 JZ.1.body 255)) a0c
def zC:=(G λx=>AA 3 x (A8 JZ.1.body 127)) a6C
def a8L:=(G λx y=>AA 15 y (AA 75 x (A8 JZ.1.body 15))) a8s zC
def aAU:=(G λx=>AA 15 x JZ.1.body) a8L
def ve:=AV V 44 ⟨170,[.DE 6 true 5,.AH 7],aAU⟩
def aA9:AU V 45:=AW
def a0o:=G aA9.1.body
def pK:=AV V 45 ⟨52,[.AH 8],a0o⟩
def iD:AU V 46:=AW
def j4:=G (A8 iD.1.body 75)
def ZN:=G (A8 iD.1.body 15)
def rS:=(G λx y=>AA 15 y (AA 75 x iD.1.body)) j4 ZN
def xl:=AV V 46 ⟨20,[.AH 2],rS⟩
def rT:AU V 56:=AW
def Yb:=G (A8 rT.1.body 15)
def rK:=(G λx=>AA 15 x rT.1.body) Yb
def n0:=AV V 56 ⟨27,[.AH 6],rK⟩
def jL:AU V 58:=AW
def gM:=G (A8 jL.1.body 75)
def Xe:=G (A8 jL.1.body 15)
def oc:=(G λx y=>AA 15 y (AA 75 x jL.1.body)) gM Xe
def we:=AV V 58 ⟨26,[.AH 4],oc⟩
def aAY:AU V 91:=AW
def pV:=G aAY.1.body
def dB:=AV V 91 ⟨13,[.AH 4],pV⟩
def aBS:AU V 92:=AW
def rm:=G aBS.1.body
def Xy:=AV V 92 ⟨17,[.AH 6],rm⟩
def a4F:AU V 93:=AW
def Mg:=G a4F.1.body
def L2:=AV V 93 ⟨95,[.AH 4],Mg⟩
def aDQ:AU V 94:=AW
def jK:=G aDQ.1.body
def VH:=AV V 94 ⟨40,[],jK⟩
def lf:AU V 96:=AW
def Wc:=G (A8 lf.1.body 31)
def fB:=(G λx=>AA 7 x (A8 lf.1.body 7)) Wc
def nV:=(G λx=>AA 7 x lf.1.body) fB
def YR:=AV V 96 ⟨46,[.DE 6 true 3,.AH 7,.AH 8],nV⟩
def jD:AU V 146:=AW
def lJ:=G (A8 jD.1.body 75)
def bw:=G (A8 jD.1.body 15)
def sD:=(G λx y=>AA 15 y (AA 75 x jD.1.body)) lJ bw
def Xn:=AV V 146 ⟨23,[.AH 2],sD⟩
def gd:AU V 149:=AW
def gI:=G (A8 gd.1.body 75)
def Zd:=G (A8 gd.1.body 15)
def qS:=(G λx y=>AA 15 y (AA 75 x gd.1.body)) gI Zd
def cH:=AV V 149 ⟨26,[.AH 4],qS⟩
end
@[simp] theorem aKD{ok: ∀(t:X) (o:Nat),t.Y o=some ⟨cs,true⟩->Bh V f (.pointer (some ⟨o,0,none⟩)::args) t λv aA=>v=r/\aA=t.A1 o (some ⟨A,true⟩)}:(R8 f args cs A r ok).f=f:=rfl
variable{k:Value->X->Prop}{aY v:Value}{m aA:X}{K:Be}{p:Nat}{ps:List Nat}{x:Int}
theorem kG{ok: ∀(t:X) (o:Nat),t.Y o=some ⟨cs,true⟩->Bh V f (.pointer (some ⟨o,0,none⟩)::args) t λv aA=>v=r/\aA=t.A1 o (some ⟨A,true⟩)}(h:t.Y o=some ⟨cs,true⟩)(a:k r (t.A1 o (some ⟨A,true⟩))):
 Y3 ((R8 f args cs A r ok).fn (.pointer (some ⟨o,0,none⟩)::args) t) k:=by
 rw[a5h h];exact a
theorem a1W(a:l.length<=140737488355328): ∃(u:AL) (L:List (List Int)) (R:List Int) (i:Nat),X3 u 3/\L.length=u.A3.length/\Lm u L/\R.length=u.A4.length/\OC 16 R/\i<=1000/\ ∀t:X,Bh V 18 [AK l] t λv aA=>v= .tuple #[.agg (A7 u++[Bf L,AK R]).toArray,AG (t.ac+4)]/\aA.Y (t.ac+4)=some ⟨[AK l,Z i],true⟩:=by
 obtain⟨u,g,b,r,h⟩:=a6q (l:=l) a (i:=0) (by decide) (bm:=3) (by decide);have c:=qO b (by decide);have d:1<=u.A4.length/\u.A4.length<=9:=b.Es;have s:=c.ok.EF;obtain⟨L,j,k,m,w,n⟩:=a01 (l:=l) a (i:=g) (by omega) c d.1;obtain⟨R,i3,o,p,x,q⟩:=a4c (l:=l) a (i:=j) (by omega) c d.1;refine⟨u,L,R,i3,b,k,m,o,p,by omega,λt=> ?_⟩;refine Ax (aC:=⟨[],[R8 60 [Z 3] _ _ _ h,R8 48 [.agg (A7 u).toArray] _ _ _ n,R8 61 [.agg (A7 u).toArray] _ _ _ q]⟩) ad.2 ?_;simp(disch:=first|omega|simp only[DI.AB];omega)[ad,rM,-H,-D,-I,-F,-List.map_map];refine kG (by simp(disch:=first|omega|simp only[DI.AB];omega)[-H,-D,-I,-F,-List.map_map]) ?_;have e:(A7 u).length=7:=rfl;have hb:CV [Value.int IntKind.i64 0,Value.slice none 0 0,Value.slice none 0 0,Value.slice none 0 0,Value.slice none 0 0,Value.slice none 0 0,Value.slice none 0 0] 0 (A7 u)=A7 u:=by simp[CV,A7]
 have f:List.take 7 (A7 u)=A7 u:=rfl;simp(disch:=first|omega|simp only[DI.AB];omega)[e,hb,f,-H,-D,-I,-F,-List.map_map];refine kG (by simp(disch:=first|omega|simp only[DI.AB];omega)[-H,-D,-I,-F,-List.map_map]) ?_;simp(disch:=first|omega|simp only[DI.AB];omega)[e,f,-H,-D,-I,-F,-List.map_map];refine⟨by simp[A7],kG (by simp(disch:=first|omega|simp only[DI.AB];omega)[wZ,-H,-D,-I,-F,-List.map_map]) ?_⟩;simp(disch:=first|omega|simp only[DI.AB];omega)[uo,-H,-D,-I,-F,-List.map_map];exact⟨by simp[CV,A7],by simp[CV,A7],by simp[CV,A7]⟩
def xO(m:X)(v:Value)(l:List Int):Prop:=(v= .slice none 0 0/\l=[])\/ ∃b o cs w,v= .slice (some ⟨b,o,none⟩) l.length 1/\m.Y b=some ⟨cs,w⟩/\(cs.drop o).take l.length=l.map Z/\o+l.length<=cs.length
theorem a4L(f:xO m aY l)(j:l.length<=1000000):At V 71 [aY] m λr a=>m.ac<=a.ac/\(∀b,b<m.ac->a.Y b=m.Y b/\a.mp b=m.mp b)/\
 ((l.length=0/\l.map Z=[]/\r= .slice none 0 0)\/ ∃q,m.ac<=q/\q<a.ac/\r= .slice (some ⟨q,0,none⟩) l.length 1/\a.Y q=some ⟨l.map Z,true⟩):=by
 rcases f with⟨rfl,rfl⟩|⟨b,o,cs,w,rfl,c,g,d⟩
 ·rw[w3 (by simp)];simp[U8]
 ·have k:=X.E c;rw[w3 (by simp)];by_cases e:l.length=0
  ·obtain rfl:=Ii.1 e;simp(disch:=first|omega|simp only[A9];omega)[U8,c];refine⟨by simpa using d,λh i=>⟨by simp(disch:=first|omega|simp only[A9];omega),rfl⟩,⟨m.ac,by omega,by omega,rfl,by simp(disch:=first|omega|simp only[A9];omega)⟩⟩
  ·simp(disch:=first|omega|simp only[A9];omega)[U8,c,e];refine⟨⟨⟨d,by omega⟩,by omega⟩,λh i=>⟨by simp(disch:=first|omega|simp only[A9];omega),rfl⟩,m.ac+2,by omega,by omega,rfl,by simp(disch:=first|omega|simp only[A9];omega)[g]⟩
def T3:Value->Bool
 | .slice (some a) _ _=>a.spot.isNone
 |_=>true
theorem a8t{u:C0}(a:AY u K v aY)(h:T3 v=true):T3 aY=true:=by
 cases a with
 |slice _=>exact h
 |BP _=>exact h
 |_=>rfl
def Kv(t:X)(v:Value)(l:List Int):Prop:=(Fb t 1 v=true/\T3 v=true)/\FL t 1 v=l.map Z
theorem aDR: ∀{l:List Int} {u:C0} {K:Be} {ys:List Value},AJ u K (l.map Z) ys->ys=l.map Z:= λ{l u K ys} h=>by
 apply Mi;intro i;cases a:(l.map Z)[i]? with
 | none=>have:=List.getElem?_eq_none_iff.1 a;rw[L1 (by rw[<-h.1];exact this)]
 | some x=>have c:=(Ae.1 a).1;obtain⟨y,b⟩: ∃y,ys[i]?=some y:=⟨_,AP (by rw[<-h.1];exact c)⟩;have d:=h.2 i x y a b;rw[GX,KH]at a;obtain⟨n,_,rfl⟩:=a;rw[b,d.Hp]
theorem Kv.at{u:C0}(h:Kv t v l)(d:BN K u t m)(c:AY u K v aY):xO m aY l:=by
 have g:=a8t c h.1.2;have i:=Tt d c h.1.1;have e:=aK d c h.1.1;rw[h.2]at e;have a:=aDR e;rcases PQ i with rfl|⟨b,off,len,x,j,rfl,f,o⟩
 ·refine .inl ⟨rfl,?_⟩;have:=congrArg List.length a;simp[C5]at this;exact Ii.1 this.symm
 ·obtain rfl:j=none:=(by simpa[T3]using g);have k:C5 m 1 (.slice (some ⟨b,off,none⟩) len 1)=(x.cells.drop off).take len:=(by simp[C5,C3,f]);rw[k]at a;have n:len=l.length:=by
   have:=congrArg List.length a;rw[IG,List.length_drop,E9]at this;omega
  subst n;exact .inr ⟨b,off,x.cells,x.own,rfl,f,a,by omega⟩
theorem Kv.inj{c:List Int}(h:Kv t v l)(d:Kv t v c):l=c:=by have:=h.2.symm.trans d.2;exact List.map_inj_right (λa b e=>by simpa using e)|>.1 this
theorem Kv.enc:Kv t (AK l) l:=⟨⟨by simp[Fb],by simp[T3,O]⟩,by
 have: ∀l:List Int,(l.map λd=>[Z d]).flatten=l.map Z:= λl=>by
  induction l with
  |nil=>rfl
  |cons x l a=>simp[a]
 simp[FL,this]⟩
theorem sx(h:Kv t v l)(a:l.length<=1000000):Bh V 71 [v] t λr aA=>r=AM t.ac l.length 1/\aA=(t.AE 1).A1 t.ac (some ⟨l.map Z,true⟩):=
 aAy (by simp[BJ]) λK u e m b c=>by obtain⟨aY,rfl,d⟩:=c.Gx;exact a4L (h.at b d) a
open Classical in
def Rx(v:Value)(t:X):Option (Value×X):=if h: ∃l,Kv t v l/\l.length<=1000000 then some (AM t.ac h.choose.length 1,(t.AE 1).A1 t.ac (some ⟨h.choose.map Z,true⟩))else none
theorem aAW(h:Kv t v l)(b:l.length<=1000000):Rx v t=some (AM t.ac l.length 1,(t.AE 1).A1 t.ac (some ⟨l.map Z,true⟩)):=by have a: ∃l,Kv t v l/\l.length<=1000000:=⟨l,h,b⟩;have e:a.choose=l:=a.choose_spec.1.inj h;unfold Rx;rw[dif_pos a,e]
abbrev kA:Cp V:= .B9 71 Value (λv=>[v]) (λv t=>Rx v t) λv t r aA h a7 d=>by
 simp only[Rx]at h;split at h
 ·next c=>cases h;exact(sx c.choose_spec.1 c.choose_spec.2).AD λr aA ⟨a,b⟩=>by rw[a,b];exact d
 ·cases h
@[simp] theorem aGs:kA.fn [v] t=Rx v t:=Cp.BH (x:=v) (t:=t) λy a=>by simp at a;rw[a]
def WH(l:List Value):Option (List Int):=match l with
 |[]=>some []
 | .int .i64 n::l=>(match WH l with
   |some k=>some (n::k)
   |none=>none)
 |_=>none
theorem vq: ∀{cs:List Value} {l:List Int},WH cs=some l->cs=l.map Z
 |[],l,h=>by cases h;rfl
 | .int .i64 n::cs,l,h=>by
   simp only[WH]at h;cases a:WH cs with
   |none=>rw[a]at h;cases h
   |some k=>rw[a]at h;cases h;rw[vq a];rfl
def wz(k:Nat):Hv:= λf args a=>bif Nat.beq f k then(match args with
 | [v]=>if Fb (Al a) 1 v&&T3 v then(match WH (FL (Al a) 1 v)with
   | some l=>if Nat.ble l.length 1000000 then(match Hr (SW a 1) a.ac (some ⟨l.map Z,true⟩)with
     |some b=>some (AM a.ac l.length 1,b)
     |none=>none)else none
   |none=>none)else none
 |_=>none)else none
theorem Nb:KW V (wz 71):= λf args j r cX a h=>by
 unfold wz at h;cases hb:Nat.beq f 71 with
 |false=>rw[hb]at h;cases h
 | true=>
   rw[hb]at h;simp only[cond_true]at h;obtain rfl:=Nat.eq_of_beq_eq_true hb;split at h
   ·next v=>
    split at h
    ·next c=>
     split at h
     ·next l d=>
      split at h
      ·next e=>
       split at h
       ·next k g=>cases h;obtain⟨i,b⟩:=OR (sa a) g;rw[xh a]at b;refine⟨i,?_⟩;rw[b];exact sx ⟨by simpa using c,vq d⟩ (by simpa using e)
       ·cases h
      ·cases h
     ·cases h
    ·cases h
   ·cases h
theorem eU{B d:Type}{f:B->Option d}: ∀{l:List B} {c:List d},c.length=l.length->(∀(i:Nat) (x:B) (y:d),l[i]?=some x->c[i]?=some y->f x=some y)->C6 f l=some c
 |[],[],_,_=>rfl
 |[],_::_,h,_=>by simp at h
 |_::_,[],h,_=>by simp at h
 | x::l,y::c,e,h=>by rw[jI,h 0 x y rfl rfl];simp only;rw[eU (by simpa using e) λi a b g hb=>h (i+1) a b (by simpa using g) (by simpa using hb)]
def Lx(ps:List Nat)(L:List (List Int))(j:Nat):Value:=AM (ps.getD j 0) (L.getD j []).length 1
theorem Kb{j:Nat}{r:List Int}(a:ps[j]?=some p)(b:L[j]?=some r):Lx ps L j=AM p r.length 1:=by simp only[Lx,E1,a,b,Jb]
def D7(ps:List Nat)(L:List (List Int)):List Value:=D4 L.length (Lx ps L)
structure E4(t:X)(o:Nat)(ps:List Nat)(L:List (List Int)):Prop where
 len:ps.length=L.length
 Cg:ps.Nodup
 F7:o∉ps
 Dk:t.Y o=some ⟨D7 ps L,true⟩
 Ds: ∀(i p:Nat) r,ps[i]?=some p->L[i]?=some r->t.Y p=some ⟨r.map Z,true⟩
theorem oG(h:E4 t o ps L):DI.B3 (n+2) t (AM o L.length 1)=some (Bf L):=by
 have c:Fc 1 L.length (D7 ps L)=(D7 ps L).map λv=>[v]:=by
  have:=aQ (z:=1) (cb:=(D7 ps L).map λv=>[v]) (λr j=>by obtain⟨v,_,rfl⟩:=CG.1 j;rfl);rw[E9,show(D7 ps L).length=L.length from by simp[D7]]at this;rw[<-this];congr 1;generalize D7 ps L=l;induction l with
  |nil=>rfl
  |cons x l k=>rw[Dl,I2,<-k];rfl
 have d:C6 (C6 (DI.B3 (n+1) t)) ((D7 ps L).map λv=>[v])=some (L.map Bz):=eU (by simp[D7]) λi x y e b=>by have a:i<L.length:=(by have:=(Ae.1 b).1;simpa using this);rw[GX,D7,GH a]at e;rw[GX,AP a]at b;cases e;cases b;have m:i<ps.length:=(by rw[h.len];exact a);have f:ps[i]?=some ps[i]:=AP m;rw[Kb f (AP a)];have:=Kn (n:=n) (cb:=L[i].map λx=>[Z x]) (l:=L[i].length) (z:=1) (w:=true) (by rw[Jd];exact h.Ds i _ _ f (AP a)) (by simp) K7;rw[jI,this];rfl
 rw[Yr,h.Dk];simp only[D7]at c d⊢;simp only[VP,Gn,Nat.zero_add,Nat.mul_one,Aj,if_true];rw[c,d]
theorem E4.AD(h:E4 t o ps L)(b:aA.Y o=t.Y o)(c: ∀p∈ps,aA.Y p=t.Y p):E4 aA o ps L:=
 ⟨h.len,h.Cg,h.F7,by rw[b];exact h.Dk,λi p r a d=>by rw[c p (B5 a)];exact h.Ds i p r a d⟩
def EX(L:List (List Int))(v f:Nat)(x:Int):List (List Int):=L.set v ((L.getD v []).set f x)
theorem Q8{v:Nat}:(EX L v f x).length=L.length:=by simp[EX]
theorem a06{v:Nat}:D7 ps (EX L v f x)=D7 ps L:=by
 unfold D7;rw[Q8];refine HS λj a=> ?_;have:((EX L v f x).getD j []).length=(L.getD j []).length:=by
  simp only[EX,E1,Ih];by_cases h:v=j
  ·subst h;rw[if_pos rfl,if_pos a];simp
  ·rw[if_neg h]
 unfold Lx;rw[this]
theorem E4.set{v:Nat}(h:E4 t o ps L)(m:v<L.length)(k:ps[v]?=some p)(n:aA.Y o=t.Y o)(s: ∀q∈ps,q≠p->aA.Y q=t.Y q)(u:aA.Y p=some ⟨((L.getD v []).set f x).map Z,true⟩):E4 aA o ps (EX L v f x):=by
 refine⟨by rw[Q8];exact h.len,h.Cg,h.F7,by rw[n,a06];exact h.Dk,λi q r d g=> ?_⟩;simp only[EX,Ih]at g;by_cases j:v=i
 ·subst j;rw[if_pos rfl,if_pos m]at g;rw[k]at d;cases d;cases g;exact u
 ·rw[if_neg j]at g;have w:q≠p:= λe=>by
   subst e;have a:=Ae.1 k;have b:=Ae.1 d;have l:=Mb.1 h.Cg;rcases Nat.lt_trichotomy v i with c|c|c
   ·exact l v i a.1 b.1 c (a.2.trans b.2.symm)
   ·exact j c
   ·exact l i v b.1 a.1 c (b.2.trans a.2.symm)
  rw[s q (B5 d) w];exact h.Ds i q r d g
structure a0Y(t:X)(o:Nat)(ps:List Nat)(L:List (List Int))(i:Nat):Prop where
 len:ps.length=i
 Cg:ps.Nodup
 F7:o∉ps
 B0: ∀p∈ps,p<t.ac
 Dk:t.Y o=some ⟨D4 i (Lx ps L),true⟩
 Ds: ∀(j p:Nat) r,ps[j]?=some p->L[j]?=some r->t.Y p=some ⟨r.map Z,true⟩
theorem a6s(y:CP L)(J: ∀r∈L,1<=r.length):Bh V 46 [Bf L] Cl λv K=> ∃o ps,v=AM o L.length 1/\E4 K o ps L:=by
 refine Ax (aC:=⟨[],[]⟩) xl.2 ?_;simp[xl,rS];refine SP (d:=3) (z:=1) (by simp) ?_;have A5:=y.1;refine Cc (aC:=⟨[],[]⟩) (λi k t=> ∃o ps,a0Y t o ps L i/\k 0=Bf L/\k 3=AM o i 1/\k 4=Z i) L.length ?_ ?_ 0 _ _ (C8 _) ?_
 ·rintro i k t q ⟨o,ps,f,l,u,w⟩ A7 N;have A:L[i]?=some L[i]:=AP q;have B:1<=L[i].length:=J _ (Dq q);have A8:L[i].length<=1000:=y.2 _ (Dq q);have O:=BZ (n:=i) (by omega);have P:(i:Int)<L.length:=(by omega);have C:=f.Dk;have A9:=E C;have Q: ¬L[i]=[]:= λe=>by rw[e]at B;simp at B
  have R:L[i].length*8<=140737488355328/\L[i].length<=9223372036854775807/\(i+1)*24<=140737488355328/\i<=9223372036854775806:=(by omega);have AA: ¬o=t.ac+5:=by omega
  have AD: ¬o=t.ac+6:=by omega
  have S:(D4 i (Lx ps L)).take i=D4 i (Lx ps L):=DP (by simp);have T:(L[i].map λs=>[Z s]).flatten=L[i].map Z:=Jd;simp(disch:=first|omega|simp only[DI.AB];omega)[j4,ZN,l,u,w,P,O,C,Bz,Q,R,S,T,-H,-D,-I,-F,-List.map_map];have m: ∀p∈ps,p≠t.ac+5/\p≠t.ac+6/\p≠t.ac+7/\p<t.ac/\p≠o:= λp g=>by have:=f.B0 p g;exact⟨by omega,by omega,by omega,this,λe=>f.F7 (e▸g)⟩
  have U: ∀j p,(ps++[t.ac+5])[j]?=some p->(j<i/\ps[j]?=some p)\/(j=i/\p=t.ac+5):= λj p g=>by
   rw[Mk,f.len]at g;split at g
   ·next c=>exact .inl ⟨c,g⟩
   ·next c=>
    obtain rfl|AE:j=i\/i<j:=by omega
    ·simp at g;exact .inr ⟨rfl,g.symm⟩
    ·rw[L1 (by simp;omega)]at g;cases g
  refine N _ _ ⟨t.ac+7,ps++[t.ac+5],⟨by simp[f.len],?_,?_,?_,?_,?_⟩,by simp[l],by simp,by simp⟩
  ·rw[LD];exact⟨f.Cg,by simp,λa W b hb=>by simp at hb;subst hb;exact(m a W).1⟩
  ·intro h;rcases D2.1 h with h|h
   ·exact(m _ h).2.2.1 rfl
   ·simp at h
  ·intro p g;rcases D2.1 g with h|h
   ·have:=(m p h).2.2.2.1;simp;omega
   ·simp at h;subst h;simp
  ·rw[AR (by simp)];congr 2;rw[cA];congr 1
   ·refine HS λj X=> ?_;have Y:j<ps.length:=(by rw[f.len];exact X);simp only[Lx,E1,Ke Y]
   ·rw[Kb (p:=t.ac+5) (r:=L[i]) (by rw[<-f.len,Ib (Aj _)];simp) A]
  ·intro j p r g x;rcases U j p g with⟨c,G⟩|⟨rfl,rfl⟩
   ·obtain⟨A0,A1,A2,A3,A4⟩:=m p (B5 G);rw[A6 A2,A6 A4,A6 A1,A6 A0,Ab A3];exact f.Ds j p r G x
   ·rw[A]at x;cases x;rw[A6 (by omega),A6 (by omega),A6 (by omega),AR (by simp)]
 ·rintro k t ⟨o,ps,f,l,u,w⟩;simp[j4,ZN,ZN,l,u,w];exact⟨ps,f.len,f.Cg,f.F7,f.Dk,f.Ds⟩
 ·exact⟨0,[],⟨rfl,List.nodup_nil,by simp,by simp,by simp[D4],by simp⟩,by simp,by simp,by simp⟩
def ID(L:List (List Int))(k:Nat):List Nat:=(List.range L.length).map (k+1+ ·)
def F1(L:List (List Int))(k:Nat):List (List Value):=D7 (ID L k) L::L.map λr=>r.map Z
theorem Xb{k:Nat}(h:i<L.length):(ID L k)[i]?=some (k+1+i):=by simp[ID,h]
theorem u1(q:Bh V f [Bf L] Cl λv h=> ∃o ps,v=AM o L.length 1/\E4 h o ps L)(t:X):Bh V f [Bf L] t λv aA=>v=AM t.ac L.length 1/\aA=C4 t.ac (F1 L t.ac) (t.AE (L.length+1)):=by
 refine Qy (n:=L.length+1) (r:= λk=>AM k L.length 1) (bs:=F1 L) (λk=>by simp[F1]) (λv d=>by simp at d;subst d;rfl) (q.AD λv h ⟨o,ps,d,a⟩=> ?_) t;subst d;have j:(o::ps)[0]?=some o:=rfl;refine⟨o::ps,J9.2 ⟨a.F7,a.Cg⟩,by simp[a.len],λk=>⟨.slice ⟨0,j,rfl⟩,λi cs e=> ?_⟩⟩;cases i with
 | zero=>simp[F1]at e;subst e;refine⟨o,_,j,a.Dk,by simp[D7],λi x y g l=> ?_⟩;have b:i<L.length:=(by have:=(Ae.1 g).1;simpa[D7]using this);have c:i<ps.length:=(by rw[a.len];exact b);have m:=AP b;rw[D7,GH b,Kb (AP c) m]at g;rw[D7,GH b,Kb (Xb (k:=k) b) m]at l;cases g;cases l;exact .slice ⟨i+1,by rw[MO];exact AP c,by omega⟩
 | succ i=>simp only[F1,MO,GX,KH]at e;obtain⟨r,p,rfl⟩:=e;have b:=(Ae.1 p).1;have c:i<ps.length:=(by rw[a.len];exact b);exact⟨ps[i],_,by rw[MO];exact AP c,a.Ds i _ r (AP c) p,Cf.cells RG⟩
theorem r9:E4 (C4 t.ac (F1 L t.ac) (t.AE (L.length+1))) t.ac (ID L t.ac) L:=by
 have a:(F1 L t.ac).length=L.length+1:=by simp[F1]
 refine⟨by simp[ID],?_,?_,?_,λi p r b d=> ?_⟩
 ·unfold ID;refine Mb.2 λi j e f g=> ?_;simp;omega
 ·simp[ID];omega
 ·have:=Yj (i:=t.ac) (j:=0) (t:=t.AE (L.length+1)) (l:=F1 L t.ac) (c:=D7 (ID L t.ac) L) (by rw[a];simp[X.AE]) rfl;simpa using this
 ·have e:=(Ae.1 d).1;rw[Xb e]at b;cases b;have:=Yj (i:=t.ac) (j:=i+1) (t:=t.AE (L.length+1)) (l:=F1 L t.ac) (c:=r.map Z) (by rw[a];simp[X.AE]) (by simp[F1,d]);rw[show t.ac+1+i=t.ac+(i+1) by omega];exact this
structure a56(t:X)(o:Nat)(ps:List Nat)(L:List (List Int))(i:Nat):Prop where
 len:ps.length=i
 Cg:ps.Nodup
 F7:o∉ps
 B0: ∀p∈ps,p<t.ac
 Dk:t.Y o=some ⟨D4 L.length (λj=>if j<i then Lx ps L j else .slice none 0 0),true⟩
 Ds: ∀(j p:Nat) r,ps[j]?=some p->L[j]?=some r->t.Y p=some ⟨r.map Z,true⟩
theorem zr(x:CP L):Bh V 146 [Bf L] Cl λv G=> ∃o ps,v=AM o L.length 1/\E4 G o ps L:=by
 refine Ax (aC:=⟨[],[kA]⟩) Xn.2 ?_;have W:=x.1;have Y:L.length*24<=140737488355328/\L.length<=9223372036854775807:=by omega
 simp(disch:=first|omega|simp only[DI.AB];omega)[Xn,sD,-H,-D,-I,-F,-List.map_map];refine⟨by omega,?_⟩;refine Cc (aC:=⟨[],[kA]⟩) (λi g t=> ∃o ps,a56 t o ps L i/\g 3=AM o L.length 1/\g 9=Bf L/\g 10=Z L.length/\g 11=Z i) L.length ?_ ?_ 0 _ _ (C8 _) ?_
 ·rintro i g t y ⟨o,ps,d,k,q,l,s⟩ A0 K;have z:L[i]?=some L[i]:=AP y;have A2:L[i].length<=1000:=x.2 _ (Dq y);have M:=BZ (n:=i) (by omega);have N:(i:Int)<L.length:=(by omega);have A:=d.Dk;have A3:=E A;have O: ∀t:X,Rx (AK L[i]) t=some (AM t.ac L[i].length 1,(t.AE 1).A1 t.ac (some ⟨L[i].map Z,true⟩)):= λt=>aAW Kv.enc (by omega);simp(disch:=first|omega|simp only[DI.AB];omega)[lJ,bw,k,q,l,s,N,M,A,Bz,O,-H,-D,-I,-F,-List.map_map];have u: ∀p∈ps,p≠t.ac/\p<t.ac/\p≠o:= λp f=>by
   have:=d.B0 p f;exact⟨by omega,this,λe=>d.F7 (e▸f)⟩
  have P: ∀j p,(ps++[t.ac])[j]?=some p->(j<i/\ps[j]?=some p)\/(j=i/\p=t.ac):= λj p f=>by
   rw[Mk,d.len]at f;split at f
   ·next c=>exact .inl ⟨c,f⟩
   ·next c=>
    obtain rfl|m:j=i\/i<j:=by omega
    ·simp at f;exact .inr ⟨rfl,f.symm⟩
    ·rw[L1 (by simp;omega)]at f;cases f
  refine⟨by omega,K _ _ ⟨o,ps++[t.ac],⟨by simp[d.len],?_,?_,?_,?_,?_⟩,by simp[k],by simp[q],by simp[l],by simp⟩⟩
  ·rw[LD];exact⟨d.Cg,by simp,λa Q b hb=>by simp at hb;subst hb;exact(u a Q).1⟩
  ·intro h;rcases D2.1 h with h|h
   ·exact d.F7 h
   ·simp at h;omega
  ·intro p f;rcases D2.1 f with h|h
   ·have:=(u p h).2.1;simp;omega
   ·simp at h;subst h;simp
  ·rw[AR (by simp;omega),LJ];congr 2;refine HS λj B=> ?_;by_cases c:j=i
   ·subst c;rw[if_pos rfl,if_pos (by omega),Kb (p:=t.ac) (r:=L[j]) (by rw[<-d.len,Ib (Aj _)];simp) z]
   ·rw[if_neg c];by_cases m:j<i
    ·have R:j<ps.length:=(by rw[d.len];exact m);rw[if_pos m,if_pos (by omega)];simp only[Lx,E1,Ke R]
    ·rw[if_neg m,if_neg (by omega)]
  ·intro j p r f w;rcases P j p f with⟨c,C⟩|⟨rfl,rfl⟩
   ·obtain⟨S,T,U⟩:=u p (B5 C);rw[A6 U,A6 S,Ab T];exact d.Ds j p r C w
   ·rw[z]at w;cases w;rw[A6 (by omega),AR (by simp)]
 ·rintro g t ⟨o,ps,d,k,q,l,s⟩;simp(disch:=omega)[lJ,bw,bw,k,l,s];refine⟨ps,d.len,d.Cg,d.F7,?_,d.Ds⟩;rw[d.Dk,D7];congr 2;exact HS λj B=>if_pos B
 ·refine⟨2,[],⟨rfl,List.nodup_nil,by simp,by simp,?_,by simp⟩,by simp,by simp,by simp,by simp⟩;rw[Vv];simp(disch:=first|omega|simp only[DI.AB];omega)
end Go.Proofs.YtmmkkggfmigppaaGreat
namespace Go.Big
structure EB where
 FQ:Int
 Gk:Int
 Em:Int
 EJ:Int
 deriving DecidableEq
def DC(L:List (List Int))(s:EB):List Int:=L.getD s.FQ.toNat []
def Ez(n:Nat)(eg gR:List Int)(L:List (List Int))(s:EB):Bool:=
 decide (0<=s.FQ)&&(decide (s.FQ<L.length)&&(decide (0<=s.Gk)&&(decide (s.Gk<(DC L s).length)&&(decide ((DC L s).getD s.Gk.toNat 0=s.Em)&&(decide (0<=s.EJ)&&(decide (s.EJ<n)&&(!(DC L s).contains s.EJ&&decide (eg.getD s.EJ.toNat 0<gR.getD s.EJ.toNat 0))))))))
end Go.Big
namespace Go.Proofs.YtmmkkggfmigppaaGreat
open Go Go.DI Go.Big
def EI(s:EB):List Value:=[Z s.FQ,Z s.Gk,Z s.Em,Z s.EJ]
abbrev Pw(l:List EB):Value:=O (l.map EI) 4
variable{L C:List (List Int)}{eg gR:List Int}{o q s i bm d f p:Nat}{ps:List Nat}{t:X}{B:Type}{fg:Int}{k:Value->X->Prop}
theorem a5C(u:CP L)(x:gR.length<=eg.length){s:EB}:AO V 93 [BX [Bf L,AK eg,AK gR] 0,.agg (EI s).toArray] (.bool (Ez gR.length eg gR L s)):=by
 obtain⟨n,k,fg,b⟩:=s;refine BQ (Ax (aC:=⟨[s7],[]⟩) L2.2 ?_);by_cases c:n<0
 ·have a:Ez gR.length eg gR L ⟨n,k,fg,b⟩=false:=(by simp[Ez];omega);rw[a];simp[L2,Mg,EI,c]
 obtain⟨bm,rfl⟩:=Dp (by omega:0<=n);by_cases g:(bm:Int)>=L.length
 ·have a:Ez gR.length eg gR L ⟨bm,k,fg,b⟩=false:=(by simp[Ez];omega);rw[a];simp[L2,Mg,EI,c,g];rfl
 have e:bm<L.length:=by omega
 have v:L[bm]?=some L[bm]:=AP e;have o:DC L ⟨(bm:Int),k,fg,b⟩=L[bm]:=by simp[DC,v]
 have z:L[bm].length<=1000000:=by have:=u.2 _ (Dq e);omega
 by_cases h:k<0
 ·have a:Ez gR.length eg gR L ⟨bm,k,fg,b⟩=false:=(by simp[Ez];omega);rw[a];simp[L2,Mg,EI,c,g,h];rfl
 obtain⟨f,rfl⟩:=Dp (by omega:0<=k);by_cases l:(f:Int)>=L[bm].length
 ·have a:Ez gR.length eg gR L ⟨bm,f,fg,b⟩=false:=by
   unfold Ez;rw[o];simp;omega
  rw[a];simp[L2,Mg,EI,c,g,e,Bz,h,l];rfl
 have i:f<L[bm].length:=by omega
 have w:L[bm][f]?=some L[bm][f]:=AP i;by_cases j:L[bm][f]=fg
 ·by_cases A:b<0
  ·have a:Ez gR.length eg gR L ⟨bm,f,fg,b⟩=false:=by
    unfold Ez;simp;omega
   have m: ¬b>=0:=(by omega);rw[a];simp[L2,Mg,EI,c,g,e,Bz,h,l,i,j,m];rfl
  obtain⟨d,rfl⟩:=Dp (by omega:0<=b);have m:(d:Int)>=0:=(by omega);by_cases p:(d:Int)<gR.length
  ·have r:d<gR.length:=(by omega);have q:d<eg.length:=(by omega);have B:eg[d]?=some eg[d]:=AP q;have C:gR[d]?=some gR[d]:=AP r;have a:Ez gR.length eg gR L ⟨bm,f,fg,d⟩=(!decide ((d:Int)∈L[bm])&&decide (eg[d]<gR[d])):=by
    unfold Ez;rw[o];simp[e,i,j,r,q]
   rw[a];by_cases t:(d:Int)∈L[bm]
   ·simp(disch:=first|omega|simp only[DI.AB];omega)[L2,Mg,EI,c,g,e,Bz,h,l,i,j,m,p,t];rfl
   ·simp(disch:=first|omega|simp only[DI.AB];omega)[L2,Mg,EI,c,g,e,Bz,h,l,i,j,m,p,t,q];rfl
  ·have a:Ez gR.length eg gR L ⟨bm,f,fg,d⟩=false:=by
    unfold Ez;simp;omega
   rw[a];simp[L2,Mg,EI,c,g,e,Bz,h,l,i,j,m,p];rfl
 ·have a:Ez gR.length eg gR L ⟨bm,f,fg,b⟩=false:=by
   unfold Ez;rw[o];simp[w,j]
  rw[a];simp[L2,Mg,EI,c,g,e,Bz,h,l,i,j];rfl
structure H4(t:X)(s o q:Nat)(ps:List Nat)(L:List (List Int))(eg gR:List Int):Prop where
 Qo:t.Y s=some ⟨[AM o L.length 1,AM q eg.length 1,AK gR],true⟩
 Fq:E4 t o ps L
 TA:t.Y q=some ⟨eg.map Z,true⟩
 fa:s≠o
 ZS:s≠q
 ZJ:o≠q
 j8:s∉ps
 XE:q∉ps
theorem aBv(h:H4 t s o q ps L eg gR):DI.B3 9 t (AG s)=some (BX [Bf L,AK eg,AK gR] 0):=by
 have a:DI.B3 8 t (AM o L.length 1)=some (Bf L):=oG (n:=6) h.Fq;have b:DI.B3 8 t (AM q eg.length 1)=some (AK eg):=Kn (n:=7) (by rw[Jd];exact h.TA) (by simp) K7;have c:DI.B3 8 t (AK gR)=some (AK gR):=PJ rfl;have e:DI.B3 9 t (AG s)=match t.Y s with
  | some x=>(match C6 (DI.B3 8 t) x.cells with
    |some d=>some (BX d 0)
    |none=>none)
  |none=>none:=rfl
 rw[e,h.Qo];simp only[jI,yl,a,b,c]
def N3(eg:List Int)(d:Nat)(fg:Int):List Int:=
 let a:=eg.set d (eg.getD d 0+1)
 if 0<=fg then a.set fg.toNat (a.getD fg.toNat 0-1)else a
def LP(t:X)(p q bm f d:Nat)(fg:Int)(L:List (List Int))(eg:List Int):X:=
 (((t.AE 1).A1 t.ac (some ⟨EI ⟨bm,f,fg,d⟩,true⟩)).A1 p (some ⟨((L.getD bm []).set f (d:Int)).map Z,true⟩)).A1 q (some ⟨(N3 eg d fg).map Z,true⟩)
theorem Kl{l:List B}{x:B}(h:l[i]?=some x):List.take 1 (List.drop i l)=[x]:=by have a:=(Ae.1 h).1;rw[Ht a,(Ae.1 h).2];rfl
theorem aCe(h:H4 t s o q ps L eg gR)(l:bm<L.length)(m:f<(L.getD bm []).length)(j:d<eg.length)(Y:fg<eg.length)(k:ps[bm]?=some p)(hb: ∀x∈eg,0<=x/\x<=10000000)
 (R: ∀g:Nat,fg=(g:Int)->1<=(eg.set d (eg.getD d 0+1)).getD g 0):
 Bh V 94 [AG s,.agg (EI ⟨bm,f,fg,d⟩).toArray] t λv aA=>v= .tuple #[]/\aA=LP t p q bm f d fg L eg:=by
 refine Ax (aC:=⟨[],[]⟩) VH.2 ?_;have r:L[bm]?=some L[bm]:=AP l;have C:L.getD bm []=L[bm]:=by simp[r]
 rw[C]at m;have u:=h.Qo;have w:=h.Fq.Dk;have y:=h.Fq.Ds bm p _ k r;have z:=h.TA;have A1:=E u;have A2:=E w;have A3:=E y;have A4:=E z;have G:List.take 1 (List.drop bm (D7 ps L))=[AM p L[bm].length 1]:=Kl (by rw[D7,GH l,Kb k r]);have J:bm+1<=(D7 ps L).length:=by simp[D7];omega
 have A5:List.take 1 (List.drop f (L[bm].map Z))=[Z L[bm][f]]:=Kl (by simp[m]);have K:List.take 1 (List.drop d (eg.map Z))=[Z eg[d]]:=Kl (by simp[j]);have A6:=hb _ (Dq j);have M:IntKind.i64.wrap (eg[d]+1)=eg[d]+1:=Ac (by omega) (by omega);have S: ¬s=p:= λe=>h.j8 (e▸B5 k);have T: ¬q=p:= λe=>h.XE (e▸B5 k);have U: ¬o=p:= λe=>h.Fq.F7 (e▸B5 k);have A7: ¬p=s:= λe=>S e.symm;have A8: ¬p=q:= λe=>T e.symm;have A9: ¬p=o:= λe=>U e.symm;have AA:=h.fa;have AD:=h.ZS;have AE:=h.ZJ;have AF:=h.fa.symm;have AI:=h.ZS.symm;have AJ:=h.ZJ.symm;have N:((L.getD bm []).set f (d:Int)).map Z=(L[bm].map Z).set f (Z d):=by rw[C,Nx]
 have O:eg.getD d 0=eg[d]:=by simp[j]
 have n:(eg.set d (eg.getD d 0+1)).map Z=(eg.map Z).set d (Z (eg[d]+1)):=by rw[O,Nx]
 by_cases c:fg>=0
 ·obtain⟨g,rfl⟩:=Dp c;have P:g<eg.length:=(by omega);obtain⟨a,b⟩: ∃a,a=eg.set d (eg.getD d 0+1):=⟨_,rfl⟩;have A:g<a.length:=(by rw[b];simpa using P);have Q:a.getD g 0=a[g]:=(by simp[A]);have AK:1<=a[g]:=(by rw[<-Q,b];exact R g rfl);have AL:a[g]<=10000001:=by
   have i:=Dq A;simp only[b]at i;rcases Ml i with i|i
   ·simp only[b];have:=hb _ i;omega
   ·simp only[b];rw[i,O];omega
  rw[<-b]at n;have W:List.take 1 (List.drop g ((eg.map Z).set d (Z (eg[d]+1))))=[Z a[g]]:=(by rw[<-n];exact Kl (by simp[A]));have X:IntKind.i64.wrap (a[g]-1)=a[g]-1:=Ac (by omega) (by omega);have B:(N3 eg d (g:Int)).map Z=((eg.map Z).set d (Z (eg[d]+1))).set g (Z (a[g]-1)):=by rw[<-n,<-Nx];unfold N3;simp only[<-b,Dx,Q];rw[if_pos (by omega)]
  simp(disch:=first|omega|simp only[DI.AB];omega)[VH,jK,EI,u,w,y,z,G,J,K,M,l,m,j,c,P,W,X,-H,-D,-I,-F,-List.map_map];refine⟨by omega,by omega,by omega,?_⟩;unfold LP;rw[N,B];rfl
 ·have B:(N3 eg d fg).map Z=(eg.map Z).set d (Z (eg[d]+1)):=by
   rw[<-n];unfold N3;simp only;rw[if_neg (by omega)]
  simp(disch:=first|omega|simp only[DI.AB];omega)[VH,jK,EI,u,w,y,z,G,J,K,M,l,m,j,c,-H,-D,-I,-F,-List.map_map];refine⟨by omega,by omega,?_⟩;unfold LP;rw[N,B];rfl
theorem ky{b:Nat}(h:b<t.ac)(a:b≠p)(c:b≠q):(LP t p q bm f d fg L eg).Y b=t.Y b:=by unfold LP;rw[A6 c,A6 a,A6 (by omega),Ab h]
theorem aCl:(N3 eg d fg).length=eg.length:=by unfold N3;simp only;split<;>simp
theorem H4.step(h:H4 t s o q ps L eg gR)(g:bm<L.length)(a:ps[bm]?=some p):H4 (LP t p q bm f d fg L eg) s o q ps (EX L bm f d) (N3 eg d fg) gR:=by
 have k:L[bm]?=some L[bm]:=AP g;have c:=B5 a;have l:s≠p:= λe=>h.j8 (e▸c);have m:q≠p:= λe=>h.XE (e▸c);have n:o≠p:= λe=>h.Fq.F7 (e▸c);have w:=E h.TA;have x:=E (h.Fq.Ds bm p _ a k);refine⟨?_,h.Fq.set g a (ky (E h.Fq.Dk) n h.ZJ) (λb hb r=> ?_) ?_,?_,h.fa,h.ZS,h.ZJ,h.j8,h.XE⟩
 ·rw[ky (E h.Qo) l h.ZS,h.Qo,Q8,aCl]
 ·have u:b<t.ac:=by
   obtain⟨j,i,e⟩:=E5 hb;have v:j<L.length:=(by rw[<-h.Fq.len];exact i);exact E (h.Fq.Ds j b _ (by rw[<-e];exact AP i) (AP v))
  exact ky u r λe=>h.XE (e▸hb)
 ·unfold LP;rw[A6 m.symm,AR (by simp;omega)]
 ·unfold LP;rw[AR (by simp;omega)]
theorem yJ{l c:List Int}(h:l.map Z=c.map Z):l=c:=List.map_inj_right (λa b e=>by simpa using e)|>.1 h
theorem H4.inj{d g:List Int}(h:H4 t s o q ps L eg gR)(c:H4 t s o q ps C d g):L=C/\eg=d:=by
 constructor
 ·have j:L.length=C.length:=h.Fq.len.symm.trans c.Fq.len;refine Lu j λi e k=> ?_;have f:i<ps.length:=(by rw[h.Fq.len];exact e);have a:=h.Fq.Ds i _ _ (AP f) (AP e);have b:=c.Fq.Ds i _ _ (AP f) (AP k);rw[a]at b;exact yJ (by simpa using b)
 ·have a:=h.TA;rw[c.TA]at a;exact(yJ (by simpa using a)).symm
structure aE(ps:List Nat)(L:List (List Int))(eg:List Int)(bm f d:Nat)(fg:Int)(p:Nat):Prop where
 a2x:bm<L.length
 aFm:f<(L.getD bm []).length
 aLt:d<eg.length
 aBr:fg<eg.length
 ka:ps[bm]?=some p
 hb: ∀x∈eg,0<=x/\x<=10000000
 aHZ: ∀g:Nat,fg=(g:Int)->1<=(eg.set d (eg.getD d 0+1)).getD g 0
structure rn where
 L:List (List Int)
 dF:List Int
 a8U:List Int
 cf:Nat
 f:Nat
 d:Nat
 Em:Int
 p:Nat
open Classical in
def Ui(s o q:Nat)(ps:List Nat):Cp V:=
 ⟨94,λe t=>if h: ∃x:rn,H4 t s o q ps x.L x.dF x.a8U/\aE ps x.L x.dF x.cf x.f x.d x.Em x.p/\[AG s,.agg (EI ⟨x.cf,x.f,x.Em,x.d⟩).toArray]=e then some (.tuple #[],LP t h.choose.p q h.choose.cf h.choose.f h.choose.d h.choose.Em h.choose.L h.choose.dF)else none,λe t l aA h a7 g=>by
  split at h
  ·next i=>cases h;obtain⟨j,c,k⟩:=i.choose_spec;have:=aCe j c.a2x c.aFm c.aLt c.aBr c.ka c.hb c.aHZ;rw[k]at this;exact this.AD λv aA ⟨a,b⟩=>by rw[a,b];exact g
  ·cases h⟩
@[simp] theorem aJ2:(Ui s o q ps).f=94:=rfl
theorem yq(h:H4 t s o q ps L eg gR)(b:aE ps L eg bm f d fg p)(m:k (.tuple #[]) (LP t p q bm f d fg L eg)):
 Y3 ((Ui s o q ps).fn [AG s,.agg #[Z bm,Z f,Z fg,Z d]] t) k:=by
 have a: ∃x:rn,H4 t s o q ps x.L x.dF x.a8U/\aE ps x.L x.dF x.cf x.f x.d x.Em x.p/\[AG s,.agg (EI ⟨x.cf,x.f,x.Em,x.d⟩).toArray]=[AG s,.agg #[Z bm,Z f,Z fg,Z d]]:=⟨⟨L,eg,gR,bm,f,d,fg,p⟩,h,b,rfl⟩;have c:=a.choose_spec;simp only[Ui,dif_pos a];generalize a.choose=x at c⊢;obtain⟨n,e,g⟩:=c;obtain⟨i,j⟩:=n.inj h;obtain⟨C,y,z,r,u,v,A,B⟩:=x;simp[EI]at g;simp only at i j e;obtain⟨D,E,w,F⟩:=g;obtain rfl:r=bm:=by omega
 obtain rfl:u=f:=by omega
 obtain rfl:v=d:=by omega
 subst i j w;have l:=e.ka;rw[b.ka]at l;cases l;exact m
end Go.Proofs.YtmmkkggfmigppaaGreat
end
