/-
  A part of the proof of the statement, in texts that tools of ours (wip/shrink.py, irpack.py, relax.py, minify.py, join.py, lay.py) have shortened.
-/
import Derived.Test.YtkpifdkccdndcaaGreatZaq
set_option linter.all false
set_option maxRecDepth 8000
set_option maxHeartbeats 16000000
namespace Go.Big
def zL(n:Nat)(x:aV):Nat:=if n<400 then n+x.a.length+x.b.length else n
def jA(l:List aV):Nat:=l.foldl zL l.length
def zT(n:Nat)(l:List aV):Nat:=if n<400 then n+jA l else n
def BJ(l:List (List aV)):Nat:=l.foldl zT l.length
theorem apU{n:Nat}(h: ¬n<400): ∀{l:List aV},l.foldl zL n=n
  |[]=>rfl
  |x::l=>by rw[qN,zL,if_neg h,apU h]
theorem ap5{n:Nat}(h: ¬n<400): ∀{l:List (List aV)},l.foldl zT n=n
  |[]=>rfl
  |x::l=>by rw[qN,zT,if_neg h,ap5 h]
theorem apS: ∀{l:List aV} {n:Nat},n<=l.foldl zL n
  |[],n=>eB n
  | x::l,n=>by rw[qN];refine nC ?_ (apS (l:=l));unfold zL;split<;>omega
theorem ap3: ∀{l:List (List aV)} {n:Nat},n<=l.foldl zT n
  |[],n=>eB n
  | x::l,n=>by rw[qN];refine nC ?_ (ap3 (l:=l));unfold zT;split<;>omega
def aV.ahb(x:aV):Prop:=x.a.length<=140737488355328/\x.b.length<=140737488355328
def wc(l:List aV):Prop:=l.length<=140737488355328/\ ∀x∈l,x.ahb
theorem apT: ∀{l:List aV} {n:Nat},(∀x∈l,x.ahb)->n<=281474976711056->l.foldl zL n<=281474976711056
  |[],n,_,h=>h
  | x::l,n,F,h=>by rw[qN];refine apT (λy ab=>F y (by simp[ab])) ?_;obtain⟨B,H⟩:=F x (by simp);unfold zL;split<;>omega
theorem Gv{l:List aV}(h:wc l):jA l<=281474976711056:=apT h.2 (by have:=h.1;omega)
theorem ad7{l:List aV}:l.length<=jA l:=apS
theorem ap4: ∀{l:List (List aV)} {n:Nat},(∀x∈l,wc x)->n<=281474976711456->l.foldl zT n<=281474976711456
  |[],n,_,h=>h
  | x::l,n,F,h=>by rw[qN];refine ap4 (λy ab=>F y (by simp[ab])) ?_;have:=Gv (F x (by simp));unfold zT;split<;>omega
theorem aHr{l:List (List aV)}(h:l.length<=140737488355328)(F: ∀x∈l,wc x):BJ l<=281474976711456:=ap4 F (by omega)
theorem aHq{l:List (List aV)}:l.length<=BJ l:=ap3
end Go.Big
namespace Go.Proofs.YtkpifdkccdndcaaGreat
open Go Go.DI Go.Big
theorem aGT{l:List aV}(K:wc l){Q:dp->aM->E->Prop}: ∀(dX:List aV) (i bX:Nat) (u:aM) (t:E),l.drop i=dX->i+dX.length=l.length->bX<=281474976711056->u 0=dQ l->u 3=X bX->u 4=X i->
    (∀ae bu,ae 3=X (dX.foldl zL bX:Nat)->Q (.bw 0) ae bu)->gD Z (.loop NP) u t Q:=by
  intro dX;induction dX with
  | nil=>intro i bX u t ay ag hv b1 bA fv a1;refine ru (a0:=⟨[],[]⟩) λcp aZ=> ?_;have e:i=l.length:=(by simpa using ag);subst e;simp[NP,T1,b1,fv];exact a1 _ _ (by simp[bA])
  | cons x dX cB=>
    intro i bX u t ay ag hv b1 bA fv a1;refine ru (a0:=⟨[],[]⟩) λcp aZ=> ?_;have F:l[i]?=some x:=(by rw[<-xu,ay];rfl);have nm:l.drop (i+1)=dX:=(by rw[<-yK,ay];rfl);simp only[nB]at ag;have jJ:i<l.length:=(by omega);have lH:l[i]=x:=(by rw[c0 jJ]at F;exact Ch F);have bn:(i:Int)<l.length:=(by omega);have QX:=K.1;have bc:=e7 (n:=i) (by omega);obtain⟨B,H⟩:=K.2 x (fT F);by_cases aL:bX<400
    · have lh:(bX:Int)<400:=(by omega);have da:IntKind.i64.wrap ((bX:Int)+(x.a.length:Int))=(bX:Int)+(x.a.length:Int):=fo (by omega) (by omega);have fB:IntKind.i64.wrap ((bX:Int)+(x.a.length:Int)+(x.b.length:Int))=(bX:Int)+(x.a.length:Int)+(x.b.length:Int):=fo (by omega) (by omega);simp(disch:=first|omega|simp only[b3];omega) [NP,T1,b1,bA,fv,bn,lh,bc,da,fB,lH,ec,-ao,-aB,-ai,-au,-List.map_map];refine aZ _ _ (cB (i+1) (bX+x.a.length+x.b.length) _ _ nm (by omega) (by omega) (by simp[b1]) (by simp) (by simp) λae bu h=>a1 ae bu ?_);rw[h,qN,zL,if_pos aL]
    · have lh: ¬(bX:Int)<400:=(by omega);simp[NP,T1,b1,bA,fv,bn,lh];exact a1 _ _ (by rw[qN,zL,if_neg aL,apU aL];simp[bA])
theorem aGU{l:List aV}(K:wc l):c4 Z 6 [dQ l] (X (jA l:Nat)):=by refine gR (ga (a0:=⟨[],[]⟩) aEC (by kernel_rfl) (by simp[acT]) ?_);have aE:=K.1;simp[acT,aoE,aoF,aoG];refine aGT K l 0 l.length _ _ rfl (by simp) (by omega) (by simp) (by simp) (by simp) λae bu h=> ?_;simp[aoH,h];rfl
noncomputable def D8:cf Z:= .ek 6 (List aV) wc (λl=>[dQ l]) (λl=>X (jA l:Nat)) λ_ h=>aGU h
@[simp] theorem aWW:D8.f=6:=rfl
@[simp] theorem arK{l:List aV}(h:wc l):D8.fn [aQ (l.map ec) 3]=some (X (jA l:Nat)):=cf.eP (x:=l) h λy ab=>by simpa using ab
theorem aHs{l:List (List aV)}(aE:l.length<=140737488355328)(K: ∀x∈l,wc x){Q:dp->aM->E->Prop}: ∀(dX:List (List aV)) (i bX:Nat) (u:aM) (t:E),l.drop i=dX->i+dX.length=l.length->bX<=281474976711456->u 0=oF l->u 3=X bX->u 4=X i->
    (∀ae bu,ae 3=X (dX.foldl zT bX:Nat)->Q (.bw 0) ae bu)->gD Z (.loop NT) u t Q:=by
  intro dX;induction dX with
  | nil=>intro i bX u t ay ag hv b1 bA fv a1;refine ru (a0:=⟨[],[]⟩) λcp aZ=> ?_;have e:i=l.length:=(by simpa using ag);subst e;simp[NT,T8,b1,fv];exact a1 _ _ (by simp[bA])
  | cons x dX cB=>
    intro i bX u t ay ag hv b1 bA fv a1;refine ru (a0:=⟨[D8],[]⟩) λcp aZ=> ?_;have F:l[i]?=some x:=(by rw[<-xu,ay];rfl);have nm:l.drop (i+1)=dX:=(by rw[<-yK,ay];rfl);simp only[nB]at ag;have jJ:i<l.length:=(by omega);have lH:l[i]=x:=(by rw[c0 jJ]at F;exact Ch F);have bn:(i:Int)<l.length:=(by omega);have bc:=e7 (n:=i) (by omega);have vB:=K x (fT F);have fM:=Gv vB;by_cases aL:bX<400
    · have lh:(bX:Int)<400:=(by omega);have da:IntKind.i64.wrap ((bX:Int)+(jA x:Int))=(bX:Int)+(jA x:Int):=fo (by omega) (by omega);simp(disch:=first|omega|simp only[b3];omega) [NT,T8,b1,bA,fv,bn,lh,bc,da,lH,-ao,-aB,-ai,-au,-List.map_map];refine aZ _ _ (cB (i+1) (bX+jA x) _ _ nm (by omega) (by omega) (by simp[b1]) (by simp) (by simp) λae bu h=>a1 ae bu ?_);rw[h,qN,zT,if_pos aL]
    · have lh: ¬(bX:Int)<400:=(by omega);simp[NT,T8,b1,bA,fv,bn,lh];exact a1 _ _ (by rw[qN,zT,if_neg aL,ap5 aL];simp[bA])
theorem aHt{l:List (List aV)}(aE:l.length<=140737488355328)(K: ∀x∈l,wc x):c4 Z 7 [oF l] (X (BJ l:Nat)):=by refine gR (ga (a0:=⟨[],[]⟩) aFe (by kernel_rfl) (by simp[adg]) ?_);simp[adg,aoO,aoP,aoQ];refine aHs aE K l 0 l.length _ _ rfl (by simp) (by omega) (by simp) (by simp) (by simp) λae bu h=> ?_;simp[aoR,h];rfl
noncomputable def afU:cf Z:= .ek 7 (List (List aV)) (λl=>l.length<=140737488355328/\ ∀x∈l,wc x) (λl=>[oF l]) (λl=>X (BJ l:Nat)) λ_ h=>aHt h.1 h.2
@[simp] theorem aW4:afU.f=7:=rfl
@[simp] theorem aW5{l:List (List aV)}(h:l.length<=140737488355328/\ ∀x∈l,wc x):afU.fn [aQ (l.map λr=>[dQ r]) 1]=some (X (BJ l:Nat)):=cf.eP (x:=l) h λy ab=>by simpa using ab
end Go.Proofs.YtkpifdkccdndcaaGreat
namespace Go.Big
structure dY.raw(x:dY):Prop where
  s: ∀r∈x.s,r.bD
  bf: ∀l∈x.bf,∀r∈l,r.bD
  e: ∀r∈x.e,r.bD
  r3:x.s.length<=140737488355328
  r2:x.bf.length<=140737488355328
  rZ:x.e.length<=140737488355328
  r1: ∀l∈x.bf,l.length<=140737488355328
theorem aMz{x:aV}(h:x.bD):x.ahb:=⟨by have:=h.2.2.1;omega,by have:=h.2.2.2;omega⟩
theorem Em{l:List aV}(h: ∀x∈l,x.bD)(aE:l.length<=140737488355328):wc l:=⟨aE,λx F=>aMz (h x F)⟩
end Go.Big
namespace Go.Proofs.YtkpifdkccdndcaaGreat
open Go Go.DI Go.Big
noncomputable def afC:cf Z:= .ek 8 Unit (λ_=>True) (λ_=>[]) (λ_=> .bool true) λ_ _=>auv
@[simp] theorem aWf:afC.f=8:=rfl
@[simp] theorem aWg:afC.fn []=some (.bool true):=cf.eP (x:=()) trivial λ_ _=>rfl
theorem aGS{x y:aV}(F:x.bD)(ab:y.bD):D8.fn [aQ [ec x,ec y] 3]=some (X (jA [x,y]:Nat)):=arK (l:=[x,y]) (Em (λO cl=>by simp at cl;rcases cl with rfl|rfl<;>assumption) (by simp))
theorem aGQ{x:aV}(F:x.bD):D8.fn [aQ [ec x] 3]=some (X (jA [x]:Nat)):=arK (l:=[x]) (Em (λO cl=>by simp at cl;rcases cl with rfl;assumption) (by simp))
end Go.Proofs.YtkpifdkccdndcaaGreat
namespace Go.Big
structure hr.raw(x:hr):Prop where
  hz: ∀r∈x.hz,r.bD
  kU:x.kU.bD
  eS:x.eS.bD
  r2:x.hz.length<=140737488355328
  de:x.aR.length<=140737488355328
structure a4.raw(z:a4):Prop where
  bO: ∀x∈z.bO,x.raw
  br: ∀x∈z.br,x.ju.bD
  bT: ∀x∈z.bT,x.raw
def wD(x:dY):Nat:=jA x.s+jA x.e+BJ x.bf
def vr(x:gp):Nat:=jA [x.ju]
def uz(x:hr):Nat:=jA x.hz+jA [x.kU,x.eS]+x.aR.length
def kf{α:Type}(f:α->Nat):List α->Nat
  |[]=>0
  |x::l=>f x+kf f l
theorem asf{α:Type}{f:α->Nat}{x:α}: ∀{l:List α},kf f (l++[x])=kf f l+f x
  |[]=>by simp[kf]
  | y::l=>by show f y+kf f (l++[x])=f y+kf f l+f x;rw[asf (l:=l)];omega
theorem agJ{α:Type}{f:α->Nat}{x:α}: ∀{l:List α},x∈l->f x<=kf f l
  |[],h=>by cases h
  | y::l,h=>by
    show f x<=f y+kf f l;rcases oz.1 h with rfl|h
    · omega
    · have:=agJ (f:=f) h;omega
def G6(z:a4):Nat:=kf wD z.bO+kf vr z.br+kf uz z.bT
def oc(z:a4):Bool:=decide (10<z.bO.length)||(decide (10<z.aR.length)||(decide (50<z.br.length)||(decide (40<z.c5.length)||(decide (10<z.bT.length)||(decide (20<z.cP.length)||decide (600<G6 z))))))
end Go.Big
namespace Go.Proofs.YtkpifdkccdndcaaGreat
open Go Go.DI Go.Big
theorem agK{α:Type}{f:α->Nat}{x:α}{l:List α}{i:Nat}(F:l[i]?=some x):kf f (l.take (i+1))=kf f (l.take i)+f x:=by rw[l6 F,asf]
theorem arj{z:a4}(h:a4.raw z)(S:oc z=false):a4.dP z:=by
  unfold oc at S;simp only[Bool.or_eq_false_iff,Ew]at S;obtain⟨du,dV,p1,DQ,UX,aHE,aqm⟩:=S;unfold G6 at aqm;refine⟨λx F=> ?_,h.br,λx F=> ?_,by omega,by omega,by omega,by omega,by omega,by omega⟩
  · have aS:jA x.s+jA x.e+BJ x.bf<=kf wD z.bO:=agJ (f:=wD) F;have aH:=h.bO x F;have bh:=ad7 (l:=x.s);have bt:=ad7 (l:=x.e);have c1:=aHq (l:=x.bf);exact⟨aH.s,aH.bf,aH.e,by omega,by omega,by omega,λl aE=>by have:=aH.r1 l aE;omega⟩
  · have aS:jA x.hz+jA [x.kU,x.eS]+x.aR.length<=kf uz z.bT:=agJ (f:=uz) F;have aH:=h.bT x F;have bh:=ad7 (l:=x.hz);exact⟨⟨aH.hz,by omega⟩,aH.kU,aH.eS,by omega⟩
structure Av(z:a4)(bX:Nat)(u:aM)(t:E):Prop where
  aw:u 1=cb 0
  aJ:t.U 0=some ⟨bl z,true⟩
  bA:u 3=X bX
theorem az1{z:a4}(h:a4.raw z)(fP:z.bO.length<=10){bF:aM}{bS:E}(Y:Av z 0 bF bS)(fv:bF 4=X 0){Q:dp->aM->E->Prop}(a1: ∀u t,Av z (kf wD z.bO) u t->kf wD z.bO<=10000000000000000->Q (.bw 0) u t):gD Z (.loop Sx) bF bS Q:=by
  refine hC (a0:=⟨[D8,afU],[]⟩) (λi u t=>Av z (kf wD (z.bO.take i)) u t/\u 4=X i/\kf wD (z.bO.take i)<=i*1000000000000000) z.bO.length ?_ ?_ 0 bF bS (hf _) ⟨Y,fv,by simp[kf]⟩
  · rintro i u t ag ⟨⟨aw,aJ,bA⟩,fv,hv⟩ cp aZ;obtain⟨x,F⟩:=kS ag;have eA:=(dg.1 F).2;have aH:=h.bO _ (fT F);have M:=agK (f:=wD) F;generalize kf wD (z.bO.take i)=bX at bA hv M;have bh:=Em aH.s aH.r3;have bt:=Em aH.e aH.rZ;have c1:x.bf.length<=140737488355328/\ ∀y∈x.bf,wc y:=⟨aH.r2,λl aE=>Em (aH.bf l aE) (aH.r1 l aE)⟩;have cM:=Gv bh;have dq:=Gv bt;have jw:=aHr c1.1 c1.2;have bn:(i:Int)<z.bO.length:=(by omega);have bc:=e7 (n:=i) (by omega);have da:IntKind.i64.wrap ((bX:Int)+(jA x.s:Int))=(bX:Int)+(jA x.s:Int):=fo (by omega) (by omega);have fB:IntKind.i64.wrap ((bX:Int)+(jA x.s:Int)+(jA x.e:Int))=(bX:Int)+(jA x.s:Int)+(jA x.e:Int):=fo (by omega) (by omega);have ij:IntKind.i64.wrap ((bX:Int)+(jA x.s:Int)+(jA x.e:Int)+(BJ x.bf:Int))=(bX:Int)+(jA x.s:Int)+(jA x.e:Int)+(BJ x.bf:Int):=fo (by omega) (by omega);have et:=aO aJ;simp(disch:=first|omega|simp only[DI.aF];omega) [Sx,aaN,bl,fH,aw,bA,fv,aJ,bn,bc,da,fB,ij,eA];refine aZ _ _ ⟨⟨by simp[aw],aJ,?_⟩,by simp,?_⟩
    · rw[M];simp[wD];omega
    · rw[M];unfold wD;omega
  · rintro u t ⟨⟨aw,aJ,bA⟩,fv,hv⟩;rw[kM]at hv bA;have et:=aO aJ;simp[Sx,aaN,bl,aw,fv,aJ];exact a1 _ _ ⟨by simp[aw],aJ,by simp[bA]⟩ (by omega)
theorem az0{z:a4}(h:a4.raw z)(fP:z.br.length<=50){bB:Nat}(iz:bB<=10000000000000000){bF:aM}{bS:E}(Y:Av z bB bF bS)(cv:bF 5=X 0){Q:dp->aM->E->Prop}(a1: ∀u t,Av z (bB+kf vr z.br) u t->bB+kf vr z.br<=90000000000000000->Q (.bw 2) u t):gD Z (.loop Sy) bF bS Q:=by
  refine hC (a0:=⟨[D8],[]⟩) (λi u t=>Av z (bB+kf vr (z.br.take i)) u t/\u 5=X i/\bB+kf vr (z.br.take i)<=bB+i*1000000000000000) z.br.length ?_ ?_ 0 bF bS (hf _) ⟨Y,cv,by simp[kf]⟩
  · rintro i u t ag ⟨⟨aw,aJ,bA⟩,cv,hv⟩ cp aZ;obtain⟨x,F⟩:=kS ag;have eA:=(dg.1 F).2;have aH:=h.br _ (fT F);have M:=agK (f:=vr) F;have qm:bB+kf vr (z.br.take (i+1))=bB+kf vr (z.br.take i)+vr x:=(by omega);generalize bB+kf vr (z.br.take i)=bX at bA hv qm;have bh:=aGQ aH;simp only[ec]at bh;have cM:=Gv (l:=[x.ju]) (Em (λO cl=>by simp at cl;subst cl;exact aH) (by simp));have bn:(i:Int)<z.br.length:=(by omega);have bc:=e7 (n:=i) (by omega);have da:IntKind.i64.wrap ((bX:Int)+(jA [x.ju]:Int))=(bX:Int)+(jA [x.ju]:Int):=fo (by omega) (by omega);have et:=aO aJ;simp(disch:=first|omega|simp only[DI.aF];omega) [Sy,aaO,bl,eL,aw,bA,cv,aJ,bn,bc,da,eA,bh,ss,sS,-ao,-aB,-ai,-au,-List.map_map];refine aZ _ _ ⟨⟨by simp[aw],by simp(disch:=first|omega|simp only[DI.aF];omega) [aJ,bl,-ao,-aB,-ai,-au,-List.map_map],?_⟩,by simp,?_⟩
    · rw[qm];simp[vr]
    · rw[qm];unfold vr;omega
  · rintro u t ⟨⟨aw,aJ,bA⟩,cv,hv⟩;rw[kM]at hv bA;have et:=aO aJ;simp[Sy,aaO,bl,aw,cv,aJ];exact a1 _ _ ⟨by simp[aw],aJ,by simp[bA]⟩ (by omega)
theorem az2{z:a4}(h:a4.raw z)(fP:z.bT.length<=10){bB:Nat}(iz:bB<=90000000000000000){bF:aM}{bS:E}(Y:Av z bB bF bS)(dn:bF 6=X 0){Q:dp->aM->E->Prop}(a1: ∀u t,Av z (bB+kf uz z.bT) u t->Q (.bw 4) u t):gD Z (.loop Sz) bF bS Q:=by
  refine hC (a0:=⟨[D8],[]⟩) (λi u t=>Av z (bB+kf uz (z.bT.take i)) u t/\u 6=X i/\bB+kf uz (z.bT.take i)<=bB+i*1000000000000000) z.bT.length ?_ ?_ 0 bF bS (hf _) ⟨Y,dn,by simp[kf]⟩
  · rintro i u t ag ⟨⟨aw,aJ,bA⟩,dn,hv⟩ cp aZ;obtain⟨x,F⟩:=kS ag;have eA:=(dg.1 F).2;have aH:=h.bT _ (fT F);have M:=agK (f:=uz) F;have qm:bB+kf uz (z.bT.take (i+1))=bB+kf uz (z.bT.take i)+uz x:=(by omega);generalize bB+kf uz (z.bT.take i)=bX at bA hv qm;have fm:=Em aH.hz aH.r2;have bh:=aGS aH.kU aH.eS;simp only[ec]at bh;have dB:=Gv fm;have cM:=Gv (l:=[x.kU,x.eS]) (Em (λO cl=>by simp at cl;rcases cl with rfl|rfl;exact aH.kU;exact aH.eS) (by simp));have dq:=aH.de;have bn:(i:Int)<z.bT.length:=(by omega);have bc:=e7 (n:=i) (by omega);have da:IntKind.i64.wrap ((bX:Int)+(jA x.hz:Int))=(bX:Int)+(jA x.hz:Int):=fo (by omega) (by omega);have fB:IntKind.i64.wrap ((bX:Int)+(jA x.hz:Int)+(jA [x.kU,x.eS]:Int))=(bX:Int)+(jA x.hz:Int)+(jA [x.kU,x.eS]:Int):=fo (by omega) (by omega);have ij:IntKind.i64.wrap ((bX:Int)+(jA x.hz:Int)+(jA [x.kU,x.eS]:Int)+(x.aR.length:Int))=(bX:Int)+(jA x.hz:Int)+(jA [x.kU,x.eS]:Int)+(x.aR.length:Int):=fo (by omega) (by omega);have et:=aO aJ;simp(disch:=first|omega|simp only[DI.aF];omega) [Sz,aaP,bl,eR,aw,bA,dn,aJ,bn,bc,da,fB,ij,eA,bh,ss,sS,-ao,-aB,-ai,-au,-List.map_map];refine aZ _ _ ⟨⟨by simp[aw],by simp(disch:=first|omega|simp only[DI.aF];omega) [aJ,bl,-ao,-aB,-ai,-au,-List.map_map],?_⟩,by simp,?_⟩
    · rw[qm];simp[uz];omega
    · rw[qm];unfold uz;omega
  · rintro u t ⟨⟨aw,aJ,bA⟩,dn,hv⟩;rw[kM]at hv bA;have et:=aO aJ;simp[Sz,aaP,bl,aw,dn,aJ];exact a1 _ _ ⟨by simp[aw],aJ,by simp[bA]⟩
theorem ayM{z:a4}(h:a4.raw z):c4 Z 15 [.agg (bl z).toArray] (.bool (oc z)):=by
  refine gR (ga (a0:=⟨[],[]⟩) aC0 (by kernel_rfl) (by simp[Be]) ?_);by_cases apG:10<z.bO.length
  · have ar:oc z=true:=(by simp[oc,apG]);have Cu:(10:Int)<z.bO.length:=(by omega);simp[Be,Dj,Dk,bl,Cu,ar]
  have Cu: ¬(10:Int)<z.bO.length:=by omega
  by_cases apH:10<z.aR.length
  · have ar:oc z=true:=(by simp[oc,apH]);have EU:(10:Int)<z.aR.length:=(by omega);simp[Be,Dj,Dk,bl,Cu,EU,ar]
  have EU: ¬(10:Int)<z.aR.length:=by omega
  by_cases apE:50<z.br.length
  · have ar:oc z=true:=(by simp[oc,apE]);have Hu:(50:Int)<z.br.length:=(by omega);simp[Be,Dj,Dk,bl,Cu,EU,Hu,ar]
  have Hu: ¬(50:Int)<z.br.length:=by omega
  by_cases apF:40<z.c5.length
  · have ar:oc z=true:=(by simp[oc,apF]);have KT:(40:Int)<z.c5.length:=(by omega);simp[Be,Dj,Dk,bl,Cu,EU,Hu,KT,ar]
  have KT: ¬(40:Int)<z.c5.length:=by omega
  by_cases apI:10<z.bT.length
  · have ar:oc z=true:=(by simp[oc,apI]);have P7:(10:Int)<z.bT.length:=(by omega);simp[Be,Dj,Dk,bl,Cu,EU,Hu,KT,P7,ar]
  have P7: ¬(10:Int)<z.bT.length:=by omega
  by_cases apJ:20<z.cP.length
  · have ar:oc z=true:=(by simp[oc,apJ]);have W1:(20:Int)<z.cP.length:=(by omega);simp[Be,Dj,Dk,bl,Cu,EU,Hu,KT,P7,W1,ar]
  have W1: ¬(20:Int)<z.cP.length:=by omega
  have ar:oc z=decide (600<G6 z):=by simp only[oc,Er apG,Er apH,Er apE,Er apF,Er apI,Er apJ,Bool.false_or]
  simp[Be,Dj,Dk,al4,al5,bl,Cu,EU,Hu,KT,P7,W1];refine az1 h (by omega) ⟨by simp,by simp[bl],by simp⟩ (by simp) λcC eu Y ayq=> ?_;simp[al6];refine az0 h (by omega) ayq ⟨by simp[Y.aw],Y.aJ,by simp[Y.bA]⟩ (by simp) λev ks Y ayr=> ?_;simp[al7];refine az2 h (by omega) ayr ⟨by simp[Y.aw],Y.aJ,by simp[Y.bA]⟩ (by simp) λn2 ps Y=> ?_;obtain⟨aw,aJ,bA⟩:=Y;have e:kf wD z.bO+kf vr z.br+kf uz z.bT=G6 z:=rfl;rw[e]at bA;by_cases hv:600<G6 z
  · have XW:(600:Int)<G6 z:=(by omega);have YV:oc z=true:=(by rw[ar];simpa using hv);simp[aaQ,bA,XW,YV]
  · have XW: ¬(600:Int)<G6 z:=(by omega);have YV:oc z=false:=(by rw[ar];simpa using hv);simp[aaQ,bA,XW,YV]
end Go.Proofs.YtkpifdkccdndcaaGreat
namespace Go.DI
open Go
section
variable {P:Program} {z:iS} {W:gZ} {t m N:E}
theorem gx.aeh(M:gx W z t m)(av:m.next<=N.next)(h: ∀b,(∃o,W o=some b)\/z b≠none->N.U b=m.U b/\N.mp b=m.mp b):gx W z t N where
  lu o x F:=by
    rcases M.lu o x F with⟨b,cs,w,B,H,af,aL⟩|B
    · exact .inl ⟨b,cs,w,B,by rw[(h b (.inl ⟨o,B⟩)).1];exact H,af,aL⟩
    · exact .inr B
  jB o bJ a2:=by obtain⟨b,eE,B,H,af⟩:=M.jB o bJ a2;obtain⟨aj,ba⟩:=h b (.inl ⟨o,B⟩);obtain⟨bM,dL⟩:=j6 H;exact⟨b,eE,B,o7 (by rw[aj];exact bM) (by rw[ba];exact dL),af⟩
  lI:=M.lI
  inj:=M.inj
  fa o b K:=⟨(M.fa o b K).1,nz (M.fa o b K).2 av⟩
  bG b cs K:=by obtain⟨⟨w,B⟩,H⟩:=M.bG b cs K;exact⟨⟨w,by rw[(h b (.inr (by rw[K];simp))).1];exact B⟩,H⟩
theorem bp.aeh{ej:gZ}{dH:iS}{bu bo cc:E}{hl hV:Nat}(h:bp hl hV W z t m ej dH bu bo)(av:bo.next<=cc.next)(aq: ∀b,b<hV->cc.U b=bo.U b):bp hl hV W z t m ej dH bu cc:=
  ⟨h.e,h.f,h.mR,h.fn,h.ov,nC h.oS av,λb K aS=>by rw[aq b K];exact h.rW b K aS,h.ud,h.rC⟩
end
end Go.DI
namespace Go.Proofs.YtkpifdkccdndcaaGreat
open Go Go.DI Go.Big
noncomputable def qf(l:List ByteArray)(s:ByteArray):Bool:=pl s&&(og s l).isNone
theorem QD{l:List ByteArray}{s:ByteArray}:qf l s=if pl s then decide (C8 s l<0)else false:=by unfold qf C8;cases pl s<;>cases h:og s l<;>simp
def aty(m:E)(aG:Value)(l:List ByteArray):Prop:=(∃b,aG= .slice (some ⟨b,0,none⟩) l.length 1/\m.U b=some ⟨e3 l,true⟩)\/(aG= .slice none 0 0/\l=[])
theorem DX{l:List ByteArray}:e3 l=l.map ei:=by
  unfold e3;induction l with
  |nil=>rfl
  |cons x l cB=>rw[n0,u7,cB];rfl
theorem a1j{l:List ByteArray}:(e3 l).length=l.length:=by rw[DX,jZ]
theorem aHS{l:List ByteArray}{i:Nat}{s:ByteArray}(h:l[i]?=some s):(e3 l)[i]?=some (ei s):=by rw[DX,p6,h];rfl
theorem akz{m:E}{aG:Value}{l:List ByteArray}{s:ByteArray}(ar:(∃b w,aG= .slice (some ⟨b,0,none⟩) l.length 1/\m.U b=some ⟨e3 l,w⟩)\/(aG= .slice none 0 0/\l=[]))(av:l.length<1000000):
    bU Z 50 [aG,ei s] m λr _=>r=X (C8 s l):=by
  rcases ar with⟨b,w,rfl,K⟩|⟨rfl,rfl⟩
  · have S:cQ (λx=>if x=b then some (e3 l)else none) oi (ux l) (.slice (some ⟨b,0,none⟩) l.length 1):=by
      have:=cQ.jX (z:= λx=>if x=b then some (e3 l)else none) (W:=oi) (v:=ux l) (b:=b) (off:=0) (O:=1) (cs:=e3 l) (bW:=l.map λs=>[ei s]) rfl (by simp) (by simp[a1j]) (λi r h=>by
          simp only[p6,xq]at h;obtain⟨_,_,rfl⟩:=h;rfl) (λi j r x y B H af=>by
          simp only[p6,xq]at B;obtain⟨q,bz,rfl⟩:=B;have c6:j=0:=(by have:=(dg.1 H).1;simpa using this);subst c6;simp at H;subst H;rw[show 0+i*1+0=i by omega,aHS bz]at af;cases af;exact .dc rfl)
      simpa using this
    refine(akA av _ m _ (λc cs aK=> ?_) (b5.cons S (b5.cons (.dc rfl) b5.nil))).aD λr N h=> ?_
    · split at aK
      · next e=>cases aK;subst e;exact⟨w,K⟩
      · cases aK
    · obtain⟨_,_,dH,_,_,S⟩:=h;exact S.qs
  · refine(akA av (λ_=>none) m [.slice none 0 0,ei s] (λc cs aK=>by cases aK) (b5.cons (.jK rfl) (b5.cons (.dc rfl) b5.nil))).aD λr N h=> ?_;obtain⟨_,_,dH,_,_,S⟩:=h;exact S.qs
theorem aiQ{m:E}{aG:Value}{l:List ByteArray}{s:ByteArray}(ar:aty m aG l)(av:l.length<1000000):bU Z 113 [aG,ei s] m λr N=>r= .tuple #[.slice (some ⟨m.next+3,0,none⟩) (l.length+1) 1,.bool (qf l s)]/\
    ∃k,N=((mY ((m.bx 14).an (m.next+2) (some ⟨[ei s],true⟩)) aG).an (m.next+3) (some ⟨e3 l++[ei s],true⟩)).bx k:=by
  rw[au0 (by simp)];rcases ar with⟨b,rfl,K⟩|⟨rfl,rfl⟩
  · have qx:=aO K;have Ml:List.take l.length (e3 l)=e3 l:=fw (by rw[a1j];omega);simp[RO,ZE];rw[asY];simp(disch:=first|omega|simp only[b3];omega) [pX,DI.tZ,K,a1j];refine⟨⟨by omega,by omega⟩,?_⟩;rw[arp,KU];cases nJ:pl s
    · simp(disch:=first|omega|simp only[b3];omega) [Oc,nJ,QD,K,Ml,jI];exact⟨_,rfl⟩
    · simp[];refine(akz (.inl ⟨b,false,rfl,by simp(disch:=omega) [Ir,K,Iq]⟩) av).aD λr N aH=> ?_;subst aH;rw[KU];simp(disch:=first|omega|simp only[b3];omega) [Oc,QD,nJ,K,Ml,jI];exact⟨_,rfl⟩
  · simp[RO,ZE];rw[asY];simp[pX,DI.tZ];rw[arp,KU];cases nJ:pl s
    · simp(disch:=first|omega|simp only[b3];omega) [Oc,nJ,QD,DX];exact⟨_,rfl⟩
    · simp(disch:=first|omega|simp only[b3];omega) [];refine(akz (l:=[]) (.inr ⟨rfl,rfl⟩) av).aD λr N aH=> ?_;subst aH;rw[KU];simp(disch:=first|omega|simp only[b3];omega) [Oc,QD,nJ,DX];exact⟨_,rfl⟩
theorem aiK{z:iS}{W:gZ}: ∀{xs ys:List Value},b5 z W xs ys->(∀x∈xs,∃s,x=ei s)->ys=xs
  |[],ys,h,_=>pz.1 h.1.symm
  |x::xs,[],h,_=>by have:=h.1;simp at this
  | x::xs,y::ys,h,F=>by obtain⟨s,rfl⟩:=F x (by simp);have bH:=(h.2 0 (ei s) y rfl rfl).zp;rw[bH,aiK (xs:=xs) (ys:=ys) ⟨by simpa using h.1,λi a b p q=>h.2 (i+1) a b (by simpa using p) (by simpa using q)⟩ λO cl=>F O (by simp[cl])]
theorem aHU{l:List ByteArray}: ∀x∈e3 l,∃s,x=ei s:=by rw[DX];intro x F;obtain⟨s,_,rfl⟩:=iK.1 F;exact⟨s,rfl⟩
def kZ(o:Nat)(l:List ByteArray)(s:ByteArray)(t:E):E:=((t.bx 14).an o none).an t.next (some ⟨e3 (l++[s]),true⟩)
theorem axE{W:gZ}{z:iS}{t m eu bo:E}(M:gx W z t m)(B:eu.next=t.next+14)(H:bo.next=m.next+14):DI.uk W z eu bo t.next (m.next+3) where
  e :=by
    cases h:W t.next with
    |none=>rfl
    |some b=>have:=(M.fa _ _ h).1;omega
  b o h:=by have:=(M.fa _ _ h).2;omega
  f :=by
    cases h:z (m.next+3)with
    |none=>rfl
    |some cs=>obtain⟨⟨w,g⟩,_⟩:=M.bG _ _ h;have:=aO g;omega
  yA:=by omega
  zV:=by omega
theorem axF{o:Nat}{l:List ByteArray}{s:ByteArray}{t:E}(av:l.length<1000000)(ah:t.U o=some ⟨e3 l,true⟩){aI:Value->E->Prop}
    (oN:aI (.tuple #[.slice (some ⟨t.next,0,none⟩) (l.length+1) 1,.bool (qf l s)]) (kZ o l s t)):iE Z 113 [.slice (some ⟨o,0,none⟩) l.length 1,ei s] t aI:=by
  intro W z fl m M aC;obtain⟨aG,w,rfl,B,H⟩:=aC.Kc;have bg:=H.zp;subst bg;have cK:=aO ah;have nn:=ahM M 14;have pQ:(t.bx 14).U o=some ⟨e3 l,true⟩:=by rw[DI.gm cK];exact ah
  have ajo:e3 (l++[s])=e3 l++[ei s]:=BN;have lU: ∀{W:gZ},b5 z W (e3 (l++[s])) (e3 l++[ei s]):=by rw[ajo,<-ajo,DX];exact b5.dc (by simp[fy])
  have b8: ∀c,((∃p,ke W t.next (m.next+3) p=some c)\/z c≠none)->c=m.next+3\/(c<m.next/\((∃p,W p=some c)\/z c≠none)):=by
    rintro c (⟨p,Y⟩|aK)
    · unfold ke at Y;split at Y
      · cases Y;exact .inl rfl
      · exact .inr ⟨(M.fa _ _ Y).2,.inl ⟨p,Y⟩⟩
    · obtain⟨cs,dD⟩:=Option.ne_none_iff_exists'.1 aK;obtain⟨⟨w,g⟩,_⟩:=M.bG _ _ dD;exact .inr ⟨aO g,.inr aK⟩
  have lg: ∀(bB:E) (k:Nat) (hs:E),bB.next=m.next+14->bB.mp=m.mp->(∀c,c<m.next->hs.U c=bB.U c)->hs.next=bB.next+k->hs.mp=bB.mp->hs.U (m.next+3)=some ⟨e3 l++[ei s],true⟩->
      gx W z ((t.bx 14).an o none) bB->DI.bp t.next m.next W z t m W z ((t.bx 14).an o none) bB->
      ∃ej dH r bu,aI r bu/\gx ej dH bu hs/\cQ dH ej r (.tuple #[.slice (some ⟨m.next+3,0,none⟩) (l.length+1) 1,.bool (qf l s)])/\DI.bp t.next m.next W z t m ej dH bu hs:=by
    intro bB k hs aj ba cD fs iU mc wB Fc;have sy:=axE (eu:=(t.bx 14).an o none) (bo:=bB) M rfl aj;have bC:=U1 wB sy lU;have cq:DI.bp t.next m.next W z t m (ke W t.next (m.next+3)) z (kZ o l s t) (bB.an (m.next+3) (some ⟨e3 l++[ei s],true⟩)):=Fc.trans (aqp sy (eB _) (by omega))
    refine⟨_,z,_,kZ o l s t,oN,bC.aeh (by rw[BL];omega) (λc aK=> ?_),b5.tuple (b5.cons (.slice (by simp[ke])) (b5.cons (.dc rfl) b5.nil)),cq.aeh (by rw[BL];omega) (λc aK=> ?_)⟩
    · rcases b8 c aK with rfl|⟨aK,_⟩
      · rw[cW (by omega),mc];exact⟨rfl,by rw[iU];rfl⟩
      · rw[dC (by omega),cD c aK,iU];exact⟨rfl,rfl⟩
    · rw[dC (by omega),cD c aK]
  rcases B.rU with⟨b,K,_,rfl⟩|⟨_,_,bH,rfl⟩
  · have aN:m.U b=some ⟨e3 l,true⟩:=by
      rcases M.lu o _ ah with⟨b7,cs,w,af,aL,cm,dK⟩|⟨af,_⟩
      · rw[K]at af;cases af;rw[aL,cm rfl,aiK dK aHU]
      · rw[K]at af;cases af
    have qx:=aO aN;refine(aiQ (.inl ⟨b,rfl,aN⟩) av).aD λhy N ⟨aH,k,rN⟩=> ?_;subst aH;subst rN;refine lg ((m.bx 14).an b none) k _ rfl rfl (λc aK=> ?_) rfl rfl ?_ (apz nn K pQ rfl) ((WS M 14).trans (ag0 nn K pQ rfl))
    · rw[E.gm,dC (by omega)];by_cases e:c=b
      · subst e;show(((m.bx 14).an (m.next+2) _).an c none).U c=_;rw[cW (by simp;omega),cW (by simp;omega)]
      · show(((m.bx 14).an (m.next+2) _).an b none).U c=_;rw[dC e,dC e,dC (by omega)]
    · rw[E.gm,cW];show m.next+3<m.next+14
      omega
  · obtain rfl:l=[]:=pz.1 bH;refine(aiQ (.inr ⟨rfl,rfl⟩) av).aD λhy N ⟨aH,k,rN⟩=> ?_;subst aH;subst rN;refine lg (m.bx 14) k _ rfl rfl (λc aK=> ?_) rfl rfl ?_ (ait nn) ((WS M 14).trans aiq)
    · rw[E.gm,dC (by omega)];show((m.bx 14).an (m.next+2) _).U c=_;rw[dC (by omega)]
    · rw[E.gm,cW];show m.next+3<m.next+14
      omega
theorem aHT{l eZ:List ByteArray}:e3 l=e3 eZ↔l=eZ:=by rw[DX,DX];exact GD λa b h=>by cases h;rfl
open Classical in
noncomputable def Li(o n:Nat)(s:ByteArray)(t:E)(x:Option fV):Option (Value×E):=
  if h: ∃l:List ByteArray,l.length=n/\n<1000000/\x=some ⟨e3 l,true⟩then some (.tuple #[.slice (some ⟨t.next,0,none⟩) (n+1) 1,.bool (qf h.choose s)],kZ o h.choose s t)else none
@[simp] theorem aQR{o:Nat}{s:ByteArray}{t:E}{l:List ByteArray}(h:l.length<1000000):
    Li o l.length s t (some ⟨e3 l,true⟩)=some (.tuple #[.slice (some ⟨t.next,0,none⟩) (l.length+1) 1,.bool (qf l s)],kZ o l s t):=by
  have F: ∃eZ:List ByteArray,eZ.length=l.length/\l.length<1000000/\some (⟨e3 l,true⟩:fV)=some ⟨e3 eZ,true⟩:=⟨l,rfl,h,rfl⟩;have aK:F.choose=l:=by have:=congrArg (λx:Option fV=>(x.map fV.cells).getD []) F.choose_spec.2.2;exact(aHT.1 this).symm
  simp only[Li,dif_pos F,aK]
noncomputable def C7:ly Z:= .ek 113 (Nat×Nat×ByteArray) (λ⟨o,n,s⟩=>[.slice (some ⟨o,0,none⟩) n 1,ei s])
  (λ⟨o,n,s⟩ t=>Li o n s t (t.U o))
  λ⟨o,n,s⟩ t r bu h aI oN=>by
    simp only[Li]at h;split at h
    · next F=>cases h;obtain⟨B,H,af⟩:=F.choose_spec;generalize F.choose=l at B af oN;subst B;exact axF H af oN
    · cases h
@[simp] theorem aSo:C7.f=113:=rfl
@[simp] theorem aSp{o n:Nat}{s:ByteArray}{t:E}:C7.fn [.slice (some ⟨o,0,none⟩) n 1,ei s] t=Li o n s t (t.U o):=
  ly.eP (x:=(o,n,s)) (t:=t) λ⟨gk,h6,px⟩ ab=>by simp at ab;obtain⟨⟨rfl,rfl⟩,rfl⟩:=ab;rfl
theorem Pl:fS []=true:=by simp[fS]
theorem yB{l:List ByteArray}{s:ByteArray}:fS (l++[s])=(fS l&&qf l s):=by
  rw[Bool.eq_iff_iff];unfold fS qf;have B:(og s l).isNone=true↔s∉l:=by
    constructor
    · intro h aN;have:=aeg aN;rw[Ev]at h;exact this h
    · intro h;rw[akv h];rfl
  simp only[bK,fU,xt,EB,B,uh,List.all_nil,and_true];constructor
  · rintro⟨⟨a,b⟩,c,_,d⟩;exact⟨⟨a,c⟩,b,λaN=>d s aN s (by simp) rfl⟩
  · rintro⟨⟨a,c⟩,b,d⟩;exact⟨⟨a,b⟩,c,by simp,λx F y ab=>by simp at ab;subst ab;exact λe=>d (e▸F)⟩
theorem asC{l eZ:List ByteArray}(h:fS (l++eZ)=true):fS l=true:=by unfold fS at*;simp only[bK,fU,xt,EB]at*;exact⟨h.1.1,h.2.1⟩
def z9:List Nat:=[1,3,4,5,6,7,17,18]
theorem Ee{u ae:aM}(B:ae 1=u 1)(af:ae 3=u 3)(aL:ae 4=u 4)(cm:ae 5=u 5)(dK:ae 6=u 6)(hh:ae 7=u 7)(iV:ae 17=u 17)(mf:ae 18=u 18): ∀k∈z9,ae k=u k:= λk aa=>by simp only[z9,oz,wi,or_false]at aa;rcases aa with rfl|rfl|rfl|rfl|rfl|rfl|rfl|rfl<;>assumption
theorem B6{u ae ato:aM}(h: ∀k∈z9,ae k=u k)(b6: ∀k∈z9,ato k=ae k): ∀k∈z9,ato k=u k:= λk aa=>(b6 k aa).trans (h k aa)
theorem aKB{x:hr}{q j:Nat}{v:Int}{b:Bool}{bF:aM}{bS:E}(S:x.aR[j]?=some v)(fN:x.aR.length<1000000)(me:bS.U q=some ⟨eR x,true⟩)(mF:bF 18=cb q)(m3:bF 19=X j)(rp:bF 20=X 0)(ch:bF 8= .bool b)
    {Q:dp->aM->E->Prop} (a1: ∀u,(∀k∈z9,u k=bF k)->u 19=bF 19->u 8= .bool (b&&decide (v∉x.aR.take j))->Q (.bw 12) u bS):gD Z (.loop Jj) bF bS Q:=by
  have c6:j<x.aR.length:=(dg.1 S).1;have bC:(j:Int)<x.aR.length:=by omega
  have akk:=(dg.1 S).2;refine hC (a0:=⟨[],[]⟩) (λk u t=>t=bS/\(∀k∈z9,u k=bF k)/\u 19=X j/\u 20=X k/\u 8= .bool (b&&decide (v∉x.aR.take k))) j ?_ ?_ 0 bF bS (hf _) ⟨rfl,λ_ _=>rfl,m3,rp,by simp[ch]⟩
  · rintro k u t aa ⟨rfl,M,sX,OV,hk⟩ cp aZ;have F:x.aR[k]?=some x.aR[k]:=c0 (by omega);have bc:=e7 (n:=k) (by omega);have bn:(k:Int)<j:=(by omega);have cq:(k:Int)<x.aR.length:=(by omega);have B0:u 18=cb q:=(M 18 (by decide)).trans mF;have K:(b&&decide (v∉x.aR.take (k+1)))=((b&&decide (v∉x.aR.take k))&& !decide (x.aR[k]=v)):=by
      rw[l6 F,Bool.eq_iff_iff];simp only[bK,fU,mM,Aj,Ak,Ew,not_or];constructor
      · rintro⟨a,c,d⟩;exact⟨⟨a,c⟩,λe=>d e.symm⟩
      · rintro⟨⟨a,c⟩,d⟩;exact⟨a,c,λe=>d e.symm⟩
    obtain⟨a9,dt⟩: ∃a9,a9=(b&&decide (v∉x.aR.take k)):=⟨_,rfl⟩;rw[<-dt]at hk K;cases a9
    · simp(disch:=first|omega|simp only[b3];omega) [Jj,NO,sX,OV,hk,bn,bc,-ao,-aB,-ai,-au,-List.map_map];exact aZ _ _ ⟨rfl,B6 M (Ee (by simp) (by simp) (by simp) (by simp) (by simp) (by simp) (by simp) (by simp)),by simp[sX],by simp,by rw[K];simp⟩
    · by_cases e:x.aR[k]=v
      · simp(disch:=first|omega|simp only[b3];omega) [Jj,NO,eR,B0,sX,OV,hk,me,bn,bC,cq,bc,akk,e,-ao,-aB,-ai,-au,-List.map_map];exact aZ _ _ ⟨rfl,B6 M (Ee (by simp) (by simp) (by simp) (by simp) (by simp) (by simp) (by simp) (by simp)),by simp[sX],by simp,by rw[K];simp[e]⟩
      · simp(disch:=first|omega|simp only[b3];omega) [Jj,NO,eR,B0,sX,OV,hk,me,bn,bC,cq,bc,akk,e,-ao,-aB,-ai,-au,-List.map_map];exact aZ _ _ ⟨rfl,B6 M (Ee (by simp) (by simp) (by simp) (by simp) (by simp) (by simp) (by simp) (by simp)),by simp[sX],by simp,by rw[K];simp[e]⟩
  · rintro u t ⟨rfl,M,sX,OV,hk⟩;have B0:u 18=cb q:=(M 18 (by decide)).trans mF;simp(disch:=first|omega|simp only[b3];omega) [Jj,NO,sX,OV,-ao,-aB,-ai,-au,-List.map_map];exact a1 _ (B6 M (Ee (by simp) (by simp) (by simp) (by simp) (by simp) (by simp) (by simp) (by simp))) (by simp[sX,m3]) (by simp[hk])
def rX(hG:List Int)(n:Nat):Bool:=(hG.all λm=>eG m 0 ((n:Int)-1))&&decide hG.Nodup
theorem aHw{hG:List Int}{n:Nat}{v:Int}:rX (hG++[v]) n=(rX hG n&&(eG v 0 ((n:Int)-1)&&decide (v∉hG))):=by
  rw[Bool.eq_iff_iff];simp only[rX,bK,fU,xt,EB,uh,List.all_nil,and_true];constructor
  · rintro⟨⟨a,b⟩,c,_,d⟩;exact⟨⟨a,c⟩,b,λaN=>d v aN v (by simp) rfl⟩
  · rintro⟨⟨a,c⟩,b,d⟩;exact⟨⟨a,b⟩,c,by simp,λx F y ab=>by simp at ab;subst ab;exact λe=>d (e▸F)⟩
theorem aHv{a b:List Int}{n:Nat}(h:rX (a++b) n=true):rX a n=true:=by simp only[rX,bK,fU,xt,EB]at*;exact⟨h.1.1,h.2.1⟩
theorem aKC{z:a4}(aH:a4.dP z){x:hr}{q:Nat}{b:Bool}{bF:aM}{bS:E}(fN:x.aR.length<1000000)(aJ:bS.U 0=some ⟨bl z,true⟩)(me:bS.U q=some ⟨eR x,true⟩)(aw:bF 1=cb 0)(mF:bF 18=cb q)(m3:bF 19=X 0)(ch:bF 8= .bool b)
    {Q:dp->aM->E->Prop} (a1: ∀u,(∀k∈z9,u k=bF k)->u 8= .bool (b&&rX x.aR z.aR.length)->Q (.bw 10) u bS):gD Z (.loop Jk) bF bS Q:=by
  have mn:IntKind.i64.wrap ((z.aR.length:Int)-1)=(z.aR.length:Int)-1:=fo (by omega) (by have:=aH.de;omega);refine hC (a0:=⟨[v3],[]⟩) (λj u t=> ∃b7,t=bS/\(∀k∈z9,u k=bF k)/\u 19=X j/\u 8= .bool b7/\(b7=true->b=true/\rX (x.aR.take j) z.aR.length=true)/\(b7=false->(b&&rX x.aR z.aR.length)=false)) x.aR.length ?_ ?_ 0 bF bS (hf _) ⟨b,rfl,λ_ _=>rfl,m3,ch,λh=>⟨h,by simp[rX]⟩,λh=>by rw[h];rfl⟩
  · rintro j u t c6 ⟨b7,rfl,M,sX,hk,bm,bs⟩ cp aZ;have F:x.aR[j]?=some x.aR[j]:=c0 c6;have bc:=e7 (n:=j) (by omega);have bn:(j:Int)<x.aR.length:=(by omega);have B0:u 18=cb q:=(M 18 (by decide)).trans mF;have nv:u 1=cb 0:=(M 1 (by decide)).trans aw;cases b7
    · have bs:=bs rfl;simp(disch:=omega) [Jk,TU,TV,eR,B0,sX,hk,me,bn];exact a1 _ (B6 M (Ee (by simp) (by simp) (by simp) (by simp) (by simp) (by simp) (by simp) (by simp))) (by rw[bs];simp[hk])
    · obtain⟨K,aN⟩:=bm rfl;have X8:x.aR=x.aR.take (j+1)++x.aR.drop (j+1):=(Ex _ _).symm;have ia:=aHw (hG:=x.aR.take j) (n:=z.aR.length) (v:=x.aR[j]);rw[<-l6 F,aN,oY]at ia;obtain⟨a9,ck⟩: ∃a9,eG x.aR[j] 0 ((z.aR.length:Int)-1)=a9:=⟨_,rfl⟩;simp(disch:=first|omega|simp only[b3];omega) [Jk,TU,TV,eR,bl,nv,B0,sX,hk,me,aJ,bn,mn,ck,-ao,-aB,-ai,-au,-List.map_map];refine aKB (b:=a9) F fN me (by simp[B0]) (by simp[sX]) (by simp) (by simp) λev mV awL Qq=> ?_;rw[ck]at ia;simp[awL,sX,bc];refine aZ _ _ ⟨a9&&decide (x.aR[j]∉x.aR.take j),rfl,B6 (B6 (B6 M (Ee ?_ ?_ ?_ ?_ ?_ ?_ ?_ ?_)) mV) (Ee ?_ ?_ ?_ ?_ ?_ ?_ ?_ ?_),?_,?_,?_,?_⟩
      rotate_right 4
      · simp
      · simp[Qq]
      · intro h;exact⟨K,by rw[ia];exact h⟩
      · intro h;rw[Hl];refine .inr ?_;cases bz:rX x.aR z.aR.length
        · rfl
        · rw[X8]at bz;have:=aHv bz;rw[ia,h]at this;cases this
      all_goals simp
  · rintro u t ⟨b7,rfl,M,sX,hk,bm,bs⟩;rw[kM]at bm;have B0:u 18=cb q:=(M 18 (by decide)).trans mF;have e:(b&&rX x.aR z.aR.length)=b7:=by
      cases b7
      · exact bs rfl
      · obtain⟨B,H⟩:=bm rfl;rw[B,H];rfl
    simp[Jk,TU,TV,eR,B0,sX,me];exact a1 _ (B6 M (Ee (by simp) (by simp) (by simp) (by simp) (by simp) (by simp) (by simp) (by simp))) (by rw[e];simp[hk])
theorem Ad{α:Type}{f:Nat->α}{d:Nat}{a b:α}:ed (ed f d a) d b=ed f d b:=by
  funext k;by_cases h:k=d
  · subst h;simp
  · rw[ny h,ny h,ny h]
theorem Az{α:Type}{l:List α}{p:α->Bool}{i:Nat}{x:α}(F:l[i]?=some x)(h:p x=false):l.all p=false:=by rw[Kp];exact⟨x,fT F,by simp[h]⟩
theorem Ke{α:Type}{l:List α}{f:α->ByteArray}{cj:List ByteArray}{i:Nat}{x:α}(F:l[i]?=some x)(ar:fS (cj++(l.take i).map f)=true)(h:qf (cj++(l.take i).map f) (f x)=false):fS (cj++l.map f)=false:=by
  cases bz:fS (cj++l.map f)
  · rfl
  · have e:cj++l.map f=((cj++(l.take i).map f)++[f x])++(l.drop (i+1)).map f:=by
      conv=>lhs;rw[<-Ex (i+1) l,l6 F]
      simp
    rw[e]at bz;have:=asC bz;rw[yB,ar,h]at this;cases this
theorem p3{α:Type}{l:List α}{f:α->ByteArray}{cj:List ByteArray}{i:Nat}{x:α}(F:l[i]?=some x):(cj++(l.take i).map f)++[f x]=cj++(l.take (i+1)).map f:=by rw[l6 F];simp
theorem AA{α:Type}{l:List α}{p:α->Bool}{i:Nat}{x:α}(F:l[i]?=some x)(h:(l.take i).all p=true)(Y:p x=true):(l.take (i+1)).all p=true:=by rw[l6 F,xt,h];simp[Y]
theorem aKx{z:a4}(h:a4.dP z){dB:Bool}{r4:Nat->Nat}{fz:Nat->List ByteArray}{bF:aM}{bS:E}(tA:gw z dB r4 fz bF bS)(pS:dB=true->(fz 3).length<=10000)(nL:dB=true->fS (fz 3)=true)(yz:bF 9=X 0)
    {Q:dp->aM->E->Prop} (a1: ∀u t bE bN,gw z (dB&&(fS (fz 3++z.bO.map (·.name))&&z.bO.all dY.oj)) bE bN u t->((dB&&(fS (fz 3++z.bO.map (·.name))&&z.bO.all dY.oj))=true->bN=ed fz 3 (fz 3++z.bO.map (·.name)))->Q (.bw 0) u t):gD Z (.loop Ge) bF bS Q:=by
  have fN:z.bO.length<=1000:=h.r1;obtain⟨T,e6⟩: ∃T,T=(dB&&(fS (fz 3++z.bO.map (·.name))&&z.bO.all dY.oj)):=⟨_,rfl⟩;rw[<-e6]at a1;refine hC (a0:=⟨[agc],[C7]⟩) (λi u t=> ∃bE bN b,gw z b bE bN u t/\u 9=X i/\(b=true->dB=true/\bN=ed fz 3 (fz 3++(z.bO.take i).map (·.name))/\fS (fz 3++(z.bO.take i).map (·.name))=true/\(z.bO.take i).all dY.oj=true)/\(b=false->T=false)) z.bO.length ?_ ?_ 0 bF bS (hf _) ⟨r4,fz,dB,tA,by simpa using yz,λK=>⟨K,?_,by simpa using nL K,by simp⟩,λK=>by rw[e6,K];rfl⟩
  · rintro i u t ag ⟨bE,bN,b,Y,hI,kG,n9⟩ cp aZ;have F:z.bO[i]?=some z.bO[i]:=c0 ag;have bc:=e7 (n:=i) (by omega);have bn:(i:Int)<z.bO.length:=(by omega);have aw:=Y.aw;have ch:=Y.ch;have aJ:=Y.aJ;have et:=aO aJ;have hq:=Y.nV 3 (by decide) (by decide);have bj:=Y.g 3 (by decide) (by decide);have j8:=Y.qC 3 (by decide) (by decide);have cK:=aO bj;cases b
    · have rL:=n9 rfl;simp[Ge,Ji,bl,aw,ch,hI,aJ,bn];exact a1 _ _ bE bN (by rw[rL];exact(Y.kD (by simp) (fF (d:=0) (λ_=>by simp) (λ_=>by simp) (λ_=>by simp) (λ_=>by simp) (λ_=>by simp) (λ_=>by simp)))) (λa6=>by rw[rL]at a6;cases a6)
    obtain⟨mh,pb,mW,gO⟩:=kG rfl;have fh:bN 3=fz 3++(z.bO.take i).map (·.name):=(by rw[pb,ua]);have Me:=pS mh;have tq:(bN 3).length<1000000:=(by rw[fh,mo,jZ,k9];omega);obtain⟨L,fW⟩: ∃L,L=bN 3:=⟨_,rfl⟩;obtain⟨o,jy⟩: ∃o,o=bE 3:=⟨_,rfl⟩;rw[<-fW]at hq bj tq fh;rw[<-jy]at hq bj j8 cK;have ck:=h.bO _ (qM ag);cases bs:qf L z.bO[i].name
    · skip
      simp(disch:=omega) [Ge,Ji,bl,fH,kZ,aw,ch,hI,hq,aJ,bj,bn,bc,bs];refine aZ _ _ ⟨ed bE 3 (t.next),ed bN 3 (bN 3++[z.bO[i].name]),false,gw.step Y 3 (by decide) (by decide) (n:=1) (ko:=[z.bO[i].name]) rfl (fF (d:=3) ?_ ?_ ?_ ?_ ?_ ?_) ?_ ?_ ?_ (.inr (by omega)) ?_ ?_,?_,?_,?_⟩;any_goals(intro ay;first|(exact absurd rfl ay)|(simp;done))
      · simp
      · rw[<-fW];simp
      · rw[<-fW];simp(disch:=first|omega|simp only[DI.aF];omega) [-ao,-aB,-ai,-au,-List.map_map]
      · simp;try omega
      · intro b K eO;rw[<-jy]at eO;simp(disch:=omega)
      · simp
      · intro a6;cases a6
      · intro _;rw[e6,Ke (f:=(·.name)) F mW (by rw[<-fh];exact bs)];simp
    cases cE:z.bO[i].oj
    · skip
      simp(disch:=omega) [Ge,Ji,bl,fH,kZ,aw,ch,hI,hq,aJ,bj,bn,bc,bs,cE];refine aZ _ _ ⟨ed bE 3 (t.next),ed bN 3 (bN 3++[z.bO[i].name]),false,gw.step Y 3 (by decide) (by decide) (n:=1) (ko:=[z.bO[i].name]) rfl (fF (d:=3) ?_ ?_ ?_ ?_ ?_ ?_) ?_ ?_ ?_ (.inr (by omega)) ?_ ?_,?_,?_,?_⟩;any_goals(intro ay;first|(exact absurd rfl ay)|(simp;done))
      · simp
      · rw[<-fW];simp
      · rw[<-fW];simp(disch:=first|omega|simp only[DI.aF];omega) [-ao,-aB,-ai,-au,-List.map_map]
      · simp;try omega
      · intro b K eO;rw[<-jy]at eO;simp(disch:=omega)
      · simp
      · intro a6;cases a6
      · intro _;rw[e6,Az F (show dY.oj z.bO[i]=false by simp[cE])];simp
    simp(disch:=omega) [Ge,Ji,bl,fH,kZ,aw,ch,hI,hq,aJ,bj,bn,bc,bs,cE];refine aZ _ _ ⟨ed bE 3 (t.next),ed bN 3 (bN 3++[z.bO[i].name]),true,gw.step Y 3 (by decide) (by decide) (n:=1) (ko:=[z.bO[i].name]) rfl (fF (d:=3) ?_ ?_ ?_ ?_ ?_ ?_) ?_ ?_ ?_ (.inr (by omega)) ?_ ?_,?_,?_,?_⟩;any_goals(intro ay;first|(exact absurd rfl ay)|(simp;done))
    · simp
    · rw[<-fW];simp
    · rw[<-fW];simp(disch:=first|omega|simp only[DI.aF];omega) [-ao,-aB,-ai,-au,-List.map_map]
    · simp;try omega
    · intro b K eO;rw[<-jy]at eO;simp(disch:=omega)
    · simp
    · intro _;refine⟨mh,?_,?_,AA F gO (by simp[cE])⟩
      · rw[<-fW,fh,pb,Ad,p3 (f:=(·.name)) F]
      · rw[<-p3 (f:=(·.name)) F,yB,mW,<-fh,bs];rfl
    · intro a6;cases a6
  · rintro u t ⟨bE,bN,b,Y,hI,kG,n9⟩;rw[kM]at kG;have aw:=Y.aw;have ch:=Y.ch;have aJ:=Y.aJ;have et:=aO aJ;have rK:T=b:=by
      cases b
      · exact n9 rfl
      · obtain⟨bh,_,bt,c1⟩:=kG rfl;rw[e6,bh,bt,c1];rfl
    have cg: ¬(((z.bO.length:Nat):Int)<z.bO.length):=(by omega);cases b
    all_goals
      simp[Ge,Ji,bl,aw,hI,aJ,cg];exact a1 _ _ bE bN (by rw[rK];exact(Y.kD (by simp) (fF (d:=0) (λ_=>by simp) (λ_=>by simp) (λ_=>by simp) (λ_=>by simp) (λ_=>by simp) (λ_=>by simp)))) (λa6=>by rw[rK]at a6;exact(kG a6).2.1)
  · funext k;by_cases e:k=3
    · subst e;simp
    · rw[ny e]
theorem aKy{z:a4}(h:a4.dP z){dB:Bool}{r4:Nat->Nat}{fz:Nat->List ByteArray}{bF:aM}{bS:E}(tA:gw z dB r4 fz bF bS)(pS:dB=true->(fz 4).length<=10000)(nL:dB=true->fS (fz 4)=true)(yz:bF 10=X 0)
    {Q:dp->aM->E->Prop} (a1: ∀u t bE bN,gw z (dB&&(fS (fz 4++z.aR.map (·.name))&&z.aR.all (nO z.bO.length))) bE bN u t->((dB&&(fS (fz 4++z.aR.map (·.name))&&z.aR.all (nO z.bO.length)))=true->bN=ed fz 4 (fz 4++z.aR.map (·.name)))->Q (.bw 2) u t):gD Z (.loop Bt) bF bS Q:=by
  have fN:z.aR.length<=1000:=h.de;obtain⟨T,e6⟩: ∃T,T=(dB&&(fS (fz 4++z.aR.map (·.name))&&z.aR.all (nO z.bO.length))):=⟨_,rfl⟩;rw[<-e6]at a1;refine hC (a0:=⟨[v3],[C7]⟩) (λi u t=> ∃bE bN b,gw z b bE bN u t/\u 10=X i/\(b=true->dB=true/\bN=ed fz 4 (fz 4++(z.aR.take i).map (·.name))/\fS (fz 4++(z.aR.take i).map (·.name))=true/\(z.aR.take i).all (nO z.bO.length)=true)/\(b=false->T=false)) z.aR.length ?_ ?_ 0 bF bS (hf _) ⟨r4,fz,dB,tA,by simpa using yz,λK=>⟨K,?_,by simpa using nL K,by simp⟩,λK=>by rw[e6,K];rfl⟩
  · rintro i u t ag ⟨bE,bN,b,Y,hI,kG,n9⟩ cp aZ;have F:z.aR[i]?=some z.aR[i]:=c0 ag;have bc:=e7 (n:=i) (by omega);have bn:(i:Int)<z.aR.length:=(by omega);have aw:=Y.aw;have ch:=Y.ch;have aJ:=Y.aJ;have et:=aO aJ;have hq:=Y.nV 4 (by decide) (by decide);have bj:=Y.g 4 (by decide) (by decide);have j8:=Y.qC 4 (by decide) (by decide);have cK:=aO bj;cases b
    · have rL:=n9 rfl;simp[Bt,DB,DC,bl,aw,ch,hI,aJ,bn];exact a1 _ _ bE bN (by rw[rL];exact(Y.kD (by simp) (fF (d:=0) (λ_=>by simp) (λ_=>by simp) (λ_=>by simp) (λ_=>by simp) (λ_=>by simp) (λ_=>by simp)))) (λa6=>by rw[rL]at a6;cases a6)
    obtain⟨mh,pb,mW,gO⟩:=kG rfl;have fh:bN 4=fz 4++(z.aR.take i).map (·.name):=(by rw[pb,ua]);have Me:=pS mh;have tq:(bN 4).length<1000000:=(by rw[fh,mo,jZ,k9];omega);obtain⟨L,fW⟩: ∃L,L=bN 4:=⟨_,rfl⟩;obtain⟨o,jy⟩: ∃o,o=bE 4:=⟨_,rfl⟩;rw[<-fW]at hq bj tq fh;rw[<-jy]at hq bj j8 cK;have mn:IntKind.i64.wrap ((z.bO.length:Int)-1)=(z.bO.length:Int)-1:=fo (by omega) (by have:=h.r1;omega);cases bs:qf L z.aR[i].name
    · skip
      simp(disch:=first|omega|simp only[DI.aF];omega) [Bt,DB,DC,bl,hD,kZ,aw,ch,hI,hq,aJ,bj,bn,bc,bs];refine aZ _ _ ⟨ed bE 4 (t.next+7),ed bN 4 (bN 4++[z.aR[i].name]),false,gw.step Y 4 (by decide) (by decide) (n:=1) (ko:=[z.aR[i].name]) rfl (fF (d:=4) ?_ ?_ ?_ ?_ ?_ ?_) ?_ ?_ ?_ (.inr (by omega)) ?_ ?_,?_,?_,?_⟩;any_goals(intro ay;first|(exact absurd rfl ay)|(simp;done))
      · simp
      · rw[<-fW];simp
      · rw[<-fW];simp(disch:=first|omega|simp only[DI.aF];omega) [-ao,-aB,-ai,-au,-List.map_map]
      · simp;try omega
      · intro b K eO;rw[<-jy]at eO;simp(disch:=first|omega|simp only[DI.aF];omega) [-ao,-aB,-ai,-au,-List.map_map]
      · simp
      · intro a6;cases a6
      · intro _;rw[e6,Ke (f:=(·.name)) F mW (by rw[<-fh];exact bs)];simp
    cases ck:eG z.aR[i].ext 1 16
    · skip
      simp(disch:=first|omega|simp only[DI.aF];omega) [Bt,DB,DC,bl,hD,kZ,aw,ch,hI,hq,aJ,bj,bn,bc,bs,ck];refine aZ _ _ ⟨ed bE 4 (t.next+7),ed bN 4 (bN 4++[z.aR[i].name]),false,gw.step Y 4 (by decide) (by decide) (n:=1) (ko:=[z.aR[i].name]) rfl (fF (d:=4) ?_ ?_ ?_ ?_ ?_ ?_) ?_ ?_ ?_ (.inr (by omega)) ?_ ?_,?_,?_,?_⟩;any_goals(intro ay;first|(exact absurd rfl ay)|(simp;done))
      · simp
      · rw[<-fW];simp
      · rw[<-fW];simp(disch:=first|omega|simp only[DI.aF];omega) [-ao,-aB,-ai,-au,-List.map_map]
      · simp;try omega
      · intro b K eO;rw[<-jy]at eO;simp(disch:=first|omega|simp only[DI.aF];omega) [-ao,-aB,-ai,-au,-List.map_map]
      · simp
      · intro a6;cases a6
      · intro _;rw[e6,Az F (show(nO z.bO.length) z.aR[i]=false by simp[nO,ck])];simp
    cases cE:eG z.aR[i].BS 1 64
    · skip
      simp(disch:=first|omega|simp only[DI.aF];omega) [Bt,DB,DC,bl,hD,kZ,aw,ch,hI,hq,aJ,bj,bn,bc,bs,ck,cE];refine aZ _ _ ⟨ed bE 4 (t.next+7),ed bN 4 (bN 4++[z.aR[i].name]),false,gw.step Y 4 (by decide) (by decide) (n:=1) (ko:=[z.aR[i].name]) rfl (fF (d:=4) ?_ ?_ ?_ ?_ ?_ ?_) ?_ ?_ ?_ (.inr (by omega)) ?_ ?_,?_,?_,?_⟩;any_goals(intro ay;first|(exact absurd rfl ay)|(simp;done))
      · simp
      · rw[<-fW];simp
      · rw[<-fW];simp(disch:=first|omega|simp only[DI.aF];omega) [-ao,-aB,-ai,-au,-List.map_map]
      · simp;try omega
      · intro b K eO;rw[<-jy]at eO;simp(disch:=first|omega|simp only[DI.aF];omega) [-ao,-aB,-ai,-au,-List.map_map]
      · simp
      · intro a6;cases a6
      · intro _;rw[e6,Az F (show(nO z.bO.length) z.aR[i]=false by simp[nO,ck,cE])];simp
    cases eo:eG z.aR[i].qw 0 ((z.bO.length:Int)-1)
    · skip
      simp(disch:=first|omega|simp only[DI.aF];omega) [Bt,DB,DC,bl,hD,kZ,aw,ch,hI,hq,aJ,bj,bn,bc,mn,bs,ck,cE,eo];refine aZ _ _ ⟨ed bE 4 (t.next+7),ed bN 4 (bN 4++[z.aR[i].name]),false,gw.step Y 4 (by decide) (by decide) (n:=1) (ko:=[z.aR[i].name]) rfl (fF (d:=4) ?_ ?_ ?_ ?_ ?_ ?_) ?_ ?_ ?_ (.inr (by omega)) ?_ ?_,?_,?_,?_⟩;any_goals(intro ay;first|(exact absurd rfl ay)|(simp;done))
      · simp
      · rw[<-fW];simp
      · rw[<-fW];simp(disch:=first|omega|simp only[DI.aF];omega) [-ao,-aB,-ai,-au,-List.map_map]
      · simp;try omega
      · intro b K eO;rw[<-jy]at eO;simp(disch:=first|omega|simp only[DI.aF];omega) [-ao,-aB,-ai,-au,-List.map_map]
      · simp
      · intro a6;cases a6
      · intro _;rw[e6,Az F (show(nO z.bO.length) z.aR[i]=false by simp[nO,ck,cE,eo])];simp
    simp(disch:=first|omega|simp only[DI.aF];omega) [Bt,DB,DC,bl,hD,kZ,aw,ch,hI,hq,aJ,bj,bn,bc,mn,bs,ck,cE,eo];refine aZ _ _ ⟨ed bE 4 (t.next+7),ed bN 4 (bN 4++[z.aR[i].name]),true,gw.step Y 4 (by decide) (by decide) (n:=1) (ko:=[z.aR[i].name]) rfl (fF (d:=4) ?_ ?_ ?_ ?_ ?_ ?_) ?_ ?_ ?_ (.inr (by omega)) ?_ ?_,?_,?_,?_⟩;any_goals(intro ay;first|(exact absurd rfl ay)|(simp;done))
    · simp
    · rw[<-fW];simp
    · rw[<-fW];simp(disch:=first|omega|simp only[DI.aF];omega) [-ao,-aB,-ai,-au,-List.map_map]
    · simp;try omega
    · intro b K eO;rw[<-jy]at eO;simp(disch:=first|omega|simp only[DI.aF];omega) [-ao,-aB,-ai,-au,-List.map_map]
    · simp
    · intro _;refine⟨mh,?_,?_,AA F gO (by simp[nO,ck,cE,eo])⟩
      · rw[<-fW,fh,pb,Ad,p3 (f:=(·.name)) F]
      · rw[<-p3 (f:=(·.name)) F,yB,mW,<-fh,bs];rfl
    · intro a6;cases a6
  · rintro u t ⟨bE,bN,b,Y,hI,kG,n9⟩;rw[kM]at kG;have aw:=Y.aw;have ch:=Y.ch;have aJ:=Y.aJ;have et:=aO aJ;have rK:T=b:=by
      cases b
      · exact n9 rfl
      · obtain⟨bh,_,bt,c1⟩:=kG rfl;rw[e6,bh,bt,c1];rfl
    have cg: ¬(((z.aR.length:Nat):Int)<z.aR.length):=(by omega);cases b
    all_goals
      simp[Bt,DB,DC,bl,aw,hI,aJ,cg];exact a1 _ _ bE bN (by rw[rK];exact(Y.kD (by simp) (fF (d:=0) (λ_=>by simp) (λ_=>by simp) (λ_=>by simp) (λ_=>by simp) (λ_=>by simp) (λ_=>by simp)))) (λa6=>by rw[rK]at a6;exact(kG a6).2.1)
  · funext k;by_cases e:k=4
    · subst e;simp
    · rw[ny e]
theorem aKA{z:a4}(h:a4.dP z){dB:Bool}{r4:Nat->Nat}{fz:Nat->List ByteArray}{bF:aM}{bS:E}(tA:gw z dB r4 fz bF bS)(pS:dB=true->(fz 5).length<=10000)(nL:dB=true->fS (fz 5)=true)(yz:bF 15=X 0)
    {Q:dp->aM->E->Prop} (a1: ∀u t bE bN,gw z (dB&&(fS (fz 5++z.c5.map (·.name))&&z.c5.all (nE z.aR.length z.br))) bE bN u t->((dB&&(fS (fz 5++z.c5.map (·.name))&&z.c5.all (nE z.aR.length z.br)))=true->bN=ed fz 5 (fz 5++z.c5.map (·.name)))->Q (.bw 6) u t):gD Z (.loop Bu) bF bS Q:=by
  have fN:z.c5.length<=1000:=h.r2;obtain⟨T,e6⟩: ∃T,T=(dB&&(fS (fz 5++z.c5.map (·.name))&&z.c5.all (nE z.aR.length z.br))):=⟨_,rfl⟩;rw[<-e6]at a1;refine hC (a0:=⟨[v3],[C7]⟩) (λi u t=> ∃bE bN b,gw z b bE bN u t/\u 15=X i/\(b=true->dB=true/\bN=ed fz 5 (fz 5++(z.c5.take i).map (·.name))/\fS (fz 5++(z.c5.take i).map (·.name))=true/\(z.c5.take i).all (nE z.aR.length z.br)=true)/\(b=false->T=false)) z.c5.length ?_ ?_ 0 bF bS (hf _) ⟨r4,fz,dB,tA,by simpa using yz,λK=>⟨K,?_,by simpa using nL K,by simp⟩,λK=>by rw[e6,K];rfl⟩
  · rintro i u t ag ⟨bE,bN,b,Y,hI,kG,n9⟩ cp aZ;have F:z.c5[i]?=some z.c5[i]:=c0 ag;have bc:=e7 (n:=i) (by omega);have bn:(i:Int)<z.c5.length:=(by omega);have aw:=Y.aw;have ch:=Y.ch;have aJ:=Y.aJ;have et:=aO aJ;have hq:=Y.nV 5 (by decide) (by decide);have bj:=Y.g 5 (by decide) (by decide);have j8:=Y.qC 5 (by decide) (by decide);have cK:=aO bj;cases b
    · have rL:=n9 rfl;simp[Bu,Dv,Dw,bl,aw,ch,hI,aJ,bn];exact a1 _ _ bE bN (by rw[rL];exact(Y.kD (by simp) (fF (d:=0) (λ_=>by simp) (λ_=>by simp) (λ_=>by simp) (λ_=>by simp) (λ_=>by simp) (λ_=>by simp)))) (λa6=>by rw[rL]at a6;cases a6)
    obtain⟨mh,pb,mW,gO⟩:=kG rfl;have fh:bN 5=fz 5++(z.c5.take i).map (·.name):=(by rw[pb,ua]);have Me:=pS mh;have tq:(bN 5).length<1000000:=(by rw[fh,mo,jZ,k9];omega);obtain⟨L,fW⟩: ∃L,L=bN 5:=⟨_,rfl⟩;obtain⟨o,jy⟩: ∃o,o=bE 5:=⟨_,rfl⟩;rw[<-fW]at hq bj tq fh;rw[<-jy]at hq bj j8 cK;have mn:IntKind.i64.wrap ((z.aR.length:Int)-1)=(z.aR.length:Int)-1:=fo (by omega) (by have:=h.de;omega);have Hc:IntKind.i64.wrap ((z.br.length:Int)-1)=(z.br.length:Int)-1:=fo (by omega) (by have:=h.lk;omega);cases bs:qf L z.c5[i].name
    · skip
      simp(disch:=first|omega|simp only[DI.aF];omega) [Bu,Dv,Dw,bl,hO,kZ,aw,ch,hI,hq,aJ,bj,bn,bc,bs];refine aZ _ _ ⟨ed bE 5 (t.next+7),ed bN 5 (bN 5++[z.c5[i].name]),false,gw.step Y 5 (by decide) (by decide) (n:=1) (ko:=[z.c5[i].name]) rfl (fF (d:=5) ?_ ?_ ?_ ?_ ?_ ?_) ?_ ?_ ?_ (.inr (by omega)) ?_ ?_,?_,?_,?_⟩;any_goals(intro ay;first|(exact absurd rfl ay)|(simp;done))
      · simp
      · rw[<-fW];simp
      · rw[<-fW];simp(disch:=first|omega|simp only[DI.aF];omega) [-ao,-aB,-ai,-au,-List.map_map]
      · simp;try omega
      · intro b K eO;rw[<-jy]at eO;simp(disch:=first|omega|simp only[DI.aF];omega) [-ao,-aB,-ai,-au,-List.map_map]
      · simp
      · intro a6;cases a6
      · intro _;rw[e6,Ke (f:=(·.name)) F mW (by rw[<-fh];exact bs)];simp
    cases ck:eG z.c5[i].model 0 ((z.aR.length:Int)-1)
    · skip
      simp(disch:=first|omega|simp only[DI.aF];omega) [Bu,Dv,Dw,bl,hO,kZ,aw,ch,hI,hq,aJ,bj,bn,bc,mn,bs,ck];refine aZ _ _ ⟨ed bE 5 (t.next+7),ed bN 5 (bN 5++[z.c5[i].name]),false,gw.step Y 5 (by decide) (by decide) (n:=1) (ko:=[z.c5[i].name]) rfl (fF (d:=5) ?_ ?_ ?_ ?_ ?_ ?_) ?_ ?_ ?_ (.inr (by omega)) ?_ ?_,?_,?_,?_⟩;any_goals(intro ay;first|(exact absurd rfl ay)|(simp;done))
      · simp
      · rw[<-fW];simp
      · rw[<-fW];simp(disch:=first|omega|simp only[DI.aF];omega) [-ao,-aB,-ai,-au,-List.map_map]
      · simp;try omega
      · intro b K eO;rw[<-jy]at eO;simp(disch:=first|omega|simp only[DI.aF];omega) [-ao,-aB,-ai,-au,-List.map_map]
      · simp
      · intro a6;cases a6
      · intro _;rw[e6,Az F (show(nE z.aR.length z.br) z.c5[i]=false by simp[nE,ck])];simp
    cases cE:eG z.c5[i].q9 0 ((z.br.length:Int)-1)
    · skip
      simp(disch:=first|omega|simp only[DI.aF];omega) [Bu,Dv,Dw,bl,hO,kZ,aw,ch,hI,hq,aJ,bj,bn,bc,mn,Hc,bs,ck,cE];refine aZ _ _ ⟨ed bE 5 (t.next+7),ed bN 5 (bN 5++[z.c5[i].name]),false,gw.step Y 5 (by decide) (by decide) (n:=1) (ko:=[z.c5[i].name]) rfl (fF (d:=5) ?_ ?_ ?_ ?_ ?_ ?_) ?_ ?_ ?_ (.inr (by omega)) ?_ ?_,?_,?_,?_⟩;any_goals(intro ay;first|(exact absurd rfl ay)|(simp;done))
      · simp
      · rw[<-fW];simp
      · rw[<-fW];simp(disch:=first|omega|simp only[DI.aF];omega) [-ao,-aB,-ai,-au,-List.map_map]
      · simp;try omega
      · intro b K eO;rw[<-jy]at eO;simp(disch:=first|omega|simp only[DI.aF];omega) [-ao,-aB,-ai,-au,-List.map_map]
      · simp
      · intro a6;cases a6
      · intro _;rw[e6,Az F (show(nE z.aR.length z.br) z.c5[i]=false by simp[nE,ck,cE])];simp
    have xK:=rT.1 cE;obtain⟨aU,jb⟩:=xp xK.1;have Fo:aU<z.br.length:=(by omega);have oG:(aU:Int)<z.br.length:=(by omega);have bz:z.br[aU]?=some z.br[aU]:=c0 Fo;have aN:Ol z.br (aU:Int)=decide (z.br[aU].g3=4):=(by unfold Ol;rw[u6,bz]);rw[jb]at cE;by_cases e8:z.br[aU].g3=4
    case neg=>
      simp(disch:=first|omega|simp only[DI.aF];omega) [Bu,Dv,Dw,bl,hO,kZ,aw,ch,hI,hq,aJ,bj,bn,bc,mn,Hc,eL,bs,ck,cE,jb,oG,e8];refine aZ _ _ ⟨ed bE 5 (t.next+7),ed bN 5 (bN 5++[z.c5[i].name]),false,gw.step Y 5 (by decide) (by decide) (n:=1) (ko:=[z.c5[i].name]) rfl (fF (d:=5) ?_ ?_ ?_ ?_ ?_ ?_) ?_ ?_ ?_ (.inr (by omega)) ?_ ?_,?_,?_,?_⟩;any_goals(intro ay;first|(exact absurd rfl ay)|(simp;done))
      · simp
      · rw[<-fW];simp
      · rw[<-fW];simp(disch:=first|omega|simp only[DI.aF];omega) [-ao,-aB,-ai,-au,-List.map_map]
      · simp;try omega
      · intro b K eO;rw[<-jy]at eO;simp(disch:=first|omega|simp only[DI.aF];omega) [-ao,-aB,-ai,-au,-List.map_map]
      · simp
      · intro a6;cases a6
      · intro _;rw[e6,Az F (show(nE z.aR.length z.br) z.c5[i]=false by simp[nE,ck,cE,aN,jb,e8])];simp
    simp(disch:=first|omega|simp only[DI.aF];omega) [Bu,Dv,Dw,bl,hO,kZ,aw,ch,hI,hq,aJ,bj,bn,bc,mn,Hc,eL,bs,ck,cE,jb,oG,e8];refine aZ _ _ ⟨ed bE 5 (t.next+7),ed bN 5 (bN 5++[z.c5[i].name]),true,gw.step Y 5 (by decide) (by decide) (n:=1) (ko:=[z.c5[i].name]) rfl (fF (d:=5) ?_ ?_ ?_ ?_ ?_ ?_) ?_ ?_ ?_ (.inr (by omega)) ?_ ?_,?_,?_,?_⟩;any_goals(intro ay;first|(exact absurd rfl ay)|(simp;done))
    · simp
    · rw[<-fW];simp
    · rw[<-fW];simp(disch:=first|omega|simp only[DI.aF];omega) [-ao,-aB,-ai,-au,-List.map_map]
    · simp;try omega
    · intro b K eO;rw[<-jy]at eO;simp(disch:=first|omega|simp only[DI.aF];omega) [-ao,-aB,-ai,-au,-List.map_map]
    · simp
    · intro _;refine⟨mh,?_,?_,AA F gO (by simp[nE,ck,cE,aN,jb,e8])⟩
      · rw[<-fW,fh,pb,Ad,p3 (f:=(·.name)) F]
      · rw[<-p3 (f:=(·.name)) F,yB,mW,<-fh,bs];rfl
    · intro a6;cases a6
  · rintro u t ⟨bE,bN,b,Y,hI,kG,n9⟩;rw[kM]at kG;have aw:=Y.aw;have ch:=Y.ch;have aJ:=Y.aJ;have et:=aO aJ;have rK:T=b:=by
      cases b
      · exact n9 rfl
      · obtain⟨bh,_,bt,c1⟩:=kG rfl;rw[e6,bh,bt,c1];rfl
    have cg: ¬(((z.c5.length:Nat):Int)<z.c5.length):=(by omega);cases b
    all_goals
      simp[Bu,Dv,Dw,bl,aw,hI,aJ,cg];exact a1 _ _ bE bN (by rw[rK];exact(Y.kD (by simp) (fF (d:=0) (λ_=>by simp) (λ_=>by simp) (λ_=>by simp) (λ_=>by simp) (λ_=>by simp) (λ_=>by simp)))) (λa6=>by rw[rK]at a6;exact(kG a6).2.1)
  · funext k;by_cases e:k=5
    · subst e;simp
    · rw[ny e]
theorem aKE{z:a4}(h:a4.dP z){dB:Bool}{r4:Nat->Nat}{fz:Nat->List ByteArray}{bF:aM}{bS:E}(tA:gw z dB r4 fz bF bS)(pS:dB=true->(fz 7).length<=10000)(nL:dB=true->fS (fz 7)=true)(yz:bF 21=X 0)
    {Q:dp->aM->E->Prop} (a1: ∀u t bE bN,gw z (dB&&(fS (fz 7++z.cP.map (·.name))&&z.cP.all (sd z.bT.length))) bE bN u t->((dB&&(fS (fz 7++z.cP.map (·.name))&&z.cP.all (sd z.bT.length)))=true->bN=ed fz 7 (fz 7++z.cP.map (·.name)))->Q (.bw 14) u t):gD Z (.loop Gf) bF bS Q:=by
  have fN:z.cP.length<=1000:=h.zX;obtain⟨T,e6⟩: ∃T,T=(dB&&(fS (fz 7++z.cP.map (·.name))&&z.cP.all (sd z.bT.length))):=⟨_,rfl⟩;rw[<-e6]at a1;refine hC (a0:=⟨[v3],[C7]⟩) (λi u t=> ∃bE bN b,gw z b bE bN u t/\u 21=X i/\(b=true->dB=true/\bN=ed fz 7 (fz 7++(z.cP.take i).map (·.name))/\fS (fz 7++(z.cP.take i).map (·.name))=true/\(z.cP.take i).all (sd z.bT.length)=true)/\(b=false->T=false)) z.cP.length ?_ ?_ 0 bF bS (hf _) ⟨r4,fz,dB,tA,by simpa using yz,λK=>⟨K,?_,by simpa using nL K,by simp⟩,λK=>by rw[e6,K];rfl⟩
  · rintro i u t ag ⟨bE,bN,b,Y,hI,kG,n9⟩ cp aZ;have F:z.cP[i]?=some z.cP[i]:=c0 ag;have bc:=e7 (n:=i) (by omega);have bn:(i:Int)<z.cP.length:=(by omega);have aw:=Y.aw;have ch:=Y.ch;have aJ:=Y.aJ;have et:=aO aJ;have hq:=Y.nV 7 (by decide) (by decide);have bj:=Y.g 7 (by decide) (by decide);have j8:=Y.qC 7 (by decide) (by decide);have cK:=aO bj;cases b
    · have rL:=n9 rfl;simp[Gf,Jh,bl,aw,ch,hI,aJ,bn];exact a1 _ _ bE bN (by rw[rL];exact(Y.kD (by simp) (fF (d:=0) (λ_=>by simp) (λ_=>by simp) (λ_=>by simp) (λ_=>by simp) (λ_=>by simp) (λ_=>by simp)))) (λa6=>by rw[rL]at a6;cases a6)
    obtain⟨mh,pb,mW,gO⟩:=kG rfl;have fh:bN 7=fz 7++(z.cP.take i).map (·.name):=(by rw[pb,ua]);have Me:=pS mh;have tq:(bN 7).length<1000000:=(by rw[fh,mo,jZ,k9];omega);obtain⟨L,fW⟩: ∃L,L=bN 7:=⟨_,rfl⟩;obtain⟨o,jy⟩: ∃o,o=bE 7:=⟨_,rfl⟩;rw[<-fW]at hq bj tq fh;rw[<-jy]at hq bj j8 cK;have mn:IntKind.i64.wrap ((z.bT.length:Int)-1)=(z.bT.length:Int)-1:=fo (by omega) (by have:=h.je;omega);cases bs:qf L z.cP[i].name
    · skip
      simp(disch:=omega) [Gf,Jh,bl,iy,kZ,aw,ch,hI,hq,aJ,bj,bn,bc,bs];refine aZ _ _ ⟨ed bE 7 (t.next),ed bN 7 (bN 7++[z.cP[i].name]),false,gw.step Y 7 (by decide) (by decide) (n:=1) (ko:=[z.cP[i].name]) rfl (fF (d:=7) ?_ ?_ ?_ ?_ ?_ ?_) ?_ ?_ ?_ (.inr (by omega)) ?_ ?_,?_,?_,?_⟩;any_goals(intro ay;first|(exact absurd rfl ay)|(simp;done))
      · simp
      · rw[<-fW];simp
      · rw[<-fW];simp(disch:=first|omega|simp only[DI.aF];omega) [-ao,-aB,-ai,-au,-List.map_map]
      · simp;try omega
      · intro b K eO;rw[<-jy]at eO;simp(disch:=omega)
      · simp
      · intro a6;cases a6
      · intro _;rw[e6,Ke (f:=(·.name)) F mW (by rw[<-fh];exact bs)];simp
    cases ck:eG z.cP[i].w9 0 ((z.bT.length:Int)-1)
    · skip
      simp(disch:=omega) [Gf,Jh,bl,iy,kZ,aw,ch,hI,hq,aJ,bj,bn,bc,mn,bs,ck];refine aZ _ _ ⟨ed bE 7 (t.next),ed bN 7 (bN 7++[z.cP[i].name]),false,gw.step Y 7 (by decide) (by decide) (n:=1) (ko:=[z.cP[i].name]) rfl (fF (d:=7) ?_ ?_ ?_ ?_ ?_ ?_) ?_ ?_ ?_ (.inr (by omega)) ?_ ?_,?_,?_,?_⟩;any_goals(intro ay;first|(exact absurd rfl ay)|(simp;done))
      · simp
      · rw[<-fW];simp
      · rw[<-fW];simp(disch:=first|omega|simp only[DI.aF];omega) [-ao,-aB,-ai,-au,-List.map_map]
      · simp;try omega
      · intro b K eO;rw[<-jy]at eO;simp(disch:=omega)
      · simp
      · intro a6;cases a6
      · intro _;rw[e6,Az F (show(sd z.bT.length) z.cP[i]=false by simp[sd,ck])];simp
    simp(disch:=omega) [Gf,Jh,bl,iy,kZ,aw,ch,hI,hq,aJ,bj,bn,bc,mn,bs,ck];refine aZ _ _ ⟨ed bE 7 (t.next),ed bN 7 (bN 7++[z.cP[i].name]),true,gw.step Y 7 (by decide) (by decide) (n:=1) (ko:=[z.cP[i].name]) rfl (fF (d:=7) ?_ ?_ ?_ ?_ ?_ ?_) ?_ ?_ ?_ (.inr (by omega)) ?_ ?_,?_,?_,?_⟩;any_goals(intro ay;first|(exact absurd rfl ay)|(simp;done))
    · simp
    · rw[<-fW];simp
    · rw[<-fW];simp(disch:=first|omega|simp only[DI.aF];omega) [-ao,-aB,-ai,-au,-List.map_map]
    · simp;try omega
    · intro b K eO;rw[<-jy]at eO;simp(disch:=omega)
    · simp
    · intro _;refine⟨mh,?_,?_,AA F gO (by simp[sd,ck])⟩
      · rw[<-fW,fh,pb,Ad,p3 (f:=(·.name)) F]
      · rw[<-p3 (f:=(·.name)) F,yB,mW,<-fh,bs];rfl
    · intro a6;cases a6
  · rintro u t ⟨bE,bN,b,Y,hI,kG,n9⟩;rw[kM]at kG;have aw:=Y.aw;have ch:=Y.ch;have aJ:=Y.aJ;have et:=aO aJ;have rK:T=b:=by
      cases b
      · exact n9 rfl
      · obtain⟨bh,_,bt,c1⟩:=kG rfl;rw[e6,bh,bt,c1];rfl
    have cg: ¬(((z.cP.length:Nat):Int)<z.cP.length):=(by omega);cases b
    all_goals
      simp[Gf,Jh,bl,aw,hI,aJ,cg];exact a1 _ _ bE bN (by rw[rK];exact(Y.kD (by simp) (fF (d:=0) (λ_=>by simp) (λ_=>by simp) (λ_=>by simp) (λ_=>by simp) (λ_=>by simp) (λ_=>by simp)))) (λa6=>by rw[rK]at a6;exact(kG a6).2.1)
  · funext k;by_cases e:k=7
    · subst e;simp
    · rw[ny e]
def Ab(ds l:List gp):Bool:=(List.range l.length).all λi=>match l[i]? with
    |some d=>mQ ds i d
    |none=>true
theorem Pj{ds l:List gp}{i:Nat}{d:gp}(F:l[i]?=some d)(h:mQ ds i d=false):Ab ds l=false:=by unfold Ab;rw[Kp];exact⟨i,yJ.2 (dg.1 F).1,by simp[F,h]⟩
theorem aLN{ds l:List gp}(h: ∀j d,l[j]?=some d->mQ ds j d=true):Ab ds l=true:=by
  unfold Ab;rw[hJ];intro i ag;cases F:l[i]? with
  |none=>rfl
  |some d=>exact h i d F
theorem aKz{z:a4}(h:a4.dP z){R:gp}{ds:List gp}(iN:z.br=R::ds){dB:Bool}{r4:Nat->Nat}{fz:Nat->List ByteArray}{bF:aM}{bS:E}(tA:gw z dB r4 fz bF bS)(pS:dB=true->(fz 5).length<=10000)(nL:dB=true->fS (fz 5)=true)(yz:bF 13=X 1)
    {Q:dp->aM->E->Prop} (a1: ∀u t bE bN,gw z (dB&&(fS (fz 5++ds.map (·.name))&&Ab z.br ds)) bE bN u t->((dB&&(fS (fz 5++ds.map (·.name))&&Ab z.br ds))=true->bN=ed fz 5 (fz 5++ds.map (·.name)))->Q (.bw 4) u t):gD Z (.loop yg) bF bS Q:=by
  have fN:z.br.length<=1000:=h.lk;have aRR:z.br.length=ds.length+1:=by rw[iN];rfl
  obtain⟨T,e6⟩: ∃T,T=(dB&&(fS (fz 5++ds.map (·.name))&&Ab z.br ds)):=⟨_,rfl⟩;rw[<-e6]at a1;refine hC (a0:=⟨[v3,VE],[C7]⟩) (λi u t=> ∃bE bN b k,k=i+1/\gw z b bE bN u t/\u 13=X k/\(b=true->dB=true/\bN=ed fz 5 (fz 5++(ds.take i).map (·.name))/\fS (fz 5++(ds.take i).map (·.name))=true/\ ∀j d,j<i->ds[j]?=some d->mQ z.br j d=true)/\(b=false->T=false)) ds.length ?_ ?_ 0 bF bS (hf _) ⟨r4,fz,dB,1,rfl,tA,by simpa using yz,λK=>⟨K,?_,by simpa using nL K,λj d c6=>by omega⟩,λK=>by rw[e6,K];rfl⟩
  · rintro i u t ag ⟨bE,bN,b,k,aa,Y,hI,kG,n9⟩ cp aZ;obtain⟨cn,g2⟩: ∃cn,cn=ds[i]:=⟨_,rfl⟩;have gP:ds[i]?=some cn:=(by rw[g2];exact c0 ag);have F:z.br[k]?=some cn:=(by rw[aa,iN,Ps];exact gP);have uF:k<z.br.length:=(by omega);have eA:=(dg.1 F).2;have bc:=e7 (n:=k) (by omega);have bD:IntKind.i64.wrap ((k:Int)-1)=(i:Int):=(by rw[show(k:Int)-1=i by omega];exact fo (by omega) (by omega));have bn:(k:Int)<z.br.length:=(by omega);have q1:cn.ju.bD:=h.br cn (fT F);have aw:=Y.aw;have ch:=Y.ch;have aJ:=Y.aJ;have et:=aO aJ;have hq:=Y.nV 5 (by decide) (by decide);have bj:=Y.g 5 (by decide) (by decide);have j8:=Y.qC 5 (by decide) (by decide);have cK:=aO bj;cases b
    · have rL:=n9 rfl;simp[yg,zA,zB,bl,aw,ch,hI,aJ,bn];exact a1 _ _ bE bN (by rw[rL];exact(Y.kD (by simp) (fF (d:=0) (λ_=>by simp) (λ_=>by simp) (λ_=>by simp) (λ_=>by simp) (λ_=>by simp) (λ_=>by simp)))) (λa6=>by rw[rL]at a6;cases a6)
    obtain⟨mh,pb,mW,gO⟩:=kG rfl;have fh:bN 5=fz 5++(ds.take i).map (·.name):=(by rw[pb,ua]);have Me:=pS mh;have tq:(bN 5).length<1000000:=(by rw[fh,mo,jZ,k9];omega);obtain⟨L,fW⟩: ∃L,L=bN 5:=⟨_,rfl⟩;obtain⟨o,jy⟩: ∃o,o=bE 5:=⟨_,rfl⟩;rw[<-fW]at hq bj tq fh;rw[<-jy]at hq bj j8 cK;obtain⟨kR,HA,awF,aiu,⟨aij,qS,qT⟩⟩:=cn;simp only at q1;cases bs:qf L kR
    · skip
      simp(disch:=first|omega|simp only[DI.aF];omega) [yg,zA,zB,bl,eL,kZ,aw,ch,hI,hq,aJ,bj,bn,bc,eA,bs];refine aZ _ _ ⟨ed bE 5 (t.next+7),ed bN 5 (bN 5++[kR]),false,k+1,by omega,gw.step Y 5 (by decide) (by decide) (n:=1) (ko:=[kR]) rfl (fF (d:=5) ?_ ?_ ?_ ?_ ?_ ?_) ?_ ?_ ?_ (.inr (by omega)) ?_ ?_,?_,?_,?_⟩;any_goals(intro ay;first|(exact absurd rfl ay)|(simp;done))
      · simp
      · rw[<-fW];simp
      · rw[<-fW];simp(disch:=first|omega|simp only[DI.aF];omega) [-ao,-aB,-ai,-au,-List.map_map]
      · simp;try omega
      · intro b K eO;rw[<-jy]at eO;simp(disch:=first|omega|simp only[DI.aF];omega) [-ao,-aB,-ai,-au,-List.map_map]
      · simp
      · intro a6;cases a6
      · intro _;rw[e6,Ke (f:=(·.name)) gP mW (by rw[<-fh];exact bs)];simp
    cases ck:eG HA 1 4
    · skip
      simp(disch:=first|omega|simp only[DI.aF];omega) [yg,zA,zB,bl,eL,kZ,aw,ch,hI,hq,aJ,bj,bn,bc,eA,bs,ck];refine aZ _ _ ⟨ed bE 5 (t.next+7),ed bN 5 (bN 5++[kR]),false,k+1,by omega,gw.step Y 5 (by decide) (by decide) (n:=1) (ko:=[kR]) rfl (fF (d:=5) ?_ ?_ ?_ ?_ ?_ ?_) ?_ ?_ ?_ (.inr (by omega)) ?_ ?_,?_,?_,?_⟩;any_goals(intro ay;first|(exact absurd rfl ay)|(simp;done))
      · simp
      · rw[<-fW];simp
      · rw[<-fW];simp(disch:=first|omega|simp only[DI.aF];omega) [-ao,-aB,-ai,-au,-List.map_map]
      · simp;try omega
      · intro b K eO;rw[<-jy]at eO;simp(disch:=first|omega|simp only[DI.aF];omega) [-ao,-aB,-ai,-au,-List.map_map]
      · simp
      · intro a6;cases a6
      · intro _;rw[e6,Pj (ds:=z.br) gP (by simp[mQ,ck])];simp
    have HG:=rT.1 ck;have mn:IntKind.i64.wrap (HA-1)=HA-1:=fo (by omega) (by omega);cases cE:eG awF 0 i
    · skip
      simp(disch:=first|omega|simp only[DI.aF];omega) [yg,zA,zB,bl,eL,kZ,aw,ch,hI,hq,aJ,bj,bn,bc,bD,eA,bs,ck,cE];refine aZ _ _ ⟨ed bE 5 (t.next+7),ed bN 5 (bN 5++[kR]),false,k+1,by omega,gw.step Y 5 (by decide) (by decide) (n:=1) (ko:=[kR]) rfl (fF (d:=5) ?_ ?_ ?_ ?_ ?_ ?_) ?_ ?_ ?_ (.inr (by omega)) ?_ ?_,?_,?_,?_⟩;any_goals(intro ay;first|(exact absurd rfl ay)|(simp;done))
      · simp
      · rw[<-fW];simp
      · rw[<-fW];simp(disch:=first|omega|simp only[DI.aF];omega) [-ao,-aB,-ai,-au,-List.map_map]
      · simp;try omega
      · intro b K eO;rw[<-jy]at eO;simp(disch:=first|omega|simp only[DI.aF];omega) [-ao,-aB,-ai,-au,-List.map_map]
      · simp
      · intro a6;cases a6
      · intro _;rw[e6,Pj (ds:=z.br) gP (by simp[mQ,ck,cE])];simp
    have xK:=rT.1 cE;obtain⟨aU,rfl⟩:=xp xK.1;have Fo:aU<z.br.length:=(by omega);have oG:(aU:Int)<z.br.length:=(by omega);have bz:z.br[aU]?=some z.br[aU]:=c0 Fo;have aN:JC z.br ⟨kR,HA,(aU:Int),aiu,⟨aij,qS,qT⟩⟩=decide (z.br[aU].g3=HA-1):=(by unfold JC;simp only[u6,bz]);by_cases eo:z.br[aU].g3=HA-1
    case neg=>
      simp(disch:=first|omega|simp only[DI.aF];omega) [yg,zA,zB,bl,eL,kZ,aw,ch,hI,hq,aJ,bj,bn,bc,bD,eA,bs,ck,cE,mn,oG,eo];refine aZ _ _ ⟨ed bE 5 (t.next+7),ed bN 5 (bN 5++[kR]),false,k+1,by omega,gw.step Y 5 (by decide) (by decide) (n:=1) (ko:=[kR]) rfl (fF (d:=5) ?_ ?_ ?_ ?_ ?_ ?_) ?_ ?_ ?_ (.inr (by omega)) ?_ ?_,?_,?_,?_⟩;any_goals(intro ay;first|(exact absurd rfl ay)|(simp;done))
      · simp
      · rw[<-fW];simp
      · rw[<-fW];simp(disch:=first|omega|simp only[DI.aF];omega) [-ao,-aB,-ai,-au,-List.map_map]
      · simp;try omega
      · intro b K eO;rw[<-jy]at eO;simp(disch:=first|omega|simp only[DI.aF];omega) [-ao,-aB,-ai,-au,-List.map_map]
      · simp
      · intro a6;cases a6
      · intro _;rw[e6,Pj (ds:=z.br) gP (by simp[mQ,ck,cE,aN,eo])];simp
    cases e8:eG aiu 1 64
    · skip
      simp(disch:=first|omega|simp only[DI.aF];omega) [yg,zA,zB,bl,eL,kZ,aw,ch,hI,hq,aJ,bj,bn,bc,bD,eA,bs,ck,cE,mn,oG,eo,e8];refine aZ _ _ ⟨ed bE 5 (t.next+7),ed bN 5 (bN 5++[kR]),false,k+1,by omega,gw.step Y 5 (by decide) (by decide) (n:=1) (ko:=[kR]) rfl (fF (d:=5) ?_ ?_ ?_ ?_ ?_ ?_) ?_ ?_ ?_ (.inr (by omega)) ?_ ?_,?_,?_,?_⟩;any_goals(intro ay;first|(exact absurd rfl ay)|(simp;done))
      · simp
      · rw[<-fW];simp
      · rw[<-fW];simp(disch:=first|omega|simp only[DI.aF];omega) [-ao,-aB,-ai,-au,-List.map_map]
      · simp;try omega
      · intro b K eO;rw[<-jy]at eO;simp(disch:=first|omega|simp only[DI.aF];omega) [-ao,-aB,-ai,-au,-List.map_map]
      · simp
      · intro a6;cases a6
      · intro _;rw[e6,Pj (ds:=z.br) gP (by simp[mQ,ck,cE,aN,eo,e8])];simp
    cases f5:(aV.mk aij qS qT).bG.small
    · skip
      simp(disch:=first|omega|simp only[DI.aF];omega) [yg,zA,zB,bl,eL,kZ,aw,ch,hI,hq,aJ,bj,bn,bc,bD,eA,bs,ck,cE,mn,oG,eo,e8,f5];refine aZ _ _ ⟨ed bE 5 (t.next+7),ed bN 5 (bN 5++[kR]),false,k+1,by omega,gw.step Y 5 (by decide) (by decide) (n:=1) (ko:=[kR]) rfl (fF (d:=5) ?_ ?_ ?_ ?_ ?_ ?_) ?_ ?_ ?_ (.inr (by omega)) ?_ ?_,?_,?_,?_⟩;any_goals(intro ay;first|(exact absurd rfl ay)|(simp;done))
      · simp
      · rw[<-fW];simp
      · rw[<-fW];simp(disch:=first|omega|simp only[DI.aF];omega) [-ao,-aB,-ai,-au,-List.map_map]
      · simp;try omega
      · intro b K eO;rw[<-jy]at eO;simp(disch:=first|omega|simp only[DI.aF];omega) [-ao,-aB,-ai,-au,-List.map_map]
      · simp
      · intro a6;cases a6
      · intro _;rw[e6,Pj (ds:=z.br) gP (by simp[mQ,ck,cE,aN,eo,e8,f5])];simp
    · skip
      simp(disch:=first|omega|simp only[DI.aF];omega) [yg,zA,zB,bl,eL,kZ,aw,ch,hI,hq,aJ,bj,bn,bc,bD,eA,bs,ck,cE,mn,oG,eo,e8,f5];refine aZ _ _ ⟨ed bE 5 (t.next+7),ed bN 5 (bN 5++[kR]),true,k+1,by omega,gw.step Y 5 (by decide) (by decide) (n:=1) (ko:=[kR]) rfl (fF (d:=5) ?_ ?_ ?_ ?_ ?_ ?_) ?_ ?_ ?_ (.inr (by omega)) ?_ ?_,?_,?_,?_⟩;any_goals(intro ay;first|(exact absurd rfl ay)|(simp;done))
      · simp
      · rw[<-fW];simp
      · rw[<-fW];simp(disch:=first|omega|simp only[DI.aF];omega) [-ao,-aB,-ai,-au,-List.map_map]
      · simp;try omega
      · intro b K eO;rw[<-jy]at eO;simp(disch:=first|omega|simp only[DI.aF];omega) [-ao,-aB,-ai,-au,-List.map_map]
      · simp
      · intro _;refine⟨mh,?_,?_,λj d c6 ay=> ?_⟩
        · rw[<-fW,fh,pb,Ad,<-p3 (f:=(·.name)) gP]
        · rw[<-p3 (f:=(·.name)) gP,yB,mW,<-fh];exact bs
        · by_cases e:j=i
          · subst e;rw[gP]at ay;cases ay;simp[mQ,ck,cE,aN,eo,e8,f5]
          · exact gO j d (by omega) ay
      · intro a6;cases a6
  · rintro u t ⟨bE,bN,b,k,aa,Y,hI,kG,n9⟩;rw[kM]at kG;have aw:=Y.aw;have ch:=Y.ch;have aJ:=Y.aJ;have et:=aO aJ;have rK:T=b:=by
      cases b
      · exact n9 rfl
      · obtain⟨bh,_,bt,c1⟩:=kG rfl;rw[e6,bh,bt,aLN λj d ay=>c1 j d (dg.1 ay).1 ay];rfl
    have cg: ¬(k:Int)<z.br.length:=(by omega);cases b
    all_goals
      simp[yg,zA,zB,bl,aw,hI,aJ,cg];exact a1 _ _ bE bN (by rw[rK];exact(Y.kD (by simp) (fF (d:=0) (λ_=>by simp) (λ_=>by simp) (λ_=>by simp) (λ_=>by simp) (λ_=>by simp) (λ_=>by simp)))) (λa6=>by rw[rK]at a6;exact(kG a6).2.1)
  · funext k;by_cases e:k=5
    · subst e;simp
    · rw[ny e]
theorem gw.aib{z:a4}{b cM:Bool}{bE:Nat->Nat}{bN:Nat->List ByteArray}{u ae:aM}{t:E}(h:gw z b bE bN u t)(iV:ae 8= .bool cM)(M: ∀k∈nW,ae k=u k):gw z cM bE bN ae t:=
  ⟨(M 1 (by decide)).trans h.aw,iV,h.aJ,λk B H=>by have:k=3\/k=4\/k=5\/k=6\/k=7:=(by omega);have aN:k∈nW:=(by rcases this with rfl|rfl|rfl|rfl|rfl<;>decide);exact(M k aN).trans (h.nV k B H),h.g,h.inj,h.qC⟩
theorem aLs: ∀k∈nW,k∈z9:=by decide
theorem OT{z:a4}(h:a4.dP z){x:hr}{q:Nat}{a9:Bool}{bE:Nat->Nat}{bN:Nat->List ByteArray}{cC:aM}{eu:E}(fG:gw z a9 bE bN cC eu)(fN:x.aR.length<1000000)(me:eu.U q=some ⟨eR x,true⟩)(mF:cC 18=cb q)(m3:cC 19=X 0)
    {Q:dp->aM->E->Prop} (a1: ∀ev,gw z (a9&&rX x.aR z.aR.length) bE bN ev eu->ev 17=cC 17->Q (.bw 10) ev eu):gD Z (.loop Jk) cC eu Q:=
  aKC h fN fG.aJ me fG.aw mF m3 fG.ch λev M Qq=>a1 ev (fG.aib Qq λk aa=>M k (aLs k aa)) (M 17 (by decide))
theorem aKD{z:a4}(h:a4.dP z){dB:Bool}{r4:Nat->Nat}{fz:Nat->List ByteArray}{bF:aM}{bS:E}(tA:gw z dB r4 fz bF bS)(pS:dB=true->(fz 6).length<=10000)(nL:dB=true->fS (fz 6)=true)(yz:bF 17=X 0)
    {Q:dp->aM->E->Prop} (a1: ∀u t bE bN,gw z (dB&&(fS (fz 6++z.bT.map (·.name))&&z.bT.all (k8 · z.aR.length))) bE bN u t->((dB&&(fS (fz 6++z.bT.map (·.name))&&z.bT.all (k8 · z.aR.length)))=true->bN=ed fz 6 (fz 6++z.bT.map (·.name)))->Q (.bw 8) u t):gD Z (.loop Bv) bF bS Q:=by
  have fN:z.bT.length<=1000:=h.je;obtain⟨T,e6⟩: ∃T,T=(dB&&(fS (fz 6++z.bT.map (·.name))&&z.bT.all (k8 · z.aR.length))):=⟨_,rfl⟩;rw[<-e6]at a1;refine hC (a0:=⟨[agb,af7],[C7]⟩) (λi u t=> ∃bE bN b,gw z b bE bN u t/\u 17=X i/\(b=true->dB=true/\bN=ed fz 6 (fz 6++(z.bT.take i).map (·.name))/\fS (fz 6++(z.bT.take i).map (·.name))=true/\(z.bT.take i).all (k8 · z.aR.length)=true)/\(b=false->T=false)) z.bT.length ?_ ?_ 0 bF bS (hf _) ⟨r4,fz,dB,tA,by simpa using yz,λK=>⟨K,?_,by simpa using nL K,by simp⟩,λK=>by rw[e6,K];rfl⟩
  · rintro i u t ag ⟨bE,bN,b,Y,hI,kG,n9⟩ cp aZ;obtain⟨x,akr⟩: ∃x,x=z.bT[i]:=⟨_,rfl⟩;have F:z.bT[i]?=some x:=(by rw[akr];exact c0 ag);have eA:z.bT[i]=x:=akr.symm;have bc:=e7 (n:=i) (by omega);have bn:(i:Int)<z.bT.length:=(by omega);have aw:=Y.aw;have ch:=Y.ch;have aJ:=Y.aJ;have et:=aO aJ;have hq:=Y.nV 6 (by decide) (by decide);have bj:=Y.g 6 (by decide) (by decide);have j8:=Y.qC 6 (by decide) (by decide);have cK:=aO bj;cases b
    · have rL:=n9 rfl;simp[Bv,Dx,Dy,Dz,DA,bl,aw,ch,hI,aJ,bn];exact a1 _ _ bE bN (by rw[rL];exact(Y.kD (by simp) (fF (d:=0) (λ_=>by simp) (λ_=>by simp) (λ_=>by simp) (λ_=>by simp) (λ_=>by simp) (λ_=>by simp)))) (λa6=>by rw[rL]at a6;cases a6)
    obtain⟨mh,pb,mW,gO⟩:=kG rfl;have fh:bN 6=fz 6++(z.bT.take i).map (·.name):=(by rw[pb,ua]);have Me:=pS mh;have tq:(bN 6).length<1000000:=(by rw[fh,mo,jZ,k9];omega);obtain⟨L,fW⟩: ∃L,L=bN 6:=⟨_,rfl⟩;obtain⟨o,jy⟩: ∃o,o=bE 6:=⟨_,rfl⟩;rw[<-fW]at hq bj tq fh;rw[<-jy]at hq bj j8 cK;obtain⟨eT,fk,hB,js⟩:=h.bT x (fT F);obtain⟨de,k,m,q,⟨a,b,c,d,e⟩,hG,hz,⟨hl,nY,lM⟩,⟨av,aC,K⟩⟩:=x;simp only at eT fk hB js;obtain⟨a9,dt⟩: ∃a9,a9=(qf L de&&(pn k m q ⟨a,b,c,d,e⟩&&(rk m hz ⟨hl,nY,lM⟩ ⟨av,aC,K⟩&& !hG.isEmpty))):=⟨_,rfl⟩;have S:k8 ⟨de,k,m,q,⟨a,b,c,d,e⟩,hG,hz,⟨hl,nY,lM⟩,⟨av,aC,K⟩⟩ z.aR.length=(pn k m q ⟨a,b,c,d,e⟩&&(rk m hz ⟨hl,nY,lM⟩ ⟨av,aC,K⟩&&(!hG.isEmpty&&rX hG z.aR.length))):=by
      unfold k8 rX;simp only;rw[Bool.eq_iff_iff];simp only[bK];constructor
      · rintro⟨a,b,c,d⟩;exact⟨a,c,b,d⟩
      · rintro⟨a,c,b,d⟩;exact⟨a,b,c,d⟩
    have lQ: ∀xx,xx=a9->(xx&&rX hG z.aR.length)=false->T=false:=by
      intro xx eq a6;rw[eq,dt]at a6;cases bs:qf L de
      · rw[e6,Ke (f:=(·.name)) F mW (by rw[<-fh];exact bs)];simp
      · rw[bs,oY]at a6;rw[e6,Az F (show(k8 · z.aR.length) (hr.mk de k m q ⟨a,b,c,d,e⟩ hG hz ⟨hl,nY,lM⟩ ⟨av,aC,K⟩)=false by show k8 _ _=false;rw[S];simpa[Es]using a6)];simp
    have LG: ∀xx,xx=a9->(xx&&rX hG z.aR.length)=true->qf L de=true/\k8 ⟨de,k,m,q,⟨a,b,c,d,e⟩,hG,hz,⟨hl,nY,lM⟩,⟨av,aC,K⟩⟩ z.aR.length=true:=(by intro xx eq a6;rw[eq,dt]at a6;simp only[bK]at a6;rw[S];simp only[bK];exact⟨a6.1.1,a6.1.2.1,a6.1.2.2.1,a6.1.2.2.2,a6.2⟩);cases bs:qf L de
    · skip
      have uw:false=a9:=(by rw[dt];simp[bs]);simp(disch:=first|omega|simp only[DI.aF];omega) [Bv,Dx,Dy,Dz,DA,bl,eR,kZ,aw,ch,hI,hq,aJ,bj,bn,eA,bs,-ao,-aB,-ai,-au,-List.map_map];refine OT h (x:=⟨de,k,m,q,⟨a,b,c,d,e⟩,hG,hz,⟨hl,nY,lM⟩,⟨av,aC,K⟩⟩) (q:=t.next+5) (gw.step Y 6 (cM:=false) (o:=t.next+7) (by decide) (by decide) (n:=1) (ko:=[de]) rfl (fF (d:=6) ?_ ?_ ?_ ?_ ?_ ?_) ?_ ?_ ?_ (.inr (by omega)) ?_ ?_) js (by simp(disch:=first|omega|simp only[DI.aF];omega) [eR,-ao,-aB,-ai,-au,-List.map_map]) (by simp) (by simp) λev e9 AN=> ?_;any_goals(intro ay;first|(exact absurd rfl ay)|(simp;done))
      · simp
      · rw[<-fW];simp
      · rw[<-fW];simp(disch:=first|omega|simp only[DI.aF];omega) [-ao,-aB,-ai,-au,-List.map_map]
      · simp;try omega
      · intro b K eO;rw[<-jy]at eO;simp(disch:=first|omega|simp only[DI.aF];omega) [-ao,-aB,-ai,-au,-List.map_map]
      have AO:ev 17=X i:=AN.trans (by simp[hI]);simp[AO,bc];refine aZ _ _ ⟨_,_,_,e9.kD (by simp) (fF (d:=0) (λ_=>by simp) (λ_=>by simp) (λ_=>by simp) (λ_=>by simp) (λ_=>by simp) (λ_=>by simp)),by simp,λa6=> ?_,λa6=>lQ _ uw a6⟩;obtain⟨aj,ba⟩:=LG _ uw a6;refine⟨mh,?_,?_,AA F gO ba⟩
      · rw[<-fW,fh,pb,Ad,<-p3 (f:=(·.name)) F]
      · rw[<-p3 (f:=(·.name)) F,yB,mW,<-fh];exact aj
    cases ck:pn k m q ⟨a,b,c,d,e⟩
    · skip
      have uw:false=a9:=(by rw[dt];simp[bs,ck]);simp(disch:=first|omega|simp only[DI.aF];omega) [Bv,Dx,Dy,Dz,DA,bl,eR,kZ,aw,ch,hI,hq,aJ,bj,bn,eA,bs,ck,-ao,-aB,-ai,-au,-List.map_map];refine OT h (x:=⟨de,k,m,q,⟨a,b,c,d,e⟩,hG,hz,⟨hl,nY,lM⟩,⟨av,aC,K⟩⟩) (q:=t.next+5) (gw.step Y 6 (cM:=false) (o:=t.next+7) (by decide) (by decide) (n:=1) (ko:=[de]) rfl (fF (d:=6) ?_ ?_ ?_ ?_ ?_ ?_) ?_ ?_ ?_ (.inr (by omega)) ?_ ?_) js (by simp(disch:=first|omega|simp only[DI.aF];omega) [eR,-ao,-aB,-ai,-au,-List.map_map]) (by simp) (by simp) λev e9 AN=> ?_;any_goals(intro ay;first|(exact absurd rfl ay)|(simp;done))
      · simp
      · rw[<-fW];simp
      · rw[<-fW];simp(disch:=first|omega|simp only[DI.aF];omega) [-ao,-aB,-ai,-au,-List.map_map]
      · simp;try omega
      · intro b K eO;rw[<-jy]at eO;simp(disch:=first|omega|simp only[DI.aF];omega) [-ao,-aB,-ai,-au,-List.map_map]
      have AO:ev 17=X i:=AN.trans (by simp[hI]);simp[AO,bc];refine aZ _ _ ⟨_,_,_,e9.kD (by simp) (fF (d:=0) (λ_=>by simp) (λ_=>by simp) (λ_=>by simp) (λ_=>by simp) (λ_=>by simp) (λ_=>by simp)),by simp,λa6=> ?_,λa6=>lQ _ uw a6⟩;obtain⟨aj,ba⟩:=LG _ uw a6;refine⟨mh,?_,?_,AA F gO ba⟩
      · rw[<-fW,fh,pb,Ad,<-p3 (f:=(·.name)) F]
      · rw[<-p3 (f:=(·.name)) F,yB,mW,<-fh];exact aj
    have axa:0<=m/\m<=4:=(by have:eG m 0 4=true:=(by simp only[pn,bK]at ck;exact ck.2.1);exact rT.1 this);have Ie:(0<=m/\m<=4)/\((∀x∈hz,x.bD)/\hz.length<1000000)/\(aV.mk hl nY lM).bD/\(aV.mk av aC K).bD:=⟨axa,eT,fk,hB⟩;cases cE:rk m hz ⟨hl,nY,lM⟩ ⟨av,aC,K⟩
    · skip
      have uw:false=a9:=(by rw[dt];simp[bs,ck,cE]);simp(disch:=first|omega|simp only[DI.aF];omega) [Bv,Dx,Dy,Dz,DA,bl,eR,kZ,aw,ch,hI,hq,aJ,bj,bn,eA,bs,ck,cE,-ao,-aB,-ai,-au,-List.map_map];refine OT h (x:=⟨de,k,m,q,⟨a,b,c,d,e⟩,hG,hz,⟨hl,nY,lM⟩,⟨av,aC,K⟩⟩) (q:=t.next+5) (gw.step Y 6 (cM:=false) (o:=t.next+7) (by decide) (by decide) (n:=1) (ko:=[de]) rfl (fF (d:=6) ?_ ?_ ?_ ?_ ?_ ?_) ?_ ?_ ?_ (.inr (by omega)) ?_ ?_) js (by simp(disch:=first|omega|simp only[DI.aF];omega) [eR,-ao,-aB,-ai,-au,-List.map_map]) (by simp) (by simp) λev e9 AN=> ?_;any_goals(intro ay;first|(exact absurd rfl ay)|(simp;done))
      · simp
      · rw[<-fW];simp
      · rw[<-fW];simp(disch:=first|omega|simp only[DI.aF];omega) [-ao,-aB,-ai,-au,-List.map_map]
      · simp;try omega
      · intro b K eO;rw[<-jy]at eO;simp(disch:=first|omega|simp only[DI.aF];omega) [-ao,-aB,-ai,-au,-List.map_map]
      have AO:ev 17=X i:=AN.trans (by simp[hI]);simp[AO,bc];refine aZ _ _ ⟨_,_,_,e9.kD (by simp) (fF (d:=0) (λ_=>by simp) (λ_=>by simp) (λ_=>by simp) (λ_=>by simp) (λ_=>by simp) (λ_=>by simp)),by simp,λa6=> ?_,λa6=>lQ _ uw a6⟩;obtain⟨aj,ba⟩:=LG _ uw a6;refine⟨mh,?_,?_,AA F gO ba⟩
      · rw[<-fW,fh,pb,Ad,<-p3 (f:=(·.name)) F]
      · rw[<-p3 (f:=(·.name)) F,yB,mW,<-fh];exact aj
    by_cases CV:hG.length=0
    · have Yb: ¬(0:Int)<hG.length:=(by omega);have Yc:hG.isEmpty=true:=(by rw[Ws];exact CV);have uE:hG=[]:=pz.1 CV;have uw:false=a9:=(by rw[dt];simp[bs,ck,cE,Yc]);simp(disch:=first|omega|simp only[DI.aF];omega) [Bv,Dx,Dy,Dz,DA,bl,eR,kZ,aw,ch,hI,hq,aJ,bj,bn,eA,bs,ck,cE,CV,-ao,-aB,-ai,-au,-List.map_map];refine OT h (x:=⟨de,k,m,q,⟨a,b,c,d,e⟩,hG,hz,⟨hl,nY,lM⟩,⟨av,aC,K⟩⟩) (q:=t.next+5) (gw.step Y 6 (cM:=false) (o:=t.next+7) (by decide) (by decide) (n:=1) (ko:=[de]) rfl (fF (d:=6) ?_ ?_ ?_ ?_ ?_ ?_) ?_ ?_ ?_ (.inr (by omega)) ?_ ?_) js (by simp(disch:=first|omega|simp only[DI.aF];omega) [eR,-ao,-aB,-ai,-au,-List.map_map]) (by simp) (by simp) λev e9 AN=> ?_;any_goals(intro ay;first|(exact absurd rfl ay)|(simp;done))
      · simp
      · rw[<-fW];simp
      · rw[<-fW];simp(disch:=first|omega|simp only[DI.aF];omega) [-ao,-aB,-ai,-au,-List.map_map]
      · simp;try omega
      · intro b K eO;rw[<-jy]at eO;simp(disch:=first|omega|simp only[DI.aF];omega) [-ao,-aB,-ai,-au,-List.map_map]
      have AO:ev 17=X i:=AN.trans (by simp[hI]);simp[AO,bc];refine aZ _ _ ⟨_,_,_,e9.kD (by simp) (fF (d:=0) (λ_=>by simp) (λ_=>by simp) (λ_=>by simp) (λ_=>by simp) (λ_=>by simp) (λ_=>by simp)),by simp,λa6=> ?_,λa6=>lQ _ uw a6⟩;obtain⟨aj,ba⟩:=LG _ uw a6;refine⟨mh,?_,?_,AA F gO ba⟩
      · rw[<-fW,fh,pb,Ad,<-p3 (f:=(·.name)) F]
      · rw[<-p3 (f:=(·.name)) F,yB,mW,<-fh];exact aj
    have Yb:(0:Int)<hG.length:=(by omega);have ayH:0<hG.length:=(by omega);have Yc:hG.isEmpty=false:=by
      cases bz:hG.isEmpty
      · rfl
      · rw[Ws]at bz;exact absurd bz CV
    have uw:true=a9:=(by rw[dt];simp[bs,ck,cE,Yc]);simp(disch:=first|omega|simp only[DI.aF];omega) [Bv,Dx,Dy,Dz,DA,bl,eR,kZ,aw,ch,hI,hq,aJ,bj,bn,eA,bs,ck,cE,ayH,-ao,-aB,-ai,-au,-List.map_map];refine OT h (x:=⟨de,k,m,q,⟨a,b,c,d,e⟩,hG,hz,⟨hl,nY,lM⟩,⟨av,aC,K⟩⟩) (q:=t.next+5) (gw.step Y 6 (cM:=true) (o:=t.next+7) (by decide) (by decide) (n:=1) (ko:=[de]) rfl (fF (d:=6) ?_ ?_ ?_ ?_ ?_ ?_) ?_ ?_ ?_ (.inr (by omega)) ?_ ?_) js (by simp(disch:=first|omega|simp only[DI.aF];omega) [eR,-ao,-aB,-ai,-au,-List.map_map]) (by simp) (by simp) λev e9 AN=> ?_;any_goals(intro ay;first|(exact absurd rfl ay)|(simp;done))
    · simp
    · rw[<-fW];simp
    · rw[<-fW];simp(disch:=first|omega|simp only[DI.aF];omega) [-ao,-aB,-ai,-au,-List.map_map]
    · simp;try omega
    · intro b K eO;rw[<-jy]at eO;simp(disch:=first|omega|simp only[DI.aF];omega) [-ao,-aB,-ai,-au,-List.map_map]
    have AO:ev 17=X i:=AN.trans (by simp[hI]);simp[AO,bc];refine aZ _ _ ⟨_,_,_,e9.kD (by simp) (fF (d:=0) (λ_=>by simp) (λ_=>by simp) (λ_=>by simp) (λ_=>by simp) (λ_=>by simp) (λ_=>by simp)),by simp,λa6=> ?_,λa6=>lQ _ uw a6⟩;obtain⟨aj,ba⟩:=LG _ uw a6;refine⟨mh,?_,?_,AA F gO ba⟩
    · rw[<-fW,fh,pb,Ad,<-p3 (f:=(·.name)) F]
    · rw[<-p3 (f:=(·.name)) F,yB,mW,<-fh];exact aj
  · rintro u t ⟨bE,bN,b,Y,hI,kG,n9⟩;rw[kM]at kG;have aw:=Y.aw;have ch:=Y.ch;have aJ:=Y.aJ;have et:=aO aJ;have rK:T=b:=by
      cases b
      · exact n9 rfl
      · obtain⟨bh,_,bt,c1⟩:=kG rfl;rw[e6,bh,bt,c1];rfl
    have cg: ¬(((z.bT.length:Nat):Int)<z.bT.length):=(by omega);cases b
    all_goals
      simp[Bv,Dx,Dy,Dz,DA,bl,aw,hI,aJ,cg];exact a1 _ _ bE bN (by rw[rK];exact(Y.kD (by simp) (fF (d:=0) (λ_=>by simp) (λ_=>by simp) (λ_=>by simp) (λ_=>by simp) (λ_=>by simp) (λ_=>by simp)))) (λa6=>by rw[rK]at a6;exact(kG a6).2.1)
  · funext k;by_cases e:k=6
    · subst e;simp
    · rw[ny e]
end Go.Proofs.YtkpifdkccdndcaaGreat
