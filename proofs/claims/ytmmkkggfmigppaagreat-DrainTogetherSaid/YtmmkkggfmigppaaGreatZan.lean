/-
  A part of the proof, shortened by tools of ours.
-/
import Derived.Test.YtmmkkggfmigppaaGreatZam
set_option linter.all false
set_option maxRecDepth 8000
set_option maxHeartbeats 16000000
namespace Go.Proofs.YtmmkkggfmigppaaGreat
open Go Go.DI
section
set_option maxRecDepth 100000
def o4:cp N 62:=⟨_,by conv=>lhs;reduce⟩
def aly:aw:=aF (a:=bg o4.1.body 1839) ⟨_,by conv=>lhs;reduce⟩
def RV:aw:=aF (a:= λx=>bh 7 x (bg o4.1.body 303)) ⟨_,by conv=>lhs;reduce⟩ aly
def alm:aw:=aF (a:=bg o4.1.body 3679) ⟨_,by conv=>lhs;reduce⟩
def RW:aw:=aF (a:= λx=>bh 7 x (bg o4.1.body 607)) ⟨_,by conv=>lhs;reduce⟩ alm
def alo:aw:=aF (a:=bg o4.1.body 7359) ⟨_,by conv=>lhs;reduce⟩
def RX:aw:=aF (a:= λx=>bh 7 x (bg o4.1.body 1215)) ⟨_,by conv=>lhs;reduce⟩ alo
def alq:aw:=aF (a:=bg o4.1.body 14719) ⟨_,by conv=>lhs;reduce⟩
def RY:aw:=aF (a:= λx=>bh 7 x (bg o4.1.body 2431)) ⟨_,by conv=>lhs;reduce⟩ alq
def alu:aw:=aF (a:=bg o4.1.body 29439) ⟨_,by conv=>lhs;reduce⟩
def RZ:aw:=aF (a:= λx=>bh 7 x (bg o4.1.body 4863)) ⟨_,by conv=>lhs;reduce⟩ alu
def alw:aw:=aF (a:=bg o4.1.body 58879) ⟨_,by conv=>lhs;reduce⟩
def R0:aw:=aF (a:= λx=>bh 7 x (bg o4.1.body 9727)) ⟨_,by conv=>lhs;reduce⟩ alw
def alx:aw:=aF (a:=bg o4.1.body 2047) ⟨_,by conv=>lhs;reduce⟩
def alv:aw:=aF (a:= λx y=>bh 3 y (bh 18 x (bg o4.1.body 1023))) ⟨_,by conv=>lhs;reduce⟩ R0 alx
def alr:aw:=aF (a:= λx y=>bh 3 y (bh 18 x (bg o4.1.body 511))) ⟨_,by conv=>lhs;reduce⟩ RZ alv
def alp:aw:=aF (a:= λx y=>bh 3 y (bh 18 x (bg o4.1.body 255))) ⟨_,by conv=>lhs;reduce⟩ RY alr
def aln:aw:=aF (a:= λx y=>bh 3 y (bh 18 x (bg o4.1.body 127))) ⟨_,by conv=>lhs;reduce⟩ RX alp
def alz:aw:=aF (a:= λx y=>bh 3 y (bh 18 x (bg o4.1.body 63))) ⟨_,by conv=>lhs;reduce⟩ RW aln
def als:aw:=aF (a:= λx y=>bh 15 y (bh 75 x (bg o4.1.body 7))) ⟨_,by conv=>lhs;reduce⟩ RV alz
def alk:aw:=aF (a:= λx=>bh 7 x o4.1.body) ⟨_,by conv=>lhs;reduce⟩ als
def Y1:b8:=⟨244,[.bJ 2],alk⟩
theorem azM:cd N 62=some Y1:=by kernel_rfl
def aAh:cp N 110:=⟨_,by conv=>lhs;reduce⟩
def aik:aw:=aF (a:=aAh.1.body) ⟨_,by conv=>lhs;reduce⟩
def XE:b8:=⟨15,[.bJ 6],aik⟩
theorem axx:cd N 110=some XE:=by kernel_rfl
def HN:cp N 111:=⟨_,by conv=>lhs;reduce⟩
def Qq:aw:=aF (a:=bg HN.1.body 13103) ⟨_,by conv=>lhs;reduce⟩
def Qp:aw:=aF (a:= λx=>bh 12 x (bg HN.1.body 1839)) ⟨_,by conv=>lhs;reduce⟩ Qq
def Qo:aw:=aF (a:= λx=>bh 3 x (bg HN.1.body 815)) ⟨_,by conv=>lhs;reduce⟩ Qp
def XG:aw:=aF (a:= λx=>bh 3 x (bg HN.1.body 303)) ⟨_,by conv=>lhs;reduce⟩ Qo
def Qr:aw:=aF (a:=bg HN.1.body 63) ⟨_,by conv=>lhs;reduce⟩
def ail:aw:=aF (a:= λx y=>bh 63 y (bh 303 x HN.1.body)) ⟨_,by conv=>lhs;reduce⟩ XG Qr
def XF:b8:=⟨89,[.bJ 2],ail⟩
theorem axy:cd N 111=some XF:=by kernel_rfl
def Zn:cp N 112:=⟨_,by conv=>lhs;reduce⟩
def XJ:aw:=aF (a:=bg Zn.1.body 151) ⟨_,by conv=>lhs;reduce⟩
def XI:aw:=aF (a:=bg Zn.1.body 31) ⟨_,by conv=>lhs;reduce⟩
def aim:aw:=aF (a:= λx y=>bh 31 y (bh 151 x Zn.1.body)) ⟨_,by conv=>lhs;reduce⟩ XJ XI
def XH:b8:=⟨95,[.bJ 2],aim⟩
theorem axz:cd N 112=some XH:=by kernel_rfl
def Zo:cp N 113:=⟨_,by conv=>lhs;reduce⟩
def XL:aw:=aF (a:=bg Zo.1.body 151) ⟨_,by conv=>lhs;reduce⟩
def Qs:aw:=aF (a:=bg Zo.1.body 31) ⟨_,by conv=>lhs;reduce⟩
def ain:aw:=aF (a:= λx y=>bh 31 y (bh 151 x Zo.1.body)) ⟨_,by conv=>lhs;reduce⟩ XL Qs
def XK:b8:=⟨60,[.bJ 4],ain⟩
theorem axA:cd N 113=some XK:=by kernel_rfl
def Zp:cp N 114:=⟨_,by conv=>lhs;reduce⟩
def XN:aw:=aF (a:=bg Zp.1.body 75) ⟨_,by conv=>lhs;reduce⟩
def Qt:aw:=aF (a:=bg Zp.1.body 15) ⟨_,by conv=>lhs;reduce⟩
def aio:aw:=aF (a:= λx y=>bh 15 y (bh 75 x Zp.1.body)) ⟨_,by conv=>lhs;reduce⟩ XN Qt
def XM:b8:=⟨24,[.bJ 2],aio⟩
theorem axB:cd N 114=some XM:=by kernel_rfl
def aAA:cp N 170:=⟨_,by conv=>lhs;reduce⟩
def aje:aw:=aF (a:=aAA.1.body) ⟨_,by conv=>lhs;reduce⟩
def QZ:b8:=⟨29,[.bJ 2],aje⟩
theorem ajf:cd N 170=some QZ:=by kernel_rfl
def aAB:cp N 171:=⟨_,by conv=>lhs;reduce⟩
def ajg:aw:=aF (a:=aAB.1.body) ⟨_,by conv=>lhs;reduce⟩
def Q0:b8:=⟨7,[.bJ 2],ajg⟩
theorem ajh:cd N 171=some Q0:=by kernel_rfl
def Zy:cp N 172:=⟨_,by conv=>lhs;reduce⟩
def Q1:aw:=aF (a:=bg Zy.1.body 37) ⟨_,by conv=>lhs;reduce⟩
def K6:aw:=aF (a:=bg Zy.1.body 7) ⟨_,by conv=>lhs;reduce⟩
def aji:aw:=aF (a:= λx y=>bh 7 y (bh 37 x Zy.1.body)) ⟨_,by conv=>lhs;reduce⟩ Q1 K6
def Ya:b8:=⟨18,[.bJ 4],aji⟩
theorem axO:cd N 172=some Ya:=by kernel_rfl
def L2:cp N 176:=⟨_,by conv=>lhs;reduce⟩
def K7:aw:=aF (a:=bg L2.1.body 2568779) ⟨_,by conv=>lhs;reduce⟩
def K8:aw:=aF (a:= λx=>bh 627 x (bg L2.1.body 4683)) ⟨_,by conv=>lhs;reduce⟩ K7
def Q3:aw:=aF (a:= λx=>bh 73 x (bg L2.1.body 75)) ⟨_,by conv=>lhs;reduce⟩ K8
def Q2:aw:=aF (a:=bg L2.1.body 15) ⟨_,by conv=>lhs;reduce⟩
def ajm:aw:=aF (a:= λx y=>bh 15 y (bh 75 x L2.1.body)) ⟨_,by conv=>lhs;reduce⟩ Q3 Q2
def Yb:b8:=⟨70,[.bJ 2],ajm⟩
theorem axW:cd N 176=some Yb:=by kernel_rfl
def aAE:cp N 177:=⟨_,by conv=>lhs;reduce⟩
def Ev:aw:=aF (a:=aAE.1.body) ⟨_,by conv=>lhs;reduce⟩
def B0:b8:=⟨39,[.bJ 8],Ev⟩
theorem axX:cd N 177=some B0:=by kernel_rfl
def aAF:cp N 178:=⟨_,by conv=>lhs;reduce⟩
def K9:aw:=aF (a:=aAF.1.body) ⟨_,by conv=>lhs;reduce⟩
def Hh:b8:=⟨30,[.bJ 8],K9⟩
theorem axY:cd N 178=some Hh:=by kernel_rfl
def ZM:cp N 225:=⟨_,by conv=>lhs;reduce⟩
def Yo:aw:=aF (a:=bg ZM.1.body 37) ⟨_,by conv=>lhs;reduce⟩
def Rp:aw:=aF (a:=bg ZM.1.body 7) ⟨_,by conv=>lhs;reduce⟩
def aj5:aw:=aF (a:= λx y=>bh 7 y (bh 37 x ZM.1.body)) ⟨_,by conv=>lhs;reduce⟩ Yo Rp
def Yn:b8:=⟨18,[.bJ 4],aj5⟩
theorem ays:cd N 225=some Yn:=by kernel_rfl
def aAX:cp N 226:=⟨_,by conv=>lhs;reduce⟩
def aj6:aw:=aF (a:=aAX.1.body) ⟨_,by conv=>lhs;reduce⟩
def Yp:b8:=⟨4,[.bJ 2],aj6⟩
theorem ayt:cd N 226=some Yp:=by kernel_rfl
def ZN:cp N 227:=⟨_,by conv=>lhs;reduce⟩
def Rq:aw:=aF (a:=bg ZN.1.body 37) ⟨_,by conv=>lhs;reduce⟩
def Lp:aw:=aF (a:=bg ZN.1.body 7) ⟨_,by conv=>lhs;reduce⟩
def aj7:aw:=aF (a:= λx y=>bh 7 y (bh 37 x ZN.1.body)) ⟨_,by conv=>lhs;reduce⟩ Rq Lp
def Yq:b8:=⟨18,[.bJ 4],aj7⟩
theorem ayu:cd N 227=some Yq:=by kernel_rfl
def aAY:cp N 228:=⟨_,by conv=>lhs;reduce⟩
def aj8:aw:=aF (a:=aAY.1.body) ⟨_,by conv=>lhs;reduce⟩
def Yr:b8:=⟨5,[.bJ 2],aj8⟩
theorem ayv:cd N 228=some Yr:=by kernel_rfl
def aAZ:cp N 229:=⟨_,by conv=>lhs;reduce⟩
def aj9:aw:=aF (a:=aAZ.1.body) ⟨_,by conv=>lhs;reduce⟩
def Ys:b8:=⟨9,[.bJ 2],aj9⟩
theorem ayw:cd N 229=some Ys:=by kernel_rfl
def aA0:cp N 230:=⟨_,by conv=>lhs;reduce⟩
def ayy:aw:=aF (a:=aA0.1.body) ⟨_,by conv=>lhs;reduce⟩
def akb:b8:=⟨23,[.bJ 2],ayy⟩
theorem ayz:cd N 230=some akb:=by kernel_rfl
end
open Go Go.DI Go.Big
theorem aoB{l:List cq}: ∀r∈l.map ew,r.length=3/\ ∀v∈r,hB v=true:= λr al=>by obtain⟨x,_,rfl⟩:=gG.1 al;exact⟨rfl,λv M=>by simp[ew]at M;rcases M with rfl|rfl|rfl<;>rfl⟩
theorem aEM{l:List cq}:(l.map ew).flatten.length=l.length*3:=by rw[wO (G:=3) λr al=>(aoB r al).1,k8]
end Go.Proofs.YtmmkkggfmigppaaGreat
namespace Go.Big
structure la where
 name:ByteArray
 s:List cq
 cC:List (List cq)
 e:List cq
 deriving DecidableEq
def la.dq(x:la):Prop:= ∃G,2<=G/\G<200/\x.s=[⟨false,[1],[1]⟩]/\x.cC=[[⟨false,[],[1]⟩]]/\x.e=[⟨false,[1],[G]⟩]
def la.yM(_:la):Bool:=true
end Go.Big
namespace Go.Proofs.YtmmkkggfmigppaaGreat
open Go Go.DI Go.Big
abbrev afY(l:List (List cq)):Value:=ad (l.map λr=>[iP r]) 1
def gf(x:la):List Value:=[.string x.name,iP x.s,afY x.cC,iP x.e]
@[simp] theorem aOv{l c5:List (List cq)}:(l.map λr=>[iP r])=(c5.map λr=>[iP r])↔l=c5:=Cj λx y h=>by simpa using h
abbrev C2(x:la):Value:= .agg (gf x).toArray
theorem FN{dF:Type}{l:List dF}{i:Nat}{x:dF}(h:l[i]?=some x):l.take (i+1)=l.take i++[x]:=by rw[qm,h];rfl
end Go.Proofs.YtmmkkggfmigppaaGreat
namespace Go.Big
def fH(a b c:Int):Bool:=decide (b<=a)&&decide (a<=c)
end Go.Big
namespace Go.Proofs.YtmmkkggfmigppaaGreat
open Go Go.DI Go.Big
theorem axd{a b c:Int}:bP N 110 [E a,E b,E c] (.bool (fH a b c)):=by refine du (c2 (ax:=⟨[],[]⟩) axx (by kernel_rfl) (by simp[XE]) ?_);by_cases h:b<=a<;>simp[XE,aik,h,fH]
noncomputable def u5:bx N:= .cK 110 (Int×Int×Int) (λ⟨a,b,c⟩=>True) (λ⟨a,b,c⟩=>[E a,E b,E c]) (λ⟨a,b,c⟩=> .bool (fH a b c)) (λ⟨a,b,c⟩ h=>axd)
@[simp] theorem aT1:u5.f=110:=rfl
@[simp] theorem aT2{a:Int}{b:Int}{c:Int}:u5.fn ([E a,E b,E c])=some (.bool (fH a b c)):=bx.dx (x:=(a,b,c)) trivial λy Y=>by obtain⟨ko,h6,mA⟩:=y;simpa using Y
theorem C3{x:cq}{n:Bool}{a b:List Int}(h:[dL x]=[.agg #[.bool n,b5 a,b5 b]]):x=⟨n,a,b⟩:=by obtain⟨gQ,ed,cw⟩:=x;simpa[ew]using h
noncomputable def aca(u:Nat)(l:List cq)(p:cq->Bool)(Z: ∀x∈l,bP N u [dL x] (.bool (p x))):bx N:= .cK u cq (λx=>x∈l) (λx=>[dL x]) (λx=> .bool (p x)) Z
@[simp] theorem aTR{u:Nat}{l:List cq}{p:cq->Bool}{Z: ∀x∈l,bP N u [dL x] (.bool (p x))}:(aca u l p Z).f=u:=rfl
@[simp] theorem aTS{u:Nat}{l:List cq}{p:cq->Bool}{Z: ∀x∈l,bP N u [dL x] (.bool (p x))}{n:Bool}{a b:List Int}(h:cq.mk n a b∈l):(aca u l p Z).fn [.agg #[.bool n,b5 a,b5 b]]=some (.bool (p ⟨n,a,b⟩)):=
  bx.dx (x:=cq.mk n a b) h λy Y=>C3 Y
theorem aeH{u:Nat}{l:List cq}{p:cq->Bool}(ae:l.length<1000000)(Z: ∀x∈l,bP N u [dL x] (.bool (p x))):bP N 172 [iP l,.func (.func u) #[] #[]] (.bool (l.all p)):=by
 refine du (c2 (ax:=⟨[],[]⟩) axO (by kernel_rfl) (by simp[Ya]) ?_);simp[Ya,aji];refine gR (ax:=⟨[aca u l p Z],[]⟩) (λi z t=>(l.take i).all p=true/\z 1= .func (.func u) #[] #[]/\z 7=iP l/\z 8=E l.length/\z 9=E i) l.length ?_ ?_ 0 _ _ (gi _) ⟨by simp,by simp,by simp,by simp,by simp⟩
 ·rintro i z t W ⟨aa,aU,ca,bl,cP⟩ bM a1;have B:l[i]?=some l[i]:=c1 W;have ab:l[i]∈l:=kd W;have br:=fz (n:=i) (by omega);have bC:(i:Int)<l.length:=(by omega);cases hb:p l[i]
  ·simp(disch:=first|omega|simp only[bE];omega) [Q1,K6,aU,ca,bl,cP,bC,hb,ew];exact⟨_,ab,hb⟩
  ·simp(disch:=first|omega|simp only[bE];omega) [Q1,K6,aU,ca,bl,cP,bC,br,hb,ew,-an,-au,-ak,-aq,-List.map_map];exact a1 _ _ ⟨by rw[FN B,F3,aa];simp[hb],by simp[aU],by simp[ca],by simp[bl],by simp⟩
 ·rintro z t ⟨aa,aU,ca,bl,cP⟩;rw[mY]at aa;simp[Q1,K6,bl,cP,K6];simpa using aa
end Go.Proofs.YtmmkkggfmigppaaGreat
namespace Go.DI
open Go Go.RowKit
theorem OP{a b:Nat}(h:a≠b):Nat.beq a b=false:=by
 cases hb:Nat.beq a b with
 |false=>rfl
 |true=>exact absurd (Nat.eq_of_beq_eq_true hb) h
inductive gj(dF:Type) where
 |nil
 |hN (v:Option dF) (l r:gj dF)
section
variable {dF:Type}
def gj.I:gj dF->Nat->Option dF
 | .nil,_=>none
 | .hN v l r,k=>bif Nat.beq k 0 then v else bif Nat.beq (k%2) 1 then l.I (k/2)else r.I (k/2-1)
def gj.set:Nat->gj dF->Nat->Option dF->gj dF
 |0,t,_,_=>t
 |n+1,.nil,k,x=>bif Nat.beq k 0 then .hN x .nil .nil else bif Nat.beq (k%2) 1 then .hN none (gj.set n .nil (k/2) x) .nil else .hN none .nil (gj.set n .nil (k/2-1) x)
 |n+1,.hN v l r,k,x=>bif Nat.beq k 0 then .hN x l r else bif Nat.beq (k%2) 1 then .hN v (gj.set n l (k/2) x) r else .hN v l (gj.set n r (k/2-1) x)
@[simp] theorem gj.aOw(k:Nat):(gj.nil:gj dF).I k=none:=rfl
theorem gj.DO{v:Option dF}{l r:gj dF}{k:Nat}:(gj.hN v l r).I k=if k=0 then v else if k%2=1 then l.I (k/2)else r.I (k/2-1):=by
 show(bif Nat.beq k 0 then _ else _)=_;by_cases h:k=0
 ·simp[h]
 ·have A:Nat.beq k 0=false:=OP h;rw[A,if_neg h];show(bif Nat.beq (k%2) 1 then _ else _)=_;by_cases D:k%2=1
  ·simp[D]
  ·have ai:Nat.beq (k%2) 1=false:=OP D;rw[ai,if_neg D];rfl
theorem gj.wS: ∀{n:Nat} {t:gj dF} {k:Nat} {x:Option dF} {j:Nat},k+1<2^n->(gj.set n t k x).I j=if j=k then x else t.I j
 |0,t,k,x,j,h=>by simp at h
 | n+1,t,k,x,j,h=>by
   have Z:2^(n+1)=2*2^n:=(by rw[Nat.pow_succ];omega);have bq: ∀(v:Option dF) (l r:gj dF),(if k=0 then gj.hN x l r else if k%2=1 then .hN v (gj.set n l (k/2) x) r else .hN v l (gj.set n r (k/2-1) x)).I j=if j=k then x else(gj.hN v l r).I j:= λv l r=>by
    by_cases bY:k=0
    ·subst bY;rw[if_pos rfl,gj.DO,gj.DO];by_cases aX:j=0
     ·simp[aX]
     ·simp[aX]
    ·rw[if_neg bY];by_cases A:k%2=1
     ·rw[if_pos A,gj.DO,gj.DO];by_cases aX:j=0
      ·have:j≠k:=(by omega);simp[aX];omega
      ·rw[if_neg aX,if_neg aX];by_cases pE:j%2=1
       ·rw[if_pos pE,if_pos pE,gj.wS (by omega)];by_cases e:j=k
        ·rw[if_pos e,if_pos (by omega)]
        ·rw[if_neg e,if_neg (by omega)]
       ·rw[if_neg pE,if_neg pE,if_neg (by omega)]
     ·rw[if_neg A,gj.DO,gj.DO];by_cases aX:j=0
      ·simp[aX];omega
      ·rw[if_neg aX,if_neg aX];by_cases pE:j%2=1
       ·rw[if_pos pE,if_pos pE,if_neg (by omega)]
       ·rw[if_neg pE,if_neg pE,gj.wS (by omega)];by_cases e:j=k
        ·rw[if_pos e,if_pos (by omega)]
        ·rw[if_neg e,if_neg (by omega)]
   have afJ: ∀{pr:Type} (a b c:pr),(bif Nat.beq k 0 then a else bif Nat.beq (k%2) 1 then b else c)=if k=0 then a else if k%2=1 then b else c:= λa b c=>by
    by_cases bY:k=0
    ·simp[bY]
    ·have A:Nat.beq k 0=false:=OP bY;rw[A,if_neg bY];show(bif Nat.beq (k%2) 1 then _ else _)=_;by_cases D:k%2=1
     ·simp[D]
     ·have ai:Nat.beq (k%2) 1=false:=OP D;rw[ai,if_neg D];rfl
   cases t with
   | nil=>
     show(bif Nat.beq k 0 then gj.hN x .nil .nil else bif Nat.beq (k%2) 1 then .hN none (gj.set n .nil (k/2) x) .nil else .hN none .nil (gj.set n .nil (k/2-1) x)).I j=_;rw[afJ,bq none .nil .nil];by_cases e:j=k
     ·rw[if_pos e,if_pos e]
     ·rw[if_neg e,if_neg e,gj.DO];simp
   | hN v l r=>show(bif Nat.beq k 0 then gj.hN x l r else bif Nat.beq (k%2) 1 then .hN v (gj.set n l (k/2) x) r else .hN v l (gj.set n r (k/2-1) x)).I j=_;rw[afJ,bq v l r]
end
abbrev jZ:=gj Value
def my(dB:jZ):aC:= λk=>match dB.I k with|some v=>v|none=>undef
def EU(k:Nat):Bool:=Nat.blt k 2000000
theorem Cf{k:Nat}(h:EU k=true):k+1<2^21:=by
 have:k<2000000:=by simpa[EU,Nat.blt_eq]using h
 omega
def Ax(dB:jZ)(d:Option Nat)(v:Value):Option jZ:=match d with
 |none=>some dB
 |some k=>if EU k then some (gj.set 21 dB k (some v))else none
theorem acY{dB mF:jZ}{d:Option Nat}{v:Value}(h:Ax dB d v=some mF):my mF=cZ (my dB) d v:=by
 unfold Ax at h;cases d with
 |none=>cases h;rfl
 | some k=>
   simp only at h;split at h
   ·next S=>
    cases h;funext j;show(match(gj.set 21 dB k (some v)).I j with|some v=>v|none=>undef)=k7 (my dB) k v j;rw[gj.wS (Cf S)];unfold k7;by_cases e:j=k
    ·rw[if_pos e,if_pos e]
    ·rw[if_neg e,if_neg e];rfl
   ·cases h
def Eo:List Value->Nat->jZ->jZ
 |[],_,dB=>dB
 |v::l,k,dB=>Eo l (k+1) (gj.set 21 dB k (some v))
theorem ah9: ∀{l:List Value} {k:Nat} {dB:jZ} {j:Nat},k+l.length<1000000->(Eo l k dB).I j=if k<=j/\j<k+l.length then l[j-k]? else dB.I j
 | [],k,dB,j,h=>by rw[if_neg λD=>by simp at D;omega];rfl
 | v::l,k,dB,j,h=>by
   simp only[mC]at h;show(Eo l (k+1) (gj.set 21 dB k (some v))).I j=_;rw[ah9 (by omega),gj.wS (by omega)];by_cases e:j=k
   ·subst e;rw[if_neg (by omega),if_pos rfl,if_pos ⟨c8 _,by simp⟩];simp
   ·by_cases D:k+1<=j/\j<k+1+l.length
    ·rw[if_pos D,if_pos (by simp;omega)];have:j-k=(j-(k+1))+1:=(by omega);rw[this,I0]
    ·rw[if_neg D,if_neg e,if_neg (by simp;omega)]
theorem aG5{args:List Value}(h:args.length<1000000):my (Eo args 0 .nil)=ig args:=by
 funext j;show(match(Eo args 0 .nil).I j with|some v=>v|none=>undef)=args.getD j undef;rw[ah9 (by omega)];by_cases D:j<args.length
 ·rw[if_pos ⟨gi _,by omega⟩];simp[c1 D]
 ·rw[if_neg (by omega)];simp[re (by omega:args.length<=j)]
structure e5 where
 next:Nat
 hI:gj eM
 mp:gj (List (Value×Value))
def cX(X:e5):H:=⟨X.next,λb=>X.hI.I b,λb=>X.mp.I b⟩
def Jd:e5:=⟨0,.nil,.nil⟩
def gy(X:e5):Prop:= ∀i,X.next<=i->X.hI.I i=none
theorem ang:cX Jd=fJ:=rfl
theorem aqz:gy Jd:= λ_ _=>rfl
def Gl(X:e5)(k:Nat):e5:=⟨X.next+k,X.hI,X.mp⟩
theorem anh{X:e5}(h:gy X){k:Nat}:cX (Gl X k)=(cX X).b0 k:=by
 unfold cX Gl H.b0;simp only[H.mk.injEq,and_true,true_and];funext i;by_cases W:i<X.next
 ·rw[if_pos W]
 ·rw[if_neg W];exact h i (by omega)
theorem aqA{X:e5}(h:gy X){k:Nat}:gy (Gl X k):= λi W=>h i (by simp[Gl]at W;omega)
def qc(X:e5)(b:Nat)(x:Option eM):Option e5:=if EU b&&Nat.blt b X.next then some ⟨X.next,gj.set 21 X.hI b x,X.mp⟩else none
theorem Cx{X cF:e5}{b:Nat}{x:Option eM}(aS:gy X)(h:qc X b x=some cF):gy cF/\cX cF=(cX X).aO b x:=by
 unfold qc at h;split at h
 ·next S=>
  cases h;simp only[a6,Nat.blt_eq]at S;refine⟨λi W=> ?_,?_⟩
  ·show(gj.set 21 X.hI b x).I i=none;rw[gj.wS (Cf S.1),if_neg (by simp at W;omega)];exact aS i W
  ·unfold cX H.aO;simp only[H.mk.injEq,and_true,true_and];funext i;rw[gj.wS (Cf S.1)]
 ·cases h
def Tv(X:e5)(b:Nat)(es:List (Value×Value)):Option e5:=if EU b&&Nat.blt b X.next then some ⟨X.next,gj.set 21 X.hI b (some ⟨[],true⟩),gj.set 21 X.mp b (some es)⟩else none
theorem aop{X cF:e5}{b:Nat}{es:List (Value×Value)}(aS:gy X)(h:Tv X b es=some cF):gy cF/\cX cF=(cX X).hv b es:=by
 unfold Tv at h;split at h
 ·next S=>
  cases h;simp only[a6,Nat.blt_eq]at S;refine⟨λi W=> ?_,?_⟩
  ·show(gj.set 21 X.hI b (some ⟨[],true⟩)).I i=none;rw[gj.wS (Cf S.1),if_neg (by simp at W;omega)];exact aS i W
  ·unfold cX H.hv;simp only[H.mk.injEq,true_and];refine⟨?_,?_⟩
   ·funext i;rw[gj.wS (Cf S.1)]
   ·funext i;rw[gj.wS (Cf S.1)]
 ·cases h
def E5(k:ah)(id:Nat)(z:aC)(X:e5):Option e5:=
 match k with
 | .nu G=>qc X id (some ⟨G,true⟩)
 | .oy x=>qc X id (some ⟨an (O z x),true⟩)
 | .mh _ _ G ps=>qc X id (some ⟨nj G z ps,true⟩)
 | .store _ x v=>(match O z x with
   | .pointer (some a)=>(match X.hI.I a.block with|some y=>qc X a.block (some ⟨gE y.cells a.off (an (O z v)),y.own⟩)|none=>none)
   |_=>none)
 | .pX x=>qc X id (some ⟨H7 (wB (O z x)),true⟩)
 | .oc _ _ zero l _=>qc X id (some ⟨(List.replicate (eN (O z l)).toNat zero).flatten,true⟩)
 | .oV _ _ zero _ l=>qc X id (some ⟨(List.replicate (eN (O z l)).toNat zero).flatten,true⟩)
 | .hJ zero x=>(match O z x with
   | .slice none _ _=>some X
   | .slice (some a) l _=>(match X.hI.I a.block with|some y=>qc X a.block (some ⟨gE y.cells a.off (List.replicate l zero).flatten,y.own⟩)|none=>none)
   |_=>none)
 | .app G _ x y=>if k4 (O z y)=0 then some X else(match O z x with
   | .slice (some a) l _=>(match qc X a.block none with
     |some de=>qc de id (some ⟨fq (cX X) G (O z x)++lb (cX X) G (O z y),true⟩)
     |none=>none)
   | .slice none _ _=>qc X id (some ⟨lb (cX X) G (O z y),true⟩)
   |_=>none)
 | .qW=>Tv X id []
 | .o7 _ x k v=>Tv X (yE (O z x)) (lK (O z k) (O z v) (((cX X).fu (yE (O z x))).getD []))
 |_=>some X
theorem ani{X:e5}{b:Nat}{x:eM}(aS:gy X)(h:X.hI.I b=some x):(cX X).I b=some x:=by
 have:b<X.next:=Nat.lt_of_not_le λe=>by rw[aS b e]at h;cases h
 show(if b<X.next then X.hI.I b else none)=_;rw[if_pos this,h]
theorem am3{k:ah}{id:Nat}{z:aC}{X cF:e5}(aS:gy X)(h:E5 k id z X=some cF):gy cF/\cX cF=k.o6 id z (cX X):=by
 have key: ∀{b:Nat} {x:Option eM},qc X b x=some cF->gy cF/\cX cF=(cX X).aO b x:= λh=>Cx aS h;cases k with
 |nu G=>exact key h
 |oy x=>exact key h
 |mh a b G ps=>exact key h
 | store n x v=>
   simp only[E5]at h;show gy cF/\cX cF=pn (cX X) (O z x) (an (O z v));split at h
   ·next a B=>
    split at h
    ·next y Y=>obtain⟨A,D⟩:=key h;refine⟨A,?_⟩;rw[D];unfold pn;rw[B];simp only[ani aS Y]
    ·cases h
   ·cases h
 |pX x=>exact key h
 |oc a b c d e=>exact key h
 |oV a b c d e=>exact key h
 | hJ zero x=>
   simp only[E5]at h;show gy cF/\cX cF=n1 (cX X) zero (O z x);split at h
   ·next l c B=>cases h;rw[B];exact⟨aS,rfl⟩
   ·next a l c B=>
    split at h
    ·next y Y=>obtain⟨A,D⟩:=key h;refine⟨A,?_⟩;rw[D];unfold n1;rw[B];simp only[ani aS Y]
    ·cases h
   ·cases h
 | app G fS x y=>
   simp only[E5]at h;show gy cF/\cX cF=if k4 (O z y)=0 then cX X else(hC (cX X) (O z x)).aO id (some ⟨fq (cX X) G (O z x)++lb (cX X) G (O z y),true⟩)
   split at h
   ·next bY=>cases h;rw[if_pos bY];exact⟨aS,rfl⟩
   ·next bY=>
    rw[if_neg bY];split at h
    ·next a l c B=>
     split at h
     ·next de A=>obtain⟨ct,aD⟩:=Cx aS A;obtain⟨dW,aJ⟩:=Cx ct h;refine⟨dW,?_⟩;rw[aJ,aD,B];rfl
     ·cases h
    ·next l c B=>obtain⟨dW,aJ⟩:=Cx aS h;refine⟨dW,?_⟩;rw[aJ,B];rfl
    ·cases h
 |qW=>exact aop aS h
 |o7 a x k v=>exact aop aS h
 |_=>cases h;exact⟨aS,rfl⟩
abbrev nT:=Nat->List Value->e5->Option (Value×e5)
def Pc(X:e5):List Nat->Option e5
 |[]=>some X
 | o::l=>match qc X o none with
   |some de=>Pc de l
   |none=>none
def SP(X de:e5):List Nat->Option e5
 |[]=>some de
 | o::l=>match qc de o (X.hI.I o)with
   |some fN=>SP X fN l
   |none=>none
def IB(X:e5):List Nat->Option e5
 |[]=>some X
 | o::l=>match X.hI.I o with
   | some x=>(match qc X o (some ⟨x.cells,false⟩)with
     |some de=>IB de l
     |none=>none)
   |none=>IB X l
def Du(X:e5):List Nat->Option e5
 |[]=>some X
 | o::l=>match X.mp.I o with
   |some _=>if EU o then Du ⟨X.next,X.hI,gj.set 21 X.mp o none⟩ l else none
   |none=>Du X l
def Fi(b4:nT)(f:Nat)(args:List Value)(X:e5):Option (Value×e5):=match DM 9 (cX X) args with
 | some ts=>(match b4 f ts Jd with
   | some (v,de)=>(match dt 9 (cX de) v with
     | some r=>if m4 r then(match Du X (args.flatMap (et 9 (cX X)))with
      |some fN=>some (r,fN)
      |none=>none)
       else(match IB X (args.flatMap (et 9 (cX X)))with
        |some fN=>some (r,fN)
        |none=>none)
     |none=>none)
   |none=>none)
 |none=>none
def wE(b4:nT)(f:Nat)(args:List Value)(X:e5):List Nat->Option (Value×e5)
 |[]=>b4 f args X
 | L =>if L.all (λo=>match X.hI.I o with|some x=> !x.cells.isEmpty|none=>false)then
  (match Pc X L with
  | some zl=>(match b4 f args zl with
    | some (r,de)=>(match SP X de L with
      |some fN=>some (r,fN)
      |none=>none)
    |none=>Fi b4 f args X)
  |none=>none)
   else Fi b4 f args X
def Fh(b4:nT)(base:Nat)(o:cO)(dB:jZ)(X:e5):Option (jZ×e5):=
 let z:=my dB
 let j6 (x:Option (Value×e5)):Option (jZ×e5):=match x with
  | some (r,cF)=>(match Ax dB o.d r with
    |some mF=>some (mF,cF)
    |none=>none)
  |none=>none
 match o.k with
 | .lA f bu=>j6 (wE b4 f (bu.map (O z)) X (nh z (cX X) o.bd))
 | .m2 x bu=>(match O z x with
   | .func (.func f) first kr=>j6 (wE b4 f (first.toList++bu.map (O z)++kr.toList) X (nh z (cX X) o.bd))
   |_=>none)
 | .mq bI x bu=>(match O z x with
   | .iface t v=>(match bI.find? (λr=>r.1==t)with
     |some (_,f,none)=>j6 (wE b4 f (v::bu.map (O z)) X (nh z (cX X) o.bd))
     |some (_,f,some (dr,n))=>if sg (cX X) v n&&(dr||decide (n=1))then j6 (wE b4 f (Ao (cX X) dr n v::bu.map (O z)) X (nh z (cX X) o.bd))else none
     |none=>none)
   |_=>none)
 | k=>if k.jq z (cX X)&&iY z (cX X) o.bd then(match E5 k (base+o.aW) z X with
   |some cF=>j6 (some (k.jW (base+o.aW) z (cX X),cF))
   |none=>none)else none
def yO(b4:nT)(base:Nat):List cO->jZ->e5->Option (jZ×e5)
 |[],dB,X=>some (dB,X)
 | o ::bN,dB,X=>if eX (my dB) o.g then(match Fh b4 base o dB X with
  |some (mF,cF)=>yO b4 base bN mF cF
  |none=>none)
   else(match Ax dB o.d undef with
    |some mF=>yO b4 base bN mF X
    |none=>none)
def Ij(ops:List cO)(X:e5):e5:=if ops.any (λo=>o.k.fv)then Gl X ops.length else X
def SN(f:jZ->e5->Option (cM×jZ×e5)):Nat->jZ->e5->Option (cM×jZ×e5)
 |0,_,_=>none
 | n+1,dB,X=>match f dB X with
   |some (.eB,mF,cF)=>SN f n mF cF
   |r=>r
def td(b4:nT)(n:Nat):aw->jZ->e5->Option (cM×jZ×e5)
 | .skip,dB,X=>some (.eB,dB,X)
 | .kl ops,dB,X=>(match yO b4 X.next ops dB (Ij ops X)with
   |some (mF,cF)=>some (.eB,mF,cF)
   |none=>none)
 | .uQ _ _ _,_,_=>none
 | .ky a b,dB,X=>(match td b4 n a dB X with
   |some (.eB,mF,cF)=>td b4 n b mF cF
   |r=>r)
 | .nx c a b,dB,X=>(match O (my dB) c with
   | .bool true=>td b4 n a dB X
   | .bool false=>td b4 n b dB X
   |_=>none)
 | .block id c,dB,X=>(match td b4 n c dB X with
   |some (.cH ki,mF,cF)=>if ki=id then some (.eB,mF,cF)else some (.cH ki,mF,cF)
   |r=>r)
 | .loop c,dB,X=>SN (td b4 n c) n dB X
 | .cH id,dB,X=>some (.cH id,dB,X)
 | .e3,dB,X=>some (.e3,dB,X)
def Pl(cC:List lP):Option (cM×jZ×e5)->Option (Value×e5)
 |some (.cH _,_,_)=>none
 |some (_,dB,X)=>if mw (cX X) (my dB) cC then some (mU (cX X) (my dB) cC,X)else none
 |none=>none
theorem anj{X:e5}(aS:gy X){b:Nat}:(cX X).I b=X.hI.I b:=by
 show(if b<X.next then X.hI.I b else none)=_;by_cases h:b<X.next
 ·rw[if_pos h]
 ·rw[if_neg h,aS b (by omega)]
theorem Vo: ∀{L:List Nat} {X zl:e5},gy X->Pc X L=some zl->gy zl/\cX zl=lY (cX X) L
 | [],X,zl,aS,h=>by cases h;refine⟨aS,?_⟩;unfold lY;simp
 | o::l,X,zl,aS,h=>by
   simp only[Pc]at h;split at h
   ·next de A=>
    obtain⟨ct,aD⟩:=Cx aS A;obtain⟨dW,aJ⟩:=Vo ct h;refine⟨dW,?_⟩;rw[aJ,aD];unfold lY H.aO;simp only[H.mk.injEq,true_and,and_true];funext b;by_cases A:b∈l
    ·rw[if_pos A,if_pos (by simp[A])]
    ·rw[if_neg A];by_cases D:b=o
     ·rw[if_pos D,if_pos (by simp[D])]
     ·rw[if_neg D,if_neg (by simp[A,D])]
   ·cases h
theorem Z4{X:e5}: ∀{L:List Nat} {de fN:e5},gy de->SP X de L=some fN->gy fN/\cX fN=l7 (cX X) (cX de) L
 | [],de,fN,aS,h=>by cases h;refine⟨aS,?_⟩;unfold l7;simp
 | o::l,de,fN,aS,h=>by
   simp only[SP]at h;split at h
   ·next A6 A=>
    obtain⟨ct,aD⟩:=Cx aS A;obtain⟨dW,aJ⟩:=Z4 ct h;refine⟨dW,?_⟩;rw[aJ,aD];unfold l7 H.aO;simp only[H.mk.injEq,true_and,and_true];funext b;by_cases A:b∈l
    ·rw[if_pos A,if_pos (by simp[A])]
    ·rw[if_neg A];by_cases D:b=o
     ·rw[if_pos D,if_pos (by simp[D]),D];rfl
     ·rw[if_neg D,if_neg (by simp[A,D])]
   ·cases h
theorem NJ: ∀{L:List Nat} {X fN:e5},gy X->IB X L=some fN->gy fN/\cX fN=tS (cX X) L
 |[],X,fN,aS,h=>by cases h;exact⟨aS,rfl⟩
 | o::l,X,fN,aS,h=>by
   simp only[IB]at h;rw[T8,anj aS];split at h
   ·next x B=>
    rw[B];simp only;split at h
    ·next de A=>obtain⟨ct,aD⟩:=Cx aS A;rw[<-aD];exact NJ ct h
    ·cases h
   ·next B=>rw[B];exact NJ aS h
theorem O9: ∀{L:List Nat} {X fN:e5},gy X->Du X L=some fN->gy fN/\cX fN=hJ (cX X) L
 |[],X,fN,aS,h=>by cases h;exact⟨aS,(as7 _).symm⟩
 | o::l,X,fN,aS,h=>by
   have ar: ∀{cF:e5},gy cF->Du cF l=some fN->cF.next=X.next->cF.hI=X.hI->(∀b,b∉l->cF.mp.I b=if b=o then none else X.mp.I b)->gy fN/\cX fN=hJ (cX X) (o::l):= λ{cF} kE cn ae hb ab=>by
    obtain⟨w,e⟩:=O9 kE cn;refine⟨w,?_⟩;rw[e];unfold hJ cX;simp only[H.mk.injEq,ae,hb,true_and];funext b;by_cases A:b∈l
    ·rw[if_pos A,if_pos (by simp[A])]
    ·rw[if_neg A,ab b A];by_cases D:b=o
     ·rw[if_pos D,if_pos (by simp[D])]
     ·rw[if_neg D,if_neg (by simp[A,D])]
   simp only[Du]at h;split at h
   ·split at h
    ·next S=>exact ar (cF:=⟨X.next,X.hI,gj.set 21 X.mp o none⟩) aS h rfl rfl λb _=>gj.wS (Cf S)
    ·cases h
   ·next B=>
    refine ar aS h rfl rfl λb _=> ?_;by_cases D:b=o
    ·rw[if_pos D,D];exact B
    ·rw[if_neg D]
section
variable {P:Program} {J:eU} {u:fU} {t m:H} {z K:aC}
noncomputable def Tp{f:Nat}{ts:List Value}{r:Value}(h:bP P f ts r):bx P:=by
 classical exact⟨f,λbu=>if bu=ts then some r else none,λbu dZ e=>by
  by_cases aQ:bu=ts
  ·rw[if_pos aQ]at e;cases e;rw[aQ];exact h
  ·rw[if_neg aQ]at e;cases e⟩
theorem Tq{f:Nat}{args ts:List Value}{r:Value}(h:bP P f ts r)(a5:DM 9 t args=some ts){aR:Value->H->Prop}(dz:aR r (if m4 r then hJ t (args.flatMap (et 9 t))else tS t (args.flatMap (et 9 t)))):yU [Tp h] f args t aR:=by unfold yU;rw[a5];simp only[xH,Tp,if_true];exact dz
def ud(P:Program)(b4:nT):Prop:= ∀f args X r cF,gy X->b4 f args X=some (r,cF)->gy cF/\fc P f args (cX X) λdZ af=>dZ=r/\af=cX cF
theorem aEg{b4:nT}(cu:ud P b4){f:Nat}{args:List Value}{X cF:e5}{r:Value}(aS:gy X)(h:Fi b4 f args X=some (r,cF)):
 gy cF/\ ∃ts,∃Z:bP P f ts r,yU [Tp Z] f args (cX X) λdZ af=>dZ=r/\af=cX cF:=by
 unfold Fi at h;split at h
 ·next ts KG=>
  split at h
  ·next v de A=>
   obtain⟨ct,a8⟩:=cu _ _ _ _ _ aqz A;split at h
   ·next ek al=>
    have Z:bP P f ts ek:=du (by have:=a8;rw[ang]at this;exact this.bD λdZ af bT=>by rw[bT.1,bT.2];exact al);split at h
    ·next dJ=>
     split at h
     ·next fN D=>cases h;obtain⟨dW,aJ⟩:=O9 aS D;exact⟨dW,ts,Z,Tq Z KG ⟨rfl,by rw[if_pos dJ,aJ]⟩⟩
     ·cases h
    ·next dJ=>
     split at h
     ·next fN D=>cases h;obtain⟨dW,aJ⟩:=NJ aS D;exact⟨dW,ts,Z,Tq Z KG ⟨rfl,by rw[if_neg dJ,aJ]⟩⟩
     ·cases h
   ·cases h
  ·cases h
 ·cases h
theorem asW{b4:nT}(cu:ud P b4){f:Nat}{args bu:List Value}{X cF:e5}{r:Value}{bd:List (Operand×Operand)}(aS:gy X)(F:eb J u (cX X) m)(b2:hp u J z K)(hj:bd.all (λp=>df p.1&&df p.2)=true)(aa:bL u J args bu)
 (h:wE b4 f args X (nh z (cX X) bd)=some (r,cF)):gy cF/\
 ep P f bu m λdZ U=>uP K bd m U/\ ∃cU cy,eb cU cy (cX cF) U/\cm cy cU r dZ/\eQ (cX X).next m.next J u (cX X) m cU cy (cX cF) U:=by
 have pure: ∀{x:Value×e5},Fi b4 f args X=some x->x=(r,cF)->gy cF/\ep P f bu m λdZ U=>uP K bd m U/\ ∃cU cy,eb cU cy (cX cF) U/\cm cy cU r dZ/\eQ (cX X).next m.next J u (cX X) m cU cy (cX cF) U:= λ{x} B e=>by subst e;obtain⟨w,ts,Z,q⟩:=aEg cu aS B;refine⟨w,(abe F aa q).bD λdZ U bT=> ?_⟩;obtain⟨A,cy,mT,af,⟨rfl,rfl⟩,ai,aT,bF⟩:=bT;exact⟨amI F b2 hj A,J,cy,ai,aT,bF⟩
 cases gd:nh z (cX X) bd with
 | nil=>rw[gd]at h;simp only[wE]at h;obtain⟨w,q⟩:=cu _ _ _ _ _ aS h;refine⟨w,(q J u bu m F aa).bD λdZ U bT=> ?_⟩;obtain⟨cU,cy,mT,af,⟨rfl,rfl⟩,D,ai,aT⟩:=bT;exact⟨SU F b2 hj aT.dK (by rw[gd];nofun),cU,cy,D,ai,aT⟩
 | cons o l=>
   rw[gd]at h;simp only[wE]at h;split at h
   ·next bG=>
    split at h
    ·next zl ar=>
     obtain⟨adG,atV⟩:=Vo aS ar;split at h
     ·next ek de A=>
      split at h
      ·next fN D=>
       cases h;obtain⟨ct,a8⟩:=cu _ _ _ _ _ adG A;obtain⟨dW,aJ⟩:=Z4 ct D;refine⟨dW,?_⟩;rw[atV]at a8;have WG: ∀p∈o::l,∃x,(cX X).I p=some x/\x.cells≠[]:= λp Z=>by
        have:=dP.1 bG p Z;rw[anj aS];split at this
        ·next x B=>exact⟨x,B,λe=>by rw[e]at this;simp at this⟩
        ·cases this
       refine(agj WG a8 F aa).bD λdZ U bT=> ?_;obtain⟨bK,cU,cy,mT,af,⟨rfl,rfl⟩,ai,aT,bF⟩:=bT;rw[<-aJ]at ai bF;exact⟨SU F b2 hj bF.dK (by rw[gd];exact bK),cU,cy,ai,aT,bF⟩
      ·cases h
     ·exact pure h rfl
    ·cases h
   ·exact pure h rfl
end
section
variable {P:Program}
def ue(hn hE:Nat)(J:eU)(u:fU)(t m:H)(iM:jZ)(de:e5)(kX:aC)(U:H):Prop:= ∃cU cy,eb cU cy (cX de) U/\hp cy cU (my iM) kX/\eQ hn hE J u t m cU cy (cX de) U
theorem Tr{b4:nT}(cu:ud P b4){base g5:Nat}: ∀{ops:List cO} {J:eU} {u:fU} {dB iM:jZ} {X de:e5} {m:H} {K:aC},ops.all MU=true->yK (ops.map (·.aW))=true->gy X->eb J u (cX X) m->hp u J (my dB) K->A5 J u (cX X) m base g5 ops->base<=X.next->g5<=m.next->
 yO b4 base ops dB X=some (iM,de)->gy de/\fy P g5 ops K m λkX U=>ue base g5 J u (cX X) m iM de kX U
 | [],J,u,dB,iM,X,de,m,K,_,_,aS,F,b2,_,_,_,h=>by cases h;refine⟨aS,?_⟩;rw[adT];exact⟨J,u,F,b2,eQ.refl⟩
 | o::ops,J,u,dB,iM,X,de,m,K,av,eW,aS,F,b2,kt,hb,tq,h=>by
   obtain⟨aW,d,g,k,bd⟩:=o;simp only[mZ,a6]at av;obtain⟨bG,D9⟩:=nodup_cons eW;have yp:=av.1;simp only[MU,a6]at yp;have skip: ∀{qs:jZ},Ax dB d undef=some qs->yO b4 base ops qs X=some (iM,de)->gy de/\fy P g5 ops (cZ K d undef) m λkX U=>ue base g5 J u (cX X) m iM de kX U:= λ{qs} Z h=>by refine Tr cu av.2 D9 aS F ?_ (λo aB aa=>kt o (by simp[aB]) aa) hb tq h;rw[acY Z];exact b2.aO cm.undef
   have Aq: ∀{x:jZ×e5},Fh b4 base ⟨aW,d,g,k,bd⟩ dB X=some x->yO b4 base ops x.1 x.2=some (iM,de)->gy de/\fy P g5 (⟨aW,d,none,k,bd⟩::ops) K m λkX U=>ue base g5 J u (cX X) m iM de kX U:= λ{x} B h=>by
    -- Jr a lA
    have after: ∀{f:Nat} {args bu:List Value} {y:jZ×e5} {Jf:Value->H->Prop},bL u J args bu->(match wE b4 f args X (nh (my dB) (cX X) bd)with
     | some (r,cF)=>(match Ax dB d r with
       |some mF=>some (mF,cF)
       |none=>none)
     |none=>none)=some x->gy de/\ep P f bu m (wF P g5 d bd ops K m (λkX U=>ue base g5 J u (cX X) m iM de kX U)):= λ{f args bu y Jf} aa ar=>by
     split at ar
     ·next r fN A=>
      split at ar
      ·next qs D=>
       cases ar;obtain⟨dW,q⟩:=asW cu aS F b2 yp.2 aa A;have step: ∀{cV:eU} {ea:fU} {dZ:Value} {bn:H},eb cV ea (cX fN) bn->cm ea cV r dZ->eQ (cX X).next m.next J u (cX X) m cV ea (cX fN) bn->gy de/\fy P g5 ops (cZ K d dZ) bn λkX U=>ue base g5 J u (cX X) m iM de kX U:= λ{cV ea dZ bn} a2 cj dy=>by
        have Em:hp ea cV (my qs) (cZ K d dZ):=(by rw[acY D];exact(b2.bD dy.f dy.e).aO cj);have D0:A5 cV ea (cX fN) bn base g5 ops:= λo aB aa=>by
         have ae:=kt o (by simp[aB]) aa;refine⟨?_,λo' jF=> ?_,?_,ql ae.r2 dy.k5,ql ae.tL dy.lJ⟩
         ·cases aQ:cV (base+o.aW)with
          |none=>rfl
          | some b=>
            rcases dy.kZ _ _ aQ with bF|⟨bF,_⟩
            ·rw[ae.e]at bF;cases bF
            ·have:=ae.r2;omega
         ·rcases dy.kZ _ _ jF with bF|⟨_,bF⟩
          ·exact ae.b _ bF
          ·have:=ae.tL;omega
         ·cases aQ:ea (g5+o.aW)with
          |none=>rfl
          | some cs=>
            rcases dy.fn _ _ aQ with bF|bF|⟨o',_,bF,_⟩
            ·rw[ae.f]at bF;cases bF
            ·have:=ae.tL;omega
            ·exact absurd bF (ae.b o')
        obtain⟨kn,cf⟩:=Tr cu av.2 D9 dW a2 Em D0 (mD hb dy.k5) (mD tq dy.lJ) h;refine⟨kn,?_⟩;obtain⟨n,aU,cI,jl,gB,ke,bV,cv,fQ⟩:=cf;exact⟨n,aU,cI,jl,gB,ke,bV,cv,(dy.wj hb tq).trans fQ⟩
       have awH:gy de:=(by obtain⟨n,dZ,U,_,_,cV,ea,a2,cj,dy⟩:=q;exact(step a2 cj dy).1);refine⟨awH,q.bD λdZ bn bT=> ?_⟩;obtain⟨S,cV,ea,a2,cj,dy⟩:=bT;exact⟨S,(step a2 cj dy).2⟩
      ·cases ar
     ·cases ar
    have aa3: ∀{k:ah},k.ln=false->At k=true->(k.fv=true->s6 J u (cX X) m (base+aW) (g5+aW))->(if k.jq (my dB) (cX X)&&iY (my dB) (cX X) bd then(match E5 k (base+aW) (my dB) X with
     | some cF=>(match some (k.jW (base+aW) (my dB) (cX X),cF)with
       | some (r,cF)=>(match Ax dB d r with
         |some mF=>some (mF,cF)
         |none=>none)
       |none=>none)
     |none=>none)else none)=some x->
     gy de/\fy P g5 (⟨aW,d,none,k,bd⟩::ops) K m λkX U=>ue base g5 J u (cX X) m iM de kX U:= λ{k} ar S ae B=>by
     split at B
     ·next Ec=>
      simp only[a6]at Ec;split at B
      ·next fN eE=>
       simp only at B;split at B
       ·next qs cc=>
        cases B;obtain⟨dW,aJ⟩:=am3 aS eE;obtain⟨A,cV,q⟩:=anQ (hn:=base) (hE:=g5) (id:=base+aW) (mid:=g5+aW) F b2 ar S Ec.1 ae (by omega) (by omega);have Em:hp u cV (my qs) (cZ K d (k.val (g5+aW) K m)):=(by rw[acY cc];exact(b2.bD q.bZ.f q.bZ.e).aO q.val);have D0:A5 cV u (cX fN) (k.hd (g5+aW) K m) base g5 ops:= λo aB aa=>by
         have ae:=kt o (by simp[aB]) aa;have B:=bG o aB;simp only at B;rw[aJ];refine⟨by rw[q.M3 _ (by omega)];exact ae.e,λo' jF=> ?_,ae.f,ql ae.r2 q.bZ.k5,ql ae.tL q.bZ.lJ⟩;by_cases e:o'=base+aW
         ·subst e;rcases q.self with bF|bF
          ·rw[bF]at jF;exact ae.b _ jF
          ·rw[bF]at jF;simp only[mB]at jF;omega
         ·rw[q.M3 _ e]at jF;exact ae.b _ jF
        have bo:=q.T9;have kt:=q.bZ;rw[<-aJ]at bo kt;obtain⟨kn,cf⟩:=Tr cu av.2 D9 dW bo Em D0 (mD hb kt.k5) (mD tq kt.lJ) h;refine⟨kn,?_⟩;rw[nr ar];refine⟨A,afx F b2 yp.2 Ec.2,?_⟩;obtain⟨n,aU,cI,jl,gB,ke,bV,cv,fQ⟩:=cf;exact⟨n,aU,cI,jl,gB,ke,bV,cv,kt.trans fQ⟩
       ·cases B
      ·cases B
     ·cases B
    have tu:=kt ⟨aW,d,g,k,bd⟩ (by simp);have wZ:=yp.1;have b1:=wZ;simp only[At,a6]at b1;cases k with
    | lA f bu=>rw[adR];exact after (y:=x) (Jf:= λ_ _=>True) (b2.Bo b1.1) B
    | m2 x bu=>
      simp only[Fh]at B;simp only[ah.hO,mZ,a6]at b1;split at B
      ·next f first kr BQ=>have M:=b2.O b1.1.1;rw[BQ]at M;obtain⟨ys,ds,e,hZ,jw⟩:=M.Ep;rw[adS e];exact after (y:=⟨dB,X⟩) (Jf:= λ_ _=>True) ((hZ.pV (b2.Bo b1.1.2)).pV jw) B
      ·cases B
    | mq bI x bu=>
      simp only[Fh]at B;simp only[ah.hO,mZ,a6]at b1;rw[aIz];split at B
      ·next qj v BQ=>
       have M:=b2.O b1.1.1;rw[BQ]at M;obtain⟨bX,e,tx⟩:=M.KT;rw[e];unfold Qi;split at B
       ·next a f a5=>simp only[a5];exact after (y:=⟨dB,X⟩) (Jf:= λ_ _=>True) (bL.cons tx (b2.Bo b1.1.2)) B
       ·next a f dr n a5=>
        simp only[a5];split at B
        ·next ar=>simp only[a6]at ar;have A:=Jg F tx ar.1;obtain⟨w,q⟩:=after (y:=⟨dB,X⟩) (Jf:= λ_ _=>True) (bL.cons (aan F tx ar.1 ar.2) (b2.Bo b1.1.2)) B;exact⟨w,by rw[A,ar.2];rfl,q⟩
        ·cases B
       ·cases B
      ·cases B
    |_=>exact aa3 rfl wZ tu B
   simp only[yO]at h;split at h
   ·next nE=>
    split at h
    ·next qs fN A=>
     cases g with
     |none=>exact Aq A h
     | some g=>obtain⟨j,b⟩:=g;obtain⟨w,q⟩:=Aq A h;refine⟨w,?_⟩;rw[UA,adF b2,if_pos nE];exact q
    ·cases h
   ·next nE=>
    split at h
    ·next qs A=>
     cases g with
     |none=>exact absurd rfl nE
     | some g=>obtain⟨j,b⟩:=g;obtain⟨w,q⟩:=skip A h;refine⟨w,?_⟩;rw[UA,adF b2,if_neg nE];exact q
    ·cases h
theorem aoG{ops:List cO}{X:e5}(aS:gy X):gy (Ij ops X)/\cX (Ij ops X)=hV ops (cX X):=by
 unfold Ij hV;split
 ·exact⟨aqA aS,anh aS⟩
 ·exact⟨aS,rfl⟩
theorem aEU{b4:nT}(cu:ud P b4){ops:List cO}(av:pa (.kl ops)=true){J:eU}{u:fU}{dB iM:jZ}{X de:e5}{m:H}{K:aC}(aS:gy X)(F:eb J u (cX X) m)(b2:hp u J (my dB) K)(h:yO b4 X.next ops dB (Ij ops X)=some (iM,de)):
 gy de/\fy P m.next ops K (hV ops m) λkX U=>ue X.next m.next J u (cX X) m iM de kX U:=by
 simp only[pa,a6]at av;obtain⟨gW,rz⟩:=aoG (ops:=ops) aS;have mM:eb J u (hV ops (cX X)) (hV ops m):=by
  unfold hV;split
  ·exact OR F _
  ·exact F
 have vB:eQ X.next m.next J u (cX X) m J u (hV ops (cX X)) (hV ops m):=by
  unfold hV;split
  ·exact Ju F _
  ·exact eQ.refl
 have yd:A5 J u (hV ops (cX X)) (hV ops m) X.next m.next ops:= λo aB aa=>by
  have Kk:(ops.any λo=>o.k.fv)=true:=Dd.2 ⟨o,aB,aa⟩;have tn:o.aW<ops.length:=(by simpa using dP.1 av.2 o aB);refine⟨?_,λo' jF=> ?_,?_,by simp[hV,Kk,tn,cX],by simp[hV,Kk,tn]⟩
  ·cases aQ:J (X.next+o.aW)with
   |none=>rfl
   |some b=>have:=(F.cQ _ _ aQ).1;simp[cX]at this;omega
  ·have:=(F.cQ _ _ jF).2;omega
  ·cases aQ:u (m.next+o.aW)with
   |none=>rfl
   |some cs=>obtain⟨⟨w,A⟩,_⟩:=F.bZ _ _ aQ;have:=aM A;omega
 have hn:X.next<=(Ij ops X).next:=by have:=vB.k5;rw[<-rz]at this;exact this
 rw[<-rz]at mM vB yd;obtain⟨ct,q⟩:=Tr cu av.1.1 av.1.2 gW mM b2 yd hn vB.lJ h;refine⟨ct,?_⟩;obtain⟨n,aU,cI,jl,gB,ke,bV,cv,fQ⟩:=q;exact⟨n,aU,cI,jl,gB,ke,bV,cv,vB.trans fQ⟩
def UM(P:Program)(c:aw)(e:cM)(dB:jZ)(X:e5)(iM:jZ)(de:e5):Prop:=gy de/\ ∀(J:eU) (u:fU) (K:aC) (m:H),eb J u (cX X) m->hp u J (my dB) K->fG P c K m λdd kX U=>dd=e/\ue X.next m.next J u (cX X) m iM de kX U
theorem ue.trans{hn hE NY MN:Nat}{J cV:eU}{u ea:fU}{t m bn:H}{de:e5}{qs:jZ}{fN:e5}{c6:aC}{cI:H}(h:eQ hn hE J u t m cV ea (cX de) bn)(cn:ue NY MN cV ea (cX de) bn qs fN c6 cI)(A:hn<=NY)(D:hE<=MN):ue hn hE J u t m qs fN c6 cI:=by obtain⟨gB,ke,a,b,c⟩:=cn;exact⟨gB,ke,a,b,h.trans (c.wj A D)⟩
theorem amz{c:aw}(ar:pa c=true){f:jZ->e5->Option (cM×jZ×e5)}(a5: ∀{dB X e iM de},gy X->f dB X=some (e,iM,de)->UM P c e dB X iM de): ∀{n:Nat} {dB:jZ} {X:e5} {e:cM} {iM:jZ} {de:e5},gy X->SN f n dB X=some (e,iM,de)->UM P (.loop c) e dB X iM de
 |0,dB,X,e,iM,de,aS,h=>by cases h
 | n+1,dB,X,e,iM,de,aS,h=>by
   simp only[SN]at h;split at h
   ·next qs fN A=>obtain⟨dW,q⟩:=a5 aS A;obtain⟨kn,cv⟩:=amz ar a5 dW h;refine⟨kn,λJ u K m F b2=> ?_⟩;refine j7 λbM a1=> ?_;refine(q J u K m F b2).bD λdd aU bn bT=> ?_;obtain⟨rfl,cV,ea,aE,a2,cj⟩:=bT;refine a1 _ _ ((cv cV ea aU bn aE a2).bD λaJ bS cI bT=> ?_);obtain⟨rfl,dy⟩:=bT;exact⟨rfl,ue.trans cj dy cj.k5 cj.lJ⟩
   ·next bG=>
    obtain⟨dW,q⟩:=a5 aS h;refine⟨dW,λJ u K m F b2=> ?_⟩;refine j7 λbM a1=> ?_;refine(q J u K m F b2).bD λdd aU bn bT=> ?_;obtain⟨rfl,g⟩:=bT;cases dd with
    |eB=>exact absurd h (bG _ _)
    |cH id=>exact⟨rfl,g⟩
    |e3=>exact⟨rfl,g⟩
end
section
variable {P:Program}
theorem aoj{b4:nT}{f:Nat}{args:List Value}{X cF:e5}{r:Value}(aS:gy X)(h:Fi b4 f args X=some (r,cF)):gy cF:=by
 unfold Fi at h
 repeat' split at h
 all_goals first|cases h|skip
 all_goals first|exact(O9 aS (by assumption)).1|exact(NJ aS (by assumption)).1
theorem asX{b4:nT}(cu:ud P b4){f:Nat}{args:List Value}{X cF:e5}{r:Value}{L:List Nat}(aS:gy X)(h:wE b4 f args X L=some (r,cF)):gy cF:=by
 cases L with
 |nil=>exact(cu _ _ _ _ _ aS h).1
 | cons o l=>
   simp only[wE]at h;split at h
   ·split at h
    ·next zl ar=>
     split at h
     ·next ek de A=>
      split at h
      ·next fN D=>cases h;exact(Z4 (cu _ _ _ _ _ (Vo aS ar).1 A).1 D).1
      ·cases h
     ·exact aoj aS h
    ·cases h
   ·exact aoj aS h
theorem aDD{b4:nT}(cu:ud P b4){base:Nat}{o:cO}{dB:jZ}{X:e5}{x:jZ×e5}(aS:gy X)(h:Fh b4 base o dB X=some x):gy x.2:=by
 have j6: ∀{f:Nat} {args:List Value} {L:List Nat},(match wE b4 f args X L with
  | some (r,cF)=>(match Ax dB o.d r with
    |some mF=>some (mF,cF)
    |none=>none)
  |none=>none)=some x->gy x.2:= λ{f args L} h=>by
  split at h
  ·next r fN A=>
   split at h
   ·cases h;exact asX cu aS A
   ·cases h
  ·cases h
 have plain: ∀{k:ah},(if k.jq (my dB) (cX X)&&iY (my dB) (cX X) o.bd then(match E5 k (base+o.aW) (my dB) X with
  | some cF=>(match some (k.jW (base+o.aW) (my dB) (cX X),cF)with
    | some (r,cF)=>(match Ax dB o.d r with
      |some mF=>some (mF,cF)
      |none=>none)
    |none=>none)
  |none=>none)else none)=some x->gy x.2:= λ{k} h=>by
  split at h
  ·split at h
   ·next fN eE=>
    simp only at h;split at h
    ·cases h;exact(am3 aS eE).1
    ·cases h
   ·cases h
  ·cases h
 obtain⟨aW,d,g,k,bd⟩:=o;cases k with
 |lA f bu=>exact j6 h
 | m2 y bu=>
   simp only[Fh]at h;split at h
   ·exact j6 h
   ·cases h
 | mq bI y bu=>
   simp only[Fh]at h;split at h
   ·split at h
    ·exact j6 h
    ·split at h
     ·exact j6 h
     ·cases h
    ·cases h
   ·cases h
 |_=>exact plain h
theorem aa4{b4:nT}(cu:ud P b4){base:Nat}: ∀{ops:List cO} {dB iM:jZ} {X de:e5},gy X->yO b4 base ops dB X=some (iM,de)->gy de
 |[],dB,iM,X,de,aS,h=>by cases h;exact aS
 | o::ops,dB,iM,X,de,aS,h=>by
   simp only[yO]at h;split at h
   ·split at h
    ·next qs fN A=>exact aa4 cu (aDD cu aS A) h
    ·cases h
   ·split at h
    ·exact aa4 cu aS h
    ·cases h
theorem zy{b4:nT}(cu:ud P b4){n:Nat}: ∀{c:aw} {dB iM:jZ} {X de:e5} {e:cM},pa c=true->gy X->td b4 n c dB X=some (e,iM,de)->UM P c e dB X iM de
 | .skip,dB,iM,X,de,e,av,aS,h=>by cases h;exact⟨aS,λJ u K m F b2=>by rw[adQ];exact⟨rfl,J,u,F,b2,eQ.refl⟩⟩
 | .cH id,dB,iM,X,de,e,av,aS,h=>by cases h;exact⟨aS,λJ u K m F b2=>by rw[adN];exact⟨rfl,J,u,F,b2,eQ.refl⟩⟩
 | .e3,dB,iM,X,de,e,av,aS,h=>by cases h;exact⟨aS,λJ u K m F b2=>by rw[adP];exact⟨rfl,J,u,F,b2,eQ.refl⟩⟩
 | .uQ _ _ _,dB,iM,X,de,e,av,aS,h=>by cases h
 | .kl ops,dB,iM,X,de,e,av,aS,h=>by
   simp only[td]at h;split at h
   ·next qs fN A=>cases h;exact⟨aa4 cu (aoG aS).1 A,λJ u K m F b2=>by rw[adO];obtain⟨n,aU,cI,al,q⟩:=(aEU cu av aS F b2 A).2;exact⟨n,aU,cI,al,rfl,q⟩⟩
   ·cases h
 | .ky a b,dB,iM,X,de,e,av,aS,h=>by
   simp only[pa,a6]at av;simp only[td]at h;split at h
   ·next qs fN A=>obtain⟨dW,q⟩:=zy cu av.1 aS A;obtain⟨kn,cv⟩:=zy cu av.2 dW h;refine⟨kn,λJ u K m F b2=> ?_⟩;rw[Uy];refine(q J u K m F b2).bD λdd aU bn bT=> ?_;obtain⟨rfl,cV,ea,aE,a2,cj⟩:=bT;rw[NX];refine(cv cV ea aU bn aE a2).bD λaJ bS cI bT=> ?_;obtain⟨rfl,dy⟩:=bT;exact⟨rfl,ue.trans cj dy cj.k5 cj.lJ⟩
   ·next bG=>
    obtain⟨dW,q⟩:=zy cu av.1 aS h;refine⟨dW,λJ u K m F b2=> ?_⟩;rw[Uy];refine(q J u K m F b2).bD λdd aU bn bT=> ?_;obtain⟨rfl,g⟩:=bT;cases dd with
    |eB=>exact absurd h (bG _ _)
    |cH id=>exact⟨rfl,g⟩
    |e3=>exact⟨rfl,g⟩
 | .nx c a b,dB,iM,X,de,e,av,aS,h=>by
   simp only[pa,a6]at av;simp only[td]at h;split at h
   ·next ar=>obtain⟨dW,q⟩:=zy cu av.1.2 aS h;refine⟨dW,λJ u K m F b2=> ?_⟩;have M:=(b2.O av.1.1);rw[ar]at M;rw[Ux,M.tD];exact⟨rfl,q J u K m F b2⟩
   ·next ar=>obtain⟨dW,q⟩:=zy cu av.2 aS h;refine⟨dW,λJ u K m F b2=> ?_⟩;have M:=(b2.O av.1.1);rw[ar]at M;rw[Ux,M.tD];exact⟨rfl,q J u K m F b2⟩
   ·cases h
 | .block id c,dB,iM,X,de,e,av,aS,h=>by
   simp only[td]at h;split at h
   ·next ki qs fN A=>
    obtain⟨dW,q⟩:=zy (c:=c) cu av aS A;split at h
    ·next eP=>cases h;refine⟨dW,λJ u K m F b2=> ?_⟩;rw[N8];refine(q J u K m F b2).bD λdd aU bn bT=> ?_;obtain⟨rfl,g⟩:=bT;rw[Gk,if_pos eP];exact⟨rfl,g⟩
    ·next eP=>cases h;refine⟨dW,λJ u K m F b2=> ?_⟩;rw[N8];refine(q J u K m F b2).bD λdd aU bn bT=> ?_;obtain⟨rfl,g⟩:=bT;rw[Gk,if_neg eP];exact⟨rfl,g⟩
   ·next bG=>
    obtain⟨dW,q⟩:=zy (c:=c) cu av aS h;refine⟨dW,λJ u K m F b2=> ?_⟩;rw[N8];refine(q J u K m F b2).bD λdd aU bn bT=> ?_;obtain⟨rfl,g⟩:=bT;cases dd with
    |cH ki=>exact absurd h (bG _ _ _)
    |eB=>exact⟨rfl,g⟩
    |e3=>exact⟨rfl,g⟩
 | .loop c,dB,iM,X,de,e,av,aS,h=>by simp only[td]at h;exact amz (c:=c) av (λaS h=>zy cu av aS h) aS h
def OE(P:Program)(qh:Nat->Option b8):Prop:= ∀f Fn,qh f=some Fn->cd P f=some Fn/\pa Fn.body=true
def NW:List (Nat×b8)->gj b8
 |[]=> .nil
 |p::l=>gj.set 21 (NW l) p.1 (some p.2)
def OD(P:Program):List (Nat×b8)->Prop
 |[]=>True
 |p::l=>((EU p.1=true/\cd P p.1=some p.2)/\pa p.2.body=true)/\OD P l
theorem IN: ∀{l:List (Nat×b8)},OD P l->OE P (NW l).I
 |[],_=> λf Fn h=>by cases h
 | p::l,h=> λf Fn a5=>by
   have e:(NW (p::l)).I f=if f=p.1 then some p.2 else(NW l).I f:=gj.wS (Cf h.1.1.1)
   rw[e]at a5;split at a5
   ·next aQ=>cases a5;rw[aQ];exact⟨h.1.1.2,h.1.2⟩
   ·exact IN h.2 f Fn a5
end
end Go.DI
