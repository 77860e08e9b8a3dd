/- A part of the proof. -/
import Derived.Test.YtmmkkggfmigppaaGreatZdl
set_option linter.all false
set_option maxRecDepth 20000
set_option maxHeartbeats 16000000
noncomputable section
namespace Go.Proofs.YtmmkkggfmigppaaGreat
open Go Go.DI
def IH(n:Int):Bool:=(decide (97<=n)&&decide (n<=122))||(decide (65<=n)&&decide (n<=90))
def LZ(n:Int):Bool:=decide (48<=n)&&decide (n<=57)
def Gg(n:Int):Bool:=IH n||LZ n||decide (n=45)||decide (n=46)
def KL(p:Int->Bool)(T:ByteArray):Nat->Nat->Nat
 |0,_=>0
 |n+1,i=>if p (L9 T i)=true then KL p T n (i+1)+1 else 0
def BV(T:ByteArray):Prop:=0<T.size/\T.size<=16/\IH (L9 T 0)=true/\KL Gg T T.size 0=T.size
open Classical in
def Ie(T:ByteArray):Bool:=decide (BV T)
variable{T:ByteArray}{Q:BM->A2->X->Prop}
theorem Pr(h:BV T):Ie T=true:=by simp[Ie,h]
theorem Oz(h: ¬BV T):Ie T=false:=by simp[Ie,h]
theorem wO(h:T.size=0):T=⟨#[]⟩:=by apply ByteArray.ext;exact Array.eq_empty_of_size_eq_zero h
theorem Qn(n:Int)(m:X)(a7:Value->X->Prop):At V 231 [.int .u8 n] m a7=a7 (.bool (IH n)) m:=by refine(HM.K4 ?_).wp;rw[a2Z (by simp)];by_cases a:97<=n<;>by_cases b:n<=122<;>by_cases c:65<=n<;>by_cases d:n<=90<;>simp[kk,IH,a,b,c,d]
theorem Xo(n:Int)(m:X)(a7:Value->X->Prop):At V 255 [.int .u8 n] m a7=a7 (.bool (LZ n)) m:=by refine(HM.K4 ?_).wp;rw[a6N (by simp)];by_cases a:48<=n<;>by_cases b:n<=57<;>simp[hi,LZ,a,b]
theorem xM(n:Int)(m:X)(a7:Value->X->Prop):At V 232 [.int .u8 n] m a7=a7 (.bool (Gg n)) m:=by
 refine(HM.K4 ?_).wp;rw[a1Y (by simp)];by_cases a:IH n=true
 ·simp[Qp,Qn,Gg,a]
 by_cases b:LZ n=true
 ·simp[Qp,Qn,Xo,Gg,a,b]
 by_cases c:n=45
 ·subst c;simp[Qp,Qn,Xo,Gg,IH,LZ]
 by_cases d:n=46
 ·subst d;simp[Qp,Qn,Xo,Gg,IH,LZ]
 simp[Qp,Qn,Xo,Gg,a,b,c,d]
theorem nS(j:T.size<=16): ∀(r i:Nat) (m:X) (A:A2),i+r=T.size->A 0= .string T->A 3=Z i->
 (KL Gg T r i=r-> ∀J,Q (.Ao 0) J m)->(KL Gg T r i≠r-> ∀J,J 2= .bool false->Q .Cz J m)->Az V (.loop UT) A m Q
 | 0,i,m,A,k,a,b,c,d=>by refine Bm λl e=> ?_;have: ¬(i:Int)<T.size:=(by omega);simp[UT,KQ,a,b,this];exact c rfl _
 | r+1,i,m,A,k,a,b,c,d=>by
   refine Bm λl e=> ?_;have f:(i:Int)<T.size:=(by omega);have o:=BZ (n:=i) (by omega);by_cases hb:Gg (L9 T i)=true
   ·simp[UT,KQ,xM,a,b,f,hb,o];refine e _ _ (nS j r (i+1) _ _ (by omega) (by simp[a]) (by simp) (λh=>c (by simp[KL,hb,h])) (λh=>d (by simp[KL,hb];exact h)))
   ·have g:Gg (L9 T i)=false:=(by simpa using hb);simp[UT,KQ,xM,a,b,f,g];exact d (by simp[KL,g]) _ (by simp)
theorem aCm(T:ByteArray)(m:X)(a7:Value->X->Prop):At V 179 [.string T] m a7=a7 (.bool (Ie T)) m:=by
 refine(HM.K4 ?_).wp;rw[aAQ (by simp)];by_cases f:T.size=0
 ·have e:=wO f;have j:(T.size:Int)<1:=(by omega);have a: ¬BV T:= λh=>by have:=h.1;omega
  simp[SB,e];rw[<-e,Oz a]
 ·have e: ¬T=⟨#[]⟩:= λh=>f (by rw[h];rfl);have j:(0:Int)<T.size:=(by omega);have l: ¬(T.size:Int)<1:=(by omega);have i:0<T.size:=(by omega);by_cases n:16<T.size
  ·have b:(16:Int)<T.size:=(by omega);have a: ¬BV T:= λh=>by have:=h.2.1;omega
   simp[SB,KQ,e,b,Oz a]
  ·have b: ¬(16:Int)<T.size:=(by omega);by_cases c:IH (L9 T 0)=true
   ·simp[SB,KQ,Qn,e,i,b,c];refine nS (T:=T) (by omega) T.size 0 _ _ (by omega) (by simp) (by simp) (λh J=> ?_) (λh J g=> ?_)
    ·simp[Pr ⟨by omega,by omega,c,h⟩]
    ·have a: ¬BV T:= λd=>h d.2.2.2;simp[g,Oz a]
   ·have a: ¬BV T:= λd=>c d.2.2.1;have k:IH (L9 T 0)=false:=(by simpa using c);simp[SB,KQ,Qn,e,i,b,k,Oz a]
theorem Q7(n:Int)(m:X)(a7:Value->X->Prop):At V 237 [.int .u8 n] m a7=a7 (.bool (IH n)) m:=by refine(HM.K4 ?_).wp;rw[a30 (by simp)];by_cases a:97<=n<;>by_cases b:n<=122<;>by_cases c:65<=n<;>by_cases d:n<=90<;>simp[kL,IH,a,b,c,d]
theorem YG(n:Int)(m:X)(a7:Value->X->Prop):At V 256 [.int .u8 n] m a7=a7 (.bool (LZ n)) m:=by refine(HM.K4 ?_).wp;rw[a2G (by simp)];by_cases a:48<=n<;>by_cases b:n<=57<;>simp[lW,LZ,a,b]
theorem xj(n:Int)(m:X)(a7:Value->X->Prop):At V 238 [.int .u8 n] m a7=a7 (.bool (Gg n)) m:=by
 refine(HM.K4 ?_).wp;rw[a0Q (by simp)];by_cases a:IH n=true
 ·simp[Pz,Q7,Gg,a]
 by_cases b:LZ n=true
 ·simp[Pz,Q7,YG,Gg,a,b]
 by_cases c:n=45
 ·subst c;simp[Pz,Q7,YG,Gg,IH,LZ]
 by_cases d:n=46
 ·subst d;simp[Pz,Q7,YG,Gg,IH,LZ]
 simp[Pz,Q7,YG,Gg,a,b,c,d]
theorem wv(j:T.size<=16): ∀(r i:Nat) (m:X) (A:A2),i+r=T.size->A 0= .string T->A 3=Z i->
 (KL Gg T r i=r-> ∀J,Q (.Ao 0) J m)->(KL Gg T r i≠r-> ∀J,J 2= .bool false->Q .Cz J m)->Az V (.loop Vo) A m Q
 | 0,i,m,A,k,a,b,c,d=>by refine Bm λl e=> ?_;have: ¬(i:Int)<T.size:=(by omega);simp[Vo,KQ,a,b,this];exact c rfl _
 | r+1,i,m,A,k,a,b,c,d=>by
   refine Bm λl e=> ?_;have f:(i:Int)<T.size:=(by omega);have o:=BZ (n:=i) (by omega);by_cases hb:Gg (L9 T i)=true
   ·simp[Vo,KQ,xj,a,b,f,hb,o];refine e _ _ (wv j r (i+1) _ _ (by omega) (by simp[a]) (by simp) (λh=>c (by simp[KL,hb,h])) (λh=>d (by simp[KL,hb];exact h)))
   ·have g:Gg (L9 T i)=false:=(by simpa using hb);simp[Vo,KQ,xj,a,b,f,g];exact d (by simp[KL,g]) _ (by simp)
theorem pQ(T:ByteArray)(m:X)(a7:Value->X->Prop):At V 188 [.string T] m a7=a7 (.bool (Ie T)) m:=by
 refine(HM.K4 ?_).wp;rw[a2l (by simp)];by_cases i:T.size=0
 ·have e:=wO i;have j:(T.size:Int)<1:=(by omega);have a: ¬BV T:= λh=>by have:=h.1;omega
  simp[SA,KQ,j,Oz a]
 ·have e: ¬T=⟨#[]⟩:= λh=>i (by rw[h];rfl);have j:(0:Int)<T.size:=(by omega);have d: ¬(T.size:Int)<1:=(by omega);have k:0<T.size:=(by omega);by_cases n:16<T.size
  ·have b:(16:Int)<T.size:=(by omega);have a: ¬BV T:= λh=>by have:=h.2.1;omega
   simp[SA,KQ,d,b,Oz a]
  ·have b: ¬(16:Int)<T.size:=(by omega);by_cases c:IH (L9 T 0)=true
   ·simp[SA,KQ,Q7,d,k,b,c];refine wv (T:=T) (by omega) T.size 0 _ _ (by omega) (by simp) (by simp) (λh J=> ?_) (λh J g=> ?_)
    ·simp[Pr ⟨by omega,by omega,c,h⟩]
    ·have a: ¬BV T:= λf=>h f.2.2.2;simp[g,Oz a]
   ·have a: ¬BV T:= λf=>c f.2.2.1;have l:IH (L9 T 0)=false:=(by simpa using c);simp[SA,KQ,Q7,d,k,b,l,Oz a]
end Go.Proofs.YtmmkkggfmigppaaGreat
namespace Go.Big
structure Am where
 Hq:Bool
 a:List Int
 b:List Int
 deriving DecidableEq
structure Bi where
 Hq:Bool
 n:Int
 d:Int
 deriving DecidableEq
def Bi.nil:Bi:=⟨false,0,1⟩
def Bi.Gx:Bi:=⟨false,1,1⟩
def Bi.ok(_:Bi):Bool:=true
def Bi.small(_:Bi):Bool:=true
def Iw(x y:Bi):Int:=if x.n*y.d<y.n*x.d then-1 else if y.n*x.d<x.n*y.d then 1 else 0
def Am.AZ(x:Am):Bi:=⟨x.Hq,x.a.headD 0,x.b.headD 0⟩
def VG:List Am:=[⟨false,[],[1]⟩,⟨false,[1],[1]⟩,⟨false,[1],[2]⟩,⟨false,[1],[1000]⟩,⟨false,[30],[1]⟩]
def Am.BA(x:Am):Prop:=x∈VG
theorem sN{x:Bi}(_:x.small=true):x.ok=true:=rfl
variable{x:Am}
theorem Am.tS(h:x.BA):0<=x.AZ.n:=by
 have: ∀y∈VG,0<=y.AZ.n:=by decide
 exact this x h
theorem Am.a0t(h:x.BA):0<=x.AZ.n:=Am.tS h
end Go.Big
namespace Go.Proofs.YtmmkkggfmigppaaGreat
open Go Go.DI Go.Big
abbrev AT(l:List Int):Value:=O (l.map λd=>[Ag d]) 1
theorem OZ{N c:Type}{f:N->c}(h: ∀x y,f x=f y->x=y): ∀{l W:List N},l.map f=W.map f↔l=W
 |[],[]=>by simp
 |[],_::_=>by simp
 |_::_,[]=>by simp
 | x::l,y::W=>by simp only[Dl,P6,OZ h];exact⟨λ⟨a,b⟩=>⟨h _ _ a,b⟩,λ⟨a,b⟩=>⟨by rw[a],b⟩⟩
@[simp] theorem aDp{l W:List Int}:(l.map λd=>[Ag d])=(W.map λd=>[Ag d])↔l=W:=OZ λx y h=>by simpa using h
def BT(x:Am):List Value:=[.bool x.Hq,AT x.a,AT x.b]
variable{x:Am}{l:List Am}{f:Nat}{r:Value}{ts:List Value}{T:ByteArray}
theorem aCS{y:Am}:BT x=BT y↔x=y:=by obtain⟨a,b,c⟩:=x;obtain⟨d,e,f⟩:=y;simp[BT]
@[simp] theorem aHl:(BT x).length=3:=rfl
abbrev BK(x:Am):Value:= .agg (BT x).toArray
abbrev DU(l:List Am):Value:=O (l.map BT) 3
@[simp] theorem aIc{W:List Am}:l.map BT=W.map BT↔l=W:=OZ λx y h=>aCS.1 h
theorem z2(h: ∀m a,WW m ts a->At V f a m λd b=>Aa m b/\bh b r d):AO V f ts r:=
 aAo λm a e=>(h m a e).AD λd b c=>⟨⟨c.1.ac,c.1.Y⟩,c.2⟩
theorem a4g:AO V 179 [.string T] (.bool (Ie T)):=z2 λm b a=>by obtain⟨v,rfl,h⟩:=a.Gx;rw[h.O5,aCm];exact⟨Aa.refl m,.BP rfl⟩
open Go Go.DI
section
set_option maxRecDepth 100000
def HN:AU V 62:=AW
def uN:=G (A8 HN.1.body 1839)
def XA:=(G λx=>AA 7 x (A8 HN.1.body 303)) uN
def vy:=G (A8 HN.1.body 3679)
def XM:=(G λx=>AA 7 x (A8 HN.1.body 607)) vy
def yG:=G (A8 HN.1.body 7359)
def cV:=(G λx=>AA 7 x (A8 HN.1.body 1215)) yG
def xg:=G (A8 HN.1.body 14719)
def Wy:=(G λx=>AA 7 x (A8 HN.1.body 2431)) xg
def xP:=G (A8 HN.1.body 29439)
def cG:=(G λx=>AA 7 x (A8 HN.1.body 4863)) xP
def sF:=G (A8 HN.1.body 58879)
def YX:=(G λx=>AA 7 x (A8 HN.1.body 9727)) sF
def yI:=G (A8 HN.1.body 2047)
def tQ:=(G λx y=>AA 3 y (AA 18 x (A8 HN.1.body 1023))) YX yI
def qn:=(G λx y=>AA 3 y (AA 18 x (A8 HN.1.body 511))) cG tQ
def lr:=(G λx y=>AA 3 y (AA 18 x (A8 HN.1.body 255))) Wy qn
def sM:=(G λx y=>AA 3 y (AA 18 x (A8 HN.1.body 127))) cV lr
def qc:=(G λx y=>AA 3 y (AA 18 x (A8 HN.1.body 63))) XM sM
def xa:=(G λx y=>AA 15 y (AA 75 x (A8 HN.1.body 7))) XA qc
def nN:=(G λx=>AA 7 x HN.1.body) xa
def vM:=AV V 62 ⟨244,[.AH 2],nN⟩
def aC2:AU V 110:=AW
def nE:=G aC2.1.body
def ss:=AV V 110 ⟨15,[.AH 6],nE⟩
def S1:AU V 111:=AW
def Zy:=G (A8 S1.1.body 13103)
def Zf:=(G λx=>AA 12 x (A8 S1.1.body 1839)) Zy
def bj:=(G λx=>AA 3 x (A8 S1.1.body 815)) Zf
def kO:=(G λx=>AA 3 x (A8 S1.1.body 303)) bj
def dX:=G (A8 S1.1.body 63)
def nb:=(G λx y=>AA 63 y (AA 303 x S1.1.body)) kO dX
def rZ:=AV V 111 ⟨89,[.AH 2],nb⟩
def kP:AU V 112:=AW
def ju:=G (A8 kP.1.body 151)
def kE:=G (A8 kP.1.body 31)
def sY:=(G λx y=>AA 31 y (AA 151 x kP.1.body)) ju kE
def wa:=AV V 112 ⟨95,[.AH 2],sY⟩
def e4:AU V 113:=AW
def gW:=G (A8 e4.1.body 151)
def XI:=G (A8 e4.1.body 31)
def pL:=(G λx y=>AA 31 y (AA 151 x e4.1.body)) gW XI
def ng:=AV V 113 ⟨60,[.AH 4],pL⟩
def fJ:AU V 114:=AW
def iX:=G (A8 fJ.1.body 75)
def Y7:=G (A8 fJ.1.body 15)
def xZ:=(G λx y=>AA 15 y (AA 75 x fJ.1.body)) iX Y7
def tA:=AV V 114 ⟨24,[.AH 2],xZ⟩
def a50:AU V 170:=AW
def y5:=G a50.1.body
def cq:=AV V 170 ⟨29,[.AH 2],y5⟩
def a5z:AU V 171:=AW
def mu:=G a5z.1.body
def Zu:=AV V 171 ⟨7,[.AH 2],mu⟩
def fL:AU V 172:=AW
def Z3:=G (A8 fL.1.body 37)
def Wi:=G (A8 fL.1.body 7)
def xD:=(G λx y=>AA 7 y (AA 37 x fL.1.body)) Z3 Wi
def mc:=AV V 172 ⟨18,[.AH 4],xD⟩
def VL:AU V 176:=AW
def VO:=G (A8 VL.1.body 2568779)
def WZ:=(G λx=>AA 627 x (A8 VL.1.body 4683)) VO
def ZP:=(G λx=>AA 73 x (A8 VL.1.body 75)) WZ
def Zz:=G (A8 VL.1.body 15)
def lu:=(G λx y=>AA 15 y (AA 75 x VL.1.body)) ZP Zz
def wu:=AV V 176 ⟨70,[.AH 2],lu⟩
def a6k:AU V 177:=AW
def Qz:=G a6k.1.body
def QE:=AV V 177 ⟨39,[.AH 8],Qz⟩
def a5N:AU V 178:=AW
def UZ:=G a5N.1.body
def UJ:=AV V 178 ⟨30,[.AH 8],UZ⟩
def hL:AU V 225:=AW
def l1:=G (A8 hL.1.body 37)
def dS:=G (A8 hL.1.body 7)
def th:=(G λx y=>AA 7 y (AA 37 x hL.1.body)) l1 dS
def u5:=AV V 225 ⟨18,[.AH 4],th⟩
def aCZ:AU V 226:=AW
def wT:=G aCZ.1.body
def w2:=AV V 226 ⟨4,[.AH 2],wT⟩
def gl:AU V 227:=AW
def YJ:=G (A8 gl.1.body 37)
def US:=G (A8 gl.1.body 7)
def sg:=(G λx y=>AA 7 y (AA 37 x gl.1.body)) YJ US
def tq:=AV V 227 ⟨18,[.AH 4],sg⟩
def aBb:AU V 228:=AW
def qg:=G aBb.1.body
def nu:=AV V 228 ⟨5,[.AH 2],qg⟩
def a7L:AU V 229:=AW
def ur:=G a7L.1.body
def nA:=AV V 229 ⟨9,[.AH 2],ur⟩
def aBR:AU V 230:=AW
def a5B:=G aBR.1.body
def u6:=AV V 230 ⟨23,[.AH 2],a5B⟩
end
theorem wN: ∀r∈l.map BT,r.length=3/\ ∀v∈r,DA v=true:= λr b=>by obtain⟨x,_,rfl⟩:=CG.1 b;exact⟨rfl,λv a=>by simp[BT]at a;rcases a with rfl|rfl|rfl<;>rfl⟩
theorem a6J:(l.map BT).flatten.length=l.length*3:=by rw[LV (z:=3) λr a=>(wN r a).1,E9]
end Go.Proofs.YtmmkkggfmigppaaGreat
namespace Go.Big
structure F9 where
 name:ByteArray
 s:List Am
 pf:List (List Am)
 e:List Am
 deriving DecidableEq
def F9.BA(x:F9):Prop:= ∃z,2<=z/\z<200/\x.s=[⟨false,[1],[1]⟩]/\x.pf=[[⟨false,[],[1]⟩]]/\x.e=[⟨false,[1],[z]⟩]
def F9.Mo(_:F9):Bool:=true
end Go.Big
namespace Go.Proofs.YtmmkkggfmigppaaGreat
open Go Go.DI Go.Big
abbrev qX(l:List (List Am)):Value:=O (l.map λr=>[DU r]) 1
def CS(x:F9):List Value:=[.string x.name,DU x.s,qX x.pf,DU x.e]
variable{W l:List (List Am)}{N:Type}{i:Nat}
@[simp] theorem aHg:(l.map λr=>[DU r])=(W.map λr=>[DU r])↔l=W:=OZ λx y h=>by simpa using h
abbrev Ow(x:F9):Value:= .agg (CS x).toArray
theorem Nl{l:List N}{x:N}(h:l[i]?=some x):l.take (i+1)=l.take i++[x]:=by rw[N9,h];rfl
end Go.Proofs.YtmmkkggfmigppaaGreat
namespace Go.Big
def C1(a b c:Int):Bool:=decide (b<=a)&&decide (a<=c)
end Go.Big
namespace Go.Proofs.YtmmkkggfmigppaaGreat
open Go Go.DI Go.Big
variable{c:Int}{a b:List Int}{n:Bool}{x:Am}{l:List Am}{p:Am->Bool}{u:Nat}
theorem a88{a b:Int}:AO V 110 [Z a,Z b,Z c] (.bool (C1 a b c)):=by refine BQ (Ax (aC:=⟨[],[]⟩) ss.2 ?_);by_cases h:b<=a<;>simp[ss,nE,h,C1]
abbrev LH:AN V:= .B9 110 (Int×Int×Int) (λ⟨a,b,c⟩=>True) (λ⟨a,b,c⟩=>[Z a,Z b,Z c]) (λ⟨a,b,c⟩=> .bool (C1 a b c)) (λ⟨a,b,c⟩ h=>a88)
@[simp] theorem aHh{a:Int}{b:Int}:LH.fn ([Z a,Z b,Z c])=some (.bool (C1 a b c)):=AN.BH (x:=(a,b,c)) trivial λy d=>by obtain⟨e,f,g⟩:=y;simpa using d
theorem P5(h:[BK x]=[.agg #[.bool n,AT a,AT b]]):x=⟨n,a,b⟩:=by obtain⟨c,d,e⟩:=x;simpa[BT]using h
abbrev tO(u:Nat)(l:List Am)(p:Am->Bool)(a: ∀x∈l,AO V u [BK x] (.bool (p x))):AN V:= .B9 u Am (λx=>x∈l) (λx=>[BK x]) (λx=> .bool (p x)) a
@[simp] theorem aID{c: ∀x∈l,AO V u [BK x] (.bool (p x))}(h:Am.mk n a b∈l):(tO u l p c).fn [.agg #[.bool n,AT a,AT b]]=some (.bool (p ⟨n,a,b⟩)):=
  AN.BH (x:=Am.mk n a b) h λy d=>P5 d
theorem mx(r:l.length<1000000)(h: ∀x∈l,AO V u [BK x] (.bool (p x))):AO V 172 [DU l,.func (.func u) #[] #[]] (.bool (l.all p)):=by
 refine BQ (Ax (aC:=⟨[],[]⟩) mc.2 ?_);simp[mc,xD];refine Cc (aC:=⟨[tO u l p h],[]⟩) (λi A t=>(l.take i).all p=true/\A 1= .func (.func u) #[] #[]/\A 7=DU l/\A 8=Z l.length/\A 9=Z i) l.length ?_ ?_ 0 _ _ (C8 _) ⟨by simp,by simp,by simp,by simp,by simp⟩
 ·rintro i A t f ⟨b,c,d,a,e⟩ s k;have m:l[i]?=some l[i]:=AP f;have o:l[i]∈l:=Dq f;have q:=BZ (n:=i) (by omega);have g:(i:Int)<l.length:=(by omega);cases hb:p l[i]
  ·simp(disch:=first|omega|simp only[A9];omega)[Z3,Wi,c,d,a,e,g,hb,BT];exact⟨_,o,hb⟩
  ·simp(disch:=first|omega|simp only[A9];omega)[Z3,Wi,c,d,a,e,g,q,hb,BT,-H,-D,-I,-F,-List.map_map];exact k _ _ ⟨by rw[Nl m,List.all_append,b];simp[hb],by simp[c],by simp[d],by simp[a],by simp⟩
 ·rintro A t ⟨b,c,d,a,e⟩;rw[FJ]at b;simp[Z3,Wi,a,e,Wi];simpa using b
end Go.Proofs.YtmmkkggfmigppaaGreat
namespace Go.DI
open Go Go.RowKit
variable{b k:Nat}{args:List Value}
theorem fV{a:Nat}(h:a≠b):Nat.beq a b=false:=by
 grind [Nat.eq_of_beq_eq_true]
inductive CH(N:Type) where
 |nil
 |Ci (v:Option N) (l r:CH N)
variable {N:Type}
def CH.Y:CH N->Nat->Option N
 | .nil,_=>none
 | .Ci v l r,k=>bif Nat.beq k 0 then v else bif Nat.beq (k%2) 1 then l.Y (k/2)else r.Y (k/2-1)
def CH.set:Nat->CH N->Nat->Option N->CH N
 |0,t,_,_=>t
 |n+1,.nil,k,x=>bif Nat.beq k 0 then .Ci x .nil .nil else bif Nat.beq (k%2) 1 then .Ci none (CH.set n .nil (k/2) x) .nil else .Ci none .nil (CH.set n .nil (k/2-1) x)
 |n+1,.Ci v l r,k,x=>bif Nat.beq k 0 then .Ci x l r else bif Nat.beq (k%2) 1 then .Ci v (CH.set n l (k/2) x) r else .Ci v l (CH.set n r (k/2-1) x)
@[simp] theorem CH.aFs(k:Nat):(CH.nil:CH N).Y k=none:=rfl
theorem CH.QF{v:Option N}{l r:CH N}:(CH.Ci v l r).Y k=if k=0 then v else if k%2=1 then l.Y (k/2)else r.Y (k/2-1):=by
 show(bif Nat.beq k 0 then _ else _)=_
 grind [Nat.beq,fV]
theorem CH.Mu: ∀{n:Nat} {t:CH N} {k:Nat} {x:Option N} {j:Nat},k+1<2^n->(CH.set n t k x).Y j=if j=k then x else t.Y j
 |0,t,k,x,j,h=>by simp at h
 | n+1,t,k,x,j,h=>by
   have u:2^(n+1)=2*2^n:=(by rw[Nat.pow_succ];omega);have o: ∀(v:Option N) (l r:CH N),(if k=0 then CH.Ci x l r else if k%2=1 then .Ci v (CH.set n l (k/2) x) r else .Ci v l (CH.set n r (k/2-1) x)).Y j=if j=k then x else(CH.Ci v l r).Y j:= λv l r=>by
    by_cases g:k=0
    ·subst g;rw[if_pos rfl,CH.QF,CH.QF];by_cases d:j=0
     ·simp[d]
     ·simp[d]
    ·rw[if_neg g];by_cases i:k%2=1
     ·rw[if_pos i,CH.QF,CH.QF];by_cases d:j=0
      ·have:j≠k:=(by omega);simp[d];omega
      ·rw[if_neg d,if_neg d];by_cases f:j%2=1
       ·rw[if_pos f,if_pos f,CH.Mu (by omega)];by_cases e:j=k
        ·rw[if_pos e,if_pos (by omega)]
        ·rw[if_neg e,if_neg (by omega)]
       ·rw[if_neg f,if_neg f,if_neg (by omega)]
     ·rw[if_neg i,CH.QF,CH.QF];by_cases d:j=0
      ·simp[d];omega
      ·rw[if_neg d,if_neg d];by_cases f:j%2=1
       ·rw[if_pos f,if_pos f,if_neg (by omega)]
       ·rw[if_neg f,if_neg f,CH.Mu (by omega)];by_cases e:j=k
        ·rw[if_pos e,if_pos (by omega)]
        ·rw[if_neg e,if_neg (by omega)]
   have p: ∀{q:Type} (a b c:q),(bif Nat.beq k 0 then a else bif Nat.beq (k%2) 1 then b else c)=if k=0 then a else if k%2=1 then b else c:= λa b c=>by
    by_cases g:k=0
    ·simp[g]
    ·have i:Nat.beq k 0=false:=fV g;rw[i,if_neg g];show(bif Nat.beq (k%2) 1 then _ else _)=_;by_cases m:k%2=1
     ·simp[m]
     ·have s:Nat.beq (k%2) 1=false:=fV m;rw[s,if_neg m];rfl
   cases t with
   | nil=>
     show(bif Nat.beq k 0 then CH.Ci x .nil .nil else bif Nat.beq (k%2) 1 then .Ci none (CH.set n .nil (k/2) x) .nil else .Ci none .nil (CH.set n .nil (k/2-1) x)).Y j=_;rw[p,o none .nil .nil];by_cases e:j=k
     ·rw[if_pos e,if_pos e]
     ·rw[if_neg e,if_neg e,CH.QF];simp
   | Ci v l r=>show(bif Nat.beq k 0 then CH.Ci x l r else bif Nat.beq (k%2) 1 then .Ci v (CH.set n l (k/2) x) r else .Ci v l (CH.set n r (k/2-1) x)).Y j=_;rw[p,o v l r]
abbrev EM:=CH Value
def FY(S:EM):A2:= λk=>match S.Y k with|some v=>v|none=>undef
def QB(k:Nat):Bool:=Nat.blt k 2000000
theorem Pt(h:QB k=true):k+1<2^21:=by
 grind [QB,Nat.blt_eq]
def ON(S:EM)(d:Option Nat)(v:Value):Option EM:=match d with
 |none=>some S
 |some k=>if QB k then some (CH.set 21 S k (some v))else none
theorem iy{S a:EM}{d:Option Nat}{v:Value}(h:ON S d v=some a):FY a=Ar (FY S) d v:=by
 unfold ON at h;cases d with
 |none=>cases h;rfl
 | some k=>
   simp only at h;split at h
   ·next b=>
    cases h;funext j;show(match(CH.set 21 S k (some v)).Y j with|some v=>v|none=>undef)=Fg (FY S) k v j;rw[CH.Mu (Pt b)];unfold Fg;by_cases e:j=k
    ·rw[if_pos e,if_pos e]
    ·rw[if_neg e,if_neg e];rfl
   ·cases h
def Qj:List Value->Nat->EM->EM
 |[],_,S=>S
 |v::l,k,S=>Qj l (k+1) (CH.set 21 S k (some v))
theorem wo: ∀{l:List Value} {k:Nat} {S:EM} {j:Nat},k+l.length<1000000->(Qj l k S).Y j=if k<=j/\j<k+l.length then l[j-k]? else S.Y j
 | [],k,S,j,h=>by rw[if_neg λa=>by simp at a;omega];rfl
 | v::l,k,S,j,h=>by
   simp only[DZ]at h;show(Qj l (k+1) (CH.set 21 S k (some v))).Y j=_;rw[wo (by omega),CH.Mu (by omega)]
   grind
theorem a5f(h:args.length<1000000):FY (Qj args 0 .nil)=CQ args:=by
 funext j;show(match(Qj args 0 .nil).Y j with|some v=>v|none=>undef)=args.getD j undef;rw[wo (by omega)];by_cases a:j<args.length
 ·simp_all
 ·simp_all
structure C7 where
 ac:Nat
 BY:CH CC
 mp:CH (List (Value×Value))
def Al(ah:C7):X:=⟨ah.ac,λb=>ah.BY.Y b,λb=>ah.mp.Y b⟩
def Tb:C7:=⟨0,.nil,.nil⟩
def CJ(ah:C7):Prop:= ∀i,ah.ac<=i->ah.BY.Y i=none
theorem wB:Al Tb=Cl:=rfl
theorem xU:CJ Tb:= λ_ _=>rfl
def SW(ah:C7)(k:Nat):C7:=⟨ah.ac+k,ah.BY,ah.mp⟩
variable{ah cX:C7}{x:Option CC}{es:List (Value×Value)}{f:Nat}{r:Value}{ts:List Value}{aU:Value->X->Prop}
theorem xh(h:CJ ah):Al (SW ah k)=(Al ah).AE k:=by
 unfold Al SW X.AE;simp only[X.mk.injEq,and_true,true_and];funext i;by_cases a:i<ah.ac
 ·rw[if_pos a]
 ·rw[if_neg a];exact h i (by omega)
theorem sa(h:CJ ah):CJ (SW ah k):= λi a=>h i (by simp[SW]at a;omega)
def Hr(ah:C7)(b:Nat)(x:Option CC):Option C7:=if QB b&&Nat.blt b ah.ac then some ⟨ah.ac,CH.set 21 ah.BY b x,ah.mp⟩else none
theorem OR(d:CJ ah)(h:Hr ah b x=some cX):CJ cX/\Al cX=(Al ah).A1 b x:=by
 unfold Hr at h;split at h
 ·next a=>
  cases h;simp only[AF,Nat.blt_eq]at a;refine⟨λi c=> ?_,?_⟩
  ·show(CH.set 21 ah.BY b x).Y i=none;rw[CH.Mu (Pt a.1),if_neg (by simp at c;omega)];exact d i c
  ·unfold Al X.A1
   grind [CH.Mu,Pt]
 ·cases h
def XT(ah:C7)(b:Nat)(es:List (Value×Value)):Option C7:=if QB b&&Nat.blt b ah.ac then some ⟨ah.ac,CH.set 21 ah.BY b (some ⟨[],true⟩),CH.set 21 ah.mp b (some es)⟩else none
theorem nt(d:CJ ah)(h:XT ah b es=some cX):CJ cX/\Al cX=(Al ah).Cw b es:=by
 unfold XT at h;split at h
 ·next a=>
  cases h;simp only[AF,Nat.blt_eq]at a;refine⟨λi c=> ?_,?_⟩
  ·show(CH.set 21 ah.BY b (some ⟨[],true⟩)).Y i=none;rw[CH.Mu (Pt a.1),if_neg (by simp at c;omega)];exact d i c
  ·unfold Al X.Cw
   grind [CH.Mu,Pt]
 ·cases h
def QV(k:M)(id:Nat)(A:A2)(ah:C7):Option C7:=
 match k with
 | .It z=>Hr ah id (some ⟨z,true⟩)
 | .Ja x=>Hr ah id (some ⟨H (U A x),true⟩)
 | .Hg _ _ z ps=>Hr ah id (some ⟨GS z A ps,true⟩)
 | .store _ x v=>(match U A x with
   | .pointer (some a)=>(match ah.BY.Y a.block with|some y=>Hr ah a.block (some ⟨CV y.cells a.off (H (U A v)),y.own⟩)|none=>none)
   |_=>none)
 | .Mz x=>Hr ah id (some ⟨TL (M9 (U A x)),true⟩)
 | .IZ _ _ zero l _=>Hr ah id (some ⟨(List.replicate (Bk (U A l)).toNat zero).flatten,true⟩)
 | .KZ _ _ zero _ l=>Hr ah id (some ⟨(List.replicate (Bk (U A l)).toNat zero).flatten,true⟩)
 | .Ca zero x=>(match U A x with
   | .slice none _ _=>some ah
   | .slice (some a) l _=>(match ah.BY.Y a.block with|some y=>Hr ah a.block (some ⟨CV y.cells a.off (List.replicate l zero).flatten,y.own⟩)|none=>none)
   |_=>none)
 | .app z _ x y=>if ED (U A y)=0 then some ah else(match U A x with
   | .slice (some ⟨b,_,none⟩) l _=>(match Hr ah b none with
     |some B=>Hr B id (some ⟨C5 (Al ah) z (U A x)++FL (Al ah) z (U A y),true⟩)
     |none=>none)
   | .slice none _ _=>Hr ah id (some ⟨FL (Al ah) z (U A y),true⟩)
   |_=>none)
 | .Kz=>XT ah id []
 | .Ki _ x k v=>XT ah (MX (U A x)) (Dy (U A k) (U A v) (((Al ah).Bs (MX (U A x))).getD []))
 |_=>some ah
theorem nU{x:CC}(a:CJ ah)(h:ah.BY.Y b=some x):(Al ah).Y b=some x:=by
 have:b<ah.ac:=Nat.lt_of_not_le λe=>by rw[a b e]at h;cases h
 show(if b<ah.ac then ah.BY.Y b else none)=_;rw[if_pos this,h]
theorem rL{k:M}{id:Nat}{A:A2}{ah cX:C7}(f:CJ ah)(h:QV k id A ah=some cX):CJ cX/\Al cX=k.H8 id A (Al ah):=by
 have key: ∀{b:Nat} {x:Option CC},Hr ah b x=some cX->CJ cX/\Al cX=(Al ah).A1 b x:= λh=>OR f h;cases k with
 |It z=>exact key h
 |Ja x=>exact key h
 |Hg a b z ps=>exact key h
 | store n x v=>
   simp only[QV]at h;show CJ cX/\Al cX=Fj (Al ah) (U A x) (H (U A v))
   grind [Fj,nU]
 |Mz x=>exact key h
 |IZ a b c d e=>exact key h
 |KZ a b c d e=>exact key h
 | Ca zero x=>
   simp only[QV]at h;show CJ cX/\Al cX=H5 (Al ah) zero (U A x)
   grind [H5,nU]
 | app z r x y=>
   simp only[QV]at h;show CJ cX/\Al cX=if ED (U A y)=0 then Al ah else if Dj (Al ah) z (U A x) (ED (U A y))then Ga (Al ah) z (U A x) (FL (Al ah) z (U A y))else(EC (Al ah) (U A x)).A1 id (some ⟨C5 (Al ah) z (U A x)++FL (Al ah) z (U A y),true⟩)
   split at h
   ·simp_all
   ·next m=>
    rw[if_neg m];split at h
    ·next a0 s l c g=>
     rw[g,a4G];split at h
     ·next B o=>obtain⟨p,q⟩:=OR f o;obtain⟨i,j⟩:=OR p h;refine⟨i,?_⟩;rw[j,q,g];rfl
     ·cases h
    ·next l c g=>
     obtain⟨i,j⟩:=OR f h
     simp_all
    ·cases h
 |Kz=>exact nt f h
 |Ki a x k v=>exact nt f h
 |_=>cases h;exact⟨f,rfl⟩
abbrev Hv:=Nat->List Value->C7->Option (Value×C7)
def ZD(ah:C7):List Nat->Option C7
 |[]=>some ah
 | o::l=>match Hr ah o none with
   |some B=>ZD B l
   |none=>none
def Zo(ah B:C7):List Nat->Option C7
 |[]=>some B
 | o::l=>match Hr B o (ah.BY.Y o)with
   |some C=>Zo ah C l
   |none=>none
def So(ah:C7):List Nat->Option C7
 |[]=>some ah
 | o::l=>match ah.BY.Y o with
   | some x=>(match Hr ah o (some ⟨x.cells,false⟩)with
     |some B=>So B l
     |none=>none)
   |none=>So ah l
def QL(ah:C7):List Nat->Option C7
 |[]=>some ah
 | o::l=>match ah.mp.Y o with
   |some _=>if QB o then QL ⟨ah.ac,ah.BY,CH.set 21 ah.mp o none⟩ l else none
   |none=>QL ah l
def QQ(cp:Hv)(f:Nat)(args:List Value)(ah:C7):Option (Value×C7):=match Ms 9 (Al ah) args with
 | some ts=>(match cp f ts Tb with
   | some (v,B)=>(match B3 9 (Al B) v with
     | some r=>if G4 r then(match QL ah (args.flatMap (BL 9 (Al ah)))with
      |some C=>some (r,C)
      |none=>none)
       else(match So ah (args.flatMap (BL 9 (Al ah)))with
        |some C=>some (r,C)
        |none=>none)
     |none=>none)
   |none=>none)
 |none=>none
def MA(cp:Hv)(f:Nat)(args:List Value)(ah:C7):List Nat->Option (Value×C7)
 |[]=>cp f args ah
 | L =>if L.all (λo=>match ah.BY.Y o with|some x=> !x.cells.isEmpty|none=>false)then
  (match ZD ah L with
  | some a=>(match cp f args a with
    | some (r,B)=>(match Zo ah B L with
      |some C=>some (r,C)
      |none=>none)
    |none=>QQ cp f args ah)
  |none=>none)
   else QQ cp f args ah
def Qg(cp:Hv)(base:Nat)(o:Av)(S:EM)(ah:C7):Option (EM×C7):=
 let A:=FY S
 let b (x:Option (Value×C7)):Option (EM×C7):=match x with
  | some (r,cX)=>(match ON S o.d r with
    |some e=>some (e,cX)
    |none=>none)
  |none=>none
 match o.k with
 | .Kg f a=>b (MA cp f (a.map (U A)) ah (GD A (Al ah) o.Gr))
 | .JV x a=>(match U A x with
   | .func (.func f) first g=>b (MA cp f (first.toList++a.map (U A)++g.toList) ah (GD A (Al ah) o.Gr))
   |_=>none)
 | .JN h x a=>(match U A x with
   | .iface t v=>(match h.find? (λr=>r.1==t)with
     |some (_,f,none)=>b (MA cp f (v::a.map (U A)) ah (GD A (Al ah) o.Gr))
     |some (_,f,some (c,n))=>if JP (Al ah) v n&&(c||decide (n=1))then b (MA cp f (Nq (Al ah) c n v::a.map (U A)) ah (GD A (Al ah) o.Gr))else none
     |none=>none)
   |_=>none)
 | k=>if k.Di A (Al ah)&&Dv A (Al ah) o.Gr then(match QV k (base+o.AQ) A ah with
   |some cX=>b (some (k.EE (base+o.AQ) A (Al ah),cX))
   |none=>none)else none
def Mr(cp:Hv)(base:Nat):List Av->EM->C7->Option (EM×C7)
 |[],S,ah=>some (S,ah)
 | o ::b,S,ah=>if Bl (FY S) o.g then(match Qg cp base o S ah with
  |some (a,cX)=>Mr cp base b a cX
  |none=>none)
   else(match ON S o.d undef with
    |some a=>Mr cp base b a ah
    |none=>none)
def Re(ops:List Av)(ah:C7):C7:=if ops.any (λo=>o.k.Bv)then SW ah ops.length else ah
def Z9(f:EM->C7->Option (BM×EM×C7)):Nat->EM->C7->Option (BM×EM×C7)
 |0,_,_=>none
 | n+1,S,ah=>match f S ah with
   |some (.CK,a,cX)=>Z9 f n a cX
   |r=>r
def K5(cp:Hv)(n:Nat):CF->EM->C7->Option (BM×EM×C7)
 | .skip,S,ah=>some (.CK,S,ah)
 | .FW ops,S,ah=>(match Mr cp ah.ac ops S (Re ops ah)with
   |some (d,cX)=>some (.CK,d,cX)
   |none=>none)
 | .LN _ _ _,_,_=>none
 | .El a b,S,ah=>(match K5 cp n a S ah with
   |some (.CK,d,cX)=>K5 cp n b d cX
   |r=>r)
 | .HP c a b,S,ah=>(match U (FY S) c with
   | .bool true=>K5 cp n a S ah
   | .bool false=>K5 cp n b S ah
   |_=>none)
 | .block id c,S,ah=>(match K5 cp n c S ah with
   |some (.Ao e,d,cX)=>if e=id then some (.CK,d,cX)else some (.Ao e,d,cX)
   |r=>r)
 | .loop c,S,ah=>Z9 (K5 cp n c) n S ah
 | .Ao id,S,ah=>some (.Ao id,S,ah)
 | .Cz,S,ah=>some (.Cz,S,ah)
def au(a:List GF):Option (BM×EM×C7)->Option (Value×C7)
 |some (.Ao _,_,_)=>none
 |some (_,S,ah)=>if Fi (Al ah) (FY S) a then some (Fv (Al ah) (FY S) a,ah)else none
 |none=>none
theorem vH(a:CJ ah):(Al ah).Y b=ah.BY.Y b:=by
 show(if b<ah.ac then ah.BY.Y b else none)=_;by_cases h:b<ah.ac
 ·rw[if_pos h]
 ·rw[if_neg h,a b (by omega)]
theorem iU: ∀{L:List Nat} {ah a:C7},CJ ah->ZD ah L=some a->CJ a/\Al a=Ex (Al ah) L
 | [],ah,a,b,h=>by cases h;refine⟨b,?_⟩;unfold Ex;simp
 | o::l,ah,a,b,h=>by
   simp only[ZD]at h;split at h
   ·next B c=>
    obtain⟨d,e⟩:=OR b c;obtain⟨f,g⟩:=iU d h;refine⟨f,?_⟩;rw[g,e];unfold Ex X.A1
    grind
   ·cases h
theorem eE: ∀{L:List Nat} {B C:C7},CJ B->Zo ah B L=some C->CJ C/\Al C=G2 (Al ah) (Al B) L
 | [],B,C,a,h=>by cases h;refine⟨a,?_⟩;unfold G2;simp
 | o::l,B,C,a,h=>by
   simp only[Zo]at h;split at h
   ·next j c=>
    obtain⟨e,f⟩:=OR a c;obtain⟨g,i⟩:=eE e h;refine⟨g,?_⟩;rw[i,f];unfold G2 X.A1;simp only[X.mk.injEq,true_and,and_true];funext b;by_cases c:b∈l
    ·simp_all
    ·rw[if_neg c];by_cases d:b=o
     ·rw[if_pos d,if_pos (by simp[d]),d];rfl
     ·simp_all
   ·cases h
theorem WL: ∀{L:List Nat} {ah C:C7},CJ ah->So ah L=some C->CJ C/\Al C=Jc (Al ah) L
 |[],ah,C,a,h=>by cases h;exact⟨a,rfl⟩
 | o::l,ah,C,a,h=>by
   simp only[So]at h;rw[Zw,vH a];split at h
   ·next x b=>
    rw[b];simp only;split at h
    ·next B c=>obtain⟨d,e⟩:=OR a c;rw[<-e];exact WL d h
    ·cases h
   ·next b=>rw[b];exact WL a h
theorem Zv: ∀{L:List Nat} {ah C:C7},CJ ah->QL ah L=some C->CJ C/\Al C=Ca (Al ah) L
 |[],ah,C,a,h=>by cases h;exact⟨a,(a65 _).symm⟩
 | o::l,ah,C,a,h=>by
   have c: ∀{cX:C7},CJ cX->QL cX l=some C->cX.ac=ah.ac->cX.BY=ah.BY->(∀b,b∉l->cX.mp.Y b=if b=o then none else ah.mp.Y b)->CJ C/\Al C=Ca (Al ah) (o::l):= λ{cX} d f i hb j=>by
    obtain⟨w,e⟩:=Zv d f;refine⟨w,?_⟩;rw[e];unfold Ca Al
    grind
   simp only[QL]at h;split at h
   ·split at h
    ·next g=>exact c (cX:=⟨ah.ac,ah.BY,CH.set 21 ah.mp o none⟩) a h rfl rfl λb _=>CH.Mu (Pt g)
    ·cases h
   ·grind
variable {P:Program} {K:Be} {u:C0} {t m:X} {A J:A2}
def ZM(h:AO P f ts r):AN P:=by
 classical exact⟨f,λa=>if a=ts then some r else none,λa b e=>by
  simp_all⟩
theorem hZ(h:AO P f ts r)(a:Ms 9 t args=some ts)(b:aU r (if G4 r then Ca t (args.flatMap (BL 9 t))else Jc t (args.flatMap (BL 9 t)))):O6 [ZM h] f args t aU:=by
 simp_all [ZM]
def KW(P:Program)(cp:Hv):Prop:= ∀f args ah r cX,CJ ah->cp f args ah=some (r,cX)->CJ cX/\Bh P f args (Al ah) λa b=>a=r/\b=Al cX
variable{cp:Hv}{ops:List Av}{S R:EM}{B C:C7}{A0:A2}{c:CF}{base:Nat}{o:Av}
theorem a6y(i:KW P cp)(b:CJ ah)(h:QQ cp f args ah=some (r,cX)):
 CJ cX/\ ∃ts,∃c:AO P f ts r,O6 [ZM c] f args (Al ah) λd e=>d=r/\e=Al cX:=by
 unfold QQ at h;split at h
 ·next ts q=>
  split at h
  ·next v B j=>
   obtain⟨s,k⟩:=i _ _ _ _ _ xU j;split at h
   ·next l m=>
    have c:AO P f ts l:=BQ (by have:=k;rw[wB]at this;exact this.AD λd e g=>by rw[g.1,g.2];exact m);split at h
    ·next n=>
     split at h
     ·next C a=>
      cases h;obtain⟨o,p⟩:=Zv b a
      grind [hZ]
     ·cases h
    ·next n=>
     split at h
     ·next C a=>
      cases h;obtain⟨o,p⟩:=WL b a
      grind [hZ]
     ·cases h
   ·cases h
  ·cases h
 ·cases h
theorem a3n{cp:Hv}(v:KW P cp){f:Nat}{args j:List Value}{ah cX:C7}{r:Value}{g:List (Operand×Operand)}(y:CJ ah)(i:BN K u (Al ah) m)(F:D5 u K A J)(G:g.all (λp=>Ay p.1&&Ay p.2)=true)(z:AJ u K args j)
 (h:MA cp f args ah (GD A (Al ah) g)=some (r,cX)):CJ cX/\
 At P f j m λd c=>KF J g m c/\ ∃a b,BN a b (Al cX) c/\AY b a r d/\Bi (Al ah).ac m.ac K u (Al ah) m a b (Al cX) c:=by
 have pure: ∀{x:Value×C7},QQ cp f args ah=some x->x=(r,cX)->CJ cX/\At P f j m λd c=>KF J g m c/\ ∃a b,BN a b (Al cX) c/\AY b a r d/\Bi (Al ah).ac m.ac K u (Al ah) m a b (Al cX) c:= λ{x} I e=>by
  subst e;obtain⟨w,ts,L,q⟩:=a6y v y I;refine⟨w,(eF i z q).AD λd c k=> ?_⟩
  grind [rf]
 cases n:GD A (Al ah) g with
 | nil=>rw[n]at h;simp only[MA]at h;obtain⟨w,q⟩:=v _ _ _ _ _ y h;refine⟨w,(q K u j m i z).AD λd c k=> ?_⟩;obtain⟨a,b,M,N,⟨rfl,rfl⟩,D,s,t⟩:=k;exact⟨XU i F G t.DL (by rw[n];nofun),a,b,D,s,t⟩
 | cons o l=>
   rw[n]at h;simp only[MA]at h;split at h
   ·next Z=>
    split at h
    ·next A0 O=>
     obtain⟨Q,R⟩:=iU y O;split at h
     ·next A1 B S=>
      split at h
      ·next C D=>
       cases h;obtain⟨T,H⟩:=v _ _ _ _ _ Q S;obtain⟨U,V⟩:=eE T D;refine⟨U,?_⟩;rw[R]at H;have W: ∀p∈o::l,∃x,(Al ah).Y p=some x/\x.cells≠[]:= λp L=>by
        grind [vH]
       refine(oA W H i z).AD λd c k=> ?_;obtain⟨X,a,b,M,N,⟨rfl,rfl⟩,s,t,E⟩:=k;rw[<-V]at s E;exact⟨XU i F G E.DL (by rw[n];exact X),a,b,s,t,E⟩
      ·cases h
     ·exact pure h rfl
    ·cases h
   ·exact pure h rfl
variable {P:Program}
def KD(d e:Nat)(K:Be)(u:C0)(t m:X)(f:EM)(B:C7)(g:A2)(c:X):Prop:= ∃a b,BN a b (Al B) c/\D5 b a (FY f) g/\Bi d e K u t m a b (Al B) c
theorem YN{cp:Hv}(A7:KW P cp){base i:Nat}: ∀{ops:List Av} {K:Be} {u:C0} {S E:EM} {ah B:C7} {m:X} {J:A2},ops.all Wg=true->Mq (ops.map (·.AQ))=true->CJ ah->BN K u (Al ah) m->D5 u K (FY S) J->Ph K u (Al ah) m base i ops->base<=ah.ac->i<=m.ac->
 Mr cp base ops S ah=some (E,B)->CJ B/\Bn P i ops J m λF A=>KD base i K u (Al ah) m E B F A
 | [],K,u,S,E,ah,B,m,J,_,_,A0,L,p,_,_,_,h=>by cases h;refine⟨A0,?_⟩;rw[kZ];exact⟨K,u,L,p,Bi.refl⟩
 | o::ops,K,u,S,E,ah,B,m,J,A3,Aj,A0,L,p,G,hb,A8,h=>by
   obtain⟨t,d,g,k,N⟩:=o;simp only[F3,AF]at A3;obtain⟨Ak,AA⟩:=nodup_cons Aj;have A9:=A3.1;simp only[Wg,AF]at A9;have skip: ∀{R:EM},ON S d undef=some R->Mr cp base ops R ah=some (E,B)->CJ B/\Bn P i ops (Ar J d undef) m λF A=>KD base i K u (Al ah) m E B F A:= λ{R} Am h=>by refine YN A7 A3.2 AA A0 L ?_ (λo T O=>G o (by simp[T]) O) hb A8 h;rw[iy Am];exact p.A1 AY.undef
   have An: ∀{x:EM×C7},Qg cp base ⟨t,d,g,k,N⟩ S ah=some x->Mr cp base ops x.1 x.2=some (E,B)->CJ B/\Bn P i (⟨t,d,none,k,N⟩::ops) J m λF A=>KD base i K u (Al ah) m E B F A:= λ{x} c h=>by

    have after: ∀{f:Nat} {args V:List Value} {y:EM×C7} {L7:Value->X->Prop},AJ u K args V->(match MA cp f args ah (GD (FY S) (Al ah) N)with
     | some (r,cX)=>(match ON S d r with
       |some AB=>some (AB,cX)
       |none=>none)
     |none=>none)=some x->CJ B/\At P f V m (Lw P i d N ops J m (λF A=>KD base i K u (Al ah) m E B F A)):= λ{f args V y L7} O z=>by
     split at z
     ·next r C Q=>
      split at z
      ·next R Ap=>
       cases z;obtain⟨AE,q⟩:=a3n A7 A0 L p A9.2 O Q;have step: ∀{D:Be} {H:C0} {W:Value} {Y:X},BN D H (Al C) Y->AY H D r W->Bi (Al ah).ac m.ac K u (Al ah) m D H (Al C) Y->CJ B/\Bn P i ops (Ar J d W) Y λF A=>KD base i K u (Al ah) m E B F A:= λ{D H W Y} A4 A5 s=>by
        have AI:D5 H D (FY R) (Ar J d W):=(by rw[iy Ap];exact(p.AD s.f s.e).A1 A5);have AK:Ph D H (Al C) Y base i ops:= λo T O=>by
         have j:=G o (by simp[T]) O;refine⟨?_,λo' Z=> ?_,?_,GV j.MN s.HB,GV j.L0 s.HL⟩
         ·cases AL:D (base+o.AQ)with
          |none=>rfl
          | some b=>
            rcases s.LX _ _ AL with l|⟨l,_⟩
            ·rw[j.e]at l;cases l
            ·have:=j.MN;omega
         ·rcases s.LX _ _ Z with l|⟨_,l⟩
          ·exact j.b _ l
          ·have:=j.L0;omega
         ·cases AL:H (i+o.AQ)with
          |none=>rfl
          | some cs=>
            rcases s.fn _ _ AL with l|l|⟨o',_,l,_⟩
            ·rw[j.f]at l;cases l
            ·have:=j.L0;omega
            ·exact absurd l (j.b o')
        obtain⟨AM,AN⟩:=YN A7 A3.2 AA AE A4 AI AK (E8 hb s.HB) (E8 A8 s.HL) h;refine⟨AM,?_⟩;obtain⟨n,AO,AP,AR,AS,AT,AU,AV,AW⟩:=AN;exact⟨n,AO,AP,AR,AS,AT,AU,AV,(s.JL hb A8).trans AW⟩
       have Aq:CJ B:=(by obtain⟨n,W,A,_,_,D,H,A4,A5,s⟩:=q;exact(step A4 A5 s).1);refine⟨Aq,q.AD λW Y As=> ?_⟩;obtain⟨AX,D,H,A4,A5,s⟩:=As;exact⟨AX,(step A4 A5 s).2⟩
      ·cases z
     ·cases z
    have Au: ∀{k:M},k.FD=false->Ns k=true->(k.Bv=true->KE K u (Al ah) m (base+t) (i+t))->(if k.Di (FY S) (Al ah)&&Dv (FY S) (Al ah) N then(match QV k (base+t) (FY S) ah with
     | some cX=>(match some (k.EE (base+t) (FY S) (Al ah),cX)with
       | some (r,cX)=>(match ON S d r with
         |some AB=>some (AB,cX)
         |none=>none)
       |none=>none)
     |none=>none)else none)=some x->
     CJ B/\Bn P i (⟨t,d,none,k,N⟩::ops) J m λF A=>KD base i K u (Al ah) m E B F A:= λ{k} z AX j c=>by
     split at c
     ·next Aa=>
      simp only[AF]at Aa;split at c
      ·next C Aw=>
       simp only at c;split at c
       ·next R Ax=>
        cases c;obtain⟨AE,Af⟩:=rL A0 Aw;obtain⟨Q,D,q⟩:=mb (h7:=base) (iQ:=i) (id:=base+t) (mid:=i+t) L p z AX Aa.1 j (by omega) (by omega);have AI:D5 u D (FY R) (Ar J d (k.val (i+t) J m)):=(by rw[iy Ax];exact(p.AD q.AZ.f q.AZ.e).A1 q.val);have AK:Ph D u (Al C) (k.Cj (i+t) J m) base i ops:= λo T O=>by
         have j:=G o (by simp[T]) O;have c:=Ak o T;simp only at c;rw[Af];refine⟨by rw[q.bb _ (by omega)];exact j.e,λo' Z=> ?_,j.f,GV j.MN q.AZ.HB,GV j.L0 q.AZ.HL⟩;by_cases e:o'=base+t
         ·subst e;rcases q.self with l|l
          ·rw[l]at Z;exact j.b _ Z
          ·grind
         ·rw[q.bb _ e]at Z;exact j.b _ Z
        have Ag:=q.uj;have G:=q.AZ;rw[<-Af]at Ag G;obtain⟨AM,AN⟩:=YN A7 A3.2 AA AE Ag AI AK (E8 hb G.HB) (E8 A8 G.HL) h;refine⟨AM,?_⟩;rw[FT z];refine⟨Q,vK L p A9.2 Aa.2,?_⟩;obtain⟨n,AO,AP,AR,AS,AT,AU,AV,AW⟩:=AN;exact⟨n,AO,AP,AR,AS,AT,AU,AV,G.trans AW⟩
       ·cases c
      ·cases c
     ·cases c
    have Ay:=G ⟨t,d,g,k,N⟩ (by simp);have Ah:=A9.1;have I:=Ah;simp only[Ns,AF]at I;cases k with
    | Kg f V=>rw[fO];exact after (y:=x) (L7:= λ_ _=>True) (p.OS I.1) c
    | JV x V=>
      simp only[Qg]at c;simp only[M.D9,F3,AF]at I;split at c
      ·next f first B3 Ab=>have A6:=p.U I.1.1;rw[Ab]at A6;obtain⟨ys,ds,e,Az,B0⟩:=A6.Py;rw[lB e];exact after (y:=⟨S,ah⟩) (L7:= λ_ _=>True) ((Az.JU (p.OS I.1.2)).JU B0) c
      ·cases c
    | JN B4 x V=>
      simp only[Qg]at c;simp only[M.D9,F3,AF]at I;rw[aBA];split at c
      ·next B5 v Ab=>
       have A6:=p.U I.1.1;rw[Ab]at A6;obtain⟨B6,e,Ac⟩:=A6.UA;rw[e];unfold HW;split at c
       ·next a f Ae=>simp only[Ae];exact after (y:=⟨S,ah⟩) (L7:= λ_ _=>True) (AJ.cons Ac (p.OS I.1.2)) c
       ·next a f B7 n Ae=>
        simp only[Ae];split at c
        ·next z=>
         simp only[AF]at z;have Q:=WV L Ac z.1;obtain⟨w,q⟩:=after (y:=⟨S,ah⟩) (L7:= λ_ _=>True) (AJ.cons (iS L Ac z.1 z.2) (p.OS I.1.2)) c
         simp_all
        ·cases c
       ·cases c
      ·cases c
    |_=>exact Au rfl Ah Ay c
   simp only[Mr]at h;split at h
   ·next Ai=>
    split at h
    ·next R C Q=>
     cases g with
     |none=>exact An Q h
     | some g=>
       grind [YZ,gG]
    ·cases h
   ·next Ai=>
    split at h
    ·next R Q=>
     cases g with
     |none=>exact absurd rfl Ai
     | some g=>
       grind [YZ,gG]
    ·cases h
theorem sw(a:CJ ah):CJ (Re ops ah)/\Al (Re ops ah)=Cn ops (Al ah):=by
 grind [Re,Cn,sa,xh]
theorem a7B(s:KW P cp)(a:HI (.FW ops)=true){K:Be}{u:C0}{f:EM}{m:X}{J:A2}(t:CJ ah)(c:BN K u (Al ah) m)(v:D5 u K (FY S) J)(h:Mr cp ah.ac ops S (Re ops ah)=some (f,B)):
 CJ B/\Bn P m.ac ops J (Cn ops m) λx y=>KD ah.ac m.ac K u (Al ah) m f B x y:=by
 simp only[HI,AF]at a;obtain⟨z,g⟩:=sw (ops:=ops) t;have i:BN K u (Cn ops (Al ah)) (Cn ops m):=by
  grind [Cn,iR]
 have d:Bi ah.ac m.ac K u (Al ah) m K u (Cn ops (Al ah)) (Cn ops m):=by
  unfold Cn;split
  ·exact Xv c _
  ·exact Bi.refl
 have j:Ph K u (Cn ops (Al ah)) (Cn ops m) ah.ac m.ac ops:= λo l A=>by
  have p:(ops.any λo=>o.k.Bv)=true:=List.any_eq_true.2 ⟨o,l,A⟩;have r:o.AQ<ops.length:=(by simpa using BR.1 a.2 o l);refine⟨?_,λo' C=> ?_,?_,by simp[Cn,p,r,Al],by simp[Cn,p,r]⟩
  ·cases e:K (ah.ac+o.AQ)with
   |none=>rfl
   |some b=>have:=(c.B0 _ _ e).1;simp[Al]at this;omega
  ·have:=(c.B0 _ _ C).2;omega
  ·cases e:u (m.ac+o.AQ)with
   |none=>rfl
   |some cs=>obtain⟨⟨w,D⟩,_⟩:=c.AZ _ _ e;have:=E D;omega
 have F:ah.ac<=(Re ops ah).ac:=by have:=d.HB;rw[<-g]at this;exact this
 rw[<-g]at i d j;obtain⟨G,q⟩:=YN s a.1.1 a.1.2 z i v j F d.HL h;refine⟨G,?_⟩;obtain⟨n,H,I,L,M,N,O,Q,R⟩:=q;exact⟨n,H,I,L,M,N,O,Q,d.trans R⟩
def eO(P:Program)(c:CF)(e:BM)(S:EM)(ah:C7)(a:EM)(B:C7):Prop:=CJ B/\ ∀(K:Be) (u:C0) (J:A2) (m:X),BN K u (Al ah) m->D5 u K (FY S) J->Az P c J m λb d f=>b=e/\KD ah.ac m.ac K u (Al ah) m a B d f
theorem KD.trans{d e f g:Nat}{K i:Be}{u j:C0}{t m k:X}{l:X}(h:Bi d e K u t m i j (Al B) k)(n:KD f g i j (Al B) k R C A0 l)(o:d<=f)(p:e<=g):KD d e K u t m R C A0 l:=by obtain⟨q,r,a,b,c⟩:=n;exact⟨q,r,a,b,h.trans (c.JL o p)⟩
theorem wF(v:HI c=true){f:EM->C7->Option (BM×EM×C7)}(d: ∀{S ah e a B},CJ ah->f S ah=some (e,a,B)->eO P c e S ah a B): ∀{n:Nat} {S:EM} {ah:C7} {e:BM} {a:EM} {B:C7},CJ ah->Z9 f n S ah=some (e,a,B)->eO P (.loop c) e S ah a B
 |0,S,ah,e,a,B,i,h=>by cases h
 | n+1,S,ah,e,a,B,i,h=>by
   simp only[Z9]at h;split at h
   ·next R C w=>obtain⟨j,q⟩:=d i w;obtain⟨x,y⟩:=wF v d j h;refine⟨x,λK u J m k l=> ?_⟩;refine Bm λz p=> ?_;refine(q K u J m k l).AD λr s t b=> ?_;obtain⟨rfl,A,D,E,F,o⟩:=b;refine p _ _ ((y A D s t E F).AD λI L M b=> ?_);obtain⟨rfl,G⟩:=b;exact⟨rfl,KD.trans o G o.HB o.HL⟩
   ·next H=>
    obtain⟨j,q⟩:=d i h;refine⟨j,λK u J m k l=> ?_⟩;refine Bm λz p=> ?_;refine(q K u J m k l).AD λr s t b=> ?_;obtain⟨rfl,g⟩:=b;cases r with
    |CK=>exact absurd h (H _ _)
    |Ao id=>exact⟨rfl,g⟩
    |Cz=>exact⟨rfl,g⟩
variable {P:Program}
theorem x2(a:CJ ah)(h:QQ cp f args ah=some (r,cX)):CJ cX:=by
 unfold QQ at h
 repeat' split at h
 all_goals first|cases h|skip
 all_goals first|exact(Zv a (by assumption)).1|exact(WL a (by assumption)).1
theorem a3H{cp:Hv}(b:KW P cp){f:Nat}{args:List Value}{ah cX:C7}{r:Value}{L:List Nat}(a:CJ ah)(h:MA cp f args ah L=some (r,cX)):CJ cX:=by
 cases L with
 |nil=>exact(b _ _ _ _ _ a h).1
 | cons o l=>
   simp only[MA]at h;split at h
   ·split at h
    ·next g c=>
     split at h
     ·next i B d=>
      split at h
      ·next C e=>cases h;exact(eE (b _ _ _ _ _ (iU a c).1 d).1 e).1
      ·cases h
     ·exact x2 a h
    ·cases h
   ·exact x2 a h
theorem a3A(j:KW P cp){x:EM×C7}(e:CJ ah)(h:Qg cp base o S ah=some x):CJ x.2:=by
 have a: ∀{f:Nat} {args:List Value} {L:List Nat},(match MA cp f args ah L with
  | some (r,cX)=>(match ON S o.d r with
    |some b=>some (b,cX)
    |none=>none)
  |none=>none)=some x->CJ x.2:= λ{f args L} h=>by
  grind [a3H]
 have plain: ∀{k:M},(if k.Di (FY S) (Al ah)&&Dv (FY S) (Al ah) o.Gr then(match QV k (base+o.AQ) (FY S) ah with
  | some cX=>(match some (k.EE (base+o.AQ) (FY S) (Al ah),cX)with
    | some (r,cX)=>(match ON S o.d r with
      |some b=>some (b,cX)
      |none=>none)
    |none=>none)
  |none=>none)else none)=some x->CJ x.2:= λ{k} h=>by
  split at h
  ·split at h
   ·next C i=>
    simp only at h;split at h
    ·cases h;exact(rL e i).1
    ·cases h
   ·cases h
  ·cases h
 obtain⟨l,d,g,k,m⟩:=o;cases k with
 |Kg f c=>exact a h
 | JV y c=>
   simp only[Qg]at h;split at h
   ·exact a h
   ·cases h
 | JN n y c=>
   simp only[Qg]at h;split at h
   ·split at h
    ·exact a h
    ·split at h
     ·exact a h
     ·cases h
    ·cases h
   ·cases h
 |_=>exact plain h
theorem gx(b:KW P cp): ∀{ops:List Av} {S c:EM} {ah B:C7},CJ ah->Mr cp base ops S ah=some (c,B)->CJ B
 |[],S,c,ah,B,a,h=>by cases h;exact a
 | o::ops,S,c,ah,B,a,h=>by
   simp only[Mr]at h;split at h
   ·split at h
    ·next R C d=>exact gx b (a3A b a d) h
    ·cases h
   ·split at h
    ·exact gx b a h
    ·cases h
theorem OD{cp:Hv}(o:KW P cp){n:Nat}: ∀{c:CF} {S l:EM} {ah B:C7} {e:BM},HI c=true->CJ ah->K5 cp n c S ah=some (e,l,B)->eO P c e S ah l B
 | .skip,S,l,ah,B,e,d,f,h=>by cases h;exact⟨f,λK u J m j i=>by rw[iL];exact⟨rfl,K,u,j,i,Bi.refl⟩⟩
 | .Ao id,S,l,ah,B,e,d,f,h=>by cases h;exact⟨f,λK u J m j i=>by rw[im];exact⟨rfl,K,u,j,i,Bi.refl⟩⟩
 | .Cz,S,l,ah,B,e,d,f,h=>by cases h;exact⟨f,λK u J m j i=>by rw[eR];exact⟨rfl,K,u,j,i,Bi.refl⟩⟩
 | .LN _ _ _,S,l,ah,B,e,d,f,h=>by cases h
 | .FW ops,S,l,ah,B,e,d,f,h=>by
   simp only[K5]at h;split at h
   ·next R C s=>cases h;exact⟨gx o (sw f).1 s,λK u J m j i=>by rw[fy];obtain⟨n,r,A,D,q⟩:=(a7B o d f j i s).2;exact⟨n,r,A,D,rfl,q⟩⟩
   ·cases h
 | .El a b,S,l,ah,B,e,d,f,h=>by
   simp only[HI,AF]at d;simp only[K5]at h;split at h
   ·next R C s=>obtain⟨k,q⟩:=OD o d.1 f s;obtain⟨E,F⟩:=OD o d.2 k h;refine⟨E,λK u J m j i=> ?_⟩;rw[aw];refine(q K u J m j i).AD λt r v p=> ?_;obtain⟨rfl,G,H,I,L,x⟩:=p;rw[Nn];refine(F G H r v I L).AD λQ T A p=> ?_;obtain⟨rfl,M⟩:=p;exact⟨rfl,KD.trans x M x.HB x.HL⟩
   ·next y=>
    obtain⟨k,q⟩:=OD o d.1 f h;refine⟨k,λK u J m j i=> ?_⟩;rw[aw];refine(q K u J m j i).AD λt r v p=> ?_;obtain⟨rfl,g⟩:=p;cases t with
    |CK=>exact absurd h (y _ _)
    |Ao id=>exact⟨rfl,g⟩
    |Cz=>exact⟨rfl,g⟩
 | .HP c a b,S,l,ah,B,e,d,f,h=>by
   simp only[HI,AF]at d;simp only[K5]at h;split at h
   ·next z=>
    obtain⟨k,q⟩:=OD o d.1.2 f h;refine⟨k,λK u J m j i=> ?_⟩;have w:=(i.U d.1.1);rw[z]at w;rw[cF,w.Jk]
    simp_all
   ·next z=>
    obtain⟨k,q⟩:=OD o d.2 f h;refine⟨k,λK u J m j i=> ?_⟩;have w:=(i.U d.1.1);rw[z]at w;rw[cF,w.Jk]
    simp_all
   ·cases h
 | .block id c,S,l,ah,B,e,d,f,h=>by
   simp only[K5]at h;split at h
   ·next N R C s=>
    obtain⟨k,q⟩:=OD (c:=c) o d f s;split at h
    ·next O=>
     cases h;refine⟨k,λK u J m j i=> ?_⟩;rw[Tz];refine(q K u J m j i).AD λt r v p=> ?_
     simp_all
    ·next O=>
     cases h;refine⟨k,λK u J m j i=> ?_⟩;rw[Tz];refine(q K u J m j i).AD λt r v p=> ?_
     simp_all
   ·next y=>
    obtain⟨k,q⟩:=OD (c:=c) o d f h;refine⟨k,λK u J m j i=> ?_⟩;rw[Tz];refine(q K u J m j i).AD λt r v p=> ?_;obtain⟨rfl,g⟩:=p;cases t with
    |Ao N=>exact absurd h (y _ _ _)
    |CK=>exact⟨rfl,g⟩
    |Cz=>exact⟨rfl,g⟩
 | .loop c,S,l,ah,B,e,d,f,h=>by simp only[K5]at h;exact wF (c:=c) d (λf h=>OD o d f h) f h
def b3(P:Program)(a:Nat->Option HT):Prop:= ∀f Fn,a f=some Fn->M1 P f=some Fn/\HI Fn.body=true
def Wa:List (Nat×HT)->CH HT
 |[]=> .nil
 |p::l=>CH.set 21 (Wa l) p.1 (some p.2)
def XG(P:Program):List (Nat×HT)->Prop
 |[]=>True
 |p::l=>((QB p.1=true/\M1 P p.1=some p.2)/\HI p.2.body=true)/\XG P l
theorem Lt: ∀{l:List (Nat×HT)},XG P l->b3 P (Wa l).Y
 |[],_=> λf Fn h=>by cases h
 | p::l,h=> λf Fn a=>by
   have e:(Wa (p::l)).Y f=if f=p.1 then some p.2 else(Wa l).Y f:=CH.Mu (Pt h.1.1.1)
   rw[e]at a;split at a
   ·next b=>cases a;rw[b];exact⟨h.1.1.2,h.1.2⟩
   ·exact Lt h.2 f Fn a
end Go.DI
end
