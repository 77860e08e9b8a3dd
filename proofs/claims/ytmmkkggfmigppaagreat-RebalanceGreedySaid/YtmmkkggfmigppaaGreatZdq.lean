/- A part of the proof. -/
import Derived.Test.YtmmkkggfmigppaaGreatZdp
set_option linter.all false
set_option maxRecDepth 20000
set_option maxHeartbeats 16000000
noncomputable section
namespace Go.Proofs.YtmmkkggfmigppaaGreat
open Go Go.DI Go.Big
theorem a4S{x:Bi}(b:0<=x.n):(x.ok&&decide (Iw x .nil=0))=(x.small&& !decide (0<x.n)):=by
 simp only[Bi.ok,Bi.small,Bool.true_and,pY b];by_cases a:x.n=0
 ·simp[a]
 ·have:0<x.n:=(by omega);simp[a,this]
variable{A:A2}{s:Nat->List ByteArray}{e2:Nat->Nat}{t:X}{d i:Nat}{Q:BM->A2->X->Prop}{R:Ct}{x:Int}
theorem DG.aA8{u:AL}{c:A2}{d:X}(h:DG u e2 s A t)(i:c 8=A 8)(j: ∀k∈KM,c k=A k)(e: ∀o,o<t.ac->d.Y o=t.Y o):DG u e2 s c d:=by obtain⟨l,m,f,n,g,p,q⟩:=h.KS i j;exact⟨l,m,(e _ (E f)).trans f,n,λk a b=>(e _ (E (g k a b))).trans (g k a b),p,q⟩
theorem a77{a b c e f:Nat}:L5 a b c d e f=(decide (a<=4)&&(decide (b<=4)&&(decide (c<=40)&&(decide (d<=24)&&(decide (e<=4)&&decide (f<=12)))))):=by
 unfold L5;congr 1
 ·exact decide_eq_decide.2 (by omega)
 congr 1
 ·exact decide_eq_decide.2 (by omega)
 congr 1
 ·exact decide_eq_decide.2 (by omega)
 congr 1
 ·exact decide_eq_decide.2 (by omega)
 congr 1
 ·exact decide_eq_decide.2 (by omega)
 ·exact decide_eq_decide.2 (by omega)
theorem a03{u:AL}(h:AL.Cu u)(c:u.A5[0]?=some R)(a:Na R=true)(b:DG u e2 s A t)
 (p: ∀e f,DG u e2 s e f->ER (P:=V) ⟨[Li,YI,XY,TB],[]⟩ kq e f Q):ER (P:=V) ⟨[Li,YI,XY,TB],[]⟩ ak A t Q:=by
 have q:0<u.A5.length:=(Ae.1 c).1;have D:(0:Int)<u.A5.length:=by omega
 have r:=(Ae.1 c).2;have d:R.Hm.BA:=h.A5 R (B5 c);have v:=b.Fe;have g:=b.Hc;have i:=b.DH;have F:=E i;have j:=a4S (x:=R.Hm.AZ) (Am.a0t d);obtain⟨G,H,I,J,⟨k,l,m⟩⟩:=R;simp only[Na]at d j a;rw[<-j]at a;simp only[AF,BW]at a;obtain⟨w,y,z,B,n,C⟩:=a;have K:(Am.mk k l m).BA/\(Am.mk k l m).AZ.ok=true:=⟨d,n⟩;simp(disch:=first|omega|simp only[DI.AB];omega)[ak,ak,A7,Bq,v,g,i,q,r,w,y,z,B,n,C];exact p _ _ (b.aA8 (by simp[g]) (GR (by simp) (by simp) (by simp) (by simp) (by simp) (by simp)) (λo L=>by simp(disch:=omega)))
theorem vY{u:AL}(h:AL.Cu u)(f:Hl u=true):AO V 87 [.agg (A7 u).toArray] (.bool true):=by
 simp only[Hl,AF,BW]at f;obtain⟨g,i,j,d,k,l,m,c,n,o,a3,a4,p,q,r,e,s,v⟩:=f;refine BQ (Ax (aC:=⟨[Li,YI,XY,TB],[]⟩) q4.2 ?_);have w:L5 u.Bu.length u.Af.length u.A5.length u.A4.length u.B7.length u.A3.length=true:=by rw[a77];simp[i,j,d,k,l,m]
 obtain⟨R,ds,b⟩: ∃R ds,u.A5=R::ds:=by
  cases x:u.A5 with
  |nil=>rw[x]at c;cases c
  |cons R ds=>exact⟨R,ds,rfl⟩
 have y:Na R=true:=by rw[b,ej,AF]at c;exact c.1
 have z:u.A5.tail=ds:=by rw[b];rfl
 rw[z]at e;have B: ¬u.A5.length=0:=by rw[b];simp
 have F: ¬(u.A5.length:Int)=0:=by omega
 have G:(0:Int)<u.A5.length:=by omega
 have H:0<u.A5.length:=by omega
 have C:u.A5[0]?=some R:=by rw[b];rfl
 have I:ds.length<=39:=by rw[b]at d;simp at d;omega
 simp[q4,y8,A7,g,w,B];refine v8 (u:=u) (by simp) (by simp) (by simp) (by simp) (by simp) (by simp) (by simp) (by simp[A7]) λA t e2 a D=> ?_;refine zL h n a (by simp) q ((D 9 (by decide)).trans (by simp)) λA t e2 a=> ?_;simp[wI];refine aCQ h o (a.KS (by simp) (GR (by simp) (by simp) (by simp) (by simp) (by simp) (by simp))) (by simp[DD]<;>omega) (by simpa[DD]using r) (by simp) λA t e2 a=> ?_;refine a03 h C y a λA t a=> ?_;simp[kq];refine a4E h b c (a.KS (by simp) (GR (by simp) (by simp) (by simp) (by simp) (by simp) (by simp))) (by simp[DD]<;>omega) (by simpa[DD]using(vP e)) (by simp) λA t e2 a=> ?_;simp[mV];refine a6o h a3 (a.KS (by simp) (GR (by simp) (by simp) (by simp) (by simp) (by simp) (by simp))) (by simp[DD]<;>omega) (by simpa[DD]using e) (by simp) λA t e2 a=> ?_;simp[tk];refine a6i h a4 (a.KS (by simp) (GR (by simp) (by simp) (by simp) (by simp) (by simp) (by simp))) (by simp[DD]<;>omega) (by simpa[DD]using s) (by simp) λA t e2 a=> ?_;simp[u2];refine a3L h p (a.KS (by simp) (GR (by simp) (by simp) (by simp) (by simp) (by simp) (by simp))) (by simp[DD]<;>omega) (by simpa[DD]using v) (by simp) λA t e2 a=> ?_;simp[nL,a.Hc]
abbrev P3(u:AL)(h:AL.Cu u):AN V:= .B9 87 Unit (λ_=>Hl u=true) (λ_=>[.agg (A7 u).toArray]) (λ_=> .bool true) λ_ a=>vY h a
@[simp] theorem aM4{u:AL}{h:AL.Cu u}(a:Hl u=true):(P3 u h).fn [.agg #[Z u.ext,O (u.Bu.map CS) 4,O (u.Af.map CX) 4,O (u.A5.map Bq) 7,O (u.A4.map Bx) 3,O (u.B7.map BE) 17,O (u.A3.map CW) 2]]=some (.bool true):=AN.BH (x:=()) a λ_ _=>rfl
def D1(u:AL)(i:Nat):Nat:=match u.A5[i]? with|some d=>d.parent.toNat|none=>0
def Dh(u:AL)(i:Nat):Int:=match u.A5[i]? with|some d=>d.Fw|none=>0
structure BS(u:AL):Prop where
 Nz:Hl u=true
 e9:u.Bu.length<=4
 BV:u.Af.length<=4
 Cg:u.A5.length<=40
 Es:u.A4.length<=24
 eB:u.B7.length<=4
 EF:u.A3.length<=12
 D6:0<u.A5.length
 Ly:Dh u 0=0/\ ∀d,u.A5[0]?=some d->d.parent= -1/\d.Fw=0
 Gc: ∀(i:Nat) (d:Ct),0<i->u.A5[i]?=some d->0<=d.parent/\d.parent<i/\Dh u d.parent.toNat=d.Fw-1/\1<=d.Fw/\d.Fw<=4
 LG: ∀(i:Nat) (x:HJ),u.A4[i]?=some x->0<=x.model/\x.model<u.Af.length/\0<=x.Ou/\x.Ou<u.A5.length/\Dh u x.Ou.toNat=4
 ZY: ∀(i:Nat) (x:SX),u.Af[i]?=some x->1<=x.ext/\x.ext<=16
 JS: ∀(i:Nat) (x:Dg),u.B7[i]?=some x->FI x.k x.m x.q x.Dz=true/\x.Af≠[]/\(∀m∈x.Af,0<=m/\m<u.Af.length)/\x.Af.Nodup
 FQ: ∀(i:Nat) (x:Jl),u.A3[i]?=some x->0<=x.JS/\x.JS<u.B7.length
theorem FV{a b:Int}(h:C1 x a b=true):a<=x/\x<=b:=KU.1 h
theorem zQ{u:AL}(h:Hl u=true):BS u:=by
 have y:=h;simp only[Hl,AF,BW]at h;obtain⟨M,z,A,B,C,D,E,c,N,F,G,H,I,O,P,Q,S,T⟩:=h;unfold Kw at c;cases f:u.A5 with
 |nil=>rw[f]at c;cases c
 | cons R l=>
   rw[f]at c;simp only[AF]at c;obtain⟨n,J⟩:=c;simp only[Na,AF,BW]at n;have r:u.A5[0]?=some R:=(by rw[f];rfl);have o: ∀i q,u.A5[i]?=some q->Dh u i=q.Fw:= λi q g=>by simp only[Dh,g]
   refine⟨y,z,A,B,C,D,E,by rw[f];simp,⟨by rw[o 0 R r];exact n.2.1,λd s=>by rw[r]at s;cases s;exact⟨n.2.2.1,n.2.1⟩⟩,λi d U a=> ?_,λi x a=> ?_,λi x a=> ?_,λi x a=> ?_,λi x a=> ?_⟩
   ·obtain⟨j,rfl⟩: ∃j,i=j+1:=⟨i-1,by omega⟩;have t:l[j]?=some d:=(by rw[f,MO]at a;exact a);have:=BR.1 J j (G3.2 (Ae.1 t).1);rw[t]at this;simp only[O2,AF]at this;obtain⟨k,b,a3,a4,v⟩:=this;have p:=FV k;have w:=FV a3;refine⟨p.1,by omega,?_,w.1,w.2⟩;unfold Vl at b;split at b
    ·next q g=>rw[o _ q (by rw[f];exact g)];exact of_decide_eq_true b
    ·cases b
   ·have:=BR.1 G x (B5 a);simp only[PD,AF]at this;obtain⟨k,b,a3⟩:=this;have p:=FV k;have K:=FV b;refine⟨p.1,by omega,K.1,by omega,?_⟩;unfold Vc at a3;split at a3
    ·next q g=>rw[o _ q g];exact of_decide_eq_true a3
    ·cases a3
   ·have:=BR.1 F x (B5 a);simp only[PM,AF]at this;exact FV this.1
   ·have:=BR.1 H x (B5 a);simp only[K3,AF,BW]at this;obtain⟨k,b,a3,a4,v⟩:=this;refine⟨k,by intro e;rw[e]at b;simp at b,λm L=> ?_,v⟩;have:=FV (BR.1 a4 m L);exact⟨this.1,by omega⟩
   ·have:=BR.1 I x (B5 a);simp only[RR]at this;have:=FV this;exact⟨this.1,by omega⟩
variable {u:AL}
theorem BS.rP(h:BS u){i:Nat}(b:i<u.A5.length):0<=Dh u i/\Dh u i<=4:=by
 have a:u.A5[i]?=some u.A5[i]:=AP b;have e:Dh u i=u.A5[i].Fw:=by simp only[Dh,a]
 cases i with
 |zero=>rw[h.Ly.1];omega
 |succ i=>rw[e];have:=h.Gc _ _ (by omega) a;omega
theorem BS.Hn(h:BS u){i:Nat}(b:i<u.A5.length)(c:0<Dh u i):D1 u i<i/\Dh u (D1 u i)=Dh u i-1/\0<i:=by
 have a:u.A5[i]?=some u.A5[i]:=AP b;have e:Dh u i=u.A5[i].Fw:=by simp only[Dh,a]
 have d:D1 u i=u.A5[i].parent.toNat:=by simp only[D1,a]
 cases i with
 |zero=>rw[h.Ly.1]at c;omega
 | succ i=>have:=h.Gc _ _ (by omega) a;rw[d,e];refine⟨by omega,this.2.2.1,by omega⟩
theorem BS.I5(h:BS u)(b:i<u.A5.length)(c:0<i):0<Dh u i:=by
 have a:u.A5[i]?=some u.A5[i]:=AP b;have e:Dh u i=u.A5[i].Fw:=by simp only[Dh,a]
 have:=h.Gc _ _ c a;omega
def HZ(u:AL)(a:Int):Nat->Nat->Nat
 |0,i=>i
 |k+1,i=>if Dh u i>a then HZ u a k (D1 u i)else i
theorem qp(h:BS u){d:Int}(j:0<=d): ∀{k fv i:Nat},i<u.A5.length->Dh u i<=d+k->Dh u i<=d+fv->HZ u d k i=HZ u d fv i
 |0,0,i,_,_,_=>rfl
 | 0,fv+1,i,e,f,g=>by unfold HZ;rw[if_neg (by omega)]
 | k+1,0,i,e,f,g=>by unfold HZ;rw[if_neg (by omega)]
 | k+1,fv+1,i,e,f,g=>by
   unfold HZ;split
   ·next l=>obtain⟨a,b,c⟩:=h.Hn e (by omega);exact qp h j (by omega) (by omega) (by omega)
   ·rfl
def CI(u:AL)(d:Nat):Nat:=match u.A4[d]? with|some x=>x.Ou.toNat|none=>0
def KB(u:AL)(d:Nat):Int:=match u.A4[d]? with
 |some x=>(match u.Af[x.model.toNat]? with|some m=>m.ext|none=>0)
 |none=>0
def Ck(u:AL)(AX:List Int):List Int:=(List.range u.A4.length).map λd=>if AX.length=u.A4.length then max 0 (min (AX.getD d 0) (KB u d))else KB u d
def EV(u:AL)(L:List (List Int)):List Int:=(List.range u.A4.length).map λd:Nat=>((L.flatten.count (d:Int):Nat):Int)
def CD(u:AL)(v:Nat):Int:=match u.A3[v]? with
 |some x=>(match u.B7[x.JS.toNat]? with|some p=>p.k+p.m|none=>0)
 |none=>0
def GQ(u:AL)(v:Nat)(r:List Int):Bool:=decide ((r.length:Int)=CD u v)&&r.all λx=>decide (-1<=x)&&decide (x<u.A4.length)
def Cs(u:AL)(L:List (List Int)):Bool:=decide (L.length=u.A3.length)&&(List.range L.length).all λv=>match L[v]? with
 |some r=>GQ u v r
 |none=>true
open Go Go.DI
section
set_option maxRecDepth 100000
def nw:AU V 52:=AW
def TE:=G (A8 nw.1.body 151)
def l5:=(G λx=>AA 151 x nw.1.body) TE
def Sx:=AV V 52 ⟨47,[.AH 4],l5⟩
def sf:AU V 63:=AW
def ax:=G (A8 sf.1.body 151)
def xn:=(G λx=>AA 151 x sf.1.body) ax
def Z5:=AV V 63 ⟨53,[.AH 4],xn⟩
def Y4:AU V 86:=AW
def Vw:=G (A8 Y4.1.body 75)
def Rz:=G (A8 Y4.1.body 15)
def sq:=(G λx y=>AA 3 y (AA 18 x (A8 Y4.1.body 7))) Vw Rz
def kg:=(G λx=>AA 7 x Y4.1.body) sq
def Ug:=AV V 86 ⟨33,[.AH 4],kg⟩
def YP:AU V 88:=AW
def WM:=G (A8 YP.1.body 75)
def SR:=G (A8 YP.1.body 15)
def nJ:=(G λx y=>AA 3 y (AA 18 x (A8 YP.1.body 7))) WM SR
def h0:=(G λx=>AA 7 x YP.1.body) nJ
def jH:=AV V 88 ⟨41,[.AH 4],h0⟩
def a10:AU V 115:=AW
def oi:=G a10.1.body
def cC:=AV V 115 ⟨6,[.AH 2],oi⟩
def jk:AU V 130:=AW
def Yz:=G (A8 jk.1.body 37)
def WQ:=G (A8 jk.1.body 7)
def rJ:=(G λx y=>AA 7 y (AA 37 x jk.1.body)) Yz WQ
def xT:=AV V 130 ⟨27,[.AH 6],rJ⟩
def aCT:AU V 132:=AW
def wW:=G aCT.1.body
def s6:=AV V 132 ⟨21,[.AH 4],wW⟩
def cn:AU V 133:=AW
def V2:=G (A8 cn.1.body 75)
def TU:=G (A8 cn.1.body 15)
def nW:=(G λx y=>AA 3 y (AA 18 x (A8 cn.1.body 7))) V2 TU
def h1:=(G λx=>AA 7 x cn.1.body) nW
def Vn:=AV V 133 ⟨50,[.DE 6 true 3,.AH 7],h1⟩
def lV:AU V 143:=AW
def UD:=G (A8 lV.1.body 37)
def S8:=G (A8 lV.1.body 7)
def qJ:=(G λx y=>AA 7 y (AA 37 x lV.1.body)) UD S8
def vC:=AV V 143 ⟨28,[.AH 4],qJ⟩
def a55:AU V 147:=AW
def o1:=G a55.1.body
def cx:=AV V 147 ⟨11,[.AH 4],o1⟩
def a2S:AU V 153:=AW
def a3P:=G a2S.1.body
def oX:=AV V 153 ⟨17,[.AH 6],a3P⟩
def a2h:AU V 187:=AW
def vL:=G a2h.1.body
def cS:=AV V 187 ⟨21,[.AH 4],vL⟩
def bn:AU V 200:=AW
def U3:=G (A8 bn.1.body 19659)
def jz:=(G λx=>AA 307 x (A8 bn.1.body 75)) U3
def eV:=G (A8 bn.1.body 15)
def rX:=(G λx y=>AA 15 y (AA 75 x bn.1.body)) jz eV
def bQ:=AV V 200 ⟨43,[.AH 4],rX⟩
def WU:AU V 207:=AW
def a5c:=G (A8 WU.1.body 151)
def a26:=G (A8 WU.1.body 607)
def aAa:=G (A8 WU.1.body 127)
def a1T:=(G λx y=>AA 7 y (AA 37 x (A8 WU.1.body 31))) a26 aAa
def aBk:=(G λx y=>AA 31 y (AA 151 x WU.1.body)) a5c a1T
def xq:=AV V 207 ⟨78,[.AH 6],aBk⟩
def J6:AU V 244:=AW
def a5v:=G (A8 J6.1.body 151)
def a42:=G (A8 J6.1.body 5216639)
def aBO:=(G λx=>AA 19 x (A8 J6.1.body 498047)) a42
def a2k:=(G λx=>AA 243 x (A8 J6.1.body 2431)) aBO
def aAj:=G (A8 J6.1.body 9727)
def aDS:=G (A8 J6.1.body 38911)
def a21:=G (A8 J6.1.body 8191)
def aBN:=(G λx y=>AA 3 y (AA 18 x (A8 J6.1.body 4095))) aDS a21
def zo:=(G λx=>AA 3 x (A8 J6.1.body 2047)) aBN
def aD3:=(G λx y=>AA 3 y (AA 18 x (A8 J6.1.body 1023))) aAj zo
def yt:=(G λx=>AA 3 x (A8 J6.1.body 511)) aD3
def aD5:=(G λx y=>AA 3 y (AA 18 x (A8 J6.1.body 255))) a2k yt
def aBQ:=(G λx=>AA 15 x (A8 J6.1.body 31)) aD5
def a45:=(G λx y=>AA 7 y (AA 37 x (A8 J6.1.body 7))) a5v aBQ
def aA6:=(G λx=>AA 7 x J6.1.body) a45
def px:=AV V 244 ⟨171,[.AH 6],aA6⟩
end
structure B4(u:AL):Prop where
 ok:BS u
 Cu:AL.Cu u
abbrev Yk(u:AL)(h:AL.Cu u):AN V:= .B9 62 Unit (λ_=>Hl u=true) (λ_=>[.agg (A7 u).toArray]) (λ_=>Z 0) λ_ a=>uY h a
@[simp] theorem aLn{u:AL}{h:AL.Cu u}(a:Hl u=true):(Yk u h).fn [.agg #[Z u.ext,O (u.Bu.map CS) 4,O (u.Af.map CX) 4,O (u.A5.map Bq) 7,O (u.A4.map Bx) 3,O (u.B7.map BE) 17,O (u.A3.map CW) 2]]=some (Z 0):=AN.BH (x:=()) a λ_ _=>rfl
theorem a1t{u:AL}(h:AL.Cu u)(a:Hl u=true):AO V 115 [.agg (A7 u).toArray] (.bool true):=by refine BQ (Ax (aC:=⟨[Yk u h],[]⟩) cC.2 ?_);simp(disch:=first|omega|simp only[A9];omega)[cC,oi,A7]
abbrev SY(u:AL)(h:AL.Cu u):AN V:= .B9 115 Unit (λ_=>Hl u=true) (λ_=>[.agg (A7 u).toArray]) (λ_=> .bool true) λ_ a=>a1t h a
@[simp] theorem aJz{u:AL}{h:AL.Cu u}(a:Hl u=true):(SY u h).fn [.agg #[Z u.ext,O (u.Bu.map CS) 4,O (u.Af.map CX) 4,O (u.A5.map Bq) 7,O (u.A4.map Bx) 3,O (u.B7.map BE) 17,O (u.A3.map CW) 2]]=some (.bool true):=AN.BH (x:=()) a λ_ _=>rfl
variable{e z:Int}{l r:List Int}{w L:List (List Int)}{v n:Nat}{p:Nat->Bool}
theorem a8c(h:0<=e):(if e<(if z<0 then 0 else z)then e else(if z<0 then 0 else z))=max 0 (min z e):=by split<;>split at* <;>omega
theorem a6r(h:0<=e):(if 0<(if e<z then e else z)then(if e<z then e else z)else 0)=max 0 (min z e):=by split<;>split at* <;>omega
def CN(u:AL)(AX:List Int)(d:Nat):Int:=if AX.length=u.A4.length then max 0 (min (AX.getD d 0) (KB u d))else KB u d
theorem MZ{u:AL}{AX:List Int}:Ck u AX=D4 u.A4.length (CN u AX):=rfl
theorem K7: ∀r∈l.map (λx=>[Z x]),r.length=1/\ ∀v∈r,DA v=true:= λr b=>by obtain⟨x,_,rfl⟩:=CG.1 b;exact⟨rfl,λv a=>by simp at a;subst a;rfl⟩
theorem Jd:(l.map (λx=>[Z x])).flatten=l.map Z:=by
 induction l with
 |nil=>rfl
 |cons x l a=>simp[a]
theorem RG: ∀v∈l.map Z,DA v=true:= λv a=>by obtain⟨x,_,rfl⟩:=CG.1 a;rfl
theorem wy{u:AL}(h:B4 u){AX:List Int}:Bh V 63 [.agg (A7 u).toArray,AK AX] Cl λv W=> ∃o,v=AM o u.A4.length 1/\W.Y o=some ⟨(Ck u AX).map Z,true⟩:=by
 refine Ax (aC:=⟨[SY u h.Cu],[]⟩) Z5.2 ?_;have A6:=h.ok.Nz;have A8:=h.ok.Es;have A0:(u.A4.length:Int)*8<=140737488355328/\u.A4.length<=140737488355328/\(u.A4.length:Int)<=140737488355328/\(u.A4.length:Int)<=9223372036854775807:=by omega
 simp(disch:=first|omega|simp only[A9];omega)[Z5,xn,A7,A0,-H,-D,-I,-F,-List.map_map];refine Cc (aC:=⟨[SY u h.Cu],[]⟩) (λi A t=>t.Y 0=some ⟨A7 u,true⟩/\t.Y 5=some ⟨D4 u.A4.length (λj=>if j<i then Z (CN u AX j)else Z 0),true⟩/\A 1=AK AX/\A 2=AG 0/\A 5=AM 5 u.A4.length 1/\A 15=Z u.A4.length/\A 16=Z i) u.A4.length ?_ ?_ 0 _ _ (C8 _) ⟨by simp(disch:=first|omega|simp only[A9];omega)[A7,-H,-D,-I,-F,-List.map_map],by simp(disch:=first|omega|simp only[A9];omega)[-H,-D,-I,-F,-List.map_map];exact Vv,by simp,by simp,by simp,by simp,by simp⟩
 ·rintro i A t K ⟨b,k,l,p,d,f,q⟩ AA L;obtain⟨x,r⟩:=Cb K;have M:=(Ae.1 r).2;obtain⟨A1,AB,a3,a4,AD⟩:=h.ok.LG i x r;obtain⟨m,s⟩:=Dp A1;have A2:m<u.Af.length:=(by omega);obtain⟨y,w⟩:=Cb A2;have N:=(Ae.1 w).2;have O:KB u i=y.ext:=(by simp only[KB,r,s,Dx,w]);have hb:=h.ok.ZY m y w;have P:(i:Int)<u.A4.length:=(by omega);have Q:(m:Int)<u.Af.length:=(by omega);have R:i+1<=u.A4.length:=K;have S:=BZ (n:=i) (by omega);have AE:=E b;have AF:=E k;by_cases B:AX.length=u.A4.length
  ·have T:(AX.length:Int)=u.A4.length:=(by omega);have A3:i<AX.length:=(by omega);have AI:(i:Int)<AX.length:=(by omega);obtain⟨z,U⟩:=Cb A3;have A5:=(Ae.1 U).2;have C:CN u AX i=max 0 (min z y.ext):=(by unfold CN;rw[if_pos B,O,E1,U];rfl);simp(disch:=omega)[ax,A7,Bx,CX,l,p,d,f,q,b,k,P,Q,S,M,s,N,B,A5,GH,LJ,BG,R];refine L _ _ ⟨by simp(disch:=omega)[b,A7],?_,by simp[l],by simp[p],by simp[d],by simp[f],by simp⟩;simp(disch:=omega);refine HS λj G=> ?_;by_cases e:j=i
   ·subst e;have J:j<j+1:=(by omega);rw[if_pos rfl,if_pos J,C];exact congrArg Z (a8c (by omega))
   ·by_cases c:j<i
    ·have a:j<i+1:=(by omega);simp only[if_neg e,if_pos c,if_pos a]
    ·have a: ¬j<i+1:=(by omega);simp only[if_neg e,if_neg c,if_neg a]
  ·have T: ¬(AX.length:Int)=u.A4.length:=(by omega);have C:CN u AX i=y.ext:=(by unfold CN;rw[if_neg B,O]);simp(disch:=omega)[ax,A7,Bx,CX,l,p,d,f,q,b,k,P,Q,S,M,s,N,T,LJ,R];refine L _ _ ⟨by simp(disch:=omega)[b,A7],?_,by simp[l],by simp[p],by simp[d],by simp[f],by simp⟩;simp(disch:=omega);refine HS λj G=> ?_;by_cases e:j=i
   ·subst e;have J:j<j+1:=(by omega);rw[if_pos rfl,if_pos J,C]
   ·by_cases c:j<i
    ·have a:j<i+1:=(by omega);simp only[if_neg e,if_pos c,if_pos a]
    ·have a: ¬j<i+1:=(by omega);simp only[if_neg e,if_neg c,if_neg a]
 ·rintro A t ⟨b,k,l,p,d,f,q⟩;simp(disch:=omega)[ax,d,f,q];rw[k,MZ,OX];rw[HS (g:= λj=>Z (CN u AX j)) λj G=>if_pos G]
theorem a6t{u:AL}(h:B4 u){AX:List Int}:AO V 63 [.agg (A7 u).toArray,AK AX] (AK (Ck u AX)):=
 Sq (n:=u.A4.length) (by rw[E9,MZ,VP]) K7 (by rw[Jd];exact wy h)
theorem SC{u:AL}{AX:List Int}:(Ck u AX).length=u.A4.length:=by rw[MZ,VP]
theorem qz{u:AL}(h:B4 u){AX:List Int}:Bh V 52 [.agg (A7 u).toArray,AK AX] Cl λv P=> ∃o,v=AM o u.A4.length 1/\P.Y o=some ⟨(Ck u AX).map Z,true⟩:=by
 refine Ax (aC:=⟨[P3 u h.Cu],[]⟩) Sx.2 ?_;have A0:=h.ok.Nz;have A1:=h.ok.Es;simp(disch:=first|omega|simp only[A9];omega)[Sx,l5,A7];refine SP (d:=5) (z:=1) (by simp) ?_;refine Cc (aC:=⟨[P3 u h.Cu],[]⟩) (λi A t=>t.Y 0=some ⟨A7 u,true⟩/\(∃o,o≠0/\A 5=AM o i 1/\t.Y o=some ⟨D4 i (λj=>Z (CN u AX j)),true⟩)/\A 1=AK AX/\A 2=AG 0/\A 6=Z i) u.A4.length ?_ ?_ 0 _ _ (C8 _) ⟨by simp(disch:=first|omega|simp only[A9];omega)[A7,-H,-D,-I,-F,-List.map_map],⟨2,by decide,by simp,by simp(disch:=first|omega|simp only[A9];omega)[D4,-H,-D,-I,-F,-List.map_map]⟩,by simp,by simp,by simp⟩
 ·rintro i A t s ⟨a,⟨o,R,f,c⟩,e,b,g⟩ A2 w;obtain⟨x,k⟩:=Cb s;have B:=(Ae.1 k).2;obtain⟨S,A3,a3,a4,A5⟩:=h.ok.LG i x k;obtain⟨m,l⟩:=Dp S;have T:m<u.Af.length:=(by omega);obtain⟨y,p⟩:=Cb T;have C:=(Ae.1 p).2;have G:KB u i=y.ext:=(by simp only[KB,k,l,Dx,p]);have hb:=h.ok.ZY m y p;have J:(i:Int)<u.A4.length:=(by omega);have K:(m:Int)<u.Af.length:=(by omega);have A6:i+1<=u.A4.length:=s;have L:=BZ (n:=i) (by omega);have U:=E a;have A8:=E c;have M:(i+1)*8<=140737488355328/\i<=9223372036854775806:=(by omega);by_cases q:AX.length=u.A4.length
  ·have N:(AX.length:Int)=u.A4.length:=(by omega);have W:i<AX.length:=(by omega);have AA:(i:Int)<AX.length:=(by omega);obtain⟨z,O⟩:=Cb W;have X:=(Ae.1 O).2;have r:CN u AX i=max 0 (min z y.ext):=(by unfold CN;rw[if_pos q,G,E1,O];rfl);have AB: ¬y.ext<0:=(by omega);simp(disch:=first|omega|simp only[A9];omega)[TE,A7,Bx,CX,e,b,f,g,a,c,J,K,L,B,l,C,q,X,M,-H,-D,-I,-F,-List.map_map];refine w _ _ ⟨by simp(disch:=first|omega|simp only[A9];omega)[a,A7,-H,-D,-I,-F,-List.map_map],⟨t.ac+3,by omega,by simp,?_⟩,by simp[e],by simp[b],by simp⟩;rw[AR (by simp),DP (by simp),cA,r];simp only[Fx,CC.mk.injEq,and_true,List.append_cancel_left_eq,P6];exact congrArg Z (a6r (by omega))
  ·have N: ¬(AX.length:Int)=u.A4.length:=(by omega);have r:CN u AX i=y.ext:=(by unfold CN;rw[if_neg q,G]);simp(disch:=first|omega|simp only[A9];omega)[TE,A7,Bx,CX,e,b,f,g,a,c,J,K,L,B,l,C,N,M,-H,-D,-I,-F,-List.map_map];refine w _ _ ⟨by simp(disch:=first|omega|simp only[A9];omega)[a,A7,-H,-D,-I,-F,-List.map_map],⟨t.ac+3,by omega,by simp,?_⟩,by simp[e],by simp[b],by simp⟩;rw[AR (by simp),DP (by simp),cA,r]
 ·rintro A t ⟨a,⟨o,R,f,c⟩,e,b,g⟩;have U:=E a;simp[TE,A7,a,b,f,g];rw[c,MZ,OX]
theorem a5J{u:AL}(h:B4 u){AX:List Int}:AO V 52 [.agg (A7 u).toArray,AK AX] (AK (Ck u AX)):=
 Sq (n:=u.A4.length) (by rw[E9,SC]) K7 (by rw[Jd];exact qz h)
abbrev jq(u:AL)(h:B4 u):AN V:= .B9 63 (List Int) (λ_=>True) (λx=>[.agg (A7 u).toArray,AK x]) (λx=>AK (Ck u x)) λ_ _=>a6t h
@[simp] theorem aIM{u:AL}{h:B4 u}:(jq u h).fn [.agg #[Z u.ext,O (u.Bu.map CS) 4,O (u.Af.map CX) 4,O (u.A5.map Bq) 7,O (u.A4.map Bx) 3,O (u.B7.map BE) 17,O (u.A3.map CW) 2],O (l.map λx=>[Z x]) 1]=some (AK (Ck u l)):=AN.BH (x:=l) trivial λy a=>by simpa using a
def X0(u:AL)(h:B4 u):Cp V:= .QH 63 (List Int) (λ_=>True) (λx=>[.agg (A7 u).toArray,AK x]) (λ_=>u.A4.length) (λ_=>1) (λx=>(Ck u x).map Z) λ_ _=>UF (λv a=>by simp at a;rcases a with rfl|rfl<;>rfl) RG (wy h)
@[simp] theorem aDl{u:AL}{h:B4 u}:(X0 u h).f=63:=rfl
@[simp] theorem aEg{u:AL}{h:B4 u}:(X0 u h).fn [.agg #[Z u.ext,O (u.Bu.map CS) 4,O (u.Af.map CX) 4,O (u.A5.map Bq) 7,O (u.A4.map Bx) 3,O (u.B7.map BE) 17,O (u.A3.map CW) 2],O (l.map λx=>[Z x]) 1] t=some (.slice (some ⟨t.ac,0,none⟩) u.A4.length 1,(t.AE 1).A1 t.ac (some ⟨(Ck u l).map Z,true⟩)):=Cp.Tc (x:=l) trivial λy a=>by simpa using a
abbrev wj(u:AL)(h:B4 u):AN V:= .B9 52 (List Int) (λ_=>True) (λx=>[.agg (A7 u).toArray,AK x]) (λx=>AK (Ck u x)) λ_ _=>a5J h
@[simp] theorem aKs{u:AL}{h:B4 u}:(wj u h).fn [.agg #[Z u.ext,O (u.Bu.map CS) 4,O (u.Af.map CX) 4,O (u.A5.map Bq) 7,O (u.A4.map Bx) 3,O (u.B7.map BE) 17,O (u.A3.map CW) 2],O (l.map λx=>[Z x]) 1]=some (AK (Ck u l)):=AN.BH (x:=l) trivial λy a=>by simpa using a
def jE(u:AL)(h:B4 u):Cp V:= .QH 52 (List Int) (λ_=>True) (λx=>[.agg (A7 u).toArray,AK x]) (λ_=>u.A4.length) (λ_=>1) (λx=>(Ck u x).map Z) λ_ _=>UF (λv a=>by simp at a;rcases a with rfl|rfl<;>rfl) RG (qz h)
@[simp] theorem aJC{u:AL}{h:B4 u}:(jE u h).f=52:=rfl
@[simp] theorem aId{u:AL}{h:B4 u}:(jE u h).fn [.agg #[Z u.ext,O (u.Bu.map CS) 4,O (u.Af.map CX) 4,O (u.A5.map Bq) 7,O (u.A4.map Bx) 3,O (u.B7.map BE) 17,O (u.A3.map CW) 2],O (l.map λx=>[Z x]) 1] t=some (.slice (some ⟨t.ac,0,none⟩) u.A4.length 1,(t.AE 1).A1 t.ac (some ⟨(Ck u l).map Z,true⟩)):=Cp.Tc (x:=l) trivial λy a=>by simpa using a
def Bz(r:List Int):List Value:=[AK r]
abbrev Bf(L:List (List Int)):Value:=O (L.map Bz) 1
@[simp] theorem aIV{l:List (List Int)}:l.map Bz=w.map Bz↔l=w:=OZ λx y h=>by simpa[Bz]using h
def CP(L:List (List Int)):Prop:=L.length<=1000/\ ∀r∈L,r.length<=1000
theorem XW{u:AL}(h:BS u)(i:v<u.A3.length): ∃x p q,u.A3[v]?=some x/\x.JS=(p:Nat)/\p<u.B7.length/\u.B7[p]?=some q/\CD u v=q.k+q.m/\1<=q.k/\0<=q.m/\q.k+q.m<=8:=by
 obtain⟨x,d⟩:=Cb i;obtain⟨a,b⟩:=h.FQ v x d;obtain⟨p,j⟩:=Dp a;have g:p<u.B7.length:=by omega
 obtain⟨q,f⟩:=Cb g;have c:=(h.JS p q f).1;simp only[FI,AF,BW]at c;have l:=FV c.1;have n:=FV c.2.1;refine⟨x,p,q,d,j,g,f,?_,l.1,n.1,c.2.2.1⟩;have e:x.JS.toNat=p:=by omega
 unfold CD;rw[d];simp only[e,f]
theorem L3{u:AL}(h:BS u)(d:v<u.A3.length):1<=CD u v/\CD u v<=8:=by obtain⟨x,p,q,_,_,_,_,e,a,b,c⟩:=XW h d;rw[e];omega
theorem a2F{u:AL}(h:BS u)(a:v<u.A3.length):AO V 187 [.agg (A7 u).toArray,Z v] (Z (CD u v)):=by
 refine BQ (Ax (aC:=⟨[],[]⟩) cS.2 ?_);obtain⟨x,p,q,b,c,o,d,e,r,s,t⟩:=XW h a;have f:=(Ae.1 b).2;have g:=(Ae.1 d).2;have i:(v:Int)<u.A3.length:=by omega
 have j:(p:Int)<u.B7.length:=by omega
 have l:IntKind.i64.wrap (q.k+q.m)=q.k+q.m:=Ac (by omega) (by omega);rw[e];simp(disch:=first|omega|simp only[A9];omega)[cS,vL,A7,CW,BE,i,j,f,c,g,l]
abbrev sB(u:AL)(h:BS u):AN V:= .B9 187 Nat (λv=>v<u.A3.length) (λv=>[.agg (A7 u).toArray,Z v]) (λv=>Z (CD u v)) λv a=>a2F h a
@[simp] theorem aIC{u:AL}{h:BS u}(a:v<u.A3.length):(sB u h).fn [.agg #[Z u.ext,O (u.Bu.map CS) 4,O (u.Af.map CX) 4,O (u.A5.map Bq) 7,O (u.A4.map Bx) 3,O (u.B7.map BE) 17,O (u.A3.map CW) 2],Z v]=some (Z (CD u v)):=AN.BH (x:=v) a λy b=>by simp at b⊢;omega
theorem aBw{u:AL}(h:BS u)(a:v<u.A3.length):AO V 132 [.agg (A7 u).toArray,Z v] (Z (CD u v)):=by
 refine BQ (Ax (aC:=⟨[],[]⟩) s6.2 ?_);obtain⟨x,p,q,b,c,o,d,e,r,s,t⟩:=XW h a;have f:=(Ae.1 b).2;have g:=(Ae.1 d).2;have i:(v:Int)<u.A3.length:=by omega
 have j:(p:Int)<u.B7.length:=by omega
 have l:IntKind.i64.wrap (q.k+q.m)=q.k+q.m:=Ac (by omega) (by omega);rw[e];simp(disch:=first|omega|simp only[A9];omega)[s6,wW,A7,CW,BE,i,j,f,c,g,l]
abbrev UB(u:AL)(h:BS u):AN V:= .B9 132 Nat (λv=>v<u.A3.length) (λv=>[.agg (A7 u).toArray,Z v]) (λv=>Z (CD u v)) λv a=>aBw h a
@[simp] theorem aE1{u:AL}{h:BS u}(a:v<u.A3.length):(UB u h).fn [.agg #[Z u.ext,O (u.Bu.map CS) 4,O (u.Af.map CX) 4,O (u.A5.map Bq) 7,O (u.A4.map Bx) 3,O (u.B7.map BE) 17,O (u.A3.map CW) 2],Z v]=some (Z (CD u v)):=AN.BH (x:=v) a λy b=>by simp at b⊢;omega
def HV(n:Nat)(x:Int):Bool:=decide (x< -1)||decide ((n:Int)<=x)
def GP(n:Nat)(r:List Int):Int:=match r.findIdx? (HV n)with|some i=>i|none=> -1
theorem rF(b:i<r.length)(hb:HV n r[i]=true)(h: ∀j (a:j<r.length),j<i->HV n r[j]=false):GP n r=i:=by
 unfold GP;have:r.findIdx? (HV n)=some i:=by rw[c3];exact⟨b,hb,λj a=>by rw[h j (by omega) a];simp⟩
 rw[this]
theorem rq(h: ∀j (a:j<r.length),HV n r[j]=false):GP n r= -1:=by
 unfold GP;have:r.findIdx? (HV n)=none:=by rw[XJ];intro x b;obtain⟨j,a,rfl⟩:=E5 b;exact h j a
 rw[this]
theorem aBp:(r.all λx=>decide (-1<=x)&&decide (x<n))=decide (GP n r= -1):=by
 have e: ∀x:Int,(decide (-1<=x)&&decide (x<n))= !HV n x:= λx=>by unfold HV;rw[Bool.not_or,<-decide_not,<-decide_not];congr 1<;>exact decide_eq_decide.2 (by omega)
 cases a:r.findIdx? (HV n)with
 | none=>have b:GP n r= -1:=(by unfold GP;rw[a]);rw[XJ]at a;rw[b,decide_eq_true rfl,BR];intro x c;rw[e,a x c];rfl
 | some i=>have b:GP n r=i:=(by unfold GP;rw[a]);rw[c3]at a;obtain⟨d,hb,_⟩:=a;have f: ¬((i:Int)= -1):=(by omega);rw[b,Hk f,List.all_eq_false];exact⟨r[i],Dq d,by rw[e,hb];simp⟩
theorem aBK{u:AL}(z:r.length<=1000):AO V 143 [.agg (A7 u).toArray,AK r] (Z (GP u.A4.length r)):=by
 refine BQ (Ax (aC:=⟨[],[]⟩) vC.2 ?_);simp[vC,qJ,A7];refine Cc (aC:=⟨[],[]⟩) (λi A t=>(∀j (a:j<r.length),j<i->HV u.A4.length r[j]=false)/\t.Y 0=some ⟨A7 u,true⟩/\A 1=AK r/\A 2=AG 0/\A 5=Z i) r.length ?_ ?_ 0 _ _ (C8 _) ⟨λj a h=>absurd h (Ks _),by simp[A7],by simp,by simp,by simp⟩
 ·rintro i A t p ⟨k,c,b,l,d⟩ B v;obtain⟨x,w⟩:=Cb p;have f:=(Ae.1 w).2;have o:(i:Int)<r.length:=(by omega);have y:=BZ (n:=i) (by omega);have C:=E c;have q:HV u.A4.length x=true->GP u.A4.length r=i:= λhb=>rF p (by rw[f];exact hb) k;by_cases g:x< -1
  ·have e:=q (by simp[HV,g]);simp(disch:=omega)[UD,S8,b,d,o,f,g,e]
  ·by_cases m:(u.A4.length:Int)<=x
   ·have e:=q (by simp[HV,m]);simp(disch:=omega)[UD,S8,A7,b,l,d,c,o,f,g,m,e]
   ·simp(disch:=omega)[UD,S8,A7,b,l,d,c,o,f,g,m,y];refine v _ _ ⟨λj a G=> ?_,by simp(disch:=first|omega|simp only[A9];omega)[c,A7,-H,-D,-I,-F,-List.map_map],by simp[b],by simp[l],by simp⟩;by_cases e:j=i
    ·subst e;rw[f];simp[HV,g,m]
    ·exact k j a (by omega)
 ·rintro A t ⟨k,c,b,l,d⟩;have e:=rq λj a=>k j a a;simp[UD,S8,S8,b,d,e]
abbrev ir(u:AL):AN V:= .B9 143 (List Int) (λr=>r.length<=1000) (λr=>[.agg (A7 u).toArray,AK r]) (λr=>Z (GP u.A4.length r)) λr a=>aBK a
@[simp] theorem aFW{u:AL}(a:r.length<=1000):(ir u).fn [.agg #[Z u.ext,O (u.Bu.map CS) 4,O (u.Af.map CX) 4,O (u.A5.map Bq) 7,O (u.A4.map Bx) 3,O (u.B7.map BE) 17,O (u.A3.map CW) 2],O (r.map λx=>[Z x]) 1]=some (Z (GP u.A4.length r)):=AN.BH (x:=r) a λy b=>by simpa using b
theorem Su{u:AL}:GQ u v r=(decide ((r.length:Int)=CD u v)&&decide (GP u.A4.length r= -1)):=by unfold GQ;rw[aBp]
theorem vo:GP n r= -1\/0<=GP n r:=by
 unfold GP;split
 ·right;omega
 ·left;rfl
theorem OE{u:AL}(a:L[v]?=some r)(h:GQ u v r=false):Cs u L=false:=by unfold Cs;rw[Bool.and_eq_false_iff];right;rw[List.all_eq_false];exact⟨v,G3.2 (Ae.1 a).1,by rw[a];simp[h]⟩
theorem fm{u:AL}(b:L.length=u.A3.length)(h: ∀(v:Nat) r,L[v]?=some r->GQ u v r=true):Cs u L=true:=by unfold Cs;rw[AF];refine⟨decide_eq_true b,?_⟩;rw[BR];intro v a;rw[G3]at a;rw[AP a];exact h v _ (AP a)
theorem RQ{u:AL}(a: ¬L.length=u.A3.length):Cs u L=false:=by unfold Cs;rw[Hk a];rfl
theorem a5a{u:AL}(h:B4 u)(x:CP L):AO V 88 [.agg (A7 u).toArray,Bf L] (.bool (Cs u L)):=by
 refine BQ (Ax (aC:=⟨[P3 u h.Cu,UB u h.ok,ir u],[]⟩) jH.2 ?_);have j:=h.ok.Nz;have J:=h.ok.EF;by_cases w:L.length=u.A3.length
 case neg=>have k: ¬(L.length:Int)=u.A3.length:=(by omega);have e:=RQ w;simp(disch:=first|omega|simp only[A9];omega)[jH,h0,A7,k,e,-H,-D,-I,-F,-List.map_map]
 have k:(L.length:Int)=u.A3.length:=by omega
 simp(disch:=first|omega|simp only[A9];omega)[jH,h0,nJ,A7,k,-H,-D,-I,-F,-List.map_map];refine Cc (aC:=⟨[P3 u h.Cu,UB u h.ok,ir u],[]⟩) (λi A t=>(∀(v:Nat) r,v<i->L[v]?=some r->GQ u v r=true)/\t.Y 0=some ⟨A7 u,true⟩/\A 1=Bf L/\A 2=AG 0/\A 5=Z i) L.length ?_ ?_ 0 _ _ (C8 _) ⟨λv r j=>absurd j (Ks _),by simp(disch:=first|omega|simp only[A9];omega)[A7,-H,-D,-I,-F,-List.map_map],by simp,by simp,by simp⟩
 ·rintro i A t z ⟨l,b,c,f,g⟩ K B;obtain⟨r,a⟩:=Cb z;have m:=(Ae.1 a).2;have o:(i:Int)<L.length:=(by omega);have M:i<u.A3.length:=(by omega);have C:=BZ (n:=i) (by omega);have N:=E b;have O:=x.2 r (B5 a);by_cases d:(r.length:Int)=CD u i
  case neg=>have e:=OE a (by rw[Su,Hk d];rfl);simp(disch:=omega)[WM,SR,A7,Bz,c,f,g,b,o,m,d,e]
  rcases vo (n:=u.A4.length) (r:=r)with p|p
  ·have q: ¬0<=GP u.A4.length r:=(by omega);simp(disch:=omega)[WM,SR,A7,Bz,c,f,g,b,o,m,d,q,C];refine B _ _ ⟨λv G j s=> ?_,by simp(disch:=omega)[b,A7],by simp[c],by simp[f],by simp⟩;by_cases e:v=i
   ·subst e;rw[a]at s;cases s;rw[Su,decide_eq_true d,decide_eq_true p];rfl
   ·exact l v G (by omega) s
  ·have q: ¬GP u.A4.length r= -1:=(by omega);have e:=OE a (by rw[Su,decide_eq_true d,Hk q];rfl);simp(disch:=omega)[WM,SR,A7,Bz,c,f,g,b,o,m,d,p,e]
 ·rintro A t ⟨l,b,c,f,g⟩;have e:=fm w λv r a=>l v r (Ae.1 a).1 a;have P: ¬(((u.A3.length:Nat):Int)<u.A3.length):=(by omega);simp(disch:=omega)[WM,SR,SR,c,g,e]
def JD(u:AL)(L:List (List Int))(v:Nat):Value:=match L[v]? with
 |some r=>if¬(r.length:Int)=CD u v then .tuple #[.agg #[Z 1,Z v,Z r.length],.bool true]else if GP u.A4.length r= -1 then .tuple #[.agg #[Z 0,Z 0,Z 0],.bool false]else .tuple #[.agg #[Z 1,Z v,Z (GP u.A4.length r)],.bool true]
 |none=>undef
theorem a1p{u:AL}(h:B4 u)(K:CP L)(M:v<L.length/\v<u.A3.length):AO V 133 [.agg (A7 u).toArray,Bf L,Z v] (JD u L v):=by
 refine BQ (Ax (aC:=⟨[sB u h.ok],[]⟩) Vn.2 ?_);obtain⟨O,W⟩:=M;obtain⟨r,f⟩:=Cb O;have B:=(Ae.1 f).2;have C:(v:Int)<L.length:=by omega
 have X:=K.2 r (B5 f);by_cases b:(r.length:Int)=CD u v
 case neg=>have e:JD u L v= .tuple #[.agg #[Z 1,Z v,Z r.length],.bool true]:=(by unfold JD;rw[f];simp[b]);rw[e];simp(disch:=first|omega|simp only[A9];omega)[Vn,h1,A7,Bz,B,C,b,-H,-D,-I,-F,-List.map_map]
 simp(disch:=first|omega|simp only[A9];omega)[Vn,h1,nW,A7,Bz,B,C,b,-H,-D,-I,-F,-List.map_map];refine Cc (aC:=⟨[],[]⟩) (λi A t=>(∀j (c:j<r.length),j<i->HV u.A4.length r[j]=false)/\t.Y 0=some ⟨A7 u,true⟩/\t.Y 1=some ⟨[Z 0,Z 0,Z 0],true⟩/\A 2=Z v/\A 3=AG 0/\A 6=AG 1/\A 29=AK r/\A 30=Z r.length/\A 31=Z i) r.length ?_ ?_ 0 _ _ (C8 _) ⟨λj c h=>absurd h (Ks _),by simp(disch:=first|omega|simp only[A9];omega)[A7,-H,-D,-I,-F,-List.map_map],by simp(disch:=first|omega|simp only[A9];omega)[-H,-D,-I,-F,-List.map_map],by simp,by simp,by simp,by simp,by simp[b],by simp⟩
 ·rintro i A t G ⟨q,g,a,s,w,k,l,d,m⟩ A0 P;obtain⟨x,Q⟩:=Cb G;have o:=(Ae.1 Q).2;have z:(i:Int)<r.length:=(by omega);have R:=BZ (n:=i) (by omega);have A1:=E g;have S:=E a;have J:HV u.A4.length x=true->JD u L v= .tuple #[.agg #[Z 1,Z v,Z i],.bool true]:= λhb=>by
   have e:=rF G (by rw[o];exact hb) q;have T: ¬(i:Int)= -1:=(by omega);unfold JD;rw[f];simp only[b,not_true_eq_false,if_false,e,if_neg T]
  by_cases p:x< -1
  ·rw[J (by simp[HV,p])];simp(disch:=omega)[V2,TU,s,k,l,d,m,a,z,o,p]
  ·by_cases y:(u.A4.length:Int)<=x
   ·rw[J (by simp[HV,y])];simp(disch:=first|omega|simp only[A9];omega)[V2,TU,A7,s,w,k,l,d,m,g,a,z,o,p,y,-H,-D,-I,-F,-List.map_map]
   ·simp(disch:=first|omega|simp only[A9];omega)[V2,TU,A7,w,l,d,m,g,z,o,p,y,R,-H,-D,-I,-F,-List.map_map];refine P _ _ ⟨λj c A2=> ?_,by simp(disch:=first|omega|simp only[A9];omega)[g,A7,-H,-D,-I,-F,-List.map_map],by simp(disch:=first|omega|simp only[A9];omega)[a,-H,-D,-I,-F,-List.map_map],by simp[s],by simp[w],by simp[k],by simp[l],by simp[d],by simp⟩;by_cases e:j=i
    ·subst e;rw[o];simp[HV,p,y]
    ·exact q j c (by omega)
 ·rintro A t ⟨q,g,a,s,w,k,l,d,m⟩;have e:=rq λj c=>q j c c;have U:JD u L v= .tuple #[.agg #[Z 0,Z 0,Z 0],.bool false]:=(by unfold JD;rw[f];simp only[b,not_true_eq_false,if_false,e,if_true]);have S:=E a;rw[U];simp(disch:=omega)[V2,TU,TU,k,d,m,a]
abbrev kQ(u:AL)(h:B4 u)(L:List (List Int))(a:CP L):AN V:= .B9 133 Nat (λv=>v<L.length/\v<u.A3.length) (λv=>[.agg (A7 u).toArray,Bf L,Z v]) (λv=>JD u L v) λv b=>a1p h a b
@[simp] theorem aK7{u:AL}{h:B4 u}{a:CP L}(b:v<L.length/\v<u.A3.length):(kQ u h L a).fn [.agg #[Z u.ext,O (u.Bu.map CS) 4,O (u.Af.map CX) 4,O (u.A5.map Bq) 7,O (u.A4.map Bx) 3,O (u.B7.map BE) 17,O (u.A3.map CW) 2],O (L.map Bz) 1,Z v]=some (JD u L v):=AN.BH (x:=v) b λy c=>by simp at c⊢;omega
theorem a5x{u:AL}(h:B4 u)(x:CP L):AO V 86 [.agg (A7 u).toArray,Bf L] (.bool (Cs u L)):=by
 refine BQ (Ax (aC:=⟨[SY u h.Cu,kQ u h L x],[]⟩) Ug.2 ?_);have l:=h.ok.Nz;have K:=h.ok.EF;by_cases m:L.length=u.A3.length
 case neg=>have o: ¬(L.length:Int)=u.A3.length:=(by omega);have e:=RQ m;simp(disch:=first|omega|simp only[A9];omega)[Ug,kg,A7,o,e]
 have o:(L.length:Int)=u.A3.length:=by omega
 simp(disch:=first|omega|simp only[A9];omega)[Ug,kg,sq,A7,o];refine Cc (aC:=⟨[SY u h.Cu,kQ u h L x],[]⟩) (λi A t=>(∀(v:Nat) r,v<i->L[v]?=some r->GQ u v r=true)/\t.Y 0=some ⟨A7 u,true⟩/\A 1=Bf L/\A 2=AG 0/\A 20=Z L.length/\A 21=Z i) L.length ?_ ?_ 0 _ _ (C8 _) ⟨λv r l=>absurd l (Ks _),by simp(disch:=first|omega|simp only[A9];omega)[A7,-H,-D,-I,-F,-List.map_map],by simp,by simp,by simp[m],by simp⟩
 ·rintro i A t B ⟨p,b,f,g,c,j⟩ M C;obtain⟨r,a⟩:=Cb B;have q:(i:Int)<L.length:=(by omega);have N:i<L.length/\i<u.A3.length:=(by omega);have G:=BZ (n:=i) (by omega);have O:=E b;by_cases d:(r.length:Int)=CD u i
  case neg=>have e:=OE a (by rw[Su,Hk d];rfl);have k:JD u L i= .tuple #[.agg #[Z 1,Z i,Z r.length],.bool true]:=(by unfold JD;rw[a];simp[d]);simp(disch:=first|omega|simp only[A9];omega)[Vw,Rz,A7,f,g,c,j,b,q,e,k,-H,-D,-I,-F,-List.map_map]
  rcases vo (n:=u.A4.length) (r:=r)with s|s
  ·have k:JD u L i= .tuple #[.agg #[Z 0,Z 0,Z 0],.bool false]:=(by unfold JD;rw[a];simp only[d,not_true_eq_false,if_false,s,if_true]);simp(disch:=first|omega|simp only[A9];omega)[Vw,Rz,A7,f,g,c,j,b,q,k,G];refine C _ _ ⟨λv J l w=> ?_,by simp(disch:=first|omega|simp only[A9];omega)[b,A7,-H,-D,-I,-F,-List.map_map],by simp[f],by simp[g],by simp[c],by simp⟩;by_cases e:v=i
   ·subst e;rw[a]at w;cases w;rw[Su,decide_eq_true d,decide_eq_true s];rfl
   ·exact p v J (by omega) w
  ·have y: ¬GP u.A4.length r= -1:=(by omega);have e:=OE a (by rw[Su,decide_eq_true d,Hk y];rfl);have k:JD u L i= .tuple #[.agg #[Z 1,Z i,Z (GP u.A4.length r)],.bool true]:=(by unfold JD;rw[a];simp only[d,not_true_eq_false,if_false,if_neg y]);simp(disch:=first|omega|simp only[A9];omega)[Vw,Rz,A7,f,g,c,j,b,q,e,k,-H,-D,-I,-F,-List.map_map]
 ·rintro A t ⟨p,b,f,g,c,j⟩;have e:=fm m λv r a=>p v r (Ae.1 a).1 a;simp[Vw,Rz,Rz,c,j,e]
abbrev jm(u:AL)(h:B4 u):AN V:= .B9 86 (List (List Int)) CP (λL=>[.agg (A7 u).toArray,Bf L]) (λL=> .bool (Cs u L)) λL a=>a5x h a
@[simp] theorem aIE{u:AL}{h:B4 u}(a:CP L):(jm u h).fn [.agg #[Z u.ext,O (u.Bu.map CS) 4,O (u.Af.map CX) 4,O (u.A5.map Bq) 7,O (u.A4.map Bx) 3,O (u.B7.map BE) 17,O (u.A3.map CW) 2],O (L.map Bz) 1]=some (.bool (Cs u L)):=AN.BH (x:=L) a λy b=>by simpa using b
abbrev sL(u:AL)(h:B4 u):AN V:= .B9 88 (List (List Int)) CP (λL=>[.agg (A7 u).toArray,Bf L]) (λL=> .bool (Cs u L)) λL a=>a5a h a
@[simp] theorem aKR{u:AL}{h:B4 u}(a:CP L):(sL u h).fn [.agg #[Z u.ext,O (u.Bu.map CS) 4,O (u.Af.map CX) 4,O (u.A5.map Bq) 7,O (u.A4.map Bx) 3,O (u.B7.map BE) 17,O (u.A3.map CW) 2],O (L.map Bz) 1]=some (.bool (Cs u L)):=AN.BH (x:=L) a λy b=>by simpa using b
def ES(L:List (List Int))(d:Nat):Nat:=L.flatten.count (d:Int)
theorem aBo(a:L[i]?=some r):ES (L.take (i+1)) d=ES (L.take i) d+r.count (d:Int):=by unfold ES;rw[Nl a];simp
theorem ob(h: ∀r∈L,r.length<=1000):ES L d<=L.length*1000:=by
 refine E8 List.count_le_length ?_;induction L with
 |nil=>simp
 | cons r l a=>have:=h r (by simp);have:=a λx b=>h x (by simp[b]);simp only[I2,En,DZ];omega
theorem Mc{u:AL}:EV u L=D4 u.A4.length λd=>((ES L d:Nat):Int):=rfl
theorem Uk{u:AL}:(EV u L).length=u.A4.length:=by rw[Mc,VP]
theorem aDP{u:AL}(h:B4 u)(B:CP L):Bh V 200 [.agg (A7 u).toArray,Bf L] Cl λv U=> ∃o,v=AM o u.A4.length 1/\U.Y o=some ⟨(EV u L).map Z,true⟩:=by
 refine Ax (aC:=⟨[],[]⟩) bQ.2 ?_;have AI:=h.ok.Es;have AJ:=h.ok.Nz;have W:(u.A4.length:Int)*8<=140737488355328/\u.A4.length<=140737488355328/\(u.A4.length:Int)<=140737488355328/\(u.A4.length:Int)<=9223372036854775807:=by omega
 simp(disch:=first|omega|simp only[A9];omega)[bQ,rX,A7,W,-H,-D,-I,-F,-List.map_map];refine Cc (aC:=⟨[],[]⟩) (λi A t=>t.Y 0=some ⟨A7 u,true⟩/\t.Y 5=some ⟨D4 u.A4.length (λj=>Z (ES (L.take i) j)),true⟩/\A 2=AG 0/\A 5=AM 5 u.A4.length 1/\A 14=Bf L/\A 15=Z L.length/\A 16=Z i) L.length ?_ ?_ 0 _ _ (C8 _) ⟨by simp(disch:=first|omega|simp only[A9];omega)[A7,-H,-D,-I,-F,-List.map_map],by simp(disch:=first|omega|simp only[A9];omega)[-H,-D,-I,-F,-List.map_map];exact Vv,by simp,by simp,by simp,by simp,by simp⟩
 ·rintro i A t X ⟨a,b,p,f,m,g,l⟩ A0 w;obtain⟨r,C⟩:=Cb X;have A1:=(Ae.1 C).2;have A2:(i:Int)<L.length:=(by omega);have AN:=B.2 r (B5 C);have AO:=B.1;have A3:=BZ (n:=i) (by omega);have G:=E a;have Q:=E b;simp(disch:=first|omega|simp only[A9];omega)[jz,eV,Bz,m,g,l,A2,A1,-H,-D,-I,-F,-List.map_map];refine Cc (aC:=⟨[],[]⟩) (λk A t=>t.Y 0=some ⟨A7 u,true⟩/\t.Y 5=some ⟨D4 u.A4.length (λj=>Z (ES (L.take i) j+(r.take k).count (j:Int):Nat)),true⟩/\A 2=AG 0/\A 5=AM 5 u.A4.length 1/\A 14=Bf L/\A 15=Z L.length/\A 16=Z i/\A 20=AK r/\A 21=Z r.length/\A 22=Z k) r.length ?_ ?_ 0 _ _ (C8 _) ⟨by simp(disch:=first|omega|simp only[A9];omega)[a,A7,-H,-D,-I,-F,-List.map_map],by simp(disch:=first|omega|simp only[A9];omega)[b,-H,-D,-I,-F,-List.map_map],by simp[p],by simp[f],by simp[m],by simp[g],by simp[l],by simp[],by simp[],by simp[]⟩
  ·rintro k A t A5 ⟨a,b,p,f,m,g,l,s,q,y⟩ A0 w;obtain⟨x,R⟩:=Cb A5;have J:=(Ae.1 R).2;have K:(k:Int)<r.length:=(by omega);have v0:=BZ (n:=k) (by omega);have G:=E a;have Q:=E b;have M: ∀j:Nat,(r.take (k+1)).count (j:Int)=(r.take k).count (j:Int)+if x=j then 1 else 0:= λj=>by
    rw[Nl R,List.count_append];congr 1;by_cases e:x=j<;>simp[e]
   by_cases N:0<=x
   ·by_cases A6:x<u.A4.length
    ·obtain⟨c,S⟩:=Dp N;have A8:c<u.A4.length:=(by omega);have AA:c+1<=u.A4.length:=A8;have AB:(c:Int)<u.A4.length:=(by omega);have AD:=ob (L:=L.take i) (d:=c) (λr AE=>B.2 r (MY AE));have AF:(L.take i).length<=1000:=(by rw[IG];omega);have AP:(r.take k).count (c:Int)<=1000:=E8 List.count_le_length (by rw[IG];omega);have AQ:ES (L.take i) c<=1000000:=E8 AD (KI 1000 AF);have T:IntKind.i64.wrap (((ES (L.take i) c+(r.take k).count (c:Int):Nat):Int)+1)=((ES (L.take i) c+(r.take k).count (c:Int):Nat):Int)+1:=Ac (by omega) (by omega);rw[N5]at T;simp(disch:=first|omega|simp only[A9];omega)[U3,f,s,q,y,b,K,J,v0,S,AA,AB,T,GH,LJ,BG,-H,-D,-I,-F,-List.map_map];refine w _ _ ⟨by simp(disch:=first|omega|simp only[A9];omega)[a,A7,-H,-D,-I,-F,-List.map_map],?_,by simp[p],by simp[f],by simp[m],by simp[g],by simp[l],by simp[s],by simp[q],by simp[]⟩;simp(disch:=first|omega|simp only[A9];omega)[-H,-D,-I,-F,-List.map_map];refine HS λj O=> ?_;rw[M j,S];by_cases e:j=c
     ·subst e;simp;omega
     ·have z: ¬(c:Int)=j:=(by omega);simp only[if_neg e,if_neg z,MG]
    ·simp(disch:=first|omega|simp only[A9];omega)[U3,f,s,q,y,K,J,v0,N,A6,-H,-D,-I,-F,-List.map_map];refine w _ _ ⟨by simp(disch:=first|omega|simp only[A9];omega)[a,A7,-H,-D,-I,-F,-List.map_map],?_,by simp[p],by simp[f],by simp[m],by simp[g],by simp[l],by simp[s],by simp[q],by simp[]⟩;simp(disch:=first|omega|simp only[A9];omega)[b,-H,-D,-I,-F,-List.map_map];refine HS λj O=> ?_;have z: ¬x=j:=(by omega);rw[M j,if_neg z];simp
   ·simp(disch:=first|omega|simp only[A9];omega)[U3,s,q,y,K,J,v0,N,-H,-D,-I,-F,-List.map_map];refine w _ _ ⟨by simp(disch:=first|omega|simp only[A9];omega)[a,A7,-H,-D,-I,-F,-List.map_map],?_,by simp[p],by simp[f],by simp[m],by simp[g],by simp[l],by simp[s],by simp[q],by simp[]⟩;simp(disch:=first|omega|simp only[A9];omega)[b,-H,-D,-I,-F,-List.map_map];refine HS λj O=> ?_;have z: ¬x=j:=(by omega);rw[M j,if_neg z];simp
  ·rintro A t ⟨a,b,p,f,m,g,l,s,q,y⟩;have G:=E a;have Q:=E b;simp(disch:=first|omega|simp only[A9];omega)[U3,l,q,y,A3,-H,-D,-I,-F,-List.map_map];refine w _ _ ⟨by simp(disch:=first|omega|simp only[A9];omega)[a,A7,-H,-D,-I,-F,-List.map_map],?_,by simp[p],by simp[f],by simp[m],by simp[g],by simp[]⟩;simp(disch:=first|omega|simp only[A9];omega)[b,-H,-D,-I,-F,-List.map_map];refine HS λj O=> ?_;rw[aBo C];simp
 ·rintro A t ⟨a,b,p,f,m,g,l⟩;have G:=E a;simp(disch:=first|omega|simp only[A9];omega)[jz,eV,f,g,l,-H,-D,-I,-F,-List.map_map];rw[b,FJ,Mc,OX]
def jr(u:AL)(h:B4 u):Cp V:= .QH 200 (List (List Int)) CP (λL=>[.agg (A7 u).toArray,Bf L]) (λ_=>u.A4.length) (λ_=>1) (λL=>(EV u L).map Z) λ_ b=>UF (λv a=>by simp at a;rcases a with rfl|rfl<;>rfl) RG (aDP h b)
@[simp] theorem aLO{u:AL}{h:B4 u}:(jr u h).f=200:=rfl
@[simp] theorem aGh{u:AL}{h:B4 u}(a:CP L):(jr u h).fn [.agg #[Z u.ext,O (u.Bu.map CS) 4,O (u.Af.map CX) 4,O (u.A5.map Bq) 7,O (u.A4.map Bx) 3,O (u.B7.map BE) 17,O (u.A3.map CW) 2],O (L.map Bz) 1] t=some (.slice (some ⟨t.ac,0,none⟩) u.A4.length 1,(t.AE 1).A1 t.ac (some ⟨(EV u L).map Z,true⟩)):=Cp.Tc (x:=L) a λy b=>by simpa using b
theorem aAZ{u:AL}(h:B4 u)(b:CP L):Bh V 147 [.agg (A7 u).toArray,Bf L] Cl λv a=> ∃o,v=AM o u.A4.length 1/\a.Y o=some ⟨(EV u L).map Z,true⟩:=by refine Ax (aC:=⟨[SY u h.Cu],[jr u h]⟩) cx.2 ?_;have d:=h.ok.Nz;simp(disch:=first|omega|simp only[A9];omega)[cx,o1,A7]
def l2(u:AL)(h:B4 u):Cp V:= .QH 147 (List (List Int)) CP (λL=>[.agg (A7 u).toArray,Bf L]) (λ_=>u.A4.length) (λ_=>1) (λL=>(EV u L).map Z) λ_ b=>UF (λv a=>by simp at a;rcases a with rfl|rfl<;>rfl) RG (aAZ h b)
@[simp] theorem aIp{u:AL}{h:B4 u}:(l2 u h).f=147:=rfl
@[simp] theorem aLe{u:AL}{h:B4 u}(a:CP L):(l2 u h).fn [.agg #[Z u.ext,O (u.Bu.map CS) 4,O (u.Af.map CX) 4,O (u.A5.map Bq) 7,O (u.A4.map Bx) 3,O (u.B7.map BE) 17,O (u.A3.map CW) 2],O (L.map Bz) 1] t=some (.slice (some ⟨t.ac,0,none⟩) u.A4.length 1,(t.AE 1).A1 t.ac (some ⟨(EV u L).map Z,true⟩)):=Cp.Tc (x:=L) a λy b=>by simpa using b
theorem aCC:(List.range (n+1)).filter p=(List.range n).filter p++if p n then[n]else[]:=by rw[MV,S7];cases h:p n<;>simp[h]
section
set_option maxRecDepth 100000
end
section
set_option maxRecDepth 100000
def a25:AU V 71:=AW
def U8:=G a25.1.body
def a1i:=AV V 71 ⟨8,[.AH 2],U8⟩
variable{a7:Value->X->Prop}{args:List Value}
theorem w3{m:X}(h:args.length<=8):At V 71 args m a7=Az V U8 (CQ args) m (DQ [.AH 2] a7):=DV a1i.2 h
def a1F:AU V 78:=AW
def lg:=G a1F.1.body
def Wu:=AV V 78 ⟨9,[.AH 4],lg⟩

def hO:AU V 123:=AW
def bE:=G (A8 hO.1.body 37)
def Wo:=G (A8 hO.1.body 7)
def q3:=(G λx y=>AA 7 y (AA 37 x hO.1.body)) bE Wo
def az:=AV V 123 ⟨19,[.AH 4],q3⟩
end
def Kc(x:Int)(l:List Int):Int:=match l.findIdx? (λy=>decide (x=y))with|some i=>i|none=> -1
theorem a2y(b:i<l.length)(c:x=l[i])(h: ∀j (a:j<l.length),j<i-> ¬x=l[j]):Kc x l=i:=by
 unfold Kc;have:l.findIdx? (λy=>decide (x=y))=some i:=by rw[c3];exact⟨b,by simpa using c,λj a=>by simpa using h j (by omega) a⟩
 rw[this]
theorem a3D(h: ∀j (a:j<l.length),¬x=l[j]):Kc x l= -1:=by
 unfold Kc;have:l.findIdx? (λy=>decide (x=y))=none:=by rw[XJ];intro y b;obtain⟨j,a,rfl⟩:=E5 b;simpa using h j a
 rw[this]
theorem m3:0<=Kc x l↔x∈l:=by
 cases a:l.findIdx? (λy=>decide (x=y))with
 | some i=>have e:Kc x l=i:=(by unfold Kc;rw[a]);rw[c3]at a;obtain⟨b,hb,_⟩:=a;have c:x=l[i]:=(by simpa using hb);rw[e];exact⟨λ_=>by rw[c];exact Dq b,λ_=>by omega⟩
 | none=>have e:Kc x l= -1:=(by unfold Kc;rw[a]);rw[XJ]at a;rw[e];exact⟨λh=>by omega,λh=>by have:=a x h;simp at this⟩
theorem a6x(v:l.length<=1000000):AO V 123 [AK l,Z x] (Z (Kc x l)):=by
 refine BQ (Ax (aC:=⟨[],[]⟩) az.2 ?_);simp[az,q3];refine Cc (aC:=⟨[],[]⟩) (λi A t=>(∀j (a:j<l.length),j<i-> ¬x=l[j])/\A 0=AK l/\A 1=Z x/\A 7=Z l.length/\A 8=Z i) l.length ?_ ?_ 0 _ _ (C8 _) ⟨λj a h=>absurd h (Ks _),by simp,by simp,by simp,by simp⟩
 ·rintro i A t o ⟨d,f,g,b,k⟩ w r;obtain⟨y,s⟩:=Cb o;have m:=(Ae.1 s).2;have p:(i:Int)<l.length:=(by omega);have u:=BZ (n:=i) (by omega);by_cases c:x=y
  ·have e:=a2y o (by rw[m];exact c) d;simp(disch:=first|omega|simp only[A9];omega)[bE,Wo,f,g,b,k,p,m,eq_true c,e]
  ·simp(disch:=first|omega|simp only[A9];omega)[bE,Wo,f,g,b,k,p,m,c,u,-H,-D,-I,-F,-List.map_map];refine r _ _ ⟨λj a z=> ?_,by simp[f],by simp[g],by simp[b],by simp⟩;by_cases e:j=i
   ·subst e;rw[m];exact c
   ·exact d j a (by omega)
 ·rintro A t ⟨d,f,g,b,k⟩;have e:=a3D λj a=>d j a a;simp[bE,Wo,Wo,b,k,e]
abbrev s9:AN V:= .B9 123 (List Int×Int) (λx=>x.1.length<=1000000) (λx=>[AK x.1,Z x.2]) (λx=>Z (Kc x.2 x.1)) λ_ h=>a6x h
@[simp] theorem aJx(h:l.length<=1000000):s9.fn [O (l.map λx=>[Z x]) 1,Z x]=some (Z (Kc x l)):=AN.BH (x:=(l,x)) h λ⟨b,c⟩ a=>by simpa using a
theorem aCu(b:l.length<=1000000):AO V 78 [AK l,Z x] (.bool (decide (x∈l))):=by
 refine BQ (Ax (aC:=⟨[s9],[]⟩) Wu.2 ?_);by_cases c:x∈l
 ·have a:=m3.2 c;simp(disch:=omega)[Wu,lg,c,a]
 ·have a: ¬0<=Kc x l:= λh=>c (m3.1 h);simp(disch:=omega)[Wu,lg,c,a]
abbrev s7:AN V:= .B9 78 (List Int×Int) (λx=>x.1.length<=1000000) (λx=>[AK x.1,Z x.2]) (λx=> .bool (decide (x.2∈x.1))) λ_ h=>aCu h
@[simp] theorem aKA(h:l.length<=1000000):s7.fn [O (l.map λx=>[Z x]) 1,Z x]=some (.bool (decide (x∈l))):=AN.BH (x:=(l,x)) h λ⟨b,c⟩ a=>by simpa using a
end Go.Proofs.YtmmkkggfmigppaaGreat
end
