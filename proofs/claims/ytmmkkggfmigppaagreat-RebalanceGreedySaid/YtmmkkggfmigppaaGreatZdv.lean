/- A part of the proof. -/
import Derived.Test.YtmmkkggfmigppaaGreatZdu
set_option linter.all false
set_option maxRecDepth 20000
set_option maxHeartbeats 16000000
noncomputable section
namespace Go.Proofs.YtmmkkggfmigppaaGreat
open Go Go.DI
section
set_option maxRecDepth 100000
def Xm:AU V 105:=AW
def UO:=G (A8 Xm.1.body 77463)
def Wd:=G (A8 Xm.1.body 155287)
def U5:=(G λx y=>AA 1213 y (AA 605 x (A8 Xm.1.body 151))) UO Wd
def g9:=(G λx=>AA 151 x Xm.1.body) U5
def a5P:=AV V 105 ⟨171,[.AH 4,.AH 5,.AH 6,.AH 7],g9⟩
variable{a7:Value->X->Prop}{args:List Value}{m:X}
theorem a5R(h:args.length<=171):At V 105 args m a7=Az V g9 (CQ args) m (DQ [.AH 4,.AH 5,.AH 6,.AH 7] a7):=DV a5P.2 h
def hd:AU V 125:=AW
def kp:=G (A8 hd.1.body 151)
def cN:=G (A8 hd.1.body 159)
def fo:=(G λx y=>AA 159 y (AA 151 x hd.1.body)) kp cN
def eT:=AV V 125 ⟨93,[.AH 2,.AH 3,.AH 4,.AH 5],fo⟩
theorem a0l(h:args.length<=93):At V 125 args m a7=Az V fo (CQ args) m (DQ [.AH 2,.AH 3,.AH 4,.AH 5] a7):=DV eT.2 h
def pq:AU V 131:=AW
def ML:=G (A8 pq.1.body 75)
def Le:=(G λx=>AA 75 x pq.1.body) ML
def aAh:=AV V 131 ⟨94,[.AH 2],Le⟩
theorem aCn(h:args.length<=94):At V 131 args m a7=Az V Le (CQ args) m (DQ [.AH 2] a7):=DV aAh.2 h
def dk:AU V 145:=AW
def Qt:=G (A8 dk.1.body 151)
def QO:=G (A8 dk.1.body 303)
def ki:=(G λx y=>AA 303 y (AA 151 x dk.1.body)) Qt QO
def a0u:=AV V 145 ⟨105,[.AH 4,.AH 5],ki⟩
theorem aCV(h:args.length<=105):At V 145 args m a7=Az V ki (CQ args) m (DQ [.AH 4,.AH 5] a7):=DV a0u.2 h
def mv:AU V 155:=AW
def XH:=G (A8 mv.1.body 151)
def e1:=(G λx=>AA 151 x mv.1.body) XH
def h3:=AV V 155 ⟨43,[.AH 4,.AH 5],e1⟩
theorem a6z(h:args.length<=43):At V 155 args m a7=Az V e1 (CQ args) m (DQ [.AH 4,.AH 5] a7):=DV h3.2 h
def V7:AU V 156:=AW
def a8M:=G (A8 V7.1.body 151)
def aBV:=G (A8 V7.1.body 29487)
def a8z:=(G λx=>AA 115 x (A8 V7.1.body 303)) aBV
def aCN:=(G λx=>AA 18 x (A8 V7.1.body 31)) a8z
def a07:=(G λx y=>AA 31 y (AA 151 x V7.1.body)) a8M aCN
def qF:=AV V 156 ⟨99,[.AH 8],a07⟩
def tK:AU V 159:=AW
def YU:=G (A8 tK.1.body 303)
def gL:=(G λx=>AA 303 x tK.1.body) YU
def a86:=AV V 159 ⟨41,[.AH 4,.AH 5],gL⟩
theorem aA7(h:args.length<=41):At V 159 args m a7=Az V gL (CQ args) m (DQ [.AH 4,.AH 5] a7):=DV a86.2 h
def p4:AU V 164:=AW
def RE:=G (A8 p4.1.body 75)
def du:=(G λx=>AA 75 x p4.1.body) RE
def aBj:=AV V 164 ⟨39,[.AH 2],du⟩
theorem a59(h:args.length<=39):At V 164 args m a7=Az V du (CQ args) m (DQ [.AH 2] a7):=DV aBj.2 h
def Rq:AU V 165:=AW
def cw:=G (A8 Rq.1.body 75)
def Me:=G (A8 Rq.1.body 937263)
def Qc:=(G λx=>AA 3 x (A8 Rq.1.body 412975)) Me
def Xa:=(G λx=>AA 25 x (A8 Rq.1.body 19759)) Qc
def Tv:=(G λx=>AA 77 x (A8 Rq.1.body 303)) Xa
def eY:=(G λx y=>AA 303 y (AA 75 x Rq.1.body)) cw Tv
def a0h:=AV V 165 ⟨144,[.AH 4,.AH 5],eY⟩
theorem aBW(h:args.length<=144):At V 165 args m a7=Az V eY (CQ args) m (DQ [.AH 4,.AH 5] a7):=DV a0h.2 h
def Tw:AU V 166:=AW
def Oe:=G (A8 Tw.1.body 234315)
def TQ:=(G λx=>AA 3 x (A8 Tw.1.body 103243)) Oe
def bA:=(G λx=>AA 25 x (A8 Tw.1.body 4939)) TQ
def UR:=(G λx=>AA 77 x (A8 Tw.1.body 75)) bA
def hW:=(G λx=>AA 75 x Tw.1.body) UR
def a0W:=AV V 166 ⟨94,[.AH 4],hW⟩
theorem a33(h:args.length<=94):At V 166 args m a7=Az V hW (CQ args) m (DQ [.AH 4] a7):=DV a0W.2 h
def sb:AU V 184:=AW
def OT:=G (A8 sb.1.body 151)
def O8:=(G λx=>AA 151 x sb.1.body) OT
def gB:=AV V 184 ⟨72,[.AH 2],O8⟩
theorem a58(h:args.length<=72):At V 184 args m a7=Az V O8 (CQ args) m (DQ [.AH 2] a7):=DV gB.2 h
def l9:AU V 185:=AW
def S9:=G (A8 l9.1.body 9367)
def W9:=(G λx=>AA 73 x (A8 l9.1.body 151)) S9
def kj:=(G λx=>AA 151 x l9.1.body) W9
def k0:=AV V 185 ⟨84,[.AH 2,.AH 3],kj⟩
theorem a5o(h:args.length<=84):At V 185 args m a7=Az V kj (CQ args) m (DQ [.AH 2,.AH 3] a7):=DV k0.2 h
def hp:AU V 186:=AW
def TI:=G (A8 hp.1.body 75)
def WT:=G (A8 hp.1.body 151)
def ku:=(G λx y=>AA 151 y (AA 75 x hp.1.body)) TI WT
def dz:=AV V 186 ⟨92,[.AH 4],ku⟩
theorem zz(h:args.length<=92):At V 186 args m a7=Az V ku (CQ args) m (DQ [.AH 4] a7):=DV dz.2 h
def Xw:AU V 201:=AW
def hR:=G (A8 Xw.1.body 607)
def cc:=G (A8 Xw.1.body 76351)
def Ux:=(G λx=>AA 149 x (A8 Xw.1.body 575)) cc
def hC:=(G λx y=>AA 575 y (AA 607 x Xw.1.body)) hR Ux
def ke:=AV V 201 ⟨142,[.AH 4,.AH 5,.AH 6,.AH 7],hC⟩
theorem aAM(h:args.length<=142):At V 201 args m a7=Az V hC (CQ args) m (DQ [.AH 4,.AH 5,.AH 6,.AH 7] a7):=DV ke.2 h
def iA:AU V 210:=AW
def RB:=G (A8 iA.1.body 151)
def Q5:=G (A8 iA.1.body 303)
def fQ:=(G λx y=>AA 303 y (AA 151 x iA.1.body)) RB Q5
def eQ:=AV V 210 ⟨97,[.AH 4,.AH 5],fQ⟩
theorem zU(h:args.length<=97):At V 210 args m a7=Az V fQ (CQ args) m (DQ [.AH 4,.AH 5] a7):=DV eQ.2 h
def y6:AU V 211:=AW
def QT:=G (A8 y6.1.body 37)
def kB:=(G λx=>AA 37 x y6.1.body) QT
def fK:=AV V 211 ⟨28,[.AH 2],kB⟩
theorem a5X(h:args.length<=28):At V 211 args m a7=Az V kB (CQ args) m (DQ [.AH 2] a7):=DV fK.2 h
def a3m:AU V 234:=AW
def hq:=G a3m.1.body
def l3:=AV V 234 ⟨12,[.AH 3],hq⟩
theorem a0B(h:args.length<=12):At V 234 args m a7=Az V hq (CQ args) m (DQ [.AH 3] a7):=DV l3.2 h
def yr:AU V 235:=AW
def YD:=G yr.1.body
def fb:=AV V 235 ⟨52,[.AH 4,.AH 5],YD⟩
theorem a5m(h:args.length<=52):At V 235 args m a7=Az V YD (CQ args) m (DQ [.AH 4,.AH 5] a7):=DV fb.2 h
def aBD:AU V 236:=AW
def aS:=G aBD.1.body
def h6:=AV V 236 ⟨26,[.AH 4],aS⟩
theorem aDM(h:args.length<=26):At V 236 args m a7=Az V aS (CQ args) m (DQ [.AH 4] a7):=DV h6.2 h
def dD:AU V 242:=AW
def c6:=G (A8 dD.1.body 75)
def ck:=G (A8 dD.1.body 40223)
def VZ:=(G λx=>AA 157 x (A8 dD.1.body 287)) ck
def jM:=(G λx y=>AA 287 y (AA 75 x dD.1.body)) c6 VZ
def lU:=AV V 242 ⟨138,[.AH 4,.AH 5],jM⟩
theorem a5g(h:args.length<=138):At V 242 args m a7=Az V jM (CQ args) m (DQ [.AH 4,.AH 5] a7):=DV lU.2 h
def dh:AU V 243:=AW
def Yh:=G (A8 dh.1.body 37)
def aJ:=G (A8 dh.1.body 75)
def jY:=(G λx y=>AA 75 y (AA 37 x dh.1.body)) Yh aJ
def g0:=AV V 243 ⟨89,[.AH 6],jY⟩
theorem a2d(h:args.length<=89):At V 243 args m a7=Az V jY (CQ args) m (DQ [.AH 6] a7):=DV g0.2 h
def aBl:AU V 261:=AW
def gX:=G aBl.1.body
def fu:=AV V 261 ⟨5,[.AH 2],gX⟩
theorem a5w(h:args.length<=5):At V 261 args m a7=Az V gX (CQ args) m (DQ [.AH 2] a7):=DV fu.2 h
def zY:AU V 262:=AW
def jc:=G zY.1.body
def kN:=AV V 262 ⟨15,[.AH 2],jc⟩
theorem a7P(h:args.length<=15):At V 262 args m a7=Az V jc (CQ args) m (DQ [.AH 2] a7):=DV kN.2 h
def a29:AU V 263:=AW
def af:=G a29.1.body
def kt:=AV V 263 ⟨60,[.AH 4,.AH 5,.AH 6,.AH 7],af⟩
theorem a6u(h:args.length<=60):At V 263 args m a7=Az V af (CQ args) m (DQ [.AH 4,.AH 5,.AH 6,.AH 7] a7):=DV kt.2 h
def a49:AU V 264:=AW
def lD:=G a49.1.body
def fj:=AV V 264 ⟨12,[],lD⟩
theorem a1g(h:args.length<=12):At V 264 args m a7=Az V lD (CQ args) m (DQ [] a7):=DV fj.2 h
def ns:AU V 276:=AW
def Mf:=G (A8 ns.1.body 35)
def fN:=(G λx=>AA 35 x ns.1.body) Mf
def kI:=AV V 276 ⟨48,[.AH 6],fN⟩
theorem a0C(h:args.length<=48):At V 276 args m a7=Az V fN (CQ args) m (DQ [.AH 6] a7):=DV kI.2 h
def nn:AU V 277:=AW
def Up:=G (A8 nn.1.body 4)
def jx:=(G λx=>AA 4 x nn.1.body) Up
def gg:=AV V 277 ⟨23,[],jx⟩
theorem a1Q(h:args.length<=23):At V 277 args m a7=Az V jx (CQ args) m (DQ [] a7):=DV gg.2 h
def a8I:AU V 298:=AW
def lF:=G a8I.1.body
def kT:=AV V 298 ⟨18,[.AH 6],lF⟩
theorem a6h(h:args.length<=18):At V 298 args m a7=Az V lF (CQ args) m (DQ [.AH 6] a7):=DV kT.2 h
def a61:AU V 299:=AW
def lT:=G a61.1.body
def fU:=AV V 299 ⟨25,[.AH 2],lT⟩
theorem a24(h:args.length<=25):At V 299 args m a7=Az V lT (CQ args) m (DQ [.AH 2] a7):=DV fU.2 h
def zZ:AU V 300:=AW
def l0:=G zZ.1.body
def eM:=AV V 300 ⟨13,[],l0⟩
theorem a3F(h:args.length<=13):At V 300 args m a7=Az V l0 (CQ args) m (DQ [] a7):=DV eM.2 h
def a8u:AU V 301:=AW
def ep:=G a8u.1.body
def dt:=AV V 301 ⟨20,[],ep⟩
theorem yz(h:args.length<=20):At V 301 args m a7=Az V ep (CQ args) m (DQ [] a7):=DV dt.2 h
end
open Go Go.DI Go.EL
theorem Aa.trans{a b c:X}(h:Aa a b)(d:Aa b c):Aa a c:=⟨E8 h.ac d.ac,λx e=>by rw[d.Y x (GV e h.ac),h.Y x e]⟩
variable{b i:Nat}{x:Option CC}{a:Ah}{l:List Ah}{n:Bw}{o:Bool}{Q:BM->A2->X->Prop}
theorem Aa.some{m s:X}(h:Aa m s){x:CC}(hb:m.Y b=some x):s.Y b= .some x:=by rw[h.Y b (E hb),hb]
theorem Aa.AE{m s:X}(h:Aa m s)(k:Nat):Aa m (s.AE k):=⟨by have:=h.ac;simp only[B1];omega,λb hb=>by have:=h.ac;rw[Ab (by omega),h.Y b hb]⟩
theorem Aa.A1{m s:X}(h:Aa m s)(a:m.ac<=i):Aa m (s.A1 i x):=⟨h.ac,λb hb=>by rw[A6 (by omega),h.Y b hb]⟩
def BC(a:Ah):List Value:=[Z a.f,Z a.t,Z a.c,Z a.k]
def BI(l:List Ah):List Value:=(l.map BC).flatten
@[simp] theorem RJ: ∀(l:List Ah),(BI l).length=l.length*4
  |[]=>rfl
  | a::l=>by have:=RJ l;simp only[BI,Dl,I2,En,DZ]at this⊢;rw[this];simp[BC];omega
theorem Il: ∀{l:List Ah} {i:Nat} {a:Ah},l[i]?=some a->((BI l).drop (i*4)).take 4=BC a
 |[],_,_,h=>by simp at h
 |b::l,0,a,h=>by simp at h;subst h;rfl
 | b::l,i+1,a,h=>by have:= @Il l i a (by simpa using h);rw[<-this,show(i+1)*4=i*4+4 by omega];simp[BI,BC]
theorem H6{j:Nat}(h:l[i]?=some a)(b:j<4):(BI l)[i*4+j]?=(BC a)[j]?:=by rw[<-Il h,PU,if_pos b,RL]
def Dc(m:X)(v:Value)(l:List Ah):Prop:=(v= .slice none 0 0/\l=[])\/ ∃b o,v= .slice (some ⟨b,0,none⟩) l.length 4/\m.Y b=some ⟨BI l,o⟩
def HU(m:X)(v:Value)(l:List Int):Prop:=(v= .slice none 0 0/\l=[])\/ ∃b o,v= .slice (some ⟨b,0,none⟩) l.length 1/\m.Y b=some ⟨l.map (Value.int .i64 ·),o⟩
variable {m s:X} {v:Value}
theorem Dc.AD(h:Dc m v l)(a:Aa m s):Dc s v l:=by
 rcases h with h|⟨b,o,c,d⟩
 ·exact .inl h
 ·exact .inr ⟨b,o,c,a.some d⟩
theorem HU.AD{l:List Int}(h:HU m v l)(a:Aa m s):HU s v l:=by
 rcases h with h|⟨b,o,c,d⟩
 ·exact .inl h
 ·exact .inr ⟨b,o,c,a.some d⟩
theorem Dc.len(h:Dc m v l):DS v=l.length/\KP v=true:=by rcases h with⟨rfl,rfl⟩|⟨b,o,rfl,_⟩<;>exact⟨rfl,rfl⟩
theorem HU.len{l:List Int}(h:HU m v l):DS v=l.length/\KP v=true:=by rcases h with⟨rfl,rfl⟩|⟨b,o,rfl,_⟩<;>exact⟨rfl,rfl⟩
theorem Dc.BY(h:Dc m v l)(a:i<l.length): ∃b o,v= .slice (some ⟨b,0,none⟩) l.length 4/\m.Y b=some ⟨BI l,o⟩:=by
 rcases h with⟨_,rfl⟩|h
 ·simp at a
 ·exact h
theorem HU.BY{l:List Int}(h:HU m v l)(a:i<l.length): ∃b o,v= .slice (some ⟨b,0,none⟩) l.length 1/\m.Y b=some ⟨l.map (Value.int .i64 ·),o⟩:=by
 rcases h with⟨_,rfl⟩|h
 ·simp at a
 ·exact h
abbrev Cd(n:Bw)(v:Value):List Value:=[Z n.AS,Z n.Ad,Z n.Aq,v]
abbrev Ic(n:Bw)(v:Value):Value:= .agg #[Z n.AS,Z n.Ad,Z n.Aq,v]
def Dw(n:Bw)(x:Int):Bool:=decide (0<=x)&&decide (x<n.AS)
def GZ(n:Bw)(a:Ah):Bool:=Dw n a.f&&Dw n a.t&& !decide (a.c<0)&& !decide (2147483647<a.c)
def Db(n:Bw):Bool:= !decide (n.AS<2)&& !decide (700<n.AS)&& !decide (2500<n.A0.length)&&Dw n n.Ad&&Dw n n.Aq&& !decide (n.Ad=n.Aq)&&n.A0.all (GZ n)
theorem a7k{x:Int}:Dw n x=true↔n.Ci x:=by simp[Dw,Bw.Ci]
theorem QJ:Db n=true↔n.CE:=by
 simp only[Db,AF,JQ,OB,BR,a7k,GZ];constructor
 ·rintro⟨⟨⟨⟨⟨⟨i,j⟩,k⟩,b⟩,c⟩,d⟩,e⟩;exact⟨by omega,by omega,by omega,b,c,d,λa f=>by obtain⟨⟨⟨g,h⟩,a3⟩,a4⟩:=e a f;exact⟨g,h,by omega,by omega⟩⟩
 ·rintro⟨i,j,k,b,c,d,e⟩;exact⟨⟨⟨⟨⟨⟨by omega,by omega⟩,by omega⟩,b⟩,c⟩,d⟩,λa f=>by obtain⟨g,h,a3,a4⟩:=e a f;exact⟨⟨⟨g,h⟩,by omega⟩,by omega⟩⟩
theorem tC{v:Value}{m:X}(h:m.Y b=some ⟨Cd n v,o⟩)(x:Int)(a7:Value->X->Prop):At V 234 [Z x,AG b] m a7=a7 (.bool (Dw n x)) m:=by refine(HM.K4 ?_).wp;rw[a0B (by simp)];by_cases a:0<=x<;>by_cases c:x<n.AS<;>simp[hq,h,a,c,Dw]
theorem tT{v:Value}{g:X}(H:g.Y b=some ⟨Cd n v,true⟩)(P:Dc g v n.A0)(W:n.A0.length<100000): ∀(r i:Nat) (m:X) (A:A2),i+r=n.A0.length->Aa g m->
 A 43=v->A 44=Z n.A0.length->A 45=Z i->A 3= .func (.func 234) #[] #[AG b]->
 (∀d s,Aa g s->(n.A0.drop i).all (GZ n)=true->Q (.Ao 0) d s)->(∀d s,Aa g s->(n.A0.drop i).all (GZ n)=false->d 2= .bool false->Q .Cz d s)->Az V (.loop OT) A m Q
 | 0,i,m,A,A3,w,j,h,l,p,I,J=>by refine Bm λR S=> ?_;have e: ¬i<n.A0.length:=(by omega);simp[OT,h,l,e];exact I _ _ w (by rw[Jw (by omega)];rfl)
 | r+1,i,m,A,A3,w,j,h,l,p,I,J=>by
   refine Bm λR S=> ?_;have e:i<n.A0.length:=(by omega);obtain⟨a,K⟩: ∃a,n.A0[i]?=some a:=⟨n.A0[i]'e,by simp⟩;have L:n.A0.drop i=a::n.A0.drop (i+1):=by rw[Ht e];rw[AP e]at K;cases K;rfl
   obtain⟨c,o,rfl,A4⟩:=P.BY e;have z:=w.some A4;have T:=w.some H;have A5:=E T;have AM:=E z;have AN:=w.ac
   have AO:=E H;have hb:i*4+4<=n.A0.length*4:=(by omega);have C:=Il K;have A7:=BZ (n:=i) (by omega);have q: ∀(x:Int) (k:Nat) (y:CC) (a7:Value->X->Prop),At V 234 [Z x,AG b] ((m.AE 4).A1 (m.ac+2) (some y)) a7=a7 (.bool (Dw n x)) ((m.AE 4).A1 (m.ac+2) (some y)):= λx k y a7=>
    tC (by rw[A6 (by omega),Ab A5];exact T) x a7
   have q:= λx y a7=>q x 0 y a7;have next: ∀(d:A2) (s:X),GZ n a=true->Aa g s->d 43= .slice (some ⟨c,0,none⟩) n.A0.length 4->d 44=Z n.A0.length->d 45=Z ((i:Int)+1)->d 3= .func (.func 234) #[] #[AG b]->R d s:=by
    intro d s U M A8 AA AB AD;refine S _ _ (tT H P W r (i+1) s d (by omega) M A8 AA (by rw[AB];simp) AD (λAF AI N O=>I _ _ N ?_) (λAF AI N O AJ=>J _ _ N ?_ AJ))
    ·rw[L,F3,U,O];rfl
    ·rw[L,F3,U,O];rfl
   have stop: ∀(d:A2) (s:X),GZ n a=false->Aa g s->d 2= .bool false->Q .Cz d s:= λd s AK M AL=>J _ _ M (by rw[L,F3,AK];rfl) AL;have D: ∀y,Aa g ((m.AE 4).A1 (m.ac+2) (some y)):= λy=>(w.AE 4).A1 (by omega);cases u:Dw n a.f
   ·simp(disch:=first|omega|simp only[A9];omega)[OT,j,h,l,p,e,z,hb,C,BC,q,u];exact stop _ _ (by simp[GZ,u]) (D _) (by simp)
   cases B:Dw n a.t
   ·simp(disch:=first|omega|simp only[A9];omega)[OT,j,h,l,p,e,z,hb,C,BC,q,u,B];exact stop _ _ (by simp[GZ,B]) (D _) (by simp)
   by_cases F:a.c<0
   ·simp(disch:=first|omega|simp only[A9];omega)[OT,j,h,l,p,e,z,hb,C,BC,q,u,B,F];exact stop _ _ (by simp[GZ,F]) (D _) (by simp)
   by_cases G:2147483647<a.c
   ·simp(disch:=first|omega|simp only[A9];omega)[OT,j,h,l,p,e,z,hb,C,BC,q,u,B,F,G];exact stop _ _ (by simp[GZ,G]) (D _) (by simp)
   ·simp(disch:=first|omega|simp only[A9];omega)[OT,j,h,l,p,e,z,hb,C,BC,q,u,B,F,G,A7];exact next _ _ (by simp[GZ,u,B,F,G]) (D _) (by simp[j]) (by simp[h]) (by simp) (by simp[p])
open Go Go.DI Go.Big Go.EL
theorem a38{bm a:Int}{v:Nat}(b:v<=1000):AO V 127 [.agg #[Z bm,Z a],Z v] (Z (2+v)):=by refine BQ (Ax (aC:=⟨[],[]⟩) bN.2 ?_);have w:IntKind.i64.wrap (2+(v:Int))=2+v:=Ac (by omega) (by omega);simp[bN,sE,w]
abbrev Ys:AN V:= .B9 127 (Int×Int×Nat) (λx=>x.2.2<=1000) (λx=>[.agg #[Z x.1,Z x.2.1],Z x.2.2]) (λx=>Z (2+x.2.2)) λ_ h=>a38 h
@[simp] theorem aIk{bm d:Int}{v:Nat}(e:v<=1000):Ys.fn [.agg #[Z bm,Z d],Z v]=some (Z (2+v)):=AN.BH (x:=(bm,d,v)) e λ⟨a,b,c⟩ f=>by simp at f⊢;omega
def O1(bm a v i:Nat):Int:=if i=0 then 2+(v:Int)else 2+bm+v*((a:Int)-1)+i-1
def J1(bm a d:Nat):Int:=2+(bm:Int)*a+d
variable{bm d q g4 iC:Nat}{C aH bT:Int}{aU:List Nat}{t:X}{c1:List Ah}{u:AL}{A:A2}{R je:List Int}{p:Dg}
theorem a8R{a v:Nat}(j:bm<=1000)(k:1<=a/\a<=1000)(l:v<=1000)(m:i<=1000):AO V 128 [.agg #[Z bm,Z a],Z v,Z i] (Z (O1 bm a v i)):=by
 refine BQ (Ax (aC:=⟨[Ys],[]⟩) WO.2 ?_);unfold O1;by_cases c:i=0
 ·subst c;simp(disch:=first|omega|simp only[DI.AB];omega)[WO,jP]
 ·have o: ¬(i:Int)=0:=(by omega);have p:0<=(v:Int)*((a:Int)-1):=MH (by omega) (by omega);have q:(v:Int)*((a:Int)-1)<=1000*1000:=NW (Jt (by omega) (by omega)) (SV (by omega) (by omega));have b:IntKind.i64.wrap (2+(bm:Int))=2+bm:=Ac (by omega) (by omega);have d:IntKind.i64.wrap ((a:Int)-1)=(a:Int)-1:=Ac (by omega) (by omega);have e:IntKind.i64.wrap ((v:Int)*((a:Int)-1))=(v:Int)*((a:Int)-1):=Ac (by omega) (by omega);have f:IntKind.i64.wrap (2+(bm:Int)+(v:Int)*((a:Int)-1))=2+(bm:Int)+(v:Int)*((a:Int)-1):=Ac (by omega) (by omega);have g:IntKind.i64.wrap (2+(bm:Int)+(v:Int)*((a:Int)-1)+i)=2+(bm:Int)+(v:Int)*((a:Int)-1)+i:=Ac (by omega) (by omega);have h:IntKind.i64.wrap (2+(bm:Int)+(v:Int)*((a:Int)-1)+i-1)=2+(bm:Int)+(v:Int)*((a:Int)-1)+i-1:=Ac (by omega) (by omega);simp[WO,jP,c,b,d,e,f,g,h]
abbrev XN:AN V:= .B9 128 (Nat×Nat×Nat×Nat) (λx=>(x.1<=1000/\1<=x.2.1/\x.2.1<=1000)/\x.2.2.1<=1000/\x.2.2.2<=1000) (λx=>[.agg #[Z x.1,Z x.2.1],Z x.2.2.1,Z x.2.2.2]) (λx=>Z (O1 x.1 x.2.1 x.2.2.1 x.2.2.2)) λ_ h=>a8R h.1.1 h.1.2 h.2.1 h.2.2
@[simp] theorem aFb{e v:Nat}(h:(bm<=1000/\1<=e/\e<=1000)/\v<=1000/\i<=1000):XN.fn [.agg #[Z bm,Z e],Z v,Z i]=some (Z (O1 bm e v i)):=AN.BH (x:=(bm,e,v,i)) h λ⟨a,b,c,d⟩ f=>by simp at f⊢;omega
theorem a6L{a:Nat}(f:bm<=1000)(g:a<=1000)(h:d<=1000):AO V 129 [.agg #[Z bm,Z a],Z d] (Z (J1 bm a d)):=by refine BQ (Ax (aC:=⟨[],[]⟩) Xx.2 ?_);have j:0<=(bm:Int)*(a:Int):=MH (by omega) (by omega);have k:(bm:Int)*(a:Int)<=1000*1000:=NW (Jt (by omega) (by omega)) (SV (by omega) (by omega));have b:IntKind.i64.wrap ((bm:Int)*(a:Int))=(bm:Int)*a:=Ac (by omega) (by omega);have c:IntKind.i64.wrap (2+(bm:Int)*a)=2+(bm:Int)*a:=Ac (by omega) (by omega);have e:IntKind.i64.wrap (2+(bm:Int)*a+d)=2+(bm:Int)*a+d:=Ac (by omega) (by omega);unfold J1;simp[Xx,yL,b,c,e]
abbrev Z7:AN V:= .B9 129 (Nat×Nat×Nat) (λx=>x.1<=1000/\x.2.1<=1000/\x.2.2<=1000) (λx=>[.agg #[Z x.1,Z x.2.1],Z x.2.2]) (λx=>Z (J1 x.1 x.2.1 x.2.2)) λ_ h=>a6L h.1 h.2.1 h.2.2
@[simp] theorem aEM{e:Nat}(h:bm<=1000/\e<=1000/\d<=1000):Z7.fn [.agg #[Z bm,Z e],Z d]=some (Z (J1 bm e d)):=AN.BH (x:=(bm,e,d)) h λ⟨a,b,c⟩ f=>by simp at f⊢;omega
theorem xA:BI (l++[a])=BI l++BC a:=by simp[BI]
def Ip(t:X)(q:Nat)(bT aH C:Int)(l:List Ah)(aU:List Nat):Prop:= ∃o,q≠o/\t.Y q=some ⟨[Z bT,Z aH,Z C,.slice (some ⟨o,0,none⟩) l.length 4],true⟩/\t.Y o=some ⟨BI l,true⟩/\ ∀b∈aU,b≠q/\b≠o/\b<t.ac
theorem Ip.AD{aA:X}{wJ:List Nat}(h:Ip t q bT aH C l aU)(k:t.ac<=aA.ac)(a: ∀b,b<t.ac->aA.Y b=t.Y b)(e: ∀b∈wJ,b∈aU\/(t.ac<=b/\b<aA.ac)):Ip aA q bT aH C l wJ:=by
 obtain⟨o,f,c,d,g⟩:=h;have i:=E c;have j:=E d;refine⟨o,f,by rw[a q i];exact c,by rw[a o j];exact d,λb hb=> ?_⟩;rcases e b hb with h|h
 ·have:=g b h;exact⟨this.1,this.2.1,by omega⟩
 ·exact⟨by omega,by omega,h.2⟩
structure UG(t:X)(q:Nat)(bT aH C:Int)(l:List Ah)(aU:List Nat)(a:X):Prop where
 Hu:Ip a q bT aH C l aU
 ac:t.ac<=a.ac
 DL: ∀b∈aU,a.Y b=t.Y b
theorem Tp(h:Ip t q bT aH C l aU)(w:l.length<=100000){f g c:Int}:
 Bh V 183 [Z f,Z g,Z c,.pointer (some ⟨q,0,none⟩)] t λv j=>v= .tuple #[]/\UG t q bT aH C (l++[(Ah.mk f g c 0)]) aU j:=by
 obtain⟨o,k,a,d,i⟩:=h;refine Ax (aC:=⟨[],[]⟩) Y2.2 ?_;have y:=E a;have z:=E d;have m:(l.length+1)*32<=140737488355328/\l.length<=9223372036854775806:=by omega
 have A: ¬o=q:= λe=>k e.symm;simp(disch:=first|omega|simp only[DI.AB];omega)[Y2,oK,a,d,m,-H,-D,-I,-F,-List.map_map];have n:List.take (l.length*4) (BI l)=BI l:=DP (by rw[RJ];exact Aj _);have p: ¬t.ac+7=q:=by omega
 refine⟨⟨t.ac+7,by omega,?_,?_,λb hb=> ?_⟩,by simp,λb hb=> ?_⟩
 ·rw[AR (by simp;omega)];simp
 ·rw[A6 p,AR (by simp),n,xA];rfl
 ·have:=i b hb;exact⟨this.1,by omega,by simp;omega⟩
 ·obtain⟨r,s,u⟩:=i b hb;rw[A6 r,A6 (by omega),A6 s,A6 (by omega),Ab u]
structure NG(u:AL)(R:List Int)(v:Nat)(p:Dg)(l:List Ah)(g4 iC:Nat)(A:A2)(t:X):Prop where
 Hu:Ip t 18 (J1 u.A3.length u.A5.length u.A4.length) 0 1 l [0,1,10,g4,iC]
 DH:t.Y 0=some ⟨A7 u,true⟩
 JK:t.Y 1=some ⟨[Z 0,Z 0,Z 0,.slice none 0 0],true⟩
 Ru:t.Y 10=some ⟨[Z u.A3.length,Z u.A5.length],true⟩
 ai:t.Y g4=some ⟨BE p,true⟩
 VS:t.Y iC=some ⟨D4 u.Af.length λi=> .bool (decide ((i:Int)∈p.Af)),true⟩
 Fe:A 1=AK R
 K2:A 2=AG 0
 Jm:A 4=AG 1
 K1:A 6=AG 10
 KG:A 7=AG 18
 Hc:A 8= .func (.func 183) #[] #[AG 18]
 RP:A 9=Z v
 nB:A 11=AG g4
 pr:A 12=AM iC u.Af.length 1
 di:A 41=O (u.A3.map CW) 2
 fM:A 42=Z u.A3.length
 lK:A 43=Z v
def Ff(u:AL)(c1:List Ah)(v i:Nat):List Ah:=c1++FR u v::(List.range (i-1)).map λj=>I3 u v (j+1)
theorem hz{v:Nat}(a:1<=i):Ff u c1 v (i+1)=Ff u c1 v i++[I3 u v i]:=by obtain⟨k,rfl⟩: ∃k,i=k+1:=⟨i-1,by omega⟩;simp[Ff,MV]
theorem j3{v:Nat}:(Ff u c1 v i).length<=c1.length+1+i:=by simp[Ff];omega
theorem Ip.g(h:Ip t q bT aH C l aU)(hb:b∈aU):b≠q/\b<t.ac:=by obtain⟨o,_,_,_,a⟩:=h;have:=a b hb;exact⟨this.1,this.2.2⟩
theorem a8h(h:B4 u){v:Nat}(Aa:v<u.A3.length)(A9:u.B7[HY u v]?=some p)(Az:c1.length<=50000)
 (f:NG u R v p (Ff u c1 v 0) g4 iC A t) (w:A 80=O (u.A5.map Bq) 7) (q:A 81=Z u.A5.length) (x:A 82=Z 0) (Af: ∀s o,NG u R v p (Ff u c1 v u.A5.length) g4 iC s o->Q (.Ao 4) s o):Bc V (.loop TW) A t Q:=by
 have B0:=h.ok.Cg;have B1:=h.ok.EF;have B2:=h.ok.D6;obtain⟨B3,AA,_,_,AI,B5⟩:=SH h.ok Aa;rw[A9]at AA;cases AA;simp only[FI,AF,BW]at AI;obtain⟨AJ,AK,B6,B8,B9,BA,BB,BC,BD,BF⟩:=AI;have AJ:=FV AJ;have AK:=FV AK;refine Cc (aC:=⟨[XN],[]⟩) (λi A t=>NG u R v p (Ff u c1 v i) g4 iC A t/\A 80=O (u.A5.map Bq) 7/\A 81=Z u.A5.length/\A 82=Z i) u.A5.length ?_ ?_ 0 A t (C8 _) ⟨f,w,q,x⟩
 ·rintro i A t AL ⟨f,w,q,x⟩ BI K;obtain⟨d,B⟩:=Cb AL;have L:=(Ae.1 B).2;have AM:(i:Int)<u.A5.length:=(by omega);have AN:=BZ (n:=i) (by omega);have BJ:=f;obtain⟨C,AO,Ag,G,J,AP,Ai,Aj,Ak,M,Al,N,S,T,Am,An,Ap,Aq⟩:=f;have BK:=E AO;have BL:=E G;have BM:=E J;have BN:=E AP;have BO:=C.g (b:=g4) (by simp);have AQ: ∀(s:A2) (o:X) (U:List Ah),Ip o 18 (J1 u.A3.length u.A5.length u.A4.length) 0 1 U [0,1,10,g4,iC]->(∀b∈[0,1,10,g4,iC],o.Y b=t.Y b)->(∀j,j∈[1,2,4,6,7,8,9,11,12,41,42,43]->s j=A j)->NG u R v p U g4 iC s o:= λs o U a b c=>
   ⟨a,by rw[b 0 (by simp),AO],by rw[b 1 (by simp),Ag],by rw[b 10 (by simp),G],by rw[b g4 (by simp),J],by rw[b iC (by simp),AP],by rw[c 1 (by simp),Ai],by rw[c 2 (by simp),Aj],by rw[c 4 (by simp),Ak],by rw[c 6 (by simp),M],by rw[c 7 (by simp),Al],by rw[c 8 (by simp),N],by rw[c 9 (by simp),S],by rw[c 11 (by simp),T],by rw[c 12 (by simp),Am],by rw[c 41 (by simp),An],by rw[c 42 (by simp),Ap],by rw[c 43 (by simp),Aq]⟩
  have AR: ∀b∈[0,1,10,g4,iC],b<t.ac:= λb hb=>(C.g hb).2
  by_cases c:i=0
  ·subst c;have Ar:IntKind.i64.wrap 1=1:=Ac (by omega) (by omega);simp(disch:=first|omega|simp only[DI.AB];omega)[TW,w,q,x,Ar,L,AL,Bq,-H,-D,-I,-F,-List.map_map];refine K _ _ ⟨AQ _ _ _ (C.AD (by simp) (λb hb=>by rw[A6 (by omega),Ab hb]) λb hb=> .inl hb) (λb hb=>by have:=AR b hb;rw[A6 (by omega),Ab this]) (λj y=> ?_),by simp[w],by simp[q],by simp⟩;have:j≠83/\j≠84/\j≠85/\j≠86/\j≠16/\j≠15/\j≠87/\j≠88/\j≠113/\j≠82:=by
    simp at y;omega
   simp[Fg,this]
  ·have BQ: ¬(i:Int)=0:=(by omega);obtain⟨As,BR,BS,BT,BU⟩:=h.ok.Gc i d (by omega) B;obtain⟨P,W⟩:=Dp As;obtain⟨l,A0⟩:=Dp (by omega:0<=d.Fw);have BV:(u.A3.length<=1000/\1<=u.A5.length/\u.A5.length<=1000)/\v<=1000/\P<=1000:=(by omega);have BY:(u.A3.length<=1000/\1<=u.A5.length/\u.A5.length<=1000)/\v<=1000/\i<=1000:=(by omega);have At:IntKind.i64.wrap (p.k+p.m)=p.k+p.m:=Ac (by omega) (by omega);have Ba:l<5:=(by omega);have AS:(l:Int)<5:=(by omega);have AU:(BE p).length=17:=rfl;have AV:4+l+1<=17:=(by omega);have Au:List.take 1 (BE p).tail=[Z p.k]:=rfl;have Bb:(BE p)[2]?=some (Z p.m):=rfl;have Av: ∀h,(BE p)[2]'h=Z p.m:= λ_=>rfl;have AW:IF u v i=if J8 p.Dz l=0 then p.k+p.m else J8 p.Dz l:=by
    have e:Dh u i=(l:Int):=(by unfold Dh;simp only[B,A0]);unfold IF;simp only[A9,e]
   have Aw:D1 u i=P:=(by unfold D1;simp only[B,W,Dx]);have AX:Ip ((t.AE 6).A1 (t.ac+3) (some ⟨[CU d.name,Z l,Z P,Z d.Rk,.bool d.Hm.Hq,AT d.Hm.a,AT d.Hm.b],true⟩)) 18 (J1 u.A3.length u.A5.length u.A4.length) 0 1 (Ff u c1 v i) [0,1,10,g4,iC]:=C.AD (by simp) (λb hb=>by rw[A6 (by omega),Ab hb]) λb hb=> .inl hb;have Bd:=j3 (u:=u) (c1:=c1) (v:=v) (i:=i);have AY: ∀(s:A2) (o:X) (c:Int),c=IF u v i->UG ((t.AE 6).A1 (t.ac+3) (some ⟨[CU d.name,Z l,Z P,Z d.Rk,.bool d.Hm.Hq,AT d.Hm.a,AT d.Hm.b],true⟩)) 18 (J1 u.A3.length u.A5.length u.A4.length) 0 1 (Ff u c1 v i++[(Ah.mk (O1 u.A3.length u.A5.length v P) (O1 u.A3.length u.A5.length v i) c 0)]) [0,1,10,g4,iC] o->(∀j,j∈[1,2,4,6,7,8,9,11,12,41,42,43]->s j=A j)->NG u R v p (Ff u c1 v (i+1)) g4 iC s o:= λs o c Ax z y=>by have e:Ff u c1 v (i+1)=Ff u c1 v i++[(Ah.mk (O1 u.A3.length u.A5.length v P) (O1 u.A3.length u.A5.length v i) c 0)]:=(by rw[hz (by omega),I3,Aw,Ax];rfl);rw[e];exact AQ _ _ _ z.Hu (λb hb=>by rw[z.DL b hb];have:=AR b hb;rw[A6 (by omega),Ab this]) y
   have Be:1<=l:=(by omega);have Ay:(BE p)[4+l]?=some (Z (J8 p.Dz l)):=(by obtain rfl|rfl|rfl|rfl:l=1\/l=2\/l=3\/l=4:=(by omega);all_goals rfl);have AZ: ∀h,(BE p)[4+l]'h=Z (J8 p.Dz l):= λh=>(Ae.1 Ay).2;by_cases cs:J8 p.Dz l=0
   ·simp(disch:=first|omega|simp only[DI.AB];omega)[TW,M,N,S,T,w,q,x,AM,At,L,c,Bq,W,A0,G,J,AS,AU,AV,Au,Av,AZ,cs,BG,-H,-D,-I,-F,-List.map_map];refine(Tp AX (by omega)).AD λr o ⟨A7,z⟩=> ?_;subst A7;simp(disch:=first|omega|simp only[DI.AB];omega)[x,AN,-H,-D,-I,-F,-List.map_map];refine K _ _ ⟨AY _ _ _ (by rw[AW,if_pos cs]) z (λj y=> ?_),by simp[w],by simp[q],by simp⟩;have:j≠83/\j≠84/\j≠85/\j≠86/\j≠16/\j≠15/\j≠17/\(j<87\/113<j)/\j≠82:=by
     simp at y;omega
    obtain⟨OG,NM,QP,Vt,Wk,Tq,Ud,hK,Wl⟩:=this;have A8: ∀k,87<=k->k<=113->j≠k:= λk a b=>by omega
    simp[Fg,OG,NM,QP,Vt,Wk,Tq,Ud,Wl,A8]
   ·simp(disch:=first|omega|simp only[DI.AB];omega)[TW,M,N,S,T,w,q,x,AM,L,c,Bq,W,A0,G,J,AS,AU,AV,AZ,cs,BG,-H,-D,-I,-F,-List.map_map];refine(Tp AX (by omega)).AD λr o ⟨A7,z⟩=> ?_;subst A7;simp(disch:=first|omega|simp only[DI.AB];omega)[x,AN,-H,-D,-I,-F,-List.map_map];refine K _ _ ⟨AY _ _ _ (by rw[AW,if_neg cs]) z (λj y=> ?_),by simp[w],by simp[q],by simp⟩;have:j≠83/\j≠84/\j≠85/\j≠86/\j≠16/\j≠15/\j≠17/\(j<87\/113<j)/\j≠82:=by
     simp at y;omega
    obtain⟨OG,NM,QP,Vt,Wk,Tq,Ud,hK,Wl⟩:=this;have A8: ∀k,87<=k->k<=113->j≠k:= λk a b=>by omega
    simp[Fg,OG,NM,QP,Vt,Wk,Tq,Ud,Wl,A8]
 ·rintro A t ⟨f,w,q,x⟩;simp(disch:=first|omega|simp only[DI.AB];omega)[TW,q,x,-H,-D,-I,-F,-List.map_map];refine Af _ _ ⟨f.Hu,f.DH,f.JK,f.Ru,f.ai,f.VS,?_,?_,?_,?_,?_,?_,?_,?_,?_,?_,?_,?_⟩;all_goals simp[f.Fe,f.K2,f.Jm,f.K1,f.KG,f.Hc,f.RP,f.nB,f.pr,f.di,f.fM,f.lK]
def HD(u:AL)(c1:List Ah)(v i:Nat):List Ah:=Ff u c1 v u.A5.length++((List.range i).filter (Fk u v)).map (D8 u v)
theorem tP{v:Nat}:HD u c1 v (i+1)=HD u c1 v i++if Fk u v i then[D8 u v i]else[]:=by unfold HD;rw[aCC];split<;>simp
theorem vG{v:Nat}:(HD u c1 v i).length<=c1.length+1+u.A5.length+i:=by have:=j3 (u:=u) (c1:=c1) (v:=v) (i:=u.A5.length);have:=VY (Fk u v) (List.range i);simp only[HD,En,E9];simp only[List.length_range]at this;omega
theorem mH{v:Nat}:HD u c1 v u.A4.length=c1++Gv u v:=by simp[HD,Ff,Gv]
theorem aCb(h:B4 u){v:Nat}(Ak:v<u.A3.length)(AO:u.B7[HY u v]?=some p)(Al:c1.length<=50000)
 (d:NG u R v p (HD u c1 v 0) g4 iC A t) (l:A 115=O (u.A4.map Bx) 3) (e:A 116=Z u.A4.length) (m:A 117=Z 0) (AP: ∀q f,NG u R v p (c1++Gv u v) g4 iC q f->Q (.Ao 6) q f):Bc V (.loop VD) A t Q:=by
 have Am:=h.ok.Cg;have An:=h.ok.Es;have Ap:=h.ok.EF;have Aq:=h.ok.D6;refine Cc (aC:=⟨[XN,Z7],[]⟩) (λi A t=>NG u R v p (HD u c1 v i) g4 iC A t/\A 115=O (u.A4.map Bx) 3/\A 116=Z u.A4.length/\A 117=Z i) u.A4.length ?_ ?_ 0 A t (C8 _) ⟨d,l,e,m⟩
 ·rintro i A t AQ ⟨d,l,e,m⟩ As N;obtain⟨x,w⟩:=Cb AQ;have P:=(Ae.1 w).2;obtain⟨AR,At,a3,a4,Au⟩:=h.ok.LG i x w;obtain⟨o,B⟩:=Dp AR;obtain⟨y,C⟩:=Dp a3;have S:(i:Int)<u.A4.length:=(by omega);have T:=BZ (n:=i) (by omega);have Av:=d;obtain⟨U,W,AS,G,A0,z,AT,AU,AV,A7,AW,A8,A9,AX,J,AY,AZ,Aa⟩:=d;have Aw:=E W;have Ax:=E G;have Ay:=E A0;have Az:=E z;have AA: ∀(q:A2) (f:X) (K:List Ah),Ip f 18 (J1 u.A3.length u.A5.length u.A4.length) 0 1 K [0,1,10,g4,iC]->(∀b∈[0,1,10,g4,iC],f.Y b=t.Y b)->(∀j,j∈[1,2,4,6,7,8,9,11,12,41,42,43]->q j=A j)->NG u R v p K g4 iC q f:= λq f K a b c=>
   ⟨a,by rw[b 0 (by simp),W],by rw[b 1 (by simp),AS],by rw[b 10 (by simp),G],by rw[b g4 (by simp),A0],by rw[b iC (by simp),z],by rw[c 1 (by simp),AT],by rw[c 2 (by simp),AU],by rw[c 4 (by simp),AV],by rw[c 6 (by simp),A7],by rw[c 7 (by simp),AW],by rw[c 8 (by simp),A8],by rw[c 9 (by simp),A9],by rw[c 11 (by simp),AX],by rw[c 12 (by simp),J],by rw[c 41 (by simp),AY],by rw[c 42 (by simp),AZ],by rw[c 43 (by simp),Aa]⟩
  have AF: ∀b∈[0,1,10,g4,iC],b<t.ac:= λb hb=>(U.g hb).2
  have AI:o<u.Af.length:=(by omega);have AJ:(o:Int)<u.Af.length:=(by omega);have AK:o+1<=u.Af.length:=AI;have B0:(u.A3.length<=1000/\1<=u.A5.length/\u.A5.length<=1000)/\v<=1000/\y<=1000:=(by omega);have B1:u.A3.length<=1000/\u.A5.length<=1000/\i<=1000:=(by omega);have Ac:Fk u v i=decide ((o:Int)∈p.Af):=(by unfold Fk;simp only[AO,w,B]);have Ag:CI u i=y:=(by unfold CI;simp only[w,C,Dx]);have s:(D4 u.Af.length λi=>Value.bool (decide ((i:Int)∈p.Af)))[o]?=some (.bool (Fk u v i)):=(by rw[GH AI,Ac]);have AL: ∀h,(D4 u.Af.length λi=>Value.bool (decide ((i:Int)∈p.Af)))[o]'h= .bool (Fk u v i):= λh=>(Ae.1 s).2;have AM:Ip ((t.AE 6).A1 (t.ac+3) (some ⟨[CU x.name,Z o,Z y],true⟩)) 18 (J1 u.A3.length u.A5.length u.A4.length) 0 1 (HD u c1 v i) [0,1,10,g4,iC]:=U.AD (by simp) (λb hb=>by rw[A6 (by omega),Ab hb]) λb hb=> .inl hb;have B2:=vG (u:=u) (c1:=c1) (v:=v) (i:=i);have es:=tP (u:=u) (c1:=c1) (v:=v) (i:=i);cases hb:Fk u v i
  ·rw[hb]at s AL es;simp(disch:=first|omega|simp only[DI.AB];omega)[VD,J,l,e,m,S,T,P,Bx,B,C,z,AJ,AK,s,BG,-H,-D,-I,-F,-List.map_map];refine N _ _ ⟨?_,by simp[l],by simp[e],by simp⟩;rw[es];simp only[E3,if_false,Pf];refine AA _ _ _ AM (λb hb=>by have:=AF b hb;rw[A6 (by omega),Ab this]) (λj L=> ?_);have:j≠18/\j≠19/\(j<117\/137<j):=(by simp at L;omega);obtain⟨OG,NM,QP⟩:=this;have M: ∀k,117<=k->k<=137->j≠k:= λk a b=>by omega
   simp[Fg,OG,NM,M]
  ·rw[hb]at s AL es;simp(disch:=first|omega|simp only[DI.AB];omega)[VD,A7,A8,A9,J,l,e,m,S,P,Bx,B,C,z,G,AJ,AK,s,BG];refine(Tp AM (by omega)).AD λr f ⟨Ai,AN⟩=> ?_;subst Ai;simp[m,T];refine N _ _ ⟨?_,by simp[l],by simp[e],by simp⟩;rw[es];simp only[if_true];have Aj:D8 u v i=Ah.mk (O1 u.A3.length u.A5.length v y) (J1 u.A3.length u.A5.length i) 1 0:=(by rw[D8,Ag];rfl);rw[Aj];refine AA _ _ _ AN.Hu (λb hb=>by rw[AN.DL b hb];have:=AF b hb;rw[A6 (by omega),Ab this]) (λj L=> ?_);have:j≠18/\j≠19/\(j<117\/137<j):=(by simp at L;omega);obtain⟨OG,NM,QP⟩:=this;have M: ∀k,117<=k->k<=137->j≠k:= λk a b=>by omega
   simp[Fg,OG,NM,M]
 ·rintro A t ⟨d,l,e,m⟩;rw[mH]at d;simp[VD,e,m];refine AP _ _ ⟨d.Hu,d.DH,d.JK,d.Ru,d.ai,d.VS,?_,?_,?_,?_,?_,?_,?_,?_,?_,?_,?_,?_⟩;all_goals simp[d.Fe,d.K2,d.Jm,d.K1,d.KG,d.Hc,d.RP,d.nB,d.pr,d.di,d.fM,d.lK]
structure Mh(u:AL)(R:List Int)(l:List Ah)(A:A2)(t:X):Prop where
 Hu:Ip t 18 (J1 u.A3.length u.A5.length u.A4.length) 0 1 l [0,1,10]
 DH:t.Y 0=some ⟨A7 u,true⟩
 JK:t.Y 1=some ⟨[Z 0,Z 0,Z 0,.slice none 0 0],true⟩
 Ru:t.Y 10=some ⟨[Z u.A3.length,Z u.A5.length],true⟩
 Fe:A 1=AK R
 K2:A 2=AG 0
 Jm:A 4=AG 1
 K1:A 6=AG 10
 KG:A 7=AG 18
 Hc:A 8= .func (.func 183) #[] #[AG 18]
def GN(u:AL)(v:Nat):List Ah:=(List.range v).flatMap (Gv u)
theorem sO{v:Nat}:GN u (v+1)=GN u v++Gv u v:=by simp[GN,MV]
theorem a0X{BV:Nat}(z: ∀m∈je,0<=m/\m<BV)(W:je.length<=1000000)(B:A 12=AM iC BV 1)(C:t.Y iC=some ⟨D4 BV λ_=> .bool false,true⟩)(v:A 59=AK je)(w:A 60=Z je.length)(d:A 61=Z 0)
 (G: ∀x l,(∀j,j<61->j≠14->x j=A j)->l.Y iC=some ⟨D4 BV λi=> .bool (decide ((i:Int)∈je)),true⟩->(∀b,b≠iC->l.Y b=t.Y b)->l.ac=t.ac->Q (.Ao 2) x l):Bc V (.loop cy) A t Q:=by
 refine Cc (aC:=⟨[],[]⟩) (λi a f=>(∀j,j<61->j≠14->a j=A j)/\f.Y iC=some ⟨D4 BV λk=> .bool (decide ((k:Int)∈je.take i)),true⟩/\(∀b,b≠iC->f.Y b=t.Y b)/\f.ac=t.ac/\a 61=Z i) je.length ?_ ?_ 0 A t (C8 _) ⟨λj _ _=>rfl,by simpa using C,λb _=>rfl,rfl,d⟩
 ·rintro i a f J ⟨c,g,h,q,d⟩ A0 K;obtain⟨m,r⟩:=Cb J;have L:=(Ae.1 r).2;obtain⟨M,N⟩:=z m (B5 r);obtain⟨o,rfl⟩:=Dp M;have O:a 12=AM iC BV 1:=(c 12 (by decide) (by decide)).trans B;have y:a 59=AK je:=(c 59 (by decide) (by decide)).trans v;have s:a 60=Z je.length:=(c 60 (by decide) (by decide)).trans w;have P:(i:Int)<je.length:=(by omega);have R:o<BV:=(by omega);have S:o+1<=BV:=R;have T:=E g;have U:=BZ (n:=i) (by omega);simp(disch:=first|omega|simp only[DI.AB];omega)[cy,O,y,s,d,g,P,U,L,N,S,LJ,-H,-D,-I,-F,-List.map_map];refine K _ _ ⟨λj u p=> ?_,?_,λb hb=>by rw[A6 hb];exact h b hb,by simpa using q,by simp⟩
  ·have: ∀k,61<=k->j≠k:= λk h=>by omega
   rw[<-c j u p];simp[Fg,p,this]
  ·rw[AR T];congr 2;refine HS λk h=> ?_;rw[N9,r];by_cases e:k=o
   ·subst e;simp
   ·have:((k:Int)∈je.take i++[(o:Int)])↔(k:Int)∈je.take i:=(by simp;omega);simp only[Option.toList_some,this,Hk e,Bool.false_or]
 ·rintro a f ⟨c,g,h,q,d⟩;have y:a 59=AK je:=(c 59 (by decide) (by decide)).trans v;have s:a 60=Z je.length:=(c 60 (by decide) (by decide)).trans w;rw[FJ]at g;simp[cy,s,d];refine G _ _ (λj u p=> ?_) g h q;have:j≠62:=(by omega);rw[<-c j u p];simp[Fg,this]
theorem fT: ∀(n:Nat) (l:List Int),l.Nodup->(∀x∈l,0<=x/\x<n)->l.length<=n
 | 0,l,_,h=>by
   cases l with
   |nil=>exact Aj _
   |cons x l=>have:=h x (by simp);omega
 | n+1,l,b,h=>by
   have g:=fT n (l.erase (n:Int)) (b.erase _) λx c=>by
    have d:=List.mem_of_mem_erase c;have:=h x d;have i:x≠(n:Int):= λe=>by subst e;exact(List.Nodup.mem_erase_iff b).1 c|>.1 rfl
    omega
   have f:=List.length_erase (a:=(n:Int)) (l:=l);split at f<;>omega
theorem a7u(h:B4 u)(c:Mh u R [] A t)(C:A 41=O (u.A3.map CW) 2)(w:A 42=Z u.A3.length)(y:A 43=Z 0)
 (Al: ∀A0 N,Mh u R (GN u u.A3.length) A0 N->Q (.Ao 0) A0 N):Bc V (.loop Zx) A t Q:=by
 have Bj:=h.ok.Cg;have Bk:=h.ok.Es;have Bl:=h.ok.EF;have Bm:=h.ok.BV;have Bn:=h.ok.D6;refine Cc (aC:=⟨[Ys],[]⟩) (λv A t=>Mh u R (GN u v) A t/\A 41=O (u.A3.map CW) 2/\A 42=Z u.A3.length/\A 43=Z v) u.A3.length ?_ ?_ 0 A t (C8 _) ⟨c,C,w,y⟩
 ·rintro v A t G ⟨c,C,w,y⟩ Bp Am;obtain⟨S,T,A2,A8,An,A9,Ap,Aq,Ar,As⟩:=c;obtain⟨x,U⟩:=Cb G;have At:=(Ae.1 U).2;obtain⟨p,J,Bq,Av,AA,Aw⟩:=SH h.ok G;obtain⟨P,AI⟩:=Dp (h.ok.FQ v x U).1;have Ax:HY u v=P:=(by unfold HY;simp only[U,AI,Dx]);have AJ:=J;rw[Ax]at J Av;have Ay:=(Ae.1 J).2;obtain⟨_,Br,AL,Az⟩:=h.ok.JS P p J;have B0:=E T;have B2:=E A2;have B3:=E A8;have B5:(v:Int)<u.A3.length:=(by omega);have B6:(P:Int)<u.B7.length:=(by omega);have B8:(u.Af.length:Int)*1<=140737488355328/\(u.Af.length:Int)<=140737488355328/\(u.Af.length:Int)<=9223372036854775807/\0<=(u.Af.length:Int)/\u.Af.length<=140737488355328:=(by omega);have B9:=BZ (n:=v) (by omega);simp(disch:=first|omega|simp only[DI.AB];omega)[Zx,A9,C,w,y,T,A7,CW,BE,At,AI,Ay,B5,B6,B8];have Bs: ∀b∈[0,1,10],b≠18/\b<t.ac:= λb hb=>S.g hb
  have Bt:18<t.ac:=by obtain⟨o,_,g,_⟩:=S;exact E g
  obtain⟨l,q⟩: ∃l,l=(((((t.AE 6).A1 (t.ac+3) (some ⟨[CU x.name,Z P],true⟩)).AE 8).A1 (t.ac+6+6) (some ⟨BE p,true⟩)).AE 5).A1 (t.ac+6+8+3) (some ⟨List.replicate u.Af.length (Value.bool false),true⟩):=⟨_,rfl⟩;have Bu:l.ac=t.ac+6+8+5:=by rw[q];simp only[Au,B1]
  have K: ∀b,b<t.ac->l.Y b=t.Y b:= λb hb=>by rw[q,A6 (by omega),Ab (by simp only[Au,B1];omega),A6 (by omega),Ab (by simp only[Au,B1];omega),A6 (by omega),Ab hb]
  have AN:=S.AD (aA:=l) (wJ:=[0,1,10,t.ac+6+6,t.ac+6+8+3]) (by omega) K (λb hb=>by simp at hb⊢;omega);have AO:l.Y (t.ac+6+6)=some ⟨BE p,true⟩:=(by rw[q,A6 (by omega),Ab (by simp only[Au,B1];omega),AR (by simp only[Au,B1];omega)]);have AP:l.Y (t.ac+6+8+3)=some ⟨D4 u.Af.length λ_=> .bool false,true⟩:=(by rw[q,AR (by simp only[Au,B1];omega),Vv]);have BA:=(K 0 B0).trans T;have BB:=(K 1 B2).trans A2;have BC:=(K 10 B3).trans A8;simp only[BE]at q;rw[<-q];clear q;obtain⟨g4,AQ⟩: ∃x,x=t.ac+6+6:=⟨_,rfl⟩
  obtain⟨iC,AS⟩: ∃x,x=t.ac+6+8+3:=⟨_,rfl⟩
  rw[<-AQ,<-AS]at AN;rw[<-AQ]at AO⊢;rw[<-AS]at AP⊢;have BD:iC≠g4:=(by omega);have L:iC≠0/\iC≠1/\iC≠10/\iC≠18:=(by omega);have Bw:=fT u.Af.length p.Af Az AL;refine a0X (je:=p.Af) (BV:=u.Af.length) AL (by omega) (iC:=iC) (by simp) AP (by simp) (by simp) (by simp) λf BF j BG z BH=> ?_;have BI:f 1=AK R:=(j 1 (by decide) (by decide)).trans (by simp[An]);have AT:f 2=AG 0:=(j 2 (by decide) (by decide)).trans (by simp[A9]);have z4:f 4=AG 1:=(j 4 (by decide) (by decide)).trans (by simp[Ap]);have AU:f 6=AG 10:=(j 6 (by decide) (by decide)).trans (by simp[Aq]);have BJ:f 7=AG 18:=(j 7 (by decide) (by decide)).trans (by simp[Ar]);have AV:f 8= .func (.func 183) #[] #[AG 18]:=(j 8 (by decide) (by decide)).trans (by simp[As]);have AW:f 9=Z v:=(j 9 (by decide) (by decide)).trans (by simp[]);have AX:f 11=AG g4:=(j 11 (by decide) (by decide)).trans (by simp[]);have BK:f 12=AM iC u.Af.length 1:=(j 12 (by decide) (by decide)).trans (by simp[]);have BL:f 41=O (u.A3.map CW) 2:=(j 41 (by decide) (by decide)).trans (by simp[C]);have BM:f 42=Z u.A3.length:=(j 42 (by decide) (by decide)).trans (by simp[w]);have BN:f 43=Z v:=(j 43 (by decide) (by decide)).trans (by simp[y]);have BO:Ip BF 18 (J1 u.A3.length u.A5.length u.A4.length) 0 1 (GN u v) [0,1,10,g4,iC]:=by obtain⟨o,BQ,BR,BS,AY⟩:=AN;have BT:=AY iC (by simp);exact⟨o,BQ,by rw[z 18 (λe=>L.2.2.2 e.symm)];exact BR,by rw[z o (λe=>BT.2.1 e.symm)];exact BS,λb hb=>by rw[BH];exact AY b hb⟩
  have AZ:=(z 0 (λe=>L.1 e.symm)).trans BA;have BU:=(z 1 (λe=>L.2.1 e.symm)).trans BB;have W:=(z 10 (λe=>L.2.2.1 e.symm)).trans BC;have M:=(z g4 (λe=>BD e.symm)).trans AO;have Bx:=E AZ;have By:=E W;have Bz:=E M;have C0:v<=1000:=(by omega);have C1:(BE p).length=17:=rfl;simp only[FI,AF,BW]at AA;obtain⟨Aa,Ag,_⟩:=AA;have Aa:=FV Aa;have Ag:=FV Ag;have BY:IntKind.i64.wrap (p.k+p.m)=p.k+p.m:=Ac (by omega) (by omega);have Ai:(GN u v).length<=50000:=(by have:=T2 h.ok v;show(GN u v).length<=_;unfold GN;omega);simp only[BE]at M;simp(disch:=first|omega|simp only[DI.AB];omega)[jC,AU,AV,AW,AX,W,M,BY,-H,-D,-I,-F,-List.map_map];refine(Tp BO (by omega)).AD λr B ⟨Ba,s⟩=> ?_;subst Ba;have X:B.Y 0=some ⟨A7 u,true⟩:=(s.DL 0 (by simp)).trans AZ;have Bb:B.Y 1=some ⟨[Z 0,Z 0,Z 0,.slice none 0 0],true⟩:=(s.DL 1 (by simp)).trans BU;have Bd:B.Y 10=some ⟨[Z u.A3.length,Z u.A5.length],true⟩:=(s.DL 10 (by simp)).trans W;have Be:B.Y g4=some ⟨BE p,true⟩:=(s.DL g4 (by simp)).trans M;have Bf:B.Y iC=some ⟨D4 u.Af.length λi=> .bool (decide ((i:Int)∈p.Af)),true⟩:=(s.DL iC (by simp)).trans BG;have C2:=E X;have Bg:FR u v=Ah.mk 0 (2+v) (p.k+p.m) 0:=(by rw[FR,Aw]);rw[<-Bg]at s;simp[gZ,AT,X,A7];refine a8h h (R:=R) G AJ (p:=p) (g4:=g4) (iC:=iC) Ai ⟨by simpa[Ff]using s.Hu,X,Bb,Bd,Be,Bf,by simp[BI],by simp[AT],by simp[z4],by simp[AU],by simp[BJ],by simp[AV],by simp[AW],by simp[AX],by simp[BK],by simp[BL],by simp[BM],by simp[BN]⟩ (by simp) (by simp) (by simp) λC3 B a=> ?_;have Ak:=a.DH;have Bh:=a.K2;have C4:=E Ak;simp[km,Bh,Ak,A7];refine aCb h (R:=R) G AJ (p:=p) (g4:=g4) (iC:=iC) Ai ⟨by simpa[HD]using a.Hu,a.DH,a.JK,a.Ru,a.ai,a.VS,by simp[a.Fe],by simp[a.K2],by simp[a.Jm],by simp[a.K1],by simp[a.KG],by simp[a.Hc],by simp[a.RP],by simp[a.nB],by simp[a.pr],by simp[a.di],by simp[a.fM],by simp[a.lK]⟩ (by simp) (by simp) (by simp) λC5 t3 d=> ?_;have Bi:=d.lK;simp[Bi,B9];refine Am _ _ ⟨⟨?_,d.DH,d.JK,d.Ru,by simp[d.Fe],by simp[d.K2],by simp[d.Jm],by simp[d.K1],by simp[d.KG],by simp[d.Hc]⟩,by simp[d.di],by simp[d.fM],by simp⟩;rw[sO];exact d.Hu.AD (Aj _) (λ_ _=>rfl) λb hb=> .inl (by simp at hb⊢;omega)
 ·rintro A t ⟨c,C,w,y⟩;simp[Zx,jC,gZ,km,w,y];refine Al _ _ ⟨c.Hu,c.DH,c.JK,c.Ru,?_,?_,?_,?_,?_,?_⟩;all_goals simp[c.Fe,c.K2,c.Jm,c.K1,c.KG,c.Hc]
def Hd(u:AL)(R:List Int)(i:Nat):List Ah:=GN u u.A3.length++(List.range i).map (HX u R)
theorem m9:Hd u R (i+1)=Hd u R i++[HX u R i]:=by simp[Hd,MV]
theorem ub:Hd u R u.A4.length=Ak u R:=rfl
theorem a6E(h:B4 u)(a:Mh u R (Hd u R 0) A t)(d:A 141=AK (Ck u R))(b:A 142=Z u.A4.length)(c:A 143=Z 0)
 (m: ∀j f,Mh u R (Ak u R) j f->Q (.Ao 8) j f):Bc V (.loop Y0) A t Q:=by
 have K:=h.ok.Cg;have L:=h.ok.Es;have M:=h.ok.EF;have N:=h.ok.D6;refine Cc (aC:=⟨[Z7],[]⟩) (λi A t=>Mh u R (Hd u R i) A t/\A 141=AK (Ck u R)/\A 142=Z u.A4.length/\A 143=Z i) u.A4.length ?_ ?_ 0 A t (C8 _) ⟨a,d,b,c⟩
 ·rintro i A t o ⟨a,d,b,c⟩ P p;obtain⟨q,s,v,g,w,x,y,k,z,l⟩:=a;have B:(Ck u R)[i]?=some (CN u R i):=(by rw[MZ,GH o]);have C: ∀h,(Ck u R)[i]'h=CN u R i:= λh=>(Ae.1 B).2;have D:(Ck u R).length=u.A4.length:=SC;have S:i<(Ck u R).length:=(by omega);have F:(i:Int)<u.A4.length:=(by omega);have G:=BZ (n:=i) (by omega);have T:=E g;have U:u.A3.length<=1000/\u.A5.length<=1000/\i<=1000:=(by omega);simp(disch:=first|omega|simp only[DI.AB];omega)[Y0,k,l,d,b,c,g,F,C,D];have H:(Hd u R i).length<=100000:=by
   have:=T2 h.ok u.A3.length;simp only[Hd,GN,En,E9,List.length_range];omega
  refine(Tp q H).AD λr f ⟨I,e⟩=> ?_;subst I;simp[c,G];have J:HX u R i=Ah.mk (J1 u.A3.length u.A5.length i) 1 (CN u R i) 0:=rfl;rw[<-J]at e;refine p _ _ ⟨⟨by rw[m9];exact e.Hu,(e.DL 0 (by simp)).trans s,(e.DL 1 (by simp)).trans v,(e.DL 10 (by simp)).trans g,by simp[w],by simp[x],by simp[y],by simp[k],by simp[z],by simp[l]⟩,by simp[d],by simp[b],by simp⟩
 ·rintro A t ⟨a,d,b,c⟩;rw[ub]at a;simp[Y0,b,c];refine m _ _ ⟨a.Hu,a.DH,a.JK,a.Ru,?_,?_,?_,?_,?_,?_⟩;all_goals simp[a.Fe,a.K2,a.Jm,a.K1,a.KG,a.Hc]
theorem a0j(h:B4 u):Bh V 124 [.agg (A7 u).toArray,AK R] Cl λv d=> ∃o,v= .tuple #[.agg #[Z (D0 u R).AS,Z 0,Z 1,AM o (Ak u R).length 4],Z 0]/\d.Y o=some ⟨BI (Ak u R),true⟩:=by
 have t:=h.ok.Nz;have w:=h.ok.Cg;have x:=h.ok.Es;have y:=h.ok.EF;have A:=h.ok.D6;have B:u.A3.length<=1000/\u.A5.length<=1000/\u.A4.length<=1000:=by omega
 refine Ax (aC:=⟨[Yk u h.Cu,Ys,XN,Z7,jq u h],[]⟩) YA.2 ?_;simp(disch:=first|omega|simp only[DI.AB];omega)[YA,q1,A7,-H,-D,-I,-F,-List.map_map];refine Nd (o:=18) (j:=3) (z:=4) (cs:=[Z (J1 u.A3.length u.A5.length u.A4.length),Z 0,Z 1,.slice none 0 0]) (by simp(disch:=first|omega|simp only[DI.AB];omega)[-H,-D,-I,-F,-List.map_map]) rfl ?_;refine a7u h (R:=R) ⟨⟨20,by decide,?_,?_,λb hb=> ?_⟩,?_,?_,?_,by simp,by simp,by simp,by simp,by simp,by simp⟩ (by simp) (by simp) (by simp) λG d a=> ?_
 ·simp(disch:=first|omega|simp only[DI.AB];omega)[-H,-D,-I,-F,-List.map_map]
 ·simp(disch:=first|omega|simp only[DI.AB];omega)[BI,-H,-D,-I,-F,-List.map_map]
 ·simp at hb⊢;rcases hb with rfl|rfl|rfl<;>simp
 ·simp(disch:=first|omega|simp only[DI.AB];omega)[A7,-H,-D,-I,-F,-List.map_map]
 ·simp(disch:=first|omega|simp only[DI.AB];omega)[-H,-D,-I,-F,-List.map_map]
 ·simp(disch:=first|omega|simp only[DI.AB];omega)[-H,-D,-I,-F,-List.map_map]
 have f:=a.DH;have J:=E f;have k:=a.Fe;have l:=a.K2;have m:(Ck u R).length=u.A4.length:=SC;simp(disch:=first|omega|simp only[DI.AB];omega)[s5,k,l,f,A7,m,-H,-D,-I,-F,-List.map_map];refine a6E h (R:=R) ⟨by simpa[Hd]using a.Hu,a.DH,a.JK,a.Ru,by simp[a.Fe],by simp[a.K2],by simp[a.Jm],by simp[a.K1],by simp[a.KG],by simp[a.Hc]⟩ (by simp) (by simp) (by simp) λK L c=> ?_;obtain⟨o,M,g,n,p⟩:=c.Hu;have i:=c.JK;have N:=E i;have O:=E g;have q:=c.Jm;have r:=c.KG;have s:o≠1:= λe=>(p 1 (by simp)).2.1 e.symm;simp(disch:=first|omega|simp only[DI.AB];omega)[pC,q,r,g,i,-H,-D,-I,-F,-List.map_map];refine⟨o,⟨rfl,rfl⟩,?_⟩;rw[A6 s];exact n
theorem a7A(h:B4 u)(t:X):Bh V 124 [.agg (A7 u).toArray,AK R] t λv e=>v= .tuple #[.agg #[Z (D0 u R).AS,Z 0,Z 1,AM t.ac (Ak u R).length 4],Z 0]/\e=C4 t.ac [BI (Ak u R)] (t.AE 1):=by
 refine Qy (n:=1) (r:= λk=> .tuple #[.agg #[Z (D0 u R).AS,Z 0,Z 1,AM k (Ak u R).length 4],Z 0]) (bs:= λ_=>[BI (Ak u R)]) (λ_=>rfl) (λv b=>by simp at b;rcases b with rfl|rfl<;>rfl) ((a0j h).AD λv g ⟨o,b,f⟩=>⟨[o],by simp,rfl,λk=>⟨?_,λi cs c=> ?_⟩⟩) t
 ·rw[b];exact FO.Uc (Cf.cons (FO.U2 (Cf.cons (.DE rfl) (Cf.cons (.DE rfl) (Cf.cons (.DE rfl) (Cf.cons (.slice ⟨0,rfl,rfl⟩) Cf.nil))))) (Cf.cons (.DE rfl) Cf.nil))
 ·cases i with
  | zero=>simp at c;subst c;refine⟨o,_,rfl,f,Cf.cells λv b=> ?_⟩;simp only[BI,Mv,CG]at b;obtain⟨r,⟨a,_,rfl⟩,d⟩:=b;simp[BC]at d;rcases d with rfl|rfl|rfl|rfl<;>rfl
  |succ i=>simp at c
abbrev w6(u:AL)(h:B4 u):Cp V:= .B9 124 (List Int) (λR=>[.agg (A7 u).toArray,AK R]) (λR t=>some (.tuple #[.agg #[Z (D0 u R).AS,Z 0,Z 1,AM t.ac (Ak u R).length 4],Z 0],C4 t.ac [BI (Ak u R)] (t.AE 1))) λR t r c d a7 e=>by cases d;exact(a7A h t).AD λr c ⟨a,b⟩=>by rw[a,b];exact e
@[simp] theorem aKI{h:B4 u}:(w6 u h).fn [.agg #[Z u.ext,O (u.Bu.map CS) 4,O (u.Af.map CX) 4,O (u.A5.map Bq) 7,O (u.A4.map Bx) 3,O (u.B7.map BE) 17,O (u.A3.map CW) 2],O (R.map λx=>[Z x]) 1] t=some (.tuple #[.agg #[Z (D0 u R).AS,Z 0,Z 1,AM t.ac (Ak u R).length 4],Z 0],C4 t.ac [BI (Ak u R)] (t.AE 1)):=Cp.BH (x:=R) (t:=t) λy a=>by
  have:y=R:=by simpa using a
  rw[this]
end Go.Proofs.YtmmkkggfmigppaaGreat
end
