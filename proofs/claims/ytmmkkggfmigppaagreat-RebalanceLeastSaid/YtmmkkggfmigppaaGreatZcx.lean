/- A part of the proof. -/
import Derived.Test.YtmmkkggfmigppaaGreatZcw
set_option linter.all false
set_option maxRecDepth 8000
set_option maxHeartbeats 16000000
namespace Go.Proofs.YtmmkkggfmigppaaGreat
open Go Go.DI Go.Ex
theorem BK.trans{a b c:V}(h:BK a b)(d:BK b c):BK a c:=⟨Dh h.next d.next,λx e=>by rw[d.W x (Eo e h.next),h.W x e]⟩
variable{b i:Nat}{x:Option Bw}{a:Ae}{l:List Ae}{n:CG}{o:Bool}{Q:BM->A6->V->Prop}
theorem BK.some{m B:V}(h:BK m B){x:Bw}(hb:m.W b=some x):B.W b= .some x:=by rw[h.W b (F hb),hb]
theorem BK.AE{m B:V}(h:BK m B)(k:Nat):BK m (B.AE k):=⟨by have:=h.next;simp only[BC];omega,λb hb=>by have:=h.next;rw[AU (by omega),h.W b hb]⟩
theorem BK.A0{m B:V}(h:BK m B)(a:m.next<=i):BK m (B.A0 i x):=⟨h.next,λb hb=>by rw[A3 (by omega),h.W b hb]⟩
def Cj(a:Ae):List Value:=[Y a.f,Y a.t,Y a.c,Y a.k]
def Ck(l:List Ae):List Value:=(l.map Cj).flatten
@[simp] theorem mV: ∀(l:List Ae),(Ck l).length=l.length*4
  |[]=>rfl
  | a::l=>by have:=mV l;simp only[Ck,E1,HM,Ds,Df]at this⊢;rw[this];simp[Cj];omega
theorem LX: ∀{l:List Ae} {i:Nat} {a:Ae},l[i]?=some a->((Ck l).drop (i*4)).take 4=Cj a
 |[],_,_,h=>by simp at h
 |b::l,0,a,h=>by simp at h;subst h;rfl
 | b::l,i+1,a,h=>by have:= @LX l i a (by simpa using h);rw[<-this,show(i+1)*4=i*4+4 by omega];simp[Ck,Cj]
theorem NX{j:Nat}(h:l[i]?=some a)(b:j<4):(Ck l)[i*4+j]?=(Cj a)[j]?:=by rw[<-LX h,QO,if_pos b,Pw]
def GX(m:V)(v:Value)(l:List Ae):Prop:=(v= .slice none 0 0/\l=[])\/ ∃b o,v= .slice (some ⟨b,0,none⟩) l.length 4/\m.W b=some ⟨Ck l,o⟩
def Ib(m:V)(v:Value)(l:List Int):Prop:=(v= .slice none 0 0/\l=[])\/ ∃b o,v= .slice (some ⟨b,0,none⟩) l.length 1/\m.W b=some ⟨l.map (Value.int .i64 ·),o⟩
variable {m B:V} {v:Value}
theorem GX.AG(h:GX m v l)(a:BK m B):GX B v l:=by
 rcases h with h|⟨b,o,c,d⟩
 ·exact .inl h
 ·exact .inr ⟨b,o,c,a.some d⟩
theorem Ib.AG{l:List Int}(h:Ib m v l)(a:BK m B):Ib B v l:=by
 rcases h with h|⟨b,o,c,d⟩
 ·exact .inl h
 ·exact .inr ⟨b,o,c,a.some d⟩
theorem GX.len(h:GX m v l):De v=l.length/\Lo v=true:=by rcases h with⟨rfl,rfl⟩|⟨b,o,rfl,_⟩<;>exact⟨rfl,rfl⟩
theorem Ib.len{l:List Int}(h:Ib m v l):De v=l.length/\Lo v=true:=by rcases h with⟨rfl,rfl⟩|⟨b,o,rfl,_⟩<;>exact⟨rfl,rfl⟩
theorem GX.C1(h:GX m v l)(a:i<l.length): ∃b o,v= .slice (some ⟨b,0,none⟩) l.length 4/\m.W b=some ⟨Ck l,o⟩:=by
 rcases h with⟨_,rfl⟩|h
 ·simp at a
 ·exact h
theorem Ib.C1{l:List Int}(h:Ib m v l)(a:i<l.length): ∃b o,v= .slice (some ⟨b,0,none⟩) l.length 1/\m.W b=some ⟨l.map (Value.int .i64 ·),o⟩:=by
 rcases h with⟨_,rfl⟩|h
 ·simp at a
 ·exact h
abbrev FV(n:CG)(v:Value):List Value:=[Y n.Am,Y n.Aj,Y n.BJ,v]
abbrev Ol(n:CG)(v:Value):Value:= .agg #[Y n.Am,Y n.Aj,Y n.BJ,v]
def Jh(n:CG)(x:Int):Bool:=decide (0<=x)&&decide (x<n.Am)
def M4(n:CG)(a:Ae):Bool:=Jh n a.f&&Jh n a.t&& !decide (a.c<0)&& !decide (2147483647<a.c)
def H3(n:CG):Bool:= !decide (n.Am<2)&& !decide (700<n.Am)&& !decide (2500<n.AF.length)&&Jh n n.Aj&&Jh n n.BJ&& !decide (n.Aj=n.BJ)&&n.AF.all (M4 n)
theorem aEO{x:Int}:Jh n x=true↔n.Cy x:=by simp[Jh,CG.Cy]
theorem W2:H3 n=true↔n.Cz:=by
 simp only[H3,AB,Iz,Nd,BF,aEO,M4];constructor
 ·rintro⟨⟨⟨⟨⟨⟨i,j⟩,k⟩,b⟩,c⟩,d⟩,e⟩;exact⟨by omega,by omega,by omega,b,c,d,λa f=>by obtain⟨⟨⟨g,h⟩,a3⟩,a4⟩:=e a f;exact⟨g,h,by omega,by omega⟩⟩
 ·rintro⟨i,j,k,b,c,d,e⟩;exact⟨⟨⟨⟨⟨⟨by omega,by omega⟩,by omega⟩,b⟩,c⟩,d⟩,λa f=>by obtain⟨g,h,a3,a4⟩:=e a f;exact⟨⟨⟨g,h⟩,by omega⟩,by omega⟩⟩
theorem sb{v:Value}{m:V}(h:m.W b=some ⟨FV n v,o⟩)(x:Int)(a7:Value->V->Prop):Aq U 234 [Y x,AA b] m a7=a7 (.bool (Jh n x)) m:=by refine(H5.JZ ?_).wp;rw[aAe (by simp)];by_cases a:0<=x<;>by_cases c:x<n.Am<;>simp[fR,h,a,c,Jh]
theorem pQ{v:Value}{g:V}(H:g.W b=some ⟨FV n v,true⟩)(P:GX g v n.AF)(Z:n.AF.length<100000): ∀(r i:Nat) (m:V) (A:A6),i+r=n.AF.length->BK g m->
 A 43=v->A 44=Y n.AF.length->A 45=Y i->A 3= .func (.func 234) #[] #[AA b]->
 (∀d B,BK g B->(n.AF.drop i).all (M4 n)=true->Q (.Ai 0) d B)->(∀d B,BK g B->(n.AF.drop i).all (M4 n)=false->d 2= .bool false->Q .DO d B)->BS U (.loop Ow) A m Q
 | 0,i,m,A,A1,u,j,h,l,p,I,J=>by refine D7 λR S=> ?_;have e: ¬i<n.AF.length:=(by omega);simp[Ow,h,l,e];exact I _ _ u (by rw[S2 (by omega)];rfl)
 | r+1,i,m,A,A1,u,j,h,l,p,I,J=>by
   refine D7 λR S=> ?_;have e:i<n.AF.length:=(by omega);obtain⟨a,K⟩: ∃a,n.AF[i]?=some a:=⟨n.AF[i]'e,by simp⟩;have L:n.AF.drop i=a::n.AF.drop (i+1):=by rw[Iy e];rw[AS e]at K;cases K;rfl
   obtain⟨c,o,rfl,A2⟩:=P.C1 e;have w:=u.some A2;have T:=u.some H;have A4:=F T;have AM:=F w;have AN:=u.next
   have AO:=F H;have hb:i*4+4<=n.AF.length*4:=(by omega);have C:=LX K;have A5:=BX (n:=i) (by omega);have q: ∀(x:Int) (k:Nat) (y:Bw) (a7:Value->V->Prop),Aq U 234 [Y x,AA b] ((m.AE 4).A0 (m.next+2) (some y)) a7=a7 (.bool (Jh n x)) ((m.AE 4).A0 (m.next+2) (some y)):= λx k y a7=>
    sb (by rw[A3 (by omega),AU A4];exact T) x a7
   have q:= λx y a7=>q x 0 y a7;have next: ∀(d:A6) (B:V),M4 n a=true->BK g B->d 43= .slice (some ⟨c,0,none⟩) n.AF.length 4->d 44=Y n.AF.length->d 45=Y ((i:Int)+1)->d 3= .func (.func 234) #[] #[AA b]->R d B:=by
    intro d B X M A7 A8 A9 AB;refine S _ _ (pQ H P Z r (i+1) B d (by omega) M A7 A8 (by rw[A9];simp) AB (λAG AH N O=>I _ _ N ?_) (λAG AH N O AJ=>J _ _ N ?_ AJ))
    ·rw[L,Fz,X,O];rfl
    ·rw[L,Fz,X,O];rfl
   have stop: ∀(d:A6) (B:V),M4 n a=false->BK g B->d 2= .bool false->Q .DO d B:= λd B AK M AL=>J _ _ M (by rw[L,Fz,AK];rfl) AL;have D: ∀y,BK g ((m.AE 4).A0 (m.next+2) (some y)):= λy=>(u.AE 4).A0 (by omega);cases s:Jh n a.f
   ·simp(disch:=first|omega|simp only[AD];omega)[Ow,j,h,l,p,e,w,hb,C,Cj,q,s];exact stop _ _ (by simp[M4,s]) (D _) (by simp)
   cases z:Jh n a.t
   ·simp(disch:=first|omega|simp only[AD];omega)[Ow,j,h,l,p,e,w,hb,C,Cj,q,s,z];exact stop _ _ (by simp[M4,z]) (D _) (by simp)
   by_cases E:a.c<0
   ·simp(disch:=first|omega|simp only[AD];omega)[Ow,j,h,l,p,e,w,hb,C,Cj,q,s,z,E];exact stop _ _ (by simp[M4,E]) (D _) (by simp)
   by_cases G:2147483647<a.c
   ·simp(disch:=first|omega|simp only[AD];omega)[Ow,j,h,l,p,e,w,hb,C,Cj,q,s,z,E,G];exact stop _ _ (by simp[M4,G]) (D _) (by simp)
   ·simp(disch:=first|omega|simp only[AD];omega)[Ow,j,h,l,p,e,w,hb,C,Cj,q,s,z,E,G,A5];exact next _ _ (by simp[M4,s,z,E,G]) (D _) (by simp[j]) (by simp[h]) (by simp) (by simp[p])
end Go.Proofs.YtmmkkggfmigppaaGreat
namespace Go.DI
open Go Go.RowKit
variable {P:Program} {an:J9 P} {t:V} {A:A6} {c:D} {Q:BM->A6->V->Prop}
end Go.DI
namespace Go.Proofs.YtmmkkggfmigppaaGreat
open Go Go.DI Go.Big Go.Ex
variable{v a1 i d q b ih ku o c:Nat}{a:Ae}{l dj:List Ae}{C aJ bG x:Int}{aF ps:List Nat}{au t:V}{u:AY}{A:A6}{Q:BM->A6->V->Prop}{R iJ r:List Int}{p:Dw}{L:List (List Int)}{n:CG}
theorem aEG{a1 a:Int}(b:v<=1000):AL U 127 [.agg #[Y a1,Y a],Y v] (Y (2+v)):=by refine BG (Ak (an:=⟨[],[]⟩) zY (by kernel_rfl) (by simp[Yi]) ?_);have w:IntKind.i64.wrap (2+(v:Int))=2+v:=Ah (by omega) (by omega);simp[Yi,vr,w]
noncomputable def Xb:AK U:= .B8 127 (Int×Int×Nat) (λx=>x.2.2<=1000) (λx=>[.agg #[Y x.1,Y x.2.1],Y x.2.2]) (λx=>Y (2+x.2.2)) λ_ h=>aEG h
@[simp] theorem aNn:Xb.f=127:=rfl
@[simp] theorem aLp{a1 d:Int}(e:v<=1000):Xb.fn [.agg #[Y a1,Y d],Y v]=some (Y (2+v)):=AK.BD (x:=(a1,d,v)) e λ⟨a,b,c⟩ f=>by simp at f⊢;omega
def Nu(a1 a v i:Nat):Int:=if i=0 then 2+(v:Int)else 2+a1+v*((a:Int)-1)+i-1
def Ii(a1 a d:Nat):Int:=2+(a1:Int)*a+d
theorem a3X{a:Nat}(j:a1<=1000)(k:1<=a/\a<=1000)(l:v<=1000)(m:i<=1000):AL U 128 [.agg #[Y a1,Y a],Y v,Y i] (Y (Nu a1 a v i)):=by
 refine BG (Ak (an:=⟨[Xb],[]⟩) so (by kernel_rfl) (by simp[XW]) ?_);unfold Nu;by_cases c:i=0
 ·subst c;simp(disch:=first|omega|simp only[DI.A2];omega)[XW,kO]
 ·have n: ¬(i:Int)=0:=(by omega);have o:0<=(v:Int)*((a:Int)-1):=R9 (by omega) (by omega);have p:(v:Int)*((a:Int)-1)<=1000*1000:=Int.le_trans (My (by omega) (by omega)) (aI (by omega) (by omega));have b:IntKind.i64.wrap (2+(a1:Int))=2+a1:=Ah (by omega) (by omega);have d:IntKind.i64.wrap ((a:Int)-1)=(a:Int)-1:=Ah (by omega) (by omega);have e:IntKind.i64.wrap ((v:Int)*((a:Int)-1))=(v:Int)*((a:Int)-1):=Ah (by omega) (by omega);have f:IntKind.i64.wrap (2+(a1:Int)+(v:Int)*((a:Int)-1))=2+(a1:Int)+(v:Int)*((a:Int)-1):=Ah (by omega) (by omega);have g:IntKind.i64.wrap (2+(a1:Int)+(v:Int)*((a:Int)-1)+i)=2+(a1:Int)+(v:Int)*((a:Int)-1)+i:=Ah (by omega) (by omega);have h:IntKind.i64.wrap (2+(a1:Int)+(v:Int)*((a:Int)-1)+i-1)=2+(a1:Int)+(v:Int)*((a:Int)-1)+i-1:=Ah (by omega) (by omega);simp[XW,kO,c,b,d,e,f,g,h]
noncomputable def Vp:AK U:= .B8 128 (Nat×Nat×Nat×Nat) (λx=>(x.1<=1000/\1<=x.2.1/\x.2.1<=1000)/\x.2.2.1<=1000/\x.2.2.2<=1000) (λx=>[.agg #[Y x.1,Y x.2.1],Y x.2.2.1,Y x.2.2.2]) (λx=>Y (Nu x.1 x.2.1 x.2.2.1 x.2.2.2)) λ_ h=>a3X h.1.1 h.1.2 h.2.1 h.2.2
@[simp] theorem aGE:Vp.f=128:=rfl
@[simp] theorem aGH{e:Nat}(h:(a1<=1000/\1<=e/\e<=1000)/\v<=1000/\i<=1000):Vp.fn [.agg #[Y a1,Y e],Y v,Y i]=some (Y (Nu a1 e v i)):=AK.BD (x:=(a1,e,v,i)) h λ⟨a,b,c,d⟩ f=>by simp at f⊢;omega
theorem a0B{a:Nat}(f:a1<=1000)(g:a<=1000)(h:d<=1000):AL U 129 [.agg #[Y a1,Y a],Y d] (Y (Ii a1 a d)):=by refine BG (Ak (an:=⟨[],[]⟩) qc (by kernel_rfl) (by simp[Yc]) ?_);have i:0<=(a1:Int)*(a:Int):=R9 (by omega) (by omega);have j:(a1:Int)*(a:Int)<=1000*1000:=Int.le_trans (My (by omega) (by omega)) (aI (by omega) (by omega));have b:IntKind.i64.wrap ((a1:Int)*(a:Int))=(a1:Int)*a:=Ah (by omega) (by omega);have c:IntKind.i64.wrap (2+(a1:Int)*a)=2+(a1:Int)*a:=Ah (by omega) (by omega);have e:IntKind.i64.wrap (2+(a1:Int)*a+d)=2+(a1:Int)*a+d:=Ah (by omega) (by omega);unfold Ii;simp[Yc,pf,b,c,e]
noncomputable def XN:AK U:= .B8 129 (Nat×Nat×Nat) (λx=>x.1<=1000/\x.2.1<=1000/\x.2.2<=1000) (λx=>[.agg #[Y x.1,Y x.2.1],Y x.2.2]) (λx=>Y (Ii x.1 x.2.1 x.2.2)) λ_ h=>a0B h.1 h.2.1 h.2.2
@[simp] theorem aJh:XN.f=129:=rfl
@[simp] theorem aLJ{e:Nat}(h:a1<=1000/\e<=1000/\d<=1000):XN.fn [.agg #[Y a1,Y e],Y d]=some (Y (Ii a1 e d)):=AK.BD (x:=(a1,e,d)) h λ⟨a,b,c⟩ f=>by simp at f⊢;omega
theorem a2h:Ck (l++[a])=Ck l++Cj a:=by simp[Ck]
def JU(t:V)(q:Nat)(bG aJ C:Int)(l:List Ae)(aF:List Nat):Prop:= ∃o,q≠o/\t.W q=some ⟨[Y bG,Y aJ,Y C,.slice (some ⟨o,0,none⟩) l.length 4],true⟩/\t.W o=some ⟨Ck l,true⟩/\ ∀b∈aF,b≠q/\b≠o/\b<t.next
theorem JU.AG{q8:List Nat}(h:JU t q bG aJ C l aF)(k:t.next<=au.next)(a: ∀b,b<t.next->au.W b=t.W b)(e: ∀b∈q8,b∈aF\/(t.next<=b/\b<au.next)):JU au q bG aJ C l q8:=by
 obtain⟨o,f,c,d,g⟩:=h;have i:=F c;have j:=F d;refine⟨o,f,by rw[a q i];exact c,by rw[a o j];exact d,λb hb=> ?_⟩;rcases e b hb with h|h
 ·have:=g b h;exact⟨this.1,this.2.1,by omega⟩
 ·exact⟨by omega,by omega,h.2⟩
structure tK(t:V)(q:Nat)(bG aJ C:Int)(l:List Ae)(aF:List Nat)(au:V):Prop where
 M0:JU au q bG aJ C l aF
 next:t.next<=au.next
 DW: ∀b∈aF,au.W b=t.W b
theorem XZ(h:JU t q bG aJ C l aF)(u:l.length<=100000){f g c:Int}:
 Bv U 183 [Y f,Y g,Y c,.pointer (some ⟨q,0,none⟩)] t λv au=>v= .tuple #[]/\tK t q bG aJ C (l++[(Ae.mk f g c 0)]) aF au:=by
 obtain⟨o,j,a,d,i⟩:=h;refine Ak (an:=⟨[],[]⟩) zN (by kernel_rfl) (by simp[ei]) ?_;have w:=F a;have x:=F d;have k:(l.length+1)*32<=140737488355328/\l.length<=9223372036854775806:=by omega
 have y: ¬o=q:= λe=>j e.symm;simp(disch:=first|omega|simp only[DI.A2];omega)[ei,uE,a,d,k,-H,-E,-I,-G,-List.map_map];have m:List.take (l.length*4) (Ck l)=Ck l:=DV (by rw[mV];exact Ao _);have n: ¬t.next+7=q:=by omega
 refine⟨⟨t.next+7,by omega,?_,?_,λb hb=> ?_⟩,by simp,λb hb=> ?_⟩
 ·rw[AT (by simp;omega)];simp
 ·rw[A3 n,AT (by simp),m,a2h];rfl
 ·have:=i b hb;exact⟨this.1,by omega,by simp;omega⟩
 ·obtain⟨p,r,s⟩:=i b hb;rw[A3 p,A3 (by omega),A3 r,A3 (by omega),AU s]
structure NG(u:AY)(R:List Int)(v:Nat)(p:Dw)(l:List Ae)(ku ih:Nat)(A:A6)(t:V):Prop where
 M0:JU t 18 (Ii u.A7.length u.A5.length u.A1.length) 0 1 l [0,1,10,ku,ih]
 Cr:t.W 0=some ⟨A4 u,true⟩
 OJ:t.W 1=some ⟨[Y 0,Y 0,Y 0,.slice none 0 0],true⟩
 SP:t.W 10=some ⟨[Y u.A7.length,Y u.A5.length],true⟩
 Ij:t.W ku=some ⟨B3 p,true⟩
 tg:t.W ih=some ⟨Ct u.Aa.length λi=> .bool (decide ((i:Int)∈p.Aa)),true⟩
 ET:A 1=AH R
 GG:A 2=AA 0
 RB:A 4=AA 1
 PD:A 6=AA 10
 LD:A 7=AA 18
 GJ:A 8= .func (.func 183) #[] #[AA 18]
 Xe:A 9=Y v
 yS:A 11=AA ku
 qD:A 12=AQ ih u.Aa.length 1
 lX:A 41=M (u.A7.map Cd) 2
 iE:A 42=Y u.A7.length
 fT:A 43=Y v
def IB(u:AY)(dj:List Ae)(v i:Nat):List Ae:=dj++Ft u v::(List.range (i-1)).map λj=>Jd u v (j+1)
theorem a5J(a:1<=i):IB u dj v (i+1)=IB u dj v i++[Jd u v i]:=by obtain⟨k,rfl⟩: ∃k,i=k+1:=⟨i-1,by omega⟩;simp[IB,MO]
theorem pq:(IB u dj v i).length<=dj.length+1+i:=by simp[IB];omega
theorem JU.g(h:JU t q bG aJ C l aF)(hb:b∈aF):b≠q/\b<t.next:=by obtain⟨o,_,_,_,a⟩:=h;have:=a b hb;exact⟨this.1,this.2.2⟩
theorem a3R(h:Av u)(Ab:v<u.A7.length)(A9:u.Ay[GI u v]?=some p)(B0:dj.length<=50000)
 (f:NG u R v p (IB u dj v 0) ku ih A t) (s:A 80=M (u.A5.map Bd) 7) (o:A 81=Y u.A5.length) (w:A 82=Y 0) (Ac: ∀q au,NG u R v p (IB u dj v u.A5.length) ku ih q au->Q (.Ai 4) q au):BY U (.loop Sp) A t Q:=by
 have B1:=h.ok.DD;have B2:=h.ok.F4;have B4:=h.ok.Di;obtain⟨B5,AD,_,_,AF,B6⟩:=WE h.ok Ab;rw[A9]at AD;cases AD;simp only[Fc,AB,Ba]at AF;obtain⟨AH,AJ,B7,B8,B9,BA,BB,BC,BD,BE⟩:=AF;have AH:=GQ AH;have AJ:=GQ AJ;refine CE (an:=⟨[Vp],[]⟩) (λi A t=>NG u R v p (IB u dj v i) ku ih A t/\A 80=M (u.A5.map Bd) 7/\A 81=Y u.A5.length/\A 82=Y i) u.A5.length ?_ ?_ 0 A t (C0 _) ⟨f,s,o,w⟩
 ·rintro i A t AK ⟨f,s,o,w⟩ BF J;obtain⟨d,z⟩:=CF AK;have K:=(AX.1 z).2;have AL:(i:Int)<u.A5.length:=(by omega);have AM:=BX (n:=i) (by omega);have BG:=f;obtain⟨B,AN,Ad,C,D,AO,Af,Ag,Ak,L,Al,N,O,S,Am,An,Ao,Ap⟩:=f;have BH:=F AN;have BI:=F C;have BJ:=F D;have BK:=F AO;have BL:=B.g (b:=ku) (by simp);have AQ: ∀(q:A6) (au:V) (T:List Ae),JU au 18 (Ii u.A7.length u.A5.length u.A1.length) 0 1 T [0,1,10,ku,ih]->(∀b∈[0,1,10,ku,ih],au.W b=t.W b)->(∀j,j∈[1,2,4,6,7,8,9,11,12,41,42,43]->q j=A j)->NG u R v p T ku ih q au:= λq au T a b c=>
   ⟨a,by rw[b 0 (by simp),AN],by rw[b 1 (by simp),Ad],by rw[b 10 (by simp),C],by rw[b ku (by simp),D],by rw[b ih (by simp),AO],by rw[c 1 (by simp),Af],by rw[c 2 (by simp),Ag],by rw[c 4 (by simp),Ak],by rw[c 6 (by simp),L],by rw[c 7 (by simp),Al],by rw[c 8 (by simp),N],by rw[c 9 (by simp),O],by rw[c 11 (by simp),S],by rw[c 12 (by simp),Am],by rw[c 41 (by simp),An],by rw[c 42 (by simp),Ao],by rw[c 43 (by simp),Ap]⟩
  have AR: ∀b∈[0,1,10,ku,ih],b<t.next:= λb hb=>(B.g hb).2
  by_cases c:i=0
  ·subst c;have Aq:IntKind.i64.wrap 1=1:=Ah (by omega) (by omega);simp(disch:=first|omega|simp only[DI.A2];omega)[Sp,s,o,w,Aq,K,AK,Bd,-H,-E,-I,-G,-List.map_map];refine J _ _ ⟨AQ _ _ _ (B.AG (by simp) (λb hb=>by rw[A3 (by omega),AU hb]) λb hb=> .inl hb) (λb hb=>by have:=AR b hb;rw[A3 (by omega),AU this]) (λj x=> ?_),by simp[s],by simp[o],by simp⟩;have:j≠83/\j≠84/\j≠85/\j≠86/\j≠16/\j≠15/\j≠87/\j≠88/\j≠113/\j≠82:=by
    simp at x;omega
   simp[FT,this]
  ·have BM: ¬(i:Int)=0:=(by omega);obtain⟨Ar,BN,BO,BP,BQ⟩:=h.ok.Fq i d (by omega) z;obtain⟨P,X⟩:=DP Ar;obtain⟨l,Z⟩:=DP (by omega:0<=d.EH);have BS:(u.A7.length<=1000/\1<=u.A5.length/\u.A5.length<=1000)/\v<=1000/\P<=1000:=(by omega);have BU:(u.A7.length<=1000/\1<=u.A5.length/\u.A5.length<=1000)/\v<=1000/\i<=1000:=(by omega);have As:IntKind.i64.wrap (p.k+p.m)=p.k+p.m:=Ah (by omega) (by omega);have BV:l<5:=(by omega);have AS:(l:Int)<5:=(by omega);have AT:(B3 p).length=17:=rfl;have AV:4+l+1<=17:=(by omega);have At:List.take 1 (B3 p).tail=[Y p.k]:=rfl;have BW:(B3 p)[2]?=some (Y p.m):=rfl;have Au: ∀h,(B3 p)[2]'h=Y p.m:= λ_=>rfl;have AW:HQ u v i=if Fa p.D9 l=0 then p.k+p.m else Fa p.D9 l:=by
    have e:Cb u i=(l:Int):=(by unfold Cb;simp only[z,Z]);unfold HQ;simp only[A9,e]
   have Aw:D3 u i=P:=(by unfold D3;simp only[z,X,EE]);have AY:JU ((t.AE 6).A0 (t.next+3) (some ⟨[CU d.name,Y l,Y P,Y d.SF,.bool d.HH.HY,AP d.HH.a,AP d.HH.b],true⟩)) 18 (Ii u.A7.length u.A5.length u.A1.length) 0 1 (IB u dj v i) [0,1,10,ku,ih]:=B.AG (by simp) (λb hb=>by rw[A3 (by omega),AU hb]) λb hb=> .inl hb;have BZ:=pq (u:=u) (dj:=dj) (v:=v) (i:=i);have AZ: ∀(q:A6) (au:V) (c:Int),c=HQ u v i->tK ((t.AE 6).A0 (t.next+3) (some ⟨[CU d.name,Y l,Y P,Y d.SF,.bool d.HH.HY,AP d.HH.a,AP d.HH.b],true⟩)) 18 (Ii u.A7.length u.A5.length u.A1.length) 0 1 (IB u dj v i++[(Ae.mk (Nu u.A7.length u.A5.length v P) (Nu u.A7.length u.A5.length v i) c 0)]) [0,1,10,ku,ih] au->(∀j,j∈[1,2,4,6,7,8,9,11,12,41,42,43]->q j=A j)->NG u R v p (IB u dj v (i+1)) ku ih q au:= λq au c Ax y x=>by have e:IB u dj v (i+1)=IB u dj v i++[(Ae.mk (Nu u.A7.length u.A5.length v P) (Nu u.A7.length u.A5.length v i) c 0)]:=(by rw[a5J (by omega),Jd,Aw,Ax];rfl);rw[e];exact AQ _ _ _ y.M0 (λb hb=>by rw[y.DW b hb];have:=AR b hb;rw[A3 (by omega),AU this]) x
   have Bb:1<=l:=(by omega);have Az:(B3 p)[4+l]?=some (Y (Fa p.D9 l)):=(by obtain rfl|rfl|rfl|rfl:l=1\/l=2\/l=3\/l=4:=(by omega);all_goals rfl);have Aa: ∀h,(B3 p)[4+l]'h=Y (Fa p.D9 l):= λh=>(AX.1 Az).2;by_cases cs:Fa p.D9 l=0
   ·simp(disch:=first|omega|simp only[DI.A2];omega)[Sp,L,N,O,S,s,o,w,AL,As,K,c,Bd,X,Z,C,D,AS,AT,AV,At,Au,Aa,cs,CC,-H,-E,-I,-G,-List.map_map];refine(XZ AY (by omega)).AG λr au ⟨A4,y⟩=> ?_;subst A4;simp(disch:=first|omega|simp only[DI.A2];omega)[w,AM,-H,-E,-I,-G,-List.map_map];refine J _ _ ⟨AZ _ _ _ (by rw[AW,if_pos cs]) y (λj x=> ?_),by simp[s],by simp[o],by simp⟩;have:j≠83/\j≠84/\j≠85/\j≠86/\j≠16/\j≠15/\j≠17/\(j<87\/113<j)/\j≠82:=by
     simp at x;omega
    obtain⟨K9,KE,LU,O8,JL,Nj,O6,QJ,O7⟩:=this;have A8: ∀k,87<=k->k<=113->j≠k:= λk a b=>by omega
    simp[FT,K9,KE,LU,O8,JL,Nj,O6,O7,A8]
   ·simp(disch:=first|omega|simp only[DI.A2];omega)[Sp,L,N,O,S,s,o,w,AL,K,c,Bd,X,Z,C,D,AS,AT,AV,Aa,cs,CC,-H,-E,-I,-G,-List.map_map];refine(XZ AY (by omega)).AG λr au ⟨A4,y⟩=> ?_;subst A4;simp(disch:=first|omega|simp only[DI.A2];omega)[w,AM,-H,-E,-I,-G,-List.map_map];refine J _ _ ⟨AZ _ _ _ (by rw[AW,if_neg cs]) y (λj x=> ?_),by simp[s],by simp[o],by simp⟩;have:j≠83/\j≠84/\j≠85/\j≠86/\j≠16/\j≠15/\j≠17/\(j<87\/113<j)/\j≠82:=by
     simp at x;omega
    obtain⟨K9,KE,LU,O8,JL,Nj,O6,QJ,O7⟩:=this;have A8: ∀k,87<=k->k<=113->j≠k:= λk a b=>by omega
    simp[FT,K9,KE,LU,O8,JL,Nj,O6,O7,A8]
 ·rintro A t ⟨f,s,o,w⟩;simp(disch:=first|omega|simp only[DI.A2];omega)[Sp,o,w,-H,-E,-I,-G,-List.map_map];refine Ac _ _ ⟨f.M0,f.Cr,f.OJ,f.SP,f.Ij,f.tg,?_,?_,?_,?_,?_,?_,?_,?_,?_,?_,?_,?_⟩;all_goals simp[f.ET,f.GG,f.RB,f.PD,f.LD,f.GJ,f.Xe,f.yS,f.qD,f.lX,f.iE,f.fT]
def Lu(u:AY)(dj:List Ae)(v i:Nat):List Ae:=IB u dj v u.A5.length++((List.range i).filter (Es u v)).map (E8 u v)
theorem aE9:Lu u dj v (i+1)=Lu u dj v i++if Es u v i then[E8 u v i]else[]:=by unfold Lu;rw[a1E];split<;>simp
theorem aCC:(Lu u dj v i).length<=dj.length+1+u.A5.length+i:=by have:=pq (u:=u) (dj:=dj) (v:=v) (i:=u.A5.length);have:=List.length_filter_le (Es u v) (List.range i);simp only[Lu,Ds,Eb];simp only[List.length_range]at this;omega
theorem aFp:Lu u dj v u.A1.length=dj++Gk u v:=by simp[Lu,IB,Gk]
theorem a35(h:Av u)(Ak:v<u.A7.length)(AN:u.Ay[GI u v]?=some p)(Al:dj.length<=50000)
 (d:NG u R v p (Lu u dj v 0) ku ih A t) (f:A 115=M (u.A1.map CB) 3) (e:A 116=Y u.A1.length) (l:A 117=Y 0) (AO: ∀o au,NG u R v p (dj++Gk u v) ku ih o au->Q (.Ai 6) o au):BY U (.loop XI) A t Q:=by
 have Am:=h.ok.DD;have An:=h.ok.Ek;have Ao:=h.ok.F4;have Ap:=h.ok.Di;refine CE (an:=⟨[Vp,XN],[]⟩) (λi A t=>NG u R v p (Lu u dj v i) ku ih A t/\A 115=M (u.A1.map CB) 3/\A 116=Y u.A1.length/\A 117=Y i) u.A1.length ?_ ?_ 0 A t (C0 _) ⟨d,f,e,l⟩
 ·rintro i A t AP ⟨d,f,e,l⟩ Aq N;obtain⟨x,s⟩:=CF AP;have O:=(AX.1 s).2;obtain⟨AQ,Ar,a3,a4,As⟩:=h.ok.Lx i x s;obtain⟨m,z⟩:=DP AQ;obtain⟨w,B⟩:=DP a3;have P:(i:Int)<u.A1.length:=(by omega);have S:=BX (n:=i) (by omega);have At:=d;obtain⟨T,X,AR,C,Z,y,AS,AT,AV,A4,AW,A8,A9,AY,D,AZ,Ab,Ac⟩:=d;have Au:=F X;have Aw:=F C;have Ax:=F Z;have Az:=F y;have AB: ∀(o:A6) (au:V) (J:List Ae),JU au 18 (Ii u.A7.length u.A5.length u.A1.length) 0 1 J [0,1,10,ku,ih]->(∀b∈[0,1,10,ku,ih],au.W b=t.W b)->(∀j,j∈[1,2,4,6,7,8,9,11,12,41,42,43]->o j=A j)->NG u R v p J ku ih o au:= λo au J a b c=>
   ⟨a,by rw[b 0 (by simp),X],by rw[b 1 (by simp),AR],by rw[b 10 (by simp),C],by rw[b ku (by simp),Z],by rw[b ih (by simp),y],by rw[c 1 (by simp),AS],by rw[c 2 (by simp),AT],by rw[c 4 (by simp),AV],by rw[c 6 (by simp),A4],by rw[c 7 (by simp),AW],by rw[c 8 (by simp),A8],by rw[c 9 (by simp),A9],by rw[c 11 (by simp),AY],by rw[c 12 (by simp),D],by rw[c 41 (by simp),AZ],by rw[c 42 (by simp),Ab],by rw[c 43 (by simp),Ac]⟩
  have AD: ∀b∈[0,1,10,ku,ih],b<t.next:= λb hb=>(T.g hb).2
  have AF:m<u.Aa.length:=(by omega);have AH:(m:Int)<u.Aa.length:=(by omega);have AJ:m+1<=u.Aa.length:=AF;have B0:(u.A7.length<=1000/\1<=u.A5.length/\u.A5.length<=1000)/\v<=1000/\w<=1000:=(by omega);have B1:u.A7.length<=1000/\u.A5.length<=1000/\i<=1000:=(by omega);have Ad:Es u v i=decide ((m:Int)∈p.Aa):=(by unfold Es;simp only[AN,s,z]);have Af:CJ u i=w:=(by unfold CJ;simp only[s,B,EE]);have q:(Ct u.Aa.length λi=>Value.bool (decide ((i:Int)∈p.Aa)))[m]?=some (.bool (Es u v i)):=(by rw[Ej AF,Ad]);have AK: ∀h,(Ct u.Aa.length λi=>Value.bool (decide ((i:Int)∈p.Aa)))[m]'h= .bool (Es u v i):= λh=>(AX.1 q).2;have AL:JU ((t.AE 6).A0 (t.next+3) (some ⟨[CU x.name,Y m,Y w],true⟩)) 18 (Ii u.A7.length u.A5.length u.A1.length) 0 1 (Lu u dj v i) [0,1,10,ku,ih]:=T.AG (by simp) (λb hb=>by rw[A3 (by omega),AU hb]) λb hb=> .inl hb;have B2:=aCC (u:=u) (dj:=dj) (v:=v) (i:=i);have es:=aE9 (u:=u) (dj:=dj) (v:=v) (i:=i);cases hb:Es u v i
  ·rw[hb]at q AK es;simp(disch:=first|omega|simp only[DI.A2];omega)[XI,D,f,e,l,P,S,O,CB,z,B,y,AH,AJ,q,CC,-H,-E,-I,-G,-List.map_map];refine N _ _ ⟨?_,by simp[f],by simp[e],by simp⟩;rw[es];simp only[EI,if_false,NP];refine AB _ _ _ AL (λb hb=>by have:=AD b hb;rw[A3 (by omega),AU this]) (λj K=> ?_);have:j≠18/\j≠19/\(j<117\/137<j):=(by simp at K;omega);obtain⟨K9,KE,LU⟩:=this;have L: ∀k,117<=k->k<=137->j≠k:= λk a b=>by omega
   simp[FT,K9,KE,L]
  ·rw[hb]at q AK es;simp(disch:=first|omega|simp only[DI.A2];omega)[XI,A4,A8,A9,D,f,e,l,P,O,CB,z,B,y,C,AH,AJ,q,CC];refine(XZ AL (by omega)).AG λr au ⟨Ag,AM⟩=> ?_;subst Ag;simp[l,S];refine N _ _ ⟨?_,by simp[f],by simp[e],by simp⟩;rw[es];simp only[if_true];have Ah:E8 u v i=Ae.mk (Nu u.A7.length u.A5.length v w) (Ii u.A7.length u.A5.length i) 1 0:=(by rw[E8,Af];rfl);rw[Ah];refine AB _ _ _ AM.M0 (λb hb=>by rw[AM.DW b hb];have:=AD b hb;rw[A3 (by omega),AU this]) (λj K=> ?_);have:j≠18/\j≠19/\(j<117\/137<j):=(by simp at K;omega);obtain⟨K9,KE,LU⟩:=this;have L: ∀k,117<=k->k<=137->j≠k:= λk a b=>by omega
   simp[FT,K9,KE,L]
 ·rintro A t ⟨d,f,e,l⟩;rw[aFp]at d;simp[XI,e,l];refine AO _ _ ⟨d.M0,d.Cr,d.OJ,d.SP,d.Ij,d.tg,?_,?_,?_,?_,?_,?_,?_,?_,?_,?_,?_,?_⟩;all_goals simp[d.ET,d.GG,d.RB,d.PD,d.LD,d.GJ,d.Xe,d.yS,d.qD,d.lX,d.iE,d.fT]
structure MT(u:AY)(R:List Int)(l:List Ae)(A:A6)(t:V):Prop where
 M0:JU t 18 (Ii u.A7.length u.A5.length u.A1.length) 0 1 l [0,1,10]
 Cr:t.W 0=some ⟨A4 u,true⟩
 OJ:t.W 1=some ⟨[Y 0,Y 0,Y 0,.slice none 0 0],true⟩
 SP:t.W 10=some ⟨[Y u.A7.length,Y u.A5.length],true⟩
 ET:A 1=AH R
 GG:A 2=AA 0
 RB:A 4=AA 1
 PD:A 6=AA 10
 LD:A 7=AA 18
 GJ:A 8= .func (.func 183) #[] #[AA 18]
def LV(u:AY)(v:Nat):List Ae:=(List.range v).flatMap (Gk u)
theorem a3T:LV u (v+1)=LV u v++Gk u v:=by simp[LV,MO]
theorem a5w{BP:Nat}(y: ∀m∈iJ,0<=m/\m<BP)(V:iJ.length<=1000000)(z:A 12=AQ ih BP 1)(B:t.W ih=some ⟨Ct BP λ_=> .bool false,true⟩)(u:A 59=AH iJ)(v:A 60=Y iJ.length)(d:A 61=Y 0)
 (C: ∀w au,(∀j,j<61->j≠14->w j=A j)->au.W ih=some ⟨Ct BP λi=> .bool (decide ((i:Int)∈iJ)),true⟩->(∀b,b≠ih->au.W b=t.W b)->au.next=t.next->Q (.Ai 2) w au):BY U (.loop de) A t Q:=by
 refine CE (an:=⟨[],[]⟩) (λi a f=>(∀j,j<61->j≠14->a j=A j)/\f.W ih=some ⟨Ct BP λk=> .bool (decide ((k:Int)∈iJ.take i)),true⟩/\(∀b,b≠ih->f.W b=t.W b)/\f.next=t.next/\a 61=Y i) iJ.length ?_ ?_ 0 A t (C0 _) ⟨λj _ _=>rfl,by simpa using B,λb _=>rfl,rfl,d⟩
 ·rintro i a f D ⟨c,g,h,p,d⟩ X J;obtain⟨m,q⟩:=CF D;have K:=(AX.1 q).2;obtain⟨L,M⟩:=y m (B9 q);obtain⟨l,rfl⟩:=DP L;have N:a 12=AQ ih BP 1:=(c 12 (by decide) (by decide)).trans z;have x:a 59=AH iJ:=(c 59 (by decide) (by decide)).trans u;have r:a 60=Y iJ.length:=(c 60 (by decide) (by decide)).trans v;have O:(i:Int)<iJ.length:=(by omega);have P:l<BP:=(by omega);have R:l+1<=BP:=P;have S:=F g;have T:=BX (n:=i) (by omega);simp(disch:=first|omega|simp only[DI.A2];omega)[de,N,x,r,d,g,O,T,K,M,R,KG,-H,-E,-I,-G,-List.map_map];refine J _ _ ⟨λj s o=> ?_,?_,λb hb=>by rw[A3 hb];exact h b hb,by simpa using p,by simp⟩
  ·have: ∀k,61<=k->j≠k:= λk h=>by omega
   rw[<-c j s o];simp[FT,o,this]
  ·rw[AT S];congr 2;refine FG λk h=> ?_;rw[K4,q];by_cases e:k=l
   ·subst e;simp
   ·have:((k:Int)∈iJ.take i++[(l:Int)])↔(k:Int)∈iJ.take i:=(by simp;omega);simp only[Option.toList_some,this,J5 e,Bool.false_or]
 ·rintro a f ⟨c,g,h,p,d⟩;have x:a 59=AH iJ:=(c 59 (by decide) (by decide)).trans u;have r:a 60=Y iJ.length:=(c 60 (by decide) (by decide)).trans v;rw[EP]at g;simp[de,r,d];refine C _ _ (λj s o=> ?_) g h p;have:j≠62:=(by omega);rw[<-c j s o];simp[FT,this]
theorem lT: ∀(n:Nat) (l:List Int),l.Nodup->(∀x∈l,0<=x/\x<n)->l.length<=n
 | 0,l,_,h=>by
   cases l with
   |nil=>exact Ao _
   |cons x l=>have:=h x (by simp);omega
 | n+1,l,b,h=>by
   have g:=lT n (l.erase (n:Int)) (b.erase _) λx c=>by
    have d:=List.mem_of_mem_erase c;have:=h x d;have i:x≠(n:Int):= λe=>by subst e;exact(List.Nodup.mem_erase_iff b).1 c|>.1 rfl
    omega
   have f:=List.length_erase (a:=(n:Int)) (l:=l);split at f<;>omega
theorem aDt(h:Av u)(c:MT u R [] A t)(C:A 41=M (u.A7.map Cd) 2)(w:A 42=Y u.A7.length)(y:A 43=Y 0)
 (Ak: ∀Z au,MT u R (LV u u.A7.length) Z au->Q (.Ai 0) Z au):BY U (.loop Y9) A t Q:=by
 have Bj:=h.ok.DD;have Bk:=h.ok.Ek;have Bl:=h.ok.F4;have Bm:=h.ok.BP;have Bn:=h.ok.Di;refine CE (an:=⟨[Xb],[]⟩) (λv A t=>MT u R (LV u v) A t/\A 41=M (u.A7.map Cd) 2/\A 42=Y u.A7.length/\A 43=Y v) u.A7.length ?_ ?_ 0 A t (C0 _) ⟨c,C,w,y⟩
 ·rintro v A t D ⟨c,C,w,y⟩ Bo Al;obtain⟨O,S,A6,A8,Am,A9,An,Ap,Aq,As⟩:=c;obtain⟨x,T⟩:=CF D;have At:=(AX.1 T).2;obtain⟨p,J,Bp,Aw,AD,Ax⟩:=WE h.ok D;obtain⟨P,AF⟩:=DP (h.ok.Au v x T).1;have Az:GI u v=P:=(by unfold GI;simp only[T,AF,EE]);have AJ:=J;rw[Az]at J Aw;have B0:=(AX.1 J).2;obtain⟨_,Bq,AK,B1⟩:=h.ok.JD P p J;have B2:=F S;have B4:=F A6;have B5:=F A8;have B6:(v:Int)<u.A7.length:=(by omega);have B7:(P:Int)<u.Ay.length:=(by omega);have B8:(u.Aa.length:Int)*1<=140737488355328/\(u.Aa.length:Int)<=140737488355328/\(u.Aa.length:Int)<=9223372036854775807/\0<=(u.Aa.length:Int)/\u.Aa.length<=140737488355328:=(by omega);have B9:=BX (n:=v) (by omega);simp(disch:=first|omega|simp only[DI.A2];omega)[Y9,A9,C,w,y,S,A4,Cd,B3,At,AF,B0,B6,B7,B8];have Br: ∀b∈[0,1,10],b≠18/\b<t.next:= λb hb=>O.g hb
  have Bs:18<t.next:=by obtain⟨o,_,g,_⟩:=O;exact F g
  obtain⟨l,q⟩: ∃l,l=(((((t.AE 6).A0 (t.next+3) (some ⟨[CU x.name,Y P],true⟩)).AE 8).A0 (t.next+6+6) (some ⟨B3 p,true⟩)).AE 5).A0 (t.next+6+8+3) (some ⟨List.replicate u.Aa.length (Value.bool false),true⟩):=⟨_,rfl⟩;have Bt:l.next=t.next+6+8+5:=by rw[q];simp only[Ar,BC]
  have K: ∀b,b<t.next->l.W b=t.W b:= λb hb=>by rw[q,A3 (by omega),AU (by simp only[Ar,BC];omega),A3 (by omega),AU (by simp only[Ar,BC];omega),A3 (by omega),AU hb]
  have AL:=O.AG (au:=l) (q8:=[0,1,10,t.next+6+6,t.next+6+8+3]) (by omega) K (λb hb=>by simp at hb⊢;omega);have AM:l.W (t.next+6+6)=some ⟨B3 p,true⟩:=(by rw[q,A3 (by omega),AU (by simp only[Ar,BC];omega),AT (by simp only[Ar,BC];omega)]);have AN:l.W (t.next+6+8+3)=some ⟨Ct u.Aa.length λ_=> .bool false,true⟩:=(by rw[q,AT (by simp only[Ar,BC];omega),QE]);have BA:=(K 0 B2).trans S;have BB:=(K 1 B4).trans A6;have BD:=(K 10 B5).trans A8;simp only[B3]at q;rw[<-q];clear q;obtain⟨ku,AO⟩: ∃x,x=t.next+6+6:=⟨_,rfl⟩
  obtain⟨ih,AP⟩: ∃x,x=t.next+6+8+3:=⟨_,rfl⟩
  rw[<-AO,<-AP]at AL;rw[<-AO]at AM⊢;rw[<-AP]at AN⊢;have BE:ih≠ku:=(by omega);have L:ih≠0/\ih≠1/\ih≠10/\ih≠18:=(by omega);have Bv:=lT u.Aa.length p.Aa B1 AK;refine a5w (iJ:=p.Aa) (BP:=u.Aa.length) AK (by omega) (ih:=ih) (by simp) AN (by simp) (by simp) (by simp) λf BF j BG z BH=> ?_;have BI:f 1=AH R:=(j 1 (by decide) (by decide)).trans (by simp[Am]);have AR:f 2=AA 0:=(j 2 (by decide) (by decide)).trans (by simp[A9]);have z4:f 4=AA 1:=(j 4 (by decide) (by decide)).trans (by simp[An]);have AS:f 6=AA 10:=(j 6 (by decide) (by decide)).trans (by simp[Ap]);have BJ:f 7=AA 18:=(j 7 (by decide) (by decide)).trans (by simp[Aq]);have AV:f 8= .func (.func 183) #[] #[AA 18]:=(j 8 (by decide) (by decide)).trans (by simp[As]);have AW:f 9=Y v:=(j 9 (by decide) (by decide)).trans (by simp[]);have AY:f 11=AA ku:=(j 11 (by decide) (by decide)).trans (by simp[]);have BK:f 12=AQ ih u.Aa.length 1:=(j 12 (by decide) (by decide)).trans (by simp[]);have BL:f 41=M (u.A7.map Cd) 2:=(j 41 (by decide) (by decide)).trans (by simp[C]);have BM:f 42=Y u.A7.length:=(j 42 (by decide) (by decide)).trans (by simp[w]);have BN:f 43=Y v:=(j 43 (by decide) (by decide)).trans (by simp[y]);have BO:JU BF 18 (Ii u.A7.length u.A5.length u.A1.length) 0 1 (LV u v) [0,1,10,ku,ih]:=by obtain⟨o,BQ,BS,BU,AZ⟩:=AL;have BV:=AZ ih (by simp);exact⟨o,BQ,by rw[z 18 (λe=>L.2.2.2 e.symm)];exact BS,by rw[z o (λe=>BV.2.1 e.symm)];exact BU,λb hb=>by rw[BH];exact AZ b hb⟩
  have Ab:=(z 0 (λe=>L.1 e.symm)).trans BA;have BW:=(z 1 (λe=>L.2.1 e.symm)).trans BB;have V:=(z 10 (λe=>L.2.2.1 e.symm)).trans BD;have N:=(z ku (λe=>BE e.symm)).trans AM;have Bw:=F Ab;have Bx:=F V;have Bz:=F N;have C1:v<=1000:=(by omega);have C2:(B3 p).length=17:=rfl;simp only[Fc,AB,Ba]at AD;obtain⟨Ac,Ad,_⟩:=AD;have Ac:=GQ Ac;have Ad:=GQ Ad;have BZ:IntKind.i64.wrap (p.k+p.m)=p.k+p.m:=Ah (by omega) (by omega);have Af:(LV u v).length<=50000:=(by have:=c4 h.ok v;show(LV u v).length<=_;unfold LV;omega);simp only[B3]at N;simp(disch:=first|omega|simp only[DI.A2];omega)[iF,AS,AV,AW,AY,V,N,BZ,-H,-E,-I,-G,-List.map_map];refine(XZ BO (by omega)).AG λr B ⟨Bb,s⟩=> ?_;subst Bb;have X:B.W 0=some ⟨A4 u,true⟩:=(s.DW 0 (by simp)).trans Ab;have Bc:B.W 1=some ⟨[Y 0,Y 0,Y 0,.slice none 0 0],true⟩:=(s.DW 1 (by simp)).trans BW;have Bd:B.W 10=some ⟨[Y u.A7.length,Y u.A5.length],true⟩:=(s.DW 10 (by simp)).trans V;have Be:B.W ku=some ⟨B3 p,true⟩:=(s.DW ku (by simp)).trans N;have Bf:B.W ih=some ⟨Ct u.Aa.length λi=> .bool (decide ((i:Int)∈p.Aa)),true⟩:=(s.DW ih (by simp)).trans BG;have C3:=F X;have Bg:Ft u v=Ae.mk 0 (2+v) (p.k+p.m) 0:=(by rw[Ft,Ax]);rw[<-Bg]at s;simp[lN,AR,X,A4];refine a3R h (R:=R) D AJ (p:=p) (ku:=ku) (ih:=ih) Af ⟨by simpa[IB]using s.M0,X,Bc,Bd,Be,Bf,by simp[BI],by simp[AR],by simp[z4],by simp[AS],by simp[BJ],by simp[AV],by simp[AW],by simp[AY],by simp[BK],by simp[BL],by simp[BM],by simp[BN]⟩ (by simp) (by simp) (by simp) λC4 B a=> ?_;have Ag:=a.Cr;have Bh:=a.GG;have C5:=F Ag;simp[kC,Bh,Ag,A4];refine a35 h (R:=R) D AJ (p:=p) (ku:=ku) (ih:=ih) Af ⟨by simpa[Lu]using a.M0,a.Cr,a.OJ,a.SP,a.Ij,a.tg,by simp[a.ET],by simp[a.GG],by simp[a.RB],by simp[a.PD],by simp[a.LD],by simp[a.GJ],by simp[a.Xe],by simp[a.yS],by simp[a.qD],by simp[a.lX],by simp[a.iE],by simp[a.fT]⟩ (by simp) (by simp) (by simp) λC6 t3 d=> ?_;have Bi:=d.fT;simp[Bi,B9];refine Al _ _ ⟨⟨?_,d.Cr,d.OJ,d.SP,by simp[d.ET],by simp[d.GG],by simp[d.RB],by simp[d.PD],by simp[d.LD],by simp[d.GJ]⟩,by simp[d.lX],by simp[d.iE],by simp⟩;rw[a3T];exact d.M0.AG (Ao _) (λ_ _=>rfl) λb hb=> .inl (by simp at hb⊢;omega)
 ·rintro A t ⟨c,C,w,y⟩;simp[Y9,iF,lN,kC,w,y];refine Ak _ _ ⟨c.M0,c.Cr,c.OJ,c.SP,?_,?_,?_,?_,?_,?_⟩;all_goals simp[c.ET,c.GG,c.RB,c.PD,c.LD,c.GJ]
def OI(u:AY)(R:List Int)(i:Nat):List Ae:=LV u u.A7.length++(List.range i).map (Hi u R)
theorem aB3:OI u R (i+1)=OI u R i++[Hi u R i]:=by simp[OI,MO]
theorem a29:OI u R u.A1.length=B2 u R:=rfl
theorem a0Y(h:Av u)(a:MT u R (OI u R 0) A t)(d:A 141=AH (BV u R))(b:A 142=Y u.A1.length)(c:A 143=Y 0)
 (l: ∀g au,MT u R (B2 u R) g au->Q (.Ai 8) g au):BY U (.loop bZ) A t Q:=by
 have J:=h.ok.DD;have K:=h.ok.Ek;have L:=h.ok.F4;have M:=h.ok.Di;refine CE (an:=⟨[XN],[]⟩) (λi A t=>MT u R (OI u R i) A t/\A 141=AH (BV u R)/\A 142=Y u.A1.length/\A 143=Y i) u.A1.length ?_ ?_ 0 A t (C0 _) ⟨a,d,b,c⟩
 ·rintro i A t m ⟨a,d,b,c⟩ N o;obtain⟨p,q,s,f,v,w,x,j,y,k⟩:=a;have z:(BV u R)[i]?=some (CD u R i):=(by rw[MA,Ej m]);have B: ∀h,(BV u R)[i]'h=CD u R i:= λh=>(AX.1 z).2;have C:(BV u R).length=u.A1.length:=JX;have O:i<(BV u R).length:=(by omega);have D:(i:Int)<u.A1.length:=(by omega);have E:=BX (n:=i) (by omega);have P:=F f;have S:u.A7.length<=1000/\u.A5.length<=1000/\i<=1000:=(by omega);simp(disch:=first|omega|simp only[DI.A2];omega)[bZ,j,k,d,b,c,f,D,B,C];have G:(OI u R i).length<=100000:=by
   have:=c4 h.ok u.A7.length;simp only[OI,LV,Ds,Eb,List.length_range];omega
  refine(XZ p G).AG λr au ⟨H,e⟩=> ?_;subst H;simp[c,E];have I:Hi u R i=Ae.mk (Ii u.A7.length u.A5.length i) 1 (CD u R i) 0:=rfl;rw[<-I]at e;refine o _ _ ⟨⟨by rw[aB3];exact e.M0,(e.DW 0 (by simp)).trans q,(e.DW 1 (by simp)).trans s,(e.DW 10 (by simp)).trans f,by simp[v],by simp[w],by simp[x],by simp[j],by simp[y],by simp[k]⟩,by simp[d],by simp[b],by simp⟩
 ·rintro A t ⟨a,d,b,c⟩;rw[a29]at a;simp[bZ,b,c];refine l _ _ ⟨a.M0,a.Cr,a.OJ,a.SP,?_,?_,?_,?_,?_,?_⟩;all_goals simp[a.ET,a.GG,a.RB,a.PD,a.LD,a.GJ]
theorem a6H(h:Av u):Bv U 124 [.agg (A4 u).toArray,AH R] D0 λv d=> ∃o,v= .tuple #[.agg #[Y (Dd u R).Am,Y 0,Y 1,AQ o (B2 u R).length 4],Y 0]/\d.W o=some ⟨Ck (B2 u R),true⟩:=by
 have t:=h.ok.MC;have w:=h.ok.DD;have x:=h.ok.Ek;have y:=h.ok.F4;have A:=h.ok.Di;have B:u.A7.length<=1000/\u.A5.length<=1000/\u.A1.length<=1000:=by omega
 refine Ak (an:=⟨[UZ u h.CV,Xb,Vp,XN,Yp u h],[]⟩) y0 (by kernel_rfl) (by simp[aY]) ?_;simp(disch:=first|omega|simp only[DI.A2];omega)[aY,s5,A4,-H,-E,-I,-G,-List.map_map];refine Oa (o:=18) (j:=3) (z:=4) (cs:=[Y (Ii u.A7.length u.A5.length u.A1.length),Y 0,Y 1,.slice none 0 0]) (by simp(disch:=first|omega|simp only[DI.A2];omega)[-H,-E,-I,-G,-List.map_map]) rfl ?_;refine aDt h (R:=R) ⟨⟨20,by decide,?_,?_,λb hb=> ?_⟩,?_,?_,?_,by simp,by simp,by simp,by simp,by simp,by simp⟩ (by simp) (by simp) (by simp) λC d a=> ?_
 ·simp(disch:=first|omega|simp only[DI.A2];omega)[-H,-E,-I,-G,-List.map_map]
 ·simp(disch:=first|omega|simp only[DI.A2];omega)[Ck,-H,-E,-I,-G,-List.map_map]
 ·simp at hb⊢;rcases hb with rfl|rfl|rfl<;>simp
 ·simp(disch:=first|omega|simp only[DI.A2];omega)[A4,-H,-E,-I,-G,-List.map_map]
 ·simp(disch:=first|omega|simp only[DI.A2];omega)[-H,-E,-I,-G,-List.map_map]
 ·simp(disch:=first|omega|simp only[DI.A2];omega)[-H,-E,-I,-G,-List.map_map]
 have f:=a.Cr;have D:=F f;have k:=a.ET;have l:=a.GG;have m:(BV u R).length=u.A1.length:=JX;simp(disch:=first|omega|simp only[DI.A2];omega)[qV,k,l,f,A4,m,-H,-E,-I,-G,-List.map_map];refine a0Y h (R:=R) ⟨by simpa[OI]using a.M0,a.Cr,a.OJ,a.SP,by simp[a.ET],by simp[a.GG],by simp[a.RB],by simp[a.PD],by simp[a.LD],by simp[a.GJ]⟩ (by simp) (by simp) (by simp) λJ K c=> ?_;obtain⟨o,L,g,n,p⟩:=c.M0;have i:=c.OJ;have M:=F i;have N:=F g;have q:=c.RB;have r:=c.LD;have s:o≠1:= λe=>(p 1 (by simp)).2.1 e.symm;simp(disch:=first|omega|simp only[DI.A2];omega)[oc,q,r,g,i,-H,-E,-I,-G,-List.map_map];refine⟨o,⟨rfl,rfl⟩,?_⟩;rw[A3 s];exact n
theorem a1h(h:Av u)(t:V):Bv U 124 [.agg (A4 u).toArray,AH R] t λv au=>v= .tuple #[.agg #[Y (Dd u R).Am,Y 0,Y 1,AQ t.next (B2 u R).length 4],Y 0]/\au=D2 t.next [Ck (B2 u R)] (t.AE 1):=by
 refine cV (n:=1) (r:= λk=> .tuple #[.agg #[Y (Dd u R).Am,Y 0,Y 1,AQ k (B2 u R).length 4],Y 0]) (bs:= λ_=>[Ck (B2 u R)]) (λ_=>rfl) (λv b=>by simp at b;rcases b with rfl|rfl<;>rfl) ((a6H h).AG λv f ⟨o,b,e⟩=>⟨[o],by simp,rfl,λk=>⟨?_,λi cs c=> ?_⟩⟩) t
 ·rw[b];exact G6.r5 (EL.cons (G6.gE (EL.cons (.E2 rfl) (EL.cons (.E2 rfl) (EL.cons (.E2 rfl) (EL.cons (.slice ⟨0,rfl,rfl⟩) EL.nil))))) (EL.cons (.E2 rfl) EL.nil))
 ·cases i with
  | zero=>simp at c;subst c;refine⟨o,_,rfl,e,EL.cells λv b=> ?_⟩;simp only[Ck,RG,CP]at b;obtain⟨r,⟨a,_,rfl⟩,d⟩:=b;simp[Cj]at d;rcases d with rfl|rfl|rfl|rfl<;>rfl
  |succ i=>simp at c
noncomputable def jn(u:AY)(h:Av u):DB U:= .B8 124 (List Int) (λR=>[.agg (A4 u).toArray,AH R]) (λR t=>some (.tuple #[.agg #[Y (Dd u R).Am,Y 0,Y 1,AQ t.next (B2 u R).length 4],Y 0],D2 t.next [Ck (B2 u R)] (t.AE 1))) λR t r au c a7 d=>by cases c;exact(a1h h t).AG λr au ⟨a,b⟩=>by rw[a,b];exact d
@[simp] theorem aO5{h:Av u}:(jn u h).f=124:=rfl
@[simp] theorem aLQ{h:Av u}:(jn u h).fn [.agg #[Y u.ext,M (u.Bz.map Cc) 4,M (u.Aa.map Ce) 4,M (u.A5.map Bd) 7,M (u.A1.map CB) 3,M (u.Ay.map B3) 17,M (u.A7.map Cd) 2],M (R.map λx=>[Y x]) 1] t=some (.tuple #[.agg #[Y (Dd u R).Am,Y 0,Y 1,AQ t.next (B2 u R).length 4],Y 0],D2 t.next [Ck (B2 u R)] (t.AE 1)):=DB.BD (x:=R) (t:=t) λy a=>by
  have:y=R:=by simpa using a
  rw[this]
abbrev S9(p:Dw):Value:= .agg #[CU p.name,Y p.k,Y p.m,Y p.q,Y p.D9.a,Y p.D9.b,Y p.D9.c,Y p.D9.d,Y p.D9.e,AH p.Aa,DZ p.Mi,.bool p.Kf.HY,AP p.Kf.a,AP p.Kf.b,.bool p.KW.HY,AP p.KW.a,AP p.KW.b]
theorem a5h(h:Av u)(O:v<u.A7.length)(r:u.Ay[GI u v]?=some p)(C:d<u.A1.length):AL U 130 [S9 p,.agg (A4 u).toArray,Y d] (.bool (Es u v d)):=by
 have P:=h.ok.Ek;have Q:=h.ok.BP;obtain⟨x,l⟩:=CF C;have s:=(AX.1 l).2;obtain⟨R,S,_⟩:=h.ok.Lx d x l;have w:Es u v d=decide (x.model∈p.Aa):=by unfold Es;simp only[r,l]
 obtain⟨_,_,D,J⟩:=h.ok.JD _ p r;have T:=lT u.Aa.length p.Aa J D;have y:(d:Int)<u.A1.length:=by omega
 refine BG (Ak (an:=⟨[],[]⟩) a45 (by kernel_rfl) (by simp[jy]) ?_);simp[jy,ud,A4];refine CE (an:=⟨[],[]⟩) (λi A t=>x.model∉p.Aa.take i/\t.W 0=some ⟨B3 p,true⟩/\t.W 1=some ⟨A4 u,true⟩/\A 2=Y d/\A 3=AA 0/\A 4=AA 1/\A 7=Y i) p.Aa.length ?_ ?_ 0 _ _ (C0 _) ⟨by simp,by simp[B3],by simp[A4],by simp,by simp,by simp,by simp⟩
 ·rintro i A t K ⟨f,a,b,g,c,j,k⟩ V L;obtain⟨m,o⟩:=CF K;have z:=(AX.1 o).2;have B:(i:Int)<p.Aa.length:=(by omega);have M:=BX (n:=i) (by omega);have N:=F a;have X:=F b;by_cases e:m=x.model
  ·have q:Es u v d=true:=(by rw[w];exact decide_eq_true (by rw[<-e];exact B9 o));simp(disch:=first|omega|simp only[DI.A2];omega)[Zc,Wi,g,c,j,k,a,b,B3,A4,CB,B,z,s,y,e,q]
  ·simp(disch:=first|omega|simp only[DI.A2];omega)[Zc,Wi,g,c,j,k,a,b,B3,A4,CB,B,M,z,s,y,e,-H,-E,-I,-G,-List.map_map];refine L _ _ ⟨?_,a,b,by simp[g],by simp[c],by simp[j],by simp⟩;rw[K4,o];simp only[Option.toList_some,Cg,Gw,not_or];exact⟨f,λh=>e h.symm⟩
 ·rintro A t ⟨f,a,b,g,c,j,k⟩;rw[EP]at f;have q:Es u v d=false:=(by rw[w];exact J5 f);have N:=F a;simp[Zc,Wi,Wi,c,k,a,B3,q]
noncomputable def mb(u:AY)(h:Av u)(v:Nat)(p:Dw)(a:v<u.A7.length)(b:u.Ay[GI u v]?=some p):AK U:= .B8 130 Nat (λd=>d<u.A1.length) (λd=>[S9 p,.agg (A4 u).toArray,Y d]) (λd=> .bool (Es u v d)) λ_ c=>a5h h a b c
@[simp] theorem aPO{h:Av u}{a:v<u.A7.length}{b:u.Ay[GI u v]?=some p}:(mb u h v p a b).f=130:=rfl
@[simp] theorem aLz{h:Av u}{a:v<u.A7.length}{b:u.Ay[GI u v]?=some p}(c:d<u.A1.length):(mb u h v p a b).fn [S9 p,.agg #[Y u.ext,M (u.Bz.map Cc) 4,M (u.Aa.map Ce) 4,M (u.A5.map Bd) 7,M (u.A1.map CB) 3,M (u.Ay.map B3) 17,M (u.A7.map Cd) 2],Y d]=some (.bool (Es u v d)):=AK.BD (x:=d) c λy e=>by simp at e⊢;omega
open Go Go.DI Go.Big
theorem aCZ{c:D}{n:Nat}(g:t.W o=some ⟨List.replicate n (.slice none 0 0),true⟩)
 (l: ∀(au:V) (ps:List Nat),Dt au o ps (List.replicate n [])->t.next<=au.next->(∀b,b<t.next->b≠o->au.W b=t.W b)->(∀p∈ps,t.next<=p)->BY U c A au Q):BY U c A t Q:=by
 have w:=F g;have key: ∀(r k:Nat) (a:V),k+r=n->a.next=t.next+k->a.W o=some ⟨Ct n (λj=>if j<k then AQ (t.next+j) 0 1 else .slice none 0 0),true⟩->(∀j,j<k->a.W (t.next+j)=some ⟨[],true⟩)->(∀b,b<t.next->b≠o->a.W b=t.W b)->BY U c A a Q:=by
  intro r;induction r with
  | zero=>
    intro k a m h d q hb;obtain rfl:k=n:=(by omega);refine l a ((List.range k).map (t.next+ ·)) ⟨by simp,?_,?_,?_,λi p r s x=> ?_⟩ (by omega) hb λp s=> ?_
    ·grind [List.pairwise_iff_getElem]
    ·simp;omega
    ·rw[d,Cv];simp only[Ps];congr 2;refine FG λj f=> ?_
     simp_all [Kb]
    ·grind
    ·grind
  | succ r u=>
    intro k a m h d q hb;have v:k<n:=(by omega);have y:=F d;refine Oa (o:=o) (j:=k) (z:=1) (cs:=Ct n (λj=>if j<k then AQ (t.next+j) 0 1 else .slice none 0 0)) d (by rw[Ej v,if_neg (Nat.lt_irrefl _)]) ?_;refine u (k+1) _ (by omega) (by simp;omega) ?_ (λj f=> ?_) λb B C=> ?_
    ·rw[AT (by simp;omega),KG]
     grind
    ·by_cases e:j=k
     ·subst e;rw[<-h,A3 (by omega),AT (by simp)]
     ·grind [A3,AU]
    ·grind [A3,AU]
 exact key n 0 t (by omega) rfl (by rw[g,QE];congr 2) (λj f=>absurd f (La _)) λb _ _=>rfl
theorem Dt.I7{p:Nat}(h:Dt t o ps L)(b:p∈ps):p<t.next:=by
 obtain⟨j,a,e⟩:=EC b;have c:j<L.length:=by rw[<-h.len];exact a
 exact F (h.D8 j p _ (by rw[<-e];exact AS a) (AS c))
theorem Dt.a3k(h:Dt t o ps L)(a: ∀b,b<t.next->au.W b=t.W b):Dt au o ps L:=
 h.AG (a o (F h.Da)) λp c=>a p (h.I7 c)
theorem Dt.a1x{p:Nat}(h:Dt t o ps L)(n:L[a1]?=some r)(f:ps[a1]?=some p)(u:q≠o/\q∉ps)
 (v:au.W o=some ⟨(Cv ps L).set a1 (AQ q (r.length+1) 1),true⟩) (A:au.W q=some ⟨(r++[x]).map Y,true⟩) (w: ∀b∈ps,b≠p->au.W b=t.W b):Dt au o (ps.set a1 q) (L.set a1 (r++[x])):=by
 have B:=(AX.1 n).1;have C:=(AX.1 f).1;refine⟨by simp[h.len],?_,?_,?_,λi b s hb g=> ?_⟩
 ·refine NA.2 λi j k l y=> ?_;simp only[MJ]at k l;have m:=NA.1 h.DD i j k l y
  grind
 ·intro d;rcases Qk d with d|rfl
  ·exact h.Gq d
  ·exact u.1 rfl
 ·rw[v];congr 2;unfold Cv;rw[MJ,KG]
  grind [FG,LI]
 ·by_cases e:a1=i
  ·grind
  ·rw[XG e]at hb g;have m:b≠p:= λz=>by
    subst z;have a:=AX.1 f;have c:=AX.1 hb;have D:=NA.1 h.DD
    grind
   rw[w b (B9 hb) m];exact h.D8 i b s hb g
theorem Dt.Hc(h:Dt t o ps L)(b:L[a1]?=some r): ∃p,ps[a1]?=some p/\p∈ps/\t.W p=some ⟨r.map Y,true⟩/\List.take 1 (List.drop a1 (Cv ps L))=[AQ p r.length 1]/\a1+1<=(Cv ps L).length:=by
 have c:=(AX.1 b).1;have d:a1<ps.length:=by rw[h.len];exact c
 have a:ps[a1]?=some ps[a1]:=AS d;refine⟨ps[a1],a,B9 a,h.D8 a1 _ r a b,?_,by simp[Cv];omega⟩;have e:(Cv ps L)[a1]?=some (AQ ps[a1] r.length 1):=by rw[Cv,Ej c,Kb a b]
 grind [List.drop_eq_getElem_cons]
open Go Go.DI Go.Ex
@[simp] theorem aL6{p:Option Addr}{l:Nat}:De (.slice p l c)=l:=rfl
@[simp] theorem aLf{p:Option Addr}{l:Nat}:Lo (.slice p l c)=true:=rfl
theorem fQ{v:Value}{m:V}(o:GX m v n.AF):Aq U 184 [Ol n v] m λr B=>r= .bool (H3 n)/\BK m B:=by
 rw[a5Y (by simp)];obtain⟨e,f⟩:=o.len;have a:BK m ((m.AE 2).A0 m.next (some ⟨FV n v,true⟩)):=((BK.refl m).AE 2).A0 (Ao _);have p:((m.AE 2).A0 m.next (some ⟨FV n v,true⟩)).W m.next=some ⟨FV n v,true⟩:=AT (by simp)
 have j: ∀(x:Int) (a7:Value->V->Prop),Aq U 234 [Y x,AA m.next] ((m.AE 2).A0 m.next (some ⟨FV n v,true⟩)) a7=a7 (.bool (Jh n x)) ((m.AE 2).A0 m.next (some ⟨FV n v,true⟩)):= λx a7=>sb p x a7;by_cases b:n.Am<2
 ·simp(disch:=first|omega|simp only[AD];omega)[OC,b];exact⟨(by first|(simp[H3, *];done)|(simp[H3];intros;omega)),a⟩
 by_cases c:700<n.Am
 ·simp(disch:=first|omega|simp only[AD];omega)[OC,b,c];exact⟨(by first|(simp[H3, *];done)|(simp[H3];intros;omega)),a⟩
 by_cases g:(2500:Int)<n.AF.length
 ·simp(disch:=first|omega|simp only[AD];omega)[OC,e,f,b,c,g];exact⟨(by first|(simp[H3, *];done)|(simp[H3];intros;omega)),a⟩
 by_cases d:Jh n n.Aj=false
 ·simp(disch:=first|omega|simp only[AD];omega)[OC,e,f,j,b,c,g,d];exact⟨(by first|(simp[H3, *];done)|(simp[H3];intros;omega)),a⟩
 by_cases h:Jh n n.BJ=false
 ·simp(disch:=first|omega|simp only[AD];omega)[OC,e,f,j,b,c,g,d,h];exact⟨(by first|(simp[H3, *];done)|(simp[H3];intros;omega)),a⟩
 by_cases k:n.Aj=n.BJ
 ·simp(disch:=first|omega|simp only[AD];omega)[OC,e,f,j,b,c,g,d,h,eq_true k];exact⟨(by first|(simp[H3, *];done)|(simp[H3];intros;omega)),a⟩
 simp(disch:=first|omega|simp only[AD];omega)[OC,e,f,j,b,c,g,d,h,k];refine pQ p (o.AG a) (by omega) n.AF.length 0 _ _ (by omega) (BK.refl _) (by simp) (by simp[]) (by simp) (by simp) (λq B l i=> ?_) (λq B l i s=> ?_)
 ·simp;rw[KK]at i;exact⟨by simp only[H3,i];simp at d h;simp[b,c,d,h,k];omega,a.trans l⟩
 ·simp[s];rw[KK]at i;exact⟨by simp only[H3,i];simp,a.trans l⟩
end Go.Proofs.YtmmkkggfmigppaaGreat
