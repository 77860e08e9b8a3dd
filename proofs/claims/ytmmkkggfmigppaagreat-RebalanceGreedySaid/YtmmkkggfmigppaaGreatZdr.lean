/- A part of the proof. -/
import Derived.Test.YtmmkkggfmigppaaGreatZdq
set_option linter.all false
set_option maxRecDepth 20000
set_option maxHeartbeats 16000000
noncomputable section
namespace Go.Proofs.YtmmkkggfmigppaaGreat
open Go Go.DI Go.Big
def G8(n d:Int):Prop:=(n=0/\d=1)\/(n=1/\d=1)\/(n=1/\d=2)\/(n=1/\d=1000)\/(n=30/\d=1)\/(n=1/\100<=d/\d<200)
def CB(n d:Int):Am:=⟨false,if n=0 then[]else[n],[d]⟩
variable{d n c x jU v y z m:Int}{a7:Value->X->Prop}{o k p eo u ah P R tM W:Nat}{A J:A2}{Q:BM->A2->X->Prop}{aU:List Nat}{je:List Int}{ps:List Dg}
theorem qB(h:G8 n d):AO V 59 [Z n,Z d] (BK (CB n d)):=by
 rcases h with⟨rfl,rfl⟩|⟨rfl,rfl⟩|⟨rfl,rfl⟩|⟨rfl,rfl⟩|⟨rfl,rfl⟩|⟨rfl,b,a⟩
 ·exact a7w
 ·exact zh
 ·exact aCw
 ·exact a0d
 ·exact yi
 ·exact a6R (by omega) a
abbrev PV:AN V:= .B9 59 (Int×Int) (λx=>G8 x.1 x.2) (λx=>[Z x.1,Z x.2]) (λx=>BK (CB x.1 x.2)) λx h=>qB h
@[simp] theorem aHa(h:G8 n d):PV.fn [Z n,Z d]=some (BK (CB n d)):=AN.BH (x:=(n,d)) h λ⟨b,c⟩ a=>by simpa using a
def FE(c n:Nat):ByteArray:=⟨#[c.toUInt8,(97+n/26%26).toUInt8,(97+n%26).toUInt8]⟩
theorem a3U{c n:Nat}(f:c<256)(g:n<1000000):AO V 109 [.int .u8 c,Z n] (.string (FE c n)):=by
 refine BQ (Ax (aC:=⟨[],[]⟩) dZ.2 ?_);have a:IntKind.i64.wrap ((n:Int)/26)=((n/26:Nat):Int):=by rw[Ac (by omega) (by omega)];omega
 have b:((n/26:Nat):Int).tmod 26=((n/26%26:Nat):Int):=by rw[Int.tmod_eq_emod_of_nonneg (by omega)];omega
 have a3:(n:Int).tmod 26=((n%26:Nat):Int):=by rw[Int.tmod_eq_emod_of_nonneg (by omega)];omega
 have w: ∀k:Nat,k<26->IntKind.u8.wrap (IntKind.i64.wrap (97+(k:Int)))=((97+k:Nat):Int):= λk i=>by rw[Ac (by omega) (by omega)];show(97+(k:Int))%256=_;omega
 have d:=w (n/26%26) (by omega);have e:=w (n%26) (by omega);simp[dZ,vI];rw[a,b,a3,d,e];simp only[toBytes,FE,Dl,List.map_nil];rfl
abbrev H2:AN V:= .B9 109 (Nat×Nat) (λx=>x.1<256/\x.2<1000000) (λx=>[.int .u8 x.1,Z x.2]) (λx=> .string (FE x.1 x.2)) λx h=>a3U h.1 h.2
@[simp] theorem ZR{C n:Nat}(a:c=C)(h:C<256/\n<1000000):H2.fn [.int .u8 c,Z n]=some (.string (FE C n)):=by subst a;exact AN.BH (x:=(C,n)) h λ⟨d,e⟩ b=>by simp at b⊢;omega
def I9(x n:Int):Int:=if n<1 then 0 else if x.tmod n<0 then x.tmod n+n else x.tmod n
theorem uS(h:1<=n):0<=I9 x n/\I9 x n<n:=by have a:=Int.tmod_lt_of_pos x (show 0<n by omega);have b:=Int.lt_tmod_of_pos x (show 0<n by omega);unfold I9;rw[if_neg (by omega)];split<;>omega
theorem j2(h:n<1):I9 x n=0:=by unfold I9;rw[if_pos h]
def ZV(l:List Int)(i:Nat):Int:=match l[i]? with|some x=>x|none=>(i:Int)%3
def C2(l:List Int)(i:Nat)(n:Int):Int:=I9 (ZV l i) n
theorem FU{l:List Int}{i:Nat}(h:1<=n):0<=C2 l i n/\C2 l i n<n:=uS h
theorem a1D{i:Nat}{l:List Int}{t:X}(y:i<1000000)(z:l.length<=140737488355328)(A:n<=1000000)(d:t.Y o=some ⟨[AK l,Z i],true⟩)
 (a:a7 (Z (C2 l i n)) (t.A1 o (some ⟨[AK l,Z (i+1:Nat)],true⟩))):Bh V 49 [.pointer (some ⟨o,0,none⟩),Z n] t a7:=by
 refine Ax (aC:=⟨[],[]⟩) Nv.2 ?_;have C:=E d;have h:=BZ (n:=i) (by omega);have j:(i:Int).tmod 3=(i:Int)%3:=by rw[Int.tmod_eq_emod_of_nonneg (by omega)]
 have D:(some (CC.mk [AK l,Z ((i:Int)+1)] true))=some ⟨[AK l,Z (i+1:Nat)],true⟩:=by simp
 have s: ∀x:Int,ZV l i=x-> ∀k:Prop,(n<1->C2 l i n=0->k)->(1<=n-> ¬n<1-> ¬n=0->x.tmod n<0->IntKind.i64.wrap (x.tmod n+n)=C2 l i n->k)->(1<=n-> ¬n<1-> ¬n=0-> ¬x.tmod n<0->x.tmod n=C2 l i n->k)->k:= λx m k u v w=>by
  by_cases c:n<1
  ·exact u c (by unfold C2;exact j2 c)
  ·have F:=Int.tmod_lt_of_pos x (show 0<n by omega);have G:=Int.lt_tmod_of_pos x (show 0<n by omega);by_cases b:x.tmod n<0
   ·exact v (by omega) c (by omega) b (by rw[Ac (by omega) (by omega)];unfold C2 I9;rw[m,if_neg c,if_pos b])
   ·exact w (by omega) c (by omega) b (by unfold C2 I9;rw[m,if_neg c,if_neg b])
 by_cases q:i<l.length
 ·have f:(i:Int)<l.length:=(by omega);obtain⟨x,m⟩:=Cb q;have p:=(Ae.1 m).2;refine s x (by unfold ZV;rw[m]) _ (λc e=> ?_) (λr c g b e=> ?_) λr c g b e=> ?_
  ·rw[e]at a;simp(disch:=omega)[Nv,RA,d,h,j,f,p,c];simpa using a
  ·rw[<-e]at a;simp(disch:=omega)[Nv,RA,d,h,j,f,p,c,g,b];simpa using a
  ·rw[<-e]at a;simp(disch:=omega)[Nv,RA,d,h,j,f,p,c,g,b];simpa using a
 ·have f: ¬(i:Int)<l.length:=(by omega);refine s ((i:Int)%3) (by unfold ZV;rw[L1 (by omega)]) _ (λc e=> ?_) (λr c g b e=> ?_) λr c g b e=> ?_
  ·rw[e]at a;simp[Nv,RA,d,h,j,f,c];simpa using a
  ·rw[<-e]at a;simp[Nv,RA,d,h,j,f,c,g,b];simpa using a
  ·rw[<-e]at a;simp[Nv,RA,d,h,j,f,c,g,b];simpa using a
open Classical in
def Ta(o:Nat)(n:Int)(t:X)(b:Option CC):Option (Value×X):=
 if h: ∃p:List Int×Nat,b=some ⟨[AK p.1,Z p.2],true⟩/\p.2<1000000/\p.1.length<=140737488355328/\n<=1000000 then some (Z (C2 h.choose.1 h.choose.2 n),t.A1 o (some ⟨[AK h.choose.1,Z (h.choose.2+1:Nat)],true⟩))else none
@[simp] theorem a6A{i:Nat}{t:X}{l:List Int}(h:i<1000000/\l.length<=140737488355328/\n<=1000000):Ta o n t (some ⟨[O (l.map λx=>[Z x]) 1,.int .i64 i],true⟩)=some (Z (C2 l i n),t.A1 o (some ⟨[AK l,Z (i+1:Nat)],true⟩)):=by
  have a: ∃p:List Int×Nat,(some (CC.mk [AK l,Z i] true))=some ⟨[AK p.1,Z p.2],true⟩/\p.2<1000000/\p.1.length<=140737488355328/\n<=1000000:=⟨(l,i),rfl,h⟩;unfold Ta;rw[dif_pos a];have this:=a.choose_spec.1;generalize a.choose=p at this⊢;obtain⟨c,b⟩:=p;simp only[Fx,CC.mk.injEq,P6,and_true,qM,n7,Value.int.injEq,true_and]at this;obtain⟨rfl,d⟩:=this;have:i=b:=by omega
  rw[this]
abbrev Ei:Cp V:= .B9 49 (Nat×Int) (λx=>[.pointer (some ⟨x.1,0,none⟩),Z x.2]) (λx t=>Ta x.1 x.2 t (t.Y x.1)) λ⟨o,n⟩ t r g h a7 e=>by
 simp only[Ta]at h;split at h
 ·next f=>obtain⟨a,b,c,d⟩:=f.choose_spec;cases h;exact a1D b c d a e
 ·cases h
@[simp] theorem aDe{t:X}:Ei.fn [.pointer (some ⟨o,0,none⟩),.int .i64 n] t=Ta o n t (t.Y o):=Cp.BH (x:=(o,n)) λ⟨b,c⟩ a=>by simp at a⊢;omega
theorem a7o(d:n<=1000000):AO V 19 [Z x,Z n] (Z (I9 x n)):=by
 refine BQ (Ax (aC:=⟨[],[]⟩) Zq.2 ?_);by_cases c:n<1
 ·rw[j2 c];simp[Zq,cg,c]
 ·have g:=Int.tmod_lt_of_pos x (show 0<n by omega);have h:=Int.lt_tmod_of_pos x (show 0<n by omega);have b: ¬n=0:=(by omega);have i:1<=n:=(by omega);have w:IntKind.i64.wrap (x.tmod n+n)=x.tmod n+n:=Ac (by omega) (by omega);by_cases a:x.tmod n<0
  ·have e:I9 x n=x.tmod n+n:=(by unfold I9;rw[if_neg c,if_pos a]);rw[e];simp[Zq,cg,c,b,a,w]
  ·have e:I9 x n=x.tmod n:=(by unfold I9;rw[if_neg c,if_neg a]);rw[e];simp[Zq,cg,c,b,a]
abbrev sI:AN V:= .B9 19 (Int×Int) (λx=>x.2<=1000000) (λx=>[Z x.1,Z x.2]) (λx=>Z (I9 x.1 x.2)) λ_ h=>a7o h
@[simp] theorem aG3(h:n<=1000000):sI.fn [Z x,Z n]=some (Z (I9 x n)):=AN.BH (x:=(x,n)) h λ⟨b,c⟩ a=>by simpa using a
theorem aCo{l:List Ct}:(l.map Bq).flatten.length=l.length*7:=by rw[LV (z:=7) λr a=>by obtain⟨x,_,rfl⟩:=CG.1 a;rfl,E9]
def DW(n:Nat)(a b jU:Int):Ct:=⟨FE 110 n,a,b,jU,CB 0 1⟩
theorem uI:G8 0 1:=by unfold G8;omega
theorem a5k{a c:Nat}{ds:List Ct}{h i j k m n:Value}{t:X}(o:t.Y a=some ⟨[h,i,j,AM c ds.length 7,k,m,n],true⟩)(p:t.Y c=some ⟨(ds.map Bq).flatten,true⟩)(q:c≠a)(y:ds.length<1000){e f:Int}
 (r: ∀d g,t.ac<=g->t.ac<=d.ac->d.Y a=some ⟨[h,i,j,AM g (ds++[DW ds.length e f jU]).length 7,k,m,n],true⟩->d.Y g=some ⟨((ds++[DW ds.length e f jU]).map Bq).flatten,true⟩->(∀b,b<t.ac->b≠a->b≠c->d.Y b=t.Y b)->a7 (Z ds.length) d):
 Bh V 108 [.pointer (some ⟨a,0,none⟩),Z e,Z f,Z jU] t a7:=by
 refine Ax (aC:=⟨[H2,PV],[]⟩) cJ.2 ?_;have A:=E o;have B:=E p;have s:H2.fn [.int .u8 110,Z ds.length]=some (.string (FE 110 ds.length)):=ZR (C:=110) rfl ⟨by decide,by omega⟩;have D:=uI;have u:=aCo (l:=ds);have F:a≠c:=q.symm;have v:(ds.length+1)*96<=140737488355328/\ds.length<=9223372036854775806:=by omega
 simp(disch:=first|omega|simp only[A9];omega)[cJ,qv,o,p,s,u,v,BT];refine r _ (t.ac+13) (by omega) (by simp) ?_ ?_ ?_
 ·rw[AR (by simp;omega)];simp
 ·rw[A6 (by omega),AR (by simp),DP (by omega)];simp[Bq,DW]
 ·intro b hb w x;rw[A6 w,A6 (by omega),A6 x,A6 (by omega),X.Ab]
def FG(ds:List Ct)(k:Nat)(v:Int):Prop:= ∃q,ds[k]?=some q/\q.Fw=v
theorem FG.app{ds:List Ct}{x:Ct}(h:FG ds k v):FG (ds++[x]) k v:=by obtain⟨q,a,b⟩:=h;exact⟨q,by rw[Ke (Ae.1 a).1];exact a,b⟩
theorem FG.B0{ds:List Ct}(h:FG ds k v):k<ds.length:=by obtain⟨q,a,_⟩:=h;exact(Ae.1 a).1
structure K0(ds:List Ct):Prop where
 Ly:ds[0]?=some ⟨⟨#[]⟩,0,-1,0,CB 0 1⟩
 Gc: ∀(i:Nat) (d:Ct),0<i->ds[i]?=some d->d.name=FE 110 i/\0<=d.parent/\d.parent<i/\FG ds d.parent.toNat (d.Fw-1)/\1<=d.Fw/\d.Fw<=4/\1<=d.Rk/\d.Rk<=64/\d.Hm=CB 0 1
theorem K0.I5{ds:List Ct}(h:K0 ds):0<ds.length:=(Ae.1 h.Ly).1
theorem K0.add{ds:List Ct}(h:K0 ds){g2:Int}(b:FG ds p (g2-1))(f:1<=g2)(g:g2<=4)(j:1<=jU)(k:jU<=64):K0 (ds++[DW ds.length g2 p jU]) where
 Ly:=by rw[Ke h.I5];exact h.Ly
 Gc i d l a:=by
  by_cases c:i<ds.length
  ·rw[Ke c]at a;obtain⟨m,n,a3,a4,o⟩:=h.Gc i d l a;exact⟨m,n,a3,a4.app,o⟩
  ·have q:=(Ae.1 a).1;simp only[En,DZ,KC]at q;have e:i=ds.length:=(by omega);subst e;rw[Ib (Aj _)]at a;simp at a;subst a;have:=b.B0;exact⟨rfl,by simp[DW],by simp[DW];omega,by simpa[DW]using b.app,f,g,j,k,rfl⟩
theorem NA{ds:List Ct}{g2:Int}{p:Int}:FG (ds++[DW ds.length g2 p jU]) ds.length g2:=⟨DW ds.length g2 p jU,by simp,rfl⟩
def JH(ds:List Ct)(g:List HJ):Prop:= ∀(i:Nat) (x:HJ),g[i]?=some x->x.name=FE 100 i/\0<=x.model/\x.model<2/\ ∃m:Nat,x.Ou=m/\FG ds m 4
theorem JH.app{ds:List Ct}{g:List HJ}(h:JH ds g){d:Ct}:JH (ds++[d]) g:= λi x j=>by obtain⟨a,b,c,m,e,f⟩:=h i x j;exact⟨a,b,c,m,e,f.app⟩
theorem JH.add{ds:List Ct}{g:List HJ}(h:JH ds g){m:Nat}(b:FG ds m 4)(d:0<=y)(f:y<2):JH ds (g++[⟨FE 100 g.length,y,m⟩]):= λi x a=>by
 by_cases c:i<g.length
 ·rw[Ke c]at a;exact h i x a
 ·have j:=(Ae.1 a).1;simp only[En,DZ,KC]at j;have e:i=g.length:=(by omega);subst e;rw[Ib (Aj _)]at a;simp at a;subst a;exact⟨rfl,d,f,m,rfl,b⟩
def PZ:List Value:=[Z 0,.slice none 0 0,.slice none 0 0,.slice none 0 0,.slice none 0 0,.slice none 0 0,.slice none 0 0]
structure a2m(l:List Int)(i:Nat)(K:Int)(g5 g6 kz iM:Value)(ds:List Ct)(g:List HJ)(a or:Nat)(t:X):Prop where
 DH:t.Y 0=some ⟨[AK l,Z i],true⟩
 JK:t.Y 1=some ⟨PZ,true⟩
 aI8:t.Y 6=some ⟨[Z K,g5,g6,AM a ds.length 7,AM or g.length 3,kz,iM],true⟩
 dT:t.Y a=some ⟨(ds.map Bq).flatten,true⟩
 aMF:t.Y or=some ⟨(g.map Bx).flatten,true⟩
 a9f:a≠0/\a≠1/\a≠6
 Lq:or≠0/\or≠1/\or≠6
 a1o:a≠or
def Fh(l:List Int)(i:Nat)(K:Int)(g5 g6 kz iM:Value)(ds:List Ct)(g:List HJ)(t:X):Prop:= ∃a or,a2m l i K g5 g6 kz iM ds g a or t
theorem a2n{l:List HJ}:(l.map Bx).flatten.length=l.length*3:=by rw[LV (z:=3) λr a=>by obtain⟨x,_,rfl⟩:=CG.1 a;rfl,E9]
def U7:List Nat:=[0,1,4,5,6,7,8,9,10,11]
theorem dO(b:J 0=A 0)(c:J 1=A 1)(d:J 4=A 4)(e:J 5=A 5)(f:J 6=A 6)(g:J 7=A 7)(h:J 8=A 8)(i:J 9=A 9)(j:J 10=A 10)(l:J 11=A 11): ∀k∈U7,J k=A k:= λk a=>by simp only[U7,CZ,EK,or_false]at a;rcases a with rfl|rfl|rfl|rfl|rfl|rfl|rfl|rfl|rfl|rfl<;>assumption
theorem ze{l:List Int}(A6:l.length<=140737488355328){K:Int}{g5 g6 kz iM:Value}{ds:List Ct}{m:Nat}(A7:FG ds m 4): ∀(k i:Nat) (g:List HJ),JH ds g->g.length<=9->i+k<1000000->
 ∃ b eo,JH ds b/\b.length<=9/\min (g.length+min k 1) 9<=b.length/\eo<=i+k/\ ∀(A:A2) (t:X) (Q:BM->A2->X->Prop),A 0=AG 0->A 5=AG 6->A 11=Z m->A 12=Z k->Fh l i K g5 g6 kz iM ds g t->
   (∀J u,(∀s∈U7,J s=A s)->Fh l eo K g5 g6 kz iM ds b u->Q (.Ao 2) J u)->Bc V (.loop R1) A t Q:=by
 intro k;induction k with
 | zero=>intro i g v G A8;refine⟨g,i,v,G,by omega,by omega,λA t Q j c n d o p=> ?_⟩;refine Ba (aC:=⟨[H2],[Ei]⟩) λP w=> ?_;simp(disch:=first|omega|simp only[A9];omega)[R1,d,-H,-D,-I,-F,-List.map_map];exact p _ _ (dO (by simp) (by simp) (by simp) (by simp) (by simp) (by simp) (by simp) (by simp) (by simp) (by simp)) o
 | succ k AA=>
   intro i g v G A8;have R:IntKind.i64.wrap (k:Int)=(k:Int):=Ac (by omega) (by omega);have L:(0:Int)<(k:Int)+1:=(by omega);by_cases AY:g.length<9
   case neg=>refine⟨g,i,v,G,by omega,by omega,λA t Q j c n d o p=> ?_⟩;refine Ba (aC:=⟨[H2],[Ei]⟩) λP w=> ?_;obtain⟨f,or,S⟩:=o;have h:=S.aI8;have AB:=E h;have x: ¬(g.length:Int)<9:=(by omega);simp(disch:=first|omega|simp only[A9];omega)[R1,c,d,L,x,h,-H,-D,-I,-F,-List.map_map];exact p _ _ (dO (by simp) (by simp) (by simp) (by simp) (by simp) (by simp) (by simp) (by simp) (by simp) (by simp)) ⟨f,or,S⟩
   obtain⟨y,q⟩: ∃y:Int,y=if C2 l i 4=0 then 1 else 0:=⟨_,rfl⟩
   have T:0<=y/\y<2:=(by rw[q];split<;>omega);obtain⟨b,eo,AD,AE,a3,a4,AF⟩:=AA (i+1) (g++[⟨FE 100 g.length,y,m⟩]) (v.add A7 T.1 T.2) (by simp;omega) (by omega);refine⟨b,eo,AD,AE,by simp only[En,DZ,KC]at a3;omega,by omega,λA t Q j c n d o p=> ?_⟩;obtain⟨f,or,⟨M,U,h,W,N,AI,AJ,AZ⟩⟩:=o;refine Ba (aC:=⟨[H2],[Ei]⟩) λP w=> ?_;have x:(g.length:Int)<9:=(by omega);have Aa:=E M;have Ab:=E U;have AB:=E h;have Ae:=E W;have Af:=E N;obtain⟨AL,n21,AN⟩:=AJ;obtain⟨AO,AP,AQ⟩:=AI;have Ag:0≠or:= λe=>AL e.symm;have Ah:6≠or:= λe=>AN e.symm;have Ai:i<1000000/\l.length<=140737488355328/\(4:Int)<=1000000:=⟨by omega,A6,by decide⟩;have A0:H2.fn [.int .u8 100,Z g.length]=some (.string (FE 100 g.length)):=ZR (C:=100) rfl ⟨by decide,by omega⟩;have A1:=a2n (l:=g);have A3:(g.length+1)*32<=140737488355328/\g.length<=9223372036854775806:=by omega
   have A4: ∀(r:A2) (a:X),(∀s∈U7,r s=A s)->r 12=Z k->a.Y 0=some ⟨[AK l,Z (i+1:Nat)],true⟩->a.Y 1=t.Y 1->a.Y 6=some ⟨[Z K,g5,g6,AM f ds.length 7,AM (t.ac+10) (g.length+1) 3,kz,iM],true⟩->a.Y f=t.Y f->
    a.Y (t.ac+10)=some ⟨(g.map Bx).flatten++[CU (FE 100 g.length),Z y,Z m],true⟩->Bc V (.loop R1) r a Q:= λr a z AR AS AT AU AV AW=>by
    refine AF r a Q ((z 0 (by decide)).trans j) ((z 5 (by decide)).trans c) ((z 11 (by decide)).trans n) AR ⟨f,t.ac+10,⟨AS,AT.trans U,?_,AV.trans W,?_,⟨AO,AP,AQ⟩,⟨by omega,by omega,by omega⟩,by omega⟩⟩ λJ u AX=>p J u λs A5=>(AX s A5).trans (z s A5)
    ·rw[AU];simp
    ·rw[AW];simp[Bx]
   by_cases B:C2 l i 4=0
   ·rw[if_pos B]at q;subst q;simp(disch:=first|omega|simp only[A9];omega)[R1,j,c,n,d,L,x,M,h,N,A0,A1,A3,B,R,-H,-D,-I,-F,-List.map_map];refine w _ _ (A4 _ _ (dO (by simp) (by simp) (by simp) (by simp) (by simp) (by simp) (by simp) (by simp) (by simp) (by simp)) (by simp[]) ?_ ?_ ?_ ?_ ?_)
    ·simp(disch:=first|omega|simp only[A9];omega)[-H,-D,-I,-F,-List.map_map]
    ·simp(disch:=first|omega|simp only[A9];omega)[-H,-D,-I,-F,-List.map_map]
    ·simp(disch:=first|omega|simp only[A9];omega)[-H,-D,-I,-F,-List.map_map]
    ·simp(disch:=first|omega|simp only[A9];omega)[-H,-D,-I,-F,-List.map_map]
    ·simp(disch:=first|omega|simp only[A9];omega)[-H,-D,-I,-F,-List.map_map];exact DP (by omega)
   ·rw[if_neg B]at q;subst q;simp(disch:=first|omega|simp only[A9];omega)[R1,j,c,n,d,L,x,M,h,N,A0,A1,A3,B,R,-H,-D,-I,-F,-List.map_map];refine w _ _ (A4 _ _ (dO (by simp) (by simp) (by simp) (by simp) (by simp) (by simp) (by simp) (by simp) (by simp) (by simp)) (by simp[]) ?_ ?_ ?_ ?_ ?_)
    ·simp(disch:=first|omega|simp only[A9];omega)[-H,-D,-I,-F,-List.map_map]
    ·simp(disch:=first|omega|simp only[A9];omega)[-H,-D,-I,-F,-List.map_map]
    ·simp(disch:=first|omega|simp only[A9];omega)[-H,-D,-I,-F,-List.map_map]
    ·simp(disch:=first|omega|simp only[A9];omega)[-H,-D,-I,-F,-List.map_map]
    ·simp(disch:=first|omega|simp only[A9];omega)[-H,-D,-I,-F,-List.map_map];exact DP (by omega)
theorem G0{t:X}{l:List Int}(h:0<=z/\z<1000000/\l.length<=140737488355328/\n<=1000000):Ta o n t (some ⟨[O (l.map λx=>[Z x]) 1,.int .i64 z],true⟩)=some (Z (C2 l z.toNat n),t.A1 o (some ⟨[AK l,Z (z+1)],true⟩)):=by obtain⟨i,rfl⟩:=Dp h.1;rw[Dx];exact a6A (i:=i) ⟨by omega,h.2.2⟩
variable {l:List Int} {i:Nat} {K:Int} {g5 g6 kz iM:Value} {ds:List Ct} {g:List HJ} {t:X}
theorem Fh.at(h:Fh l i K g5 g6 kz iM ds g t)(c:z=eo):Fh l eo K g5 g6 kz iM ds g (t.A1 0 (some ⟨[AK l,Z z],true⟩)):=by subst c;obtain⟨d,or,⟨e,f,j,k,m,a,b,n⟩⟩:=h;exact⟨d,or,AR (E e),by rw[A6 (by decide)];exact f,by rw[A6 (by decide)];exact j,by rw[A6 a.1];exact k,by rw[A6 b.1];exact m,a,b,n⟩
theorem Om(h:Fh l i K g5 g6 kz iM ds g t)(p:ds.length<1000){f j:Int}(q: ∀a,Fh l i K g5 g6 kz iM (ds++[DW ds.length f j jU]) g a->a7 (Z ds.length) a):Bh V 108 [AG 6,Z f,Z j,Z jU] t a7:=by
 obtain⟨x,or,⟨k,m,n,r,b,c,o,s⟩⟩:=h;refine a5k n r c.2.2 p λa u y z v w d=>q a ⟨u,or,?_,?_,v,w,?_,?_,o,?_⟩
 ·rw[d 0 (E k) (by decide) (λe=>c.1 e.symm)];exact k
 ·rw[d 1 (E m) (by decide) (λe=>c.2.1 e.symm)];exact m
 ·rw[d or (E b) o.2.2 (λe=>s e.symm)];exact b
 ·have:=E n;exact⟨by omega,by omega,by omega⟩
 ·have:=E b;omega
def k6:List Nat:=[0,1,4,5,6,7,8,9,10]
theorem aAe: ∀k∈k6,k∈U7:=by decide
theorem Yi{l:List Int}(B:l.length<=140737488355328){K:Int}{g5 g6 kz iM:Value}{ds:List Ct}{g:List HJ}{i:Nat}(C:K0 ds)(G:JH ds g)(L:g.length<=9)(AD:i+10<1000000)(M:FG ds u 3)(AE:ds.length<900):
 ∃ c b eo,K0 c/\JH c b/\(b.length<=9/\1<=b.length)/\c.length=ds.length+1/\eo<=i+4/\(∀a v,FG ds a v->FG c a v)/\ ∀(A:A2) (t:X) (Q:BM->A2->X->Prop),A 0=AG 0->A 5=AG 6->A 9=Z u->Fh l i K g5 g6 kz iM ds g t->
   (∀J e,(∀s∈k6,J s=A s)->Fh l eo K g5 g6 kz iM c b e->Q .CK J e)->ER (P:=V) ⟨[H2],[Ei]⟩ kx A t Q:=by
 have AF:=FU (l:=l) (i:=i) (n:=9) (by decide);have N:=FU (l:=l) (i:=i+1) (n:=2) (by decide);obtain⟨d,O⟩: ∃d,d=8+C2 l i 9:=⟨_,rfl⟩;obtain⟨k,w⟩:=Dp (show 0<=1+C2 l (i+1) 2 by omega);have R:=C.add (g2:=4) (jU:=d) (p:=u) M (by decide) (by decide) (by omega) (by omega);obtain⟨b,eo,S,T,a3,a4,U⟩:=ze (l:=l) B (K:=K) (g5:=g5) (g6:=g6) (kz:=kz) (iM:=iM) (ds:=ds++[DW ds.length 4 u d]) (m:=ds.length) NA k (i+2) g G.app L (by omega);refine⟨_,b,eo,R,S,⟨T,by omega⟩,by simp,by omega,λa v h=>h.app,λA t Q f x W Y A0=> ?_⟩;obtain⟨A1,or,y⟩:=Y;have z:=y.DH;have AJ:=E z;have A3:IntKind.i64.wrap (8+C2 l i 9)=8+C2 l i 9:=Ac (by omega) (by omega);simp(disch:=first|omega|simp only[A9];omega)[kx,f,x,W,z,G0,A3,-H,-D,-I,-F,-List.map_map];rw[<-O];refine Om (Fh.at ⟨A1,or,y⟩ (eo:=i+1) (by omega)) (by omega) λAK A4=> ?_;obtain⟨A5,A6,j⟩:=A4;obtain⟨o,A7⟩: ∃o,o=i+1:=⟨_,rfl⟩;have q:=j.DH;rw[<-A7]at q j w N;have AL:=E q;have A8:IntKind.i64.wrap (1+C2 l o 2)=(k:Int):=by rw[w];exact Ac (by omega) (by omega)
 simp(disch:=first|omega|simp only[A9];omega)[f,q,G0,A8,-H,-D,-I,-F,-List.map_map];refine U _ _ _ (by simp[f]) (by simp[x]) (by simp) (by simp) (Fh.at ⟨A5,A6,j⟩ (eo:=i+2) (by omega)) λJ e AA AB=> ?_;simp;exact A0 _ _ (λs r=>(AA s (aAe s r)).trans (by simp only[k6,CZ,EK,or_false]at r;rcases r with rfl|rfl|rfl|rfl|rfl|rfl|rfl|rfl|rfl<;>simp)) AB
theorem a8Z:IntKind.i64.wrap 1=1:=Ac (by decide) (by decide)
def OI:List Nat:=[0,1,4,5,6]
theorem aDT{l:List Int}(AM:l.length<=140737488355328){K:Int}{g5 g6 kz iM:Value}{ds:List Ct}{g:List HJ}{i j AX:Nat}(A7:K0 ds)(AN:JH ds g)(AO:g.length<=9)(Av:j<1000)(Aw:i+30<1000000)(Ax:ds.length<800)(Ap:j=0\/(FG ds AX 2/\FG ds u 3)):
 ∃ (e:List Ct) (m:List HJ) (eo Aj Ak:Nat),K0 e/\JH e m/\(m.length<=9/\1<=m.length)/\e.length<=ds.length+4/\eo<=i+9/\FG e Aj 2/\FG e Ak 3/\ ∀(A:A2) (t:X) (Q:BM->A2->X->Prop),A 0=AG 0->A 5=AG 6->A 8=Z AX->A 9=Z u->A 10=Z j->Fh l i K g5 g6 kz iM ds g t->
   (∀J A8,(∀s∈OI,J s=A s)->J 8=Z Aj->J 9=Z Ak->J 10=Z (j+1:Nat)->Fh l eo K g5 g6 kz iM e m A8->Q .CK J A8)->ER (P:=V) ⟨[H2],[Ei]⟩ Sr A t Q:=by
 have AP:=BZ (n:=j) (by omega);by_cases AA:j=0
 ·subst AA;have AA:(0:Int)=0:=rfl;have j:Nat:=0;have Aq:=FU (l:=l) (i:=i) (n:=17) (by decide);have AQ:=FU (l:=l) (i:=i+1) (n:=17) (by decide);have a3:=FU (l:=l) (i:=i+2) (n:=9) (by decide);obtain⟨b,AR⟩: ∃k,k=16+C2 l i 17:=⟨_,rfl⟩;obtain⟨c,AI⟩: ∃k,k=16+C2 l (i+1) 17:=⟨_,rfl⟩;obtain⟨f,C⟩: ∃k,k=8+C2 l (i+2) 9:=⟨_,rfl⟩;have AS:FG ds 0 (1-1):=⟨_,A7.Ly,rfl⟩;have AT:=A7.add (g2:=1) (jU:=b) (p:=0) AS (by decide) (by decide) (by omega) (by omega);have AJ:=AT.add (g2:=2) (jU:=c) (p:=ds.length) NA (by decide) (by decide) (by omega) (by omega);have y:=AJ.add (g2:=3) (jU:=f) (p:=(ds++[DW ds.length 1 (0:Nat) b]).length) NA (by decide) (by decide) (by omega) (by omega);have G:(ds++[DW ds.length 1 ((0:Nat):Int) b]).length=ds.length+1:=(by simp);have L:(ds++[DW ds.length 1 ((0:Nat):Int) b]++[DW (ds.length+1) 2 (ds.length:Int) c]).length=ds.length+2:=(by simp);rw[G]at AJ y;rw[L]at y;have M:FG (ds++[DW ds.length 1 ((0:Nat):Int) b]++[DW (ds.length+1) 2 (ds.length:Int) c]) (ds.length+1) 2:=by
   have:=NA (ds:=ds++[DW ds.length 1 ((0:Nat):Int) b]) (g2:=2) (jU:=c) (p:=ds.length);rw[G]at this;exact this
  have B:FG (ds++[DW ds.length 1 ((0:Nat):Int) b]++[DW (ds.length+1) 2 (ds.length:Int) c]++[DW (ds.length+2) 3 ((ds.length+1:Nat):Int) f]) (ds.length+2) 3:=(by have:=NA (ds:=ds++[DW ds.length 1 ((0:Nat):Int) b]++[DW (ds.length+1) 2 (ds.length:Int) c]) (g2:=3) (jU:=f) (p:=(ds.length+1:Nat));rw[L]at this;exact this);obtain⟨e,m,eo,N,O,R,AB,AU,o,S⟩:=Yi (l:=l) AM (K:=K) (g5:=g5) (g6:=g6) (kz:=kz) (iM:=iM) (i:=i+3) y AN.app.app.app AO (by omega) B (by simp;omega);refine⟨e,m,eo,ds.length+1,ds.length+2,N,O,R,by simp at AB;omega,by omega,o _ _ (M.app),o _ _ B,λA t Q d h AD AE q T U=> ?_⟩;obtain⟨W,or,r⟩:=T;have v:=r.DH;have AV:=E v;have AW:IntKind.i64.wrap (16+C2 l i 17)=b:=(by rw[AR];exact Ac (by omega) (by omega));simp(disch:=omega)[Sr,d,h,q,v,G0,AW];refine Om (Fh.at ⟨W,or,r⟩ (eo:=i+1) (by omega)) (by omega) λAl AK=> ?_;obtain⟨AY,AZ,Y⟩:=AK;obtain⟨A0,Aa⟩: ∃A0,A0=i+1:=⟨_,rfl⟩;have A1:=Y.DH;have Ar:=E A1;rw[<-Aa]at A1 Y AI AQ;have Ab:IntKind.i64.wrap (16+C2 l A0 17)=c:=(by rw[AI];exact Ac (by omega) (by omega));simp(disch:=omega)[U9,d,h,A1,G0,Ab];refine Om (ds:=ds++[DW ds.length 1 ((0:Nat):Int) b]) (Fh.at ⟨AY,AZ,Y⟩ (eo:=i+2) (by omega)) (by omega) λAs Ae=> ?_;obtain⟨Af,Ag,z⟩:=Ae;obtain⟨A3,Ah⟩: ∃A3,A3=i+2:=⟨_,rfl⟩;have A4:=z.DH;have At:=E A4;rw[<-Ah]at A4 z C a3;rw[G]at z⊢;have AF:IntKind.i64.wrap (8+C2 l A3 9)=f:=(by rw[C];exact Ac (by omega) (by omega));simp(disch:=omega)[d,h,A4,G0,AF];refine Om (ds:=ds++[DW ds.length 1 ((0:Nat):Int) b]++[DW (ds.length+1) 2 (ds.length:Int) c]) (Fh.at ⟨Af,Ag,z⟩ (eo:=i+3) (by omega)) (by omega) λt3 AL=> ?_;rw[L]at AL⊢;simp;refine S _ _ _ (by simp[d]) (by simp[h]) (by simp) AL λJ A8 a A5=> ?_;have A6:=(a 10 (by decide)).trans (show _=Z (0:Nat) by simp[q]);simp[A6];exact U _ _ (λs w=>by
   simp only[OI,CZ,EK,or_false]at w;rcases w with rfl|rfl|rfl|rfl|rfl
   ·simpa using a 0 (by decide)
   ·simpa using a 1 (by decide)
   ·simpa using a 4 (by decide)
   ·simpa using a 5 (by decide)
   ·simpa using a 6 (by decide)) (by simpa using a 8 (by decide)) (by simpa using a 9 (by decide)) (by simp[a8Z]) A5
 obtain⟨M,B⟩:=Ap.resolve_left AA;by_cases Ai:C2 l i 4=0
 ·skip
  have Aq:=FU (l:=l) (i:=(i+1)) (n:=17) (by decide);have AQ:=FU (l:=l) (i:=(i+1)+1) (n:=17) (by decide);have a3:=FU (l:=l) (i:=(i+1)+2) (n:=9) (by decide);obtain⟨b,AR⟩: ∃k,k=16+C2 l (i+1) 17:=⟨_,rfl⟩;obtain⟨c,AI⟩: ∃k,k=16+C2 l ((i+1)+1) 17:=⟨_,rfl⟩;obtain⟨f,C⟩: ∃k,k=8+C2 l ((i+1)+2) 9:=⟨_,rfl⟩;have AS:FG ds 0 (1-1):=⟨_,A7.Ly,rfl⟩;have AT:=A7.add (g2:=1) (jU:=b) (p:=0) AS (by decide) (by decide) (by omega) (by omega);have AJ:=AT.add (g2:=2) (jU:=c) (p:=ds.length) NA (by decide) (by decide) (by omega) (by omega);have y:=AJ.add (g2:=3) (jU:=f) (p:=(ds++[DW ds.length 1 (0:Nat) b]).length) NA (by decide) (by decide) (by omega) (by omega);have G:(ds++[DW ds.length 1 ((0:Nat):Int) b]).length=ds.length+1:=(by simp);have L:(ds++[DW ds.length 1 ((0:Nat):Int) b]++[DW (ds.length+1) 2 (ds.length:Int) c]).length=ds.length+2:=(by simp);rw[G]at AJ y;rw[L]at y;have M:FG (ds++[DW ds.length 1 ((0:Nat):Int) b]++[DW (ds.length+1) 2 (ds.length:Int) c]) (ds.length+1) 2:=(by have:=NA (ds:=ds++[DW ds.length 1 ((0:Nat):Int) b]) (g2:=2) (jU:=c) (p:=ds.length);rw[G]at this;exact this);have B:FG (ds++[DW ds.length 1 ((0:Nat):Int) b]++[DW (ds.length+1) 2 (ds.length:Int) c]++[DW (ds.length+2) 3 ((ds.length+1:Nat):Int) f]) (ds.length+2) 3:=(by have:=NA (ds:=ds++[DW ds.length 1 ((0:Nat):Int) b]++[DW (ds.length+1) 2 (ds.length:Int) c]) (g2:=3) (jU:=f) (p:=(ds.length+1:Nat));rw[L]at this;exact this);obtain⟨e,m,eo,N,O,R,AB,AU,o,S⟩:=Yi (l:=l) AM (K:=K) (g5:=g5) (g6:=g6) (kz:=kz) (iM:=iM) (i:=(i+1)+3) y AN.app.app.app AO (by omega) B (by simp;omega);refine⟨e,m,eo,ds.length+1,ds.length+2,N,O,R,by simp at AB;omega,by omega,o _ _ (M.app),o _ _ B,λA t Q d h AD AE q T U=> ?_⟩;obtain⟨W,or,r⟩:=T;have v:=r.DH;have AV:=E v;have AW:IntKind.i64.wrap (16+C2 l (i+1) 17)=b:=(by rw[AR];exact Ac (by omega) (by omega));simp(disch:=omega)[Sr,d,h,q,v,G0,AA,Ai,AW];refine Om (Fh.at ⟨W,or,r⟩ (eo:=(i+1)+1) (by omega)) (by omega) λAl AK=> ?_;obtain⟨AY,AZ,Y⟩:=AK;obtain⟨A0,Aa⟩: ∃A0,A0=(i+1)+1:=⟨_,rfl⟩;have A1:=Y.DH;have Ar:=E A1;rw[<-Aa]at A1 Y AI AQ;have Ab:IntKind.i64.wrap (16+C2 l A0 17)=c:=(by rw[AI];exact Ac (by omega) (by omega));simp(disch:=omega)[U9,d,h,A1,G0,Ab];refine Om (ds:=ds++[DW ds.length 1 ((0:Nat):Int) b]) (Fh.at ⟨AY,AZ,Y⟩ (eo:=(i+1)+2) (by omega)) (by omega) λAs Ae=> ?_;obtain⟨Af,Ag,z⟩:=Ae;obtain⟨A3,Ah⟩: ∃A3,A3=(i+1)+2:=⟨_,rfl⟩;have A4:=z.DH;have At:=E A4;rw[<-Ah]at A4 z C a3;rw[G]at z⊢;have AF:IntKind.i64.wrap (8+C2 l A3 9)=f:=(by rw[C];exact Ac (by omega) (by omega));simp(disch:=omega)[d,h,A4,G0,AF];refine Om (ds:=ds++[DW ds.length 1 ((0:Nat):Int) b]++[DW (ds.length+1) 2 (ds.length:Int) c]) (Fh.at ⟨Af,Ag,z⟩ (eo:=(i+1)+3) (by omega)) (by omega) λt3 AL=> ?_;rw[L]at AL⊢;simp;refine S _ _ _ (by simp[d]) (by simp[h]) (by simp) AL λJ A8 a A5=> ?_;have A6:=(a 10 (by decide)).trans (show _=Z j by simp[q]);simp[A6,AP];exact U _ _ (λs w=>by
   simp only[OI,CZ,EK,or_false]at w;rcases w with rfl|rfl|rfl|rfl|rfl
   ·simpa using a 0 (by decide)
   ·simpa using a 1 (by decide)
   ·simpa using a 4 (by decide)
   ·simpa using a 5 (by decide)
   ·simpa using a 6 (by decide)) (by simpa using a 8 (by decide)) (by simpa using a 9 (by decide)) (by simp[]) A5
 by_cases Am:C2 l (i+1) 2=0
 ·skip
  have a3:=FU (l:=l) (i:=i+2) (n:=9) (by decide);obtain⟨f,C⟩: ∃k,k=8+C2 l (i+2) 9:=⟨_,rfl⟩;have y:=A7.add (g2:=3) (jU:=f) (p:=AX) M (by decide) (by decide) (by omega) (by omega);have An:FG (ds++[DW ds.length 3 (AX:Int) f]) ds.length 3:=NA;obtain⟨e,m,eo,N,O,R,AB,AU,o,S⟩:=Yi (l:=l) AM (K:=K) (g5:=g5) (g6:=g6) (kz:=kz) (iM:=iM) (i:=i+3) y AN.app AO (by omega) An (by simp;omega);refine⟨e,m,eo,AX,ds.length,N,O,R,by simp at AB;omega,by omega,o _ _ M.app,o _ _ An,λA t Q d h AD AE q T U=> ?_⟩;obtain⟨W,or,r⟩:=T;have v:=r.DH;have AV:=E v;have AF:IntKind.i64.wrap (8+C2 l (i+2) 9)=f:=(by rw[C];exact Ac (by omega) (by omega));have Au:((i:Int)+1+1).toNat=i+2:=(by omega);have Ay:IntKind.i64.wrap (8+C2 l (i+1+1) 9)=f:=AF;simp(disch:=omega)[Sr,U9,d,h,AD,q,v,G0,AA,Ai,Am,AF,Au];refine Om (Fh.at ⟨W,or,r⟩ (eo:=i+3) (by omega)) (by omega) λAl AK=> ?_;simp;refine S _ _ _ (by simp[d]) (by simp[h]) (by simp) AK λJ A8 a A5=> ?_;have A6:=(a 10 (by decide)).trans (show _=Z j by simp[q]);simp(disch:=omega)[A6,AP];exact U _ _ (λs w=>by
   simp only[OI,CZ,EK,or_false]at w;rcases w with rfl|rfl|rfl|rfl|rfl
   ·simpa using a 0 (by decide)
   ·simpa using a 1 (by decide)
   ·simpa using a 4 (by decide)
   ·simpa using a 5 (by decide)
   ·simpa using a 6 (by decide)) (by simpa[AD]using a 8 (by decide)) (by simpa[AE]using a 9 (by decide)) (by simp[]) A5
 ·skip
  obtain⟨e,m,eo,N,O,R,AB,AU,o,S⟩:=Yi (l:=l) AM (K:=K) (g5:=g5) (g6:=g6) (kz:=kz) (iM:=iM) (i:=i+2) A7 AN AO (by omega) B (by omega);refine⟨e,m,eo,AX,u,N,O,R,by omega,by omega,o _ _ M,o _ _ B,λA t Q d h AD AE q T U=> ?_⟩;obtain⟨W,or,r⟩:=T;have v:=r.DH;have AV:=E v;simp(disch:=first|omega|simp only[A9];omega)[Sr,U9,d,q,v,G0,AA,Ai,Am,-H,-D,-I,-F,-List.map_map];refine S _ _ _ (by simp[d]) (by simp[h]) (by simp[AE]) (Fh.at ⟨W,or,r⟩ (eo:=i+2) (by omega)) λJ A8 a A5=> ?_;have A6:=(a 10 (by decide)).trans (show _=Z j by simp[q]);simp[A6,AP];exact U _ _ (λs w=>by
   simp only[OI,CZ,EK,or_false]at w;rcases w with rfl|rfl|rfl|rfl|rfl
   ·simpa using a 0 (by decide)
   ·simpa using a 1 (by decide)
   ·simpa using a 4 (by decide)
   ·simpa using a 5 (by decide)
   ·simpa using a 6 (by decide)) (by simpa[AD]using a 8 (by decide)) (by simpa[AE]using a 9 (by decide)) (by simp[]) A5
theorem aB9{l:List Int}(E:l.length<=140737488355328){K:Int}{g5 g6 kz iM:Value}(AJ:ah<=100): ∀(r j i:Nat) (ds:List Ct) (g:List HJ) (AX u:Nat),j+r=ah->K0 ds->JH ds g->g.length<=9->ds.length<=1+4*j->i+10*r+100<1000000->(j=0\/(FG ds AX 2/\FG ds u 3))->
 ∃ (b:List Ct) (d:List HJ) (eo:Nat),K0 b/\JH b d/\(d.length<=9/\(1<=r+g.length->1<=d.length))/\b.length<=1+4*ah/\eo<=i+10*r/\ ∀(A:A2) (t:X) (Q:BM->A2->X->Prop),A 0=AG 0->A 5=AG 6->A 6=Z ah->A 8=Z AX->A 9=Z u->A 10=Z j->Fh l i K g5 g6 kz iM ds g t->
   (∀J f,(∀s∈OI,J s=A s)->Fh l eo K g5 g6 kz iM b d f->Q (.Ao 0) J f)->Bc V (.loop dU) A t Q:=by
 intro r;induction r with
 | zero=>intro j i ds g AX u F n o p G H y;refine⟨ds,g,i,n,o,⟨p,by omega⟩,by omega,by omega,λA t Q q v h z B k w x=> ?_⟩;refine Ba (aC:=⟨[H2],[Ei]⟩) λL C=> ?_;have c: ¬(j:Int)<ah:=(by omega);have M: ¬j<ah:=(by omega);simp[dU,h,k,c];exact x _ _ (λs m=>by simp only[OI,CZ,EK,or_false]at m;rcases m with rfl|rfl|rfl|rfl|rfl<;>simp) w
 | succ r N=>intro j i ds g AX u F n o p G H y;obtain⟨O,P,R,S,T,U,W,a3,a4,AK,Y,A0,A1⟩:=aDT (l:=l) E (K:=K) (g5:=g5) (g6:=g6) (kz:=kz) (iM:=iM) (i:=i) (j:=j) n o p (by omega) (by omega) (by omega) y;obtain⟨A3,JO,A4,A5,A6,D,A7,AL,A8⟩:=N (j+1) R O P S T (by omega) U W a3.1 (by omega) (by omega) (.inr ⟨Y,A0⟩);refine⟨A3,JO,A4,A5,A6,⟨D.1,λ_=>D.2 (by have:=a3.2;omega)⟩,A7,by omega,λA t Q q v h z B k w x=> ?_⟩;refine Ba (aC:=⟨[H2],[Ei]⟩) λL C=> ?_;have c:(j:Int)<ah:=(by omega);have M:j<ah:=(by omega);simp[dU,h,k,c];refine A1 _ _ _ (by simp[q]) (by simp[v]) (by simp[z]) (by simp[B]) (by simp[k]) w λJ f m A9 AA AB AD=> ?_;have e: ∀s∈OI,J s=A s:= λs a=>(m s a).trans (by simp only[OI,CZ,EK,or_false]at a;rcases a with rfl|rfl|rfl|rfl|rfl<;>simp);simp;exact C _ _ (A8 J f Q ((e 0 (by decide)).trans q) ((e 5 (by decide)).trans v) ((e 6 (by decide)).trans h) A9 AA AB AD λAE AF AI=>x AE AF λs a=>(AI s a).trans (e s a))
theorem a0H:G8 1 2:=by unfold G8;omega
theorem a4V{n:Nat}:(((List.replicate n (CB 1 2)).map BT).flatten).length=n*3:=by rw[a6J,Ov]
def UQ:List Nat:=[0,1,4,5,14,15,16,17]
theorem aAH(b:J 0=A 0)(c:J 1=A 1)(d:J 4=A 4)(e:J 5=A 5)(f:J 14=A 14)(g:J 15=A 15)(h:J 16=A 16)(i:J 17=A 17): ∀k∈UQ,J k=A k:= λk a=>by simp only[UQ,CZ,EK,or_false]at a;rcases a with rfl|rfl|rfl|rfl|rfl|rfl|rfl|rfl<;>assumption
theorem a32{a0 bG bW a3 a4 fW jZ lq qe pJ df dK e0 fX kU:Value}(AJ:(R:Int)=if m<1 then 1 else m)(AL:R<=100)(L: ∀b∈aU,b≠P/\b≠tM)(S:tM≠P):
 ∀ (r n:Nat) (d:Nat) (A:A2) (t:X),n+r=R->A 16=Z m->A 17=AG P->A 18=Z n->t.Y P=some ⟨[a0,bG,bW,a3,a4,fW,jZ,lq,qe,AM tM je.length 1,AM d n 3,pJ,df,dK,e0,fX,kU],true⟩->t.Y tM=some ⟨je.map Z,true⟩->t.Y d=some ⟨((List.replicate n (CB 1 2)).map BT).flatten,true⟩->
   d≠P->d≠tM->(∀b∈aU,b≠d/\b<t.ac)->
   (∀J f,(∀s∈UQ,J s=A s)->t.ac<=f.ac->(∀b∈aU,f.Y b=t.Y b)->f.Y P=some ⟨[a0,bG,bW,a3,a4,fW,jZ,lq,qe,AK je,DU (List.replicate R (CB 1 2)),pJ,df,dK,e0,fX,kU],true⟩->Q (.Ao 6) J f)->Bc V (.loop To) A t Q:=by
 intro r;induction r with
 | zero=>
   intro n d A t T k v w g h i l y q B;have U:n=R:=(by omega);subst U;have C:=E g;have M:=E h;have W:=E i;refine LO (o:=tM) (p:=P) (j:=9) (z:=1) (cb:=je.map λx=>[Z x]) (by rw[Jd];exact h) K7 g (by simp) S ?_;refine LO (o:=d) (p:=P) (j:=10) (z:=3) (cb:=(List.replicate n (CB 1 2)).map BT) (cells:=[a0,bG,bW,a3,a4,fW,jZ,lq,qe,AK je,AM d n 3,pJ,df,dK,e0,fX,kU]) ?_ wN ?_ (by simp) l ?_
   ·rw[A6 l,A6 y];exact i
   ·rw[AR (by simpa using C)];simp
   refine Ba (aC:=⟨[H2,PV],[Ei]⟩) λA3 N=> ?_;have c: ¬((n:Int)<if m<1 then 1 else m):=(by omega);simp(disch:=omega)[To,k8,k,w,c];refine B _ _ (aAH (by simp) (by simp) (by simp) (by simp) (by simp) (by simp) (by simp) (by simp)) (by simp) (λb hb=> ?_) ?_
   ·obtain⟨u,O⟩:=L b hb;obtain⟨G,A4⟩:=q b hb;rw[A6 u,A6 G,A6 u,A6 O]
   ·rw[AR (by simpa using C)];simp
 | succ r A5=>
   intro n d A t T k v w g h i l y q B;refine Ba (aC:=⟨[H2,PV],[Ei]⟩) λA3 N=> ?_;have C:=E g;have M:=E h;have W:=E i;have c:(n:Int)<if m<1 then 1 else m:=by omega
   have AN:=a0H;have A7:=BZ (n:=n) (by omega);have A8:=a4V (n:=n);have AO:(List.replicate n [Value.bool (CB 1 2).Hq,AT (CB 1 2).a,AT (CB 1 2).b]).flatten.length=n*3:=(by simpa[BT]using A8);have AA:(n+1)*56<=140737488355328/\n<=9223372036854775806:=(by omega);have AP:P≠d:= λe=>l e.symm;have AB:tM≠d:= λe=>y e.symm;simp(disch:=first|omega|simp only[A9];omega)[To,k8,k,v,w,c,g,i,BT,AA,A7,-H,-D,-I,-F,-List.map_map];refine N _ _ (A5 (n+1) (t.ac+4) _ _ (by omega) (by simp[k]) (by simp[v]) (by simp) ?_ ?_ ?_ (by omega) (by omega) (λb hb=> ?_) λJ f AD AE AF AI=>B J f (λs K=>(AD s K).trans ?_) (by simp at AE;omega) (λb hb=>(AF b hb).trans ?_) AI)
   ·rw[AR (by simp;omega)]
   ·rw[A6 (by omega),A6 (by omega),A6 AB,A6 (by omega),Ab M];exact h
   ·rw[A6 (by omega),AR (by simp),DP (by omega),List.replicate_succ'];simp[BT]
   ·have:=(q b hb).2;exact⟨by omega,by simp;omega⟩
   ·simp only[UQ,CZ,EK,or_false]at K;rcases K with rfl|rfl|rfl|rfl|rfl|rfl|rfl|rfl<;>simp
   ·obtain⟨u,O⟩:=L b hb;obtain⟨G,A4⟩:=q b hb;rw[A6 u,A6 (by omega),A6 G,A6 (by omega),X.Ab]
theorem tL{a0 bG bW a3 a4 fW jZ lq qe pJ df dK e0 fX kU:Value}(g:(R:Int)=if m<1 then 1 else m)(h:R<=100){t:X}(i:A 16=Z m)(k:A 17=AG P)(l:A 18=Z 0)
 (d:t.Y P=some ⟨[a0,bG,bW,a3,a4,fW,jZ,lq,qe,AM tM je.length 1,.slice none 0 0,pJ,df,dK,e0,fX,kU],true⟩) (e:t.Y tM=some ⟨je.map Z,true⟩) (f:tM≠P) (c: ∀b∈aU,b≠P/\b≠tM/\b<t.ac)
 (n: ∀J a,(∀s∈UQ,J s=A s)->t.ac<=a.ac->(∀b∈aU,a.Y b=t.Y b)->a.Y P=some ⟨[a0,bG,bW,a3,a4,fW,jZ,lq,qe,AK je,DU (List.replicate R (CB 1 2)),pJ,df,dK,e0,fX,kU],true⟩->Q (.Ao 6) J a):Bc V (.loop To) A t Q:=by
 have y:=E d;have p:=E e;refine Nd (o:=P) (j:=10) (z:=3) d rfl ?_;refine a32 (P:=P) (tM:=tM) (aU:=aU) (a0:=a0) (bG:=bG) (bW:=bW) (a3:=a3) (a4:=a4) (fW:=fW) (jZ:=jZ) (lq:=lq) (qe:=qe) (pJ:=pJ) (df:=df) (dK:=dK) (e0:=e0) (fX:=fX) (kU:=kU) (je:=je) g h (λb hb=>⟨(c b hb).1,(c b hb).2.1⟩) f R 0 t.ac _ _ (by omega) i k (by simpa using l) ?_ ?_ ?_ (by omega) (by omega) (λb hb=> ?_) λJ a q r u v=>n J a q (by simp at r;omega) (λb hb=>(u b hb).trans ?_) v
 ·rw[AR (by simp;omega)];rfl
 ·rw[A6 f,A6 (by omega),Ab p];exact e
 ·rw[A6 (by omega),AR (by simp)];simp
 ·have:=(c b hb).2.2;exact⟨by omega,by simp;omega⟩
 ·obtain⟨w,B,x⟩:=c b hb;rw[A6 w,A6 (by omega),Ab x]
structure dL(x:Dg)(n:Nat):Prop where
 BV:x.name=FE 112 n
 k:1<=x.k/\x.k<=2
 m:0<=x.m/\x.m<=2
 q:x.k<=x.q/\x.q<=x.k+x.m
 Dz:x.Dz.a=0/\x.Dz.b=0/\x.Dz.c=0/\0<=x.Dz.d/\x.Dz.d<=3/\0<=x.Dz.e/\x.Dz.e<=2
 aMA:x.Af=[0,1]\/x.Af=[0]
 Mx: ∃R:Nat,(R:Int)=(if x.m<1 then 1 else x.m)/\x.Mx=List.replicate R (CB 1 2)
 KR:x.KR=CB 1 1000
 KV:x.KV=CB 30 1
theorem mM{n:Nat}{k q a b:Int}(e:1<=k/\k<=2)(f:0<=m/\m<=2)(g:k<=q/\q<=k+m)(c:0<=a/\a<=3)(d:0<=b/\b<=2)(h:je=[0,1]\/je=[0])(i:(R:Int)=if m<1 then 1 else m):dL ⟨FE 112 n,k,m,q,⟨0,0,0,a,b⟩,je,List.replicate R (CB 1 2),CB 1 1000,CB 30 1⟩ n:=
 ⟨rfl,e,f,g,⟨rfl,rfl,rfl,c.1,c.2,d.1,d.2⟩,h,⟨R,i,rfl⟩,rfl,rfl⟩
def TS(ps:List Dg)(W:Nat):Prop:= ∀(i:Nat) (x:Dg),ps[i]?=some x->dL x (W-i)
theorem TS.add{x:Dg}(h:TS ps W)(b:dL x (W-ps.length)):TS (ps++[x]) W:= λi y a=>by
 by_cases c:i<ps.length
 ·rw[Ke c]at a;exact h i y a
 ·have d:=(Ae.1 a).1;simp only[En,DZ,KC]at d;have e:i=ps.length:=(by omega);subst e;rw[Ib (Aj _)]at a;simp at a;subst a;exact b
structure a17(l:List Int)(i:Nat)(K:Int)(g5 g6 a b iM:Value)(ps:List Dg)(op:Nat)(t:X):Prop where
 DH:t.Y 0=some ⟨[AK l,Z i],true⟩
 JK:t.Y 1=some ⟨PZ,true⟩
 aI8:t.Y 6=some ⟨[Z K,g5,g6,a,b,AM op ps.length 17,iM],true⟩
 ai:t.Y op=some ⟨(ps.map BE).flatten,true⟩
 tS:op≠0
 a9f:op≠1
 aM7:op≠6
def cZ(l:List Int)(i:Nat)(K:Int)(g5 g6 a b iM:Value)(ps:List Dg)(t:X):Prop:= ∃op,a17 l i K g5 g6 a b iM ps op t
def Qd:List Nat:=[0,1,4,5]
theorem pj{l:List Dg}:(l.map BE).flatten.length=l.length*17:=by rw[LV (z:=17) λr a=>by obtain⟨x,_,rfl⟩:=CG.1 a;rfl,E9]
theorem a6B{l:List Int}(BK:l.length<=140737488355328){K:Int}{g5 g6 pE pF iM:Value}(BL:W<=100): ∀(r i:Nat) (ps:List Dg),ps.length+r=W->TS ps W->i+10*r+100<1000000->
 ∃ (h:List Dg) (eo:Nat),TS h W/\h.length=W/\eo<=i+10*r/\ ∀(A:A2) (t:X) (Q:BM->A2->X->Prop),A 0=AG 0->A 5=AG 6->A 14=Z r->cZ l i K g5 g6 pE pF iM ps t->
   (∀J d,(∀s∈Qd,J s=A s)->cZ l eo K g5 g6 pE pF iM h d->Q (.Ao 4) J d)->Bc V (.loop W6) A t Q:=by
 intro r;induction r with
 | zero=>intro i ps Aq A3 Ar;refine⟨ps,i,A3,by omega,by omega,λA t Q g v j w x=> ?_⟩;refine Ba (aC:=⟨[H2,PV],[Ei]⟩) λAY A4=> ?_;simp[W6,j];exact x _ _ (λs c=>by simp only[Qd,CZ,EK,or_false]at c;rcases c with rfl|rfl|rfl|rfl<;>simp) w
 | succ r AZ=>
   intro i ps Aq A3 Ar;have BN:=FU (l:=l) (i:=i) (n:=2) (by decide);have As:=FU (l:=l) (i:=i+1) (n:=3) (by decide);obtain⟨k,At⟩: ∃k,1+C2 l i 2=k:=⟨_,rfl⟩;obtain⟨m,A7⟩: ∃m,C2 l (i+1) 3=m:=⟨_,rfl⟩;rw[A7]at As;have Av:=FU (l:=l) (i:=i+2) (n:=m+1) (by omega);obtain⟨Aa,A8⟩: ∃q,C2 l (i+2) (m+1)=q:=⟨_,rfl⟩;rw[A8]at Av;obtain⟨q,Aw⟩: ∃q,k+Aa=q:=⟨_,rfl⟩;have Ax:=FU (l:=l) (i:=i+3) (n:=4) (by decide);obtain⟨A5,AA⟩: ∃m,C2 l (i+3) 4=m:=⟨_,rfl⟩;rw[AA]at Ax;have Ay:=FU (l:=l) (i:=i+4) (n:=3) (by decide);obtain⟨A6,AB⟩: ∃m,C2 l (i+4) 3=m:=⟨_,rfl⟩;rw[AB]at Ay;obtain⟨R,y⟩: ∃R:Nat,(R:Int)=if m<1 then 1 else m:=⟨(if m<1 then 1 else m).toNat,by split<;>omega⟩
   have BO:R<=2:=(by split at y<;>omega);have Ab:IntKind.i64.wrap (1+C2 l i 2)=k:=(by rw[Ac (by omega) (by omega)];exact At);have Ae:IntKind.i64.wrap (m+1)=m+1:=Ac (by omega) (by omega);have Af:IntKind.i64.wrap (k+Aa)=q:=(by rw[Ac (by omega) (by omega)];exact Aw);have Ag:IntKind.i64.wrap (r:Int)=(r:Int):=Ac (by omega) (by omega);have Ah:(0:Int)<(r:Int)+1:=(by omega);have Ai:((i:Int)+1).toNat=i+1:=(by omega);have Aj:((i:Int)+1+1).toNat=i+2:=(by omega);have Ak:((i:Int)+1+1+1).toNat=i+3:=(by omega);have Al:((i:Int)+1+1+1+1).toNat=i+4:=(by omega);have Am:((i:Int)+1+1+1+1+1).toNat=i+5:=(by omega);have An:H2.fn [.int .u8 112,.int .i64 ((r:Int)+1)]=some (.string (FE 112 (r+1))):=ZR (n:=r+1) (C:=112) rfl ⟨by decide,by omega⟩;have BQ:G8 1 1000:=(by unfold G8;omega);have BR:G8 30 1:=(by unfold G8;omega);by_cases Ap:C2 l (i+5) 5=0
   ·skip
    obtain⟨h,eo,z,B,AD,G⟩:=AZ (i+6) (ps++[⟨FE 112 (r+1),k,m,q,⟨0,0,0,A5,A6⟩,[0],List.replicate R (CB 1 2),CB 1 1000,CB 30 1⟩]) (by simp;omega) (A3.add (by have:W-ps.length=r+1:=(by omega);rw[this];exact mM ⟨by omega,by omega⟩ ⟨by omega,by omega⟩ ⟨by omega,by omega⟩ ⟨by omega,by omega⟩ ⟨by omega,by omega⟩ (.inr rfl) y)) (by omega);refine⟨h,eo,z,B,by omega,λA t Q g v j w x=> ?_⟩;obtain⟨op,⟨L,M,N,O,AE,AF,AI⟩⟩:=w;refine Ba (aC:=⟨[H2,PV],[Ei]⟩) λAY A4=> ?_;have Az:=E L;have B0:=E M;have B2:=E N;have B3:=E O;simp(disch:=first|omega|simp only[A9];omega)[W6,hv,g,j,Ah,L,G0,An,BT,Ab,Ae,Af,A7,A8,AA,AB,Ai,Aj,Ak,Al,Am,Ap];refine tL (P:=t.ac+14) (tM:=t.ac+16) (aU:=[0,1,6,op]) (a0:=CU (FE 112 (r+1))) (bG:=Z k) (bW:=Z m) (a3:=Z q) (a4:=Z 0) (fW:=Z 0) (jZ:=Z 0) (lq:=Z A5) (qe:=Z A6) (pJ:= .bool (CB 1 1000).Hq) (df:=AT (CB 1 1000).a) (dK:=AT (CB 1 1000).b) (e0:= .bool (CB 30 1).Hq) (fX:=AT (CB 30 1).a) (kU:=AT (CB 30 1).b) (je:=[0]) (m:=m) (R:=R) y (by omega) (by simp) (by simp) (by simp) (by simp(disch:=first|omega|simp only[A9];omega)[-H,-D,-I,-F,-List.map_map]) (by simp(disch:=first|omega|simp only[A9];omega)[-H,-D,-I,-F,-List.map_map]) (by omega) (λb hb=> ?_) λJ d c AJ f o=> ?_
    ·simp only[CZ,EK,or_false]at hb;simp only[Au,B1];omega
    have BC: ¬0=op:= λe=>AE e.symm;have BD: ¬1=op:= λe=>AF e.symm;have BF: ¬6=op:= λe=>AI e.symm;have S:d.Y 0=some ⟨[AK l,Z (i+6:Nat)],true⟩:=(f 0 (by simp)).trans (by simp(disch:=first|omega|simp only[A9];omega)[-H,-D,-I,-F,-List.map_map];omega);have AL:d.Y 1=some ⟨PZ,true⟩:=(f 1 (by simp)).trans (by simp(disch:=first|omega|simp only[A9];omega)[M,-H,-D,-I,-F,-List.map_map]);have T:d.Y 6=some ⟨[Z K,g5,g6,pE,pF,AM op ps.length 17,iM],true⟩:=(f 6 (by simp)).trans (by simp(disch:=first|omega|simp only[A9];omega)[N,-H,-D,-I,-F,-List.map_map]);have U:d.Y op=some ⟨(ps.map BE).flatten,true⟩:=(f op (by simp)).trans (by simp(disch:=first|omega|simp only[A9];omega)[O,-H,-D,-I,-F,-List.map_map]);have z0:J 0=AG 0:=(c 0 (by decide)).trans (by simp[g]);have AN:J 1=A 1:=(c 1 (by decide)).trans (by simp);have z4:J 4=A 4:=(c 4 (by decide)).trans (by simp);have p:J 5=AG 6:=(c 5 (by decide)).trans (by simp[v]);have AO:J 14=Z ((r:Int)+1):=(c 14 (by decide)).trans (by simp[j]);have A0:J 17=AG (t.ac+14):=(c 17 (by decide)).trans (by simp);clear c f AJ;obtain⟨P,AP⟩: ∃P,P=t.ac+14:=⟨_,rfl⟩
    have A1:P≠0/\P≠1/\P≠6/\P≠op:=(by omega);rw[<-AP]at o A0;obtain⟨A1,BG,BH,pp⟩:=A1;have BI:=E S;have BJ:=E T;have mp:=E U;have I1:=E o;have AQ:=pj (l:=ps);have AR:(ps.length+1)*240<=140737488355328/\ps.length<=9223372036854775806:=(by omega);simp(disch:=first|omega|simp only[A9];omega)[p,AO,A0,T,U,o,AQ,AR,Ag,-H,-D,-I,-F,-List.map_map];refine A4 _ _ (G _ _ _ (by simp[z0]) (by simp[p]) (by simp) ⟨d.ac+4,?_,?_,?_,?_,by omega,by omega,by omega⟩ λAS AU AV AW=>x AS AU (λs u=>(AV s u).trans ?_) AW)
    ·simp(disch:=omega)[S]
    ·simp(disch:=omega)[AL]
    ·simp(disch:=first|omega|simp only[A9];omega)[-H,-D,-I,-F,-List.map_map]
    ·simp(disch:=first|omega|simp only[A9];omega)[-H,-D,-I,-F,-List.map_map];rw[DP (by omega)];simp[BE]
    ·simp only[Qd,CZ,EK,or_false]at u;rcases u with rfl|rfl|rfl|rfl<;>simp[z0,AN,z4,p,g,v]
   ·skip
    obtain⟨h,eo,z,B,AD,G⟩:=AZ (i+6) (ps++[⟨FE 112 (r+1),k,m,q,⟨0,0,0,A5,A6⟩,[0,1],List.replicate R (CB 1 2),CB 1 1000,CB 30 1⟩]) (by simp;omega) (A3.add (by have:W-ps.length=r+1:=(by omega);rw[this];exact mM ⟨by omega,by omega⟩ ⟨by omega,by omega⟩ ⟨by omega,by omega⟩ ⟨by omega,by omega⟩ ⟨by omega,by omega⟩ (.inl rfl) y)) (by omega);refine⟨h,eo,z,B,by omega,λA t Q g v j w x=> ?_⟩;obtain⟨op,⟨L,M,N,O,AE,AF,AI⟩⟩:=w;refine Ba (aC:=⟨[H2,PV],[Ei]⟩) λAY A4=> ?_;have Az:=E L;have B0:=E M;have B2:=E N;have B3:=E O;simp(disch:=first|omega|simp only[A9];omega)[W6,hv,g,j,Ah,L,G0,An,BT,Ab,Ae,Af,A7,A8,AA,AB,Ai,Aj,Ak,Al,Am,Ap];refine tL (P:=t.ac+14) (tM:=t.ac+10) (aU:=[0,1,6,op]) (a0:=CU (FE 112 (r+1))) (bG:=Z k) (bW:=Z m) (a3:=Z q) (a4:=Z 0) (fW:=Z 0) (jZ:=Z 0) (lq:=Z A5) (qe:=Z A6) (pJ:= .bool (CB 1 1000).Hq) (df:=AT (CB 1 1000).a) (dK:=AT (CB 1 1000).b) (e0:= .bool (CB 30 1).Hq) (fX:=AT (CB 30 1).a) (kU:=AT (CB 30 1).b) (je:=[0,1]) (m:=m) (R:=R) y (by omega) (by simp) (by simp) (by simp) (by simp(disch:=first|omega|simp only[A9];omega)[-H,-D,-I,-F,-List.map_map]) (by simp(disch:=first|omega|simp only[A9];omega)[-H,-D,-I,-F,-List.map_map]) (by omega) (λb hb=> ?_) λJ d c AJ f o=> ?_
    ·simp only[CZ,EK,or_false]at hb;simp only[Au,B1];omega
    have BC: ¬0=op:= λe=>AE e.symm;have BD: ¬1=op:= λe=>AF e.symm;have BF: ¬6=op:= λe=>AI e.symm;have S:d.Y 0=some ⟨[AK l,Z (i+6:Nat)],true⟩:=(f 0 (by simp)).trans (by simp(disch:=first|omega|simp only[A9];omega)[-H,-D,-I,-F,-List.map_map];omega);have AL:d.Y 1=some ⟨PZ,true⟩:=(f 1 (by simp)).trans (by simp(disch:=first|omega|simp only[A9];omega)[M,-H,-D,-I,-F,-List.map_map]);have T:d.Y 6=some ⟨[Z K,g5,g6,pE,pF,AM op ps.length 17,iM],true⟩:=(f 6 (by simp)).trans (by simp(disch:=first|omega|simp only[A9];omega)[N,-H,-D,-I,-F,-List.map_map]);have U:d.Y op=some ⟨(ps.map BE).flatten,true⟩:=(f op (by simp)).trans (by simp(disch:=first|omega|simp only[A9];omega)[O,-H,-D,-I,-F,-List.map_map]);have z0:J 0=AG 0:=(c 0 (by decide)).trans (by simp[g]);have AN:J 1=A 1:=(c 1 (by decide)).trans (by simp);have z4:J 4=A 4:=(c 4 (by decide)).trans (by simp);have p:J 5=AG 6:=(c 5 (by decide)).trans (by simp[v]);have AO:J 14=Z ((r:Int)+1):=(c 14 (by decide)).trans (by simp[j]);have A0:J 17=AG (t.ac+14):=(c 17 (by decide)).trans (by simp);clear c f AJ;obtain⟨P,AP⟩: ∃P,P=t.ac+14:=⟨_,rfl⟩
    have A1:P≠0/\P≠1/\P≠6/\P≠op:=(by omega);rw[<-AP]at o A0;obtain⟨A1,BG,BH,pp⟩:=A1;have BI:=E S;have BJ:=E T;have mp:=E U;have I1:=E o;have AQ:=pj (l:=ps);have AR:(ps.length+1)*240<=140737488355328/\ps.length<=9223372036854775806:=(by omega);simp(disch:=first|omega|simp only[A9];omega)[p,AO,A0,T,U,o,AQ,AR,Ag,-H,-D,-I,-F,-List.map_map];refine A4 _ _ (G _ _ _ (by simp[z0]) (by simp[p]) (by simp) ⟨d.ac+4,?_,?_,?_,?_,by omega,by omega,by omega⟩ λAS AU AV AW=>x AS AU (λs u=>(AV s u).trans ?_) AW)
    ·simp(disch:=omega)[S]
    ·simp(disch:=omega)[AL]
    ·simp(disch:=first|omega|simp only[A9];omega)[-H,-D,-I,-F,-List.map_map]
    ·simp(disch:=first|omega|simp only[A9];omega)[-H,-D,-I,-F,-List.map_map];rw[DP (by omega)];simp[BE]
    ·simp only[Qd,CZ,EK,or_false]at u;rcases u with rfl|rfl|rfl|rfl<;>simp[z0,AN,z4,p,g,v]
end Go.Proofs.YtmmkkggfmigppaaGreat
end
