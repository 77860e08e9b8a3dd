/- A part of the proof. -/
import Derived.Test.YtmmkkggfmigppaaGreatZdr
set_option linter.all false
set_option maxRecDepth 20000
set_option maxHeartbeats 16000000
namespace Go.Proofs.YtmmkkggfmigppaaGreat
open Go Go.DI Go.Big
def TH(g:List Jl)(W a:Nat):Prop:= ∀(i:Nat) (x:Jl),g[i]?=some x->x.name=FE 118 (W-i)/\0<=x.JS/\x.JS<a
variable{W i n v:Nat}{g:List Jl}{K b bm x:Int}{g5 g6 pE pF:Value}{l r:List Int}{ps:List Dg}{A:A2}{Q:BM->A2->X->Prop}{t:X}{G:CF}{B:List HJ}{ds:List Ct}{a:ByteArray}{u:AL}{L:List (List Int)}{cb:List (List Value)}
theorem TH.add{b:Nat}{x:Jl}(h:TH g W b)(d:x.name=FE 118 (W-g.length)/\0<=x.JS/\x.JS<b):TH (g++[x]) W b:= λi y a=>by
 by_cases c:i<g.length
 ·rw[Ke c]at a;exact h i y a
 ·have f:=(Ae.1 a).1;simp only[En,DZ,KC]at f;have e:i=g.length:=(by omega);subst e;rw[Ib (Aj _)]at a;simp at a;subst a;exact d
structure a8k(l:List Int)(i:Nat)(K:Int)(g5 g6 pE pF b:Value)(g:List Jl)(a:Nat)(t:X):Prop where
 DH:t.Y 0=some ⟨[AK l,Z i],true⟩
 JK:t.Y 1=some ⟨PZ,true⟩
 aI8:t.Y 6=some ⟨[Z K,g5,g6,pE,pF,b,AM a g.length 2],true⟩
 aM9:t.Y a=some ⟨(g.map CW).flatten,true⟩
 tS:a≠0
 a9f:a≠1
 aM7:a≠6
def jl(l:List Int)(i:Nat)(K:Int)(g5 g6 pE pF a:Value)(g:List Jl)(t:X):Prop:= ∃b,a8k l i K g5 g6 pE pF a g b t
theorem z7{l:List Jl}:(l.map CW).flatten.length=l.length*2:=by rw[LV (z:=2) λr a=>by obtain⟨x,_,rfl⟩:=CG.1 a;rfl,E9]
theorem zA(AD:l.length<=140737488355328)(AE:1<=ps.length/\ps.length<=1000)(AF:W<=1000): ∀(r i:Nat) (g:List Jl),g.length+r=W->TH g W ps.length->i+r+100<1000000->
 ∃ (a:List Jl) (eo:Nat),TH a W ps.length/\a.length=W/\eo<=i+r/\ ∀(A:A2) (t:X) (Q:BM->A2->X->Prop),A 0=AG 0->A 5=AG 6->A 19=Z r->jl l i K g5 g6 pE pF (O (ps.map BE) 17) g t->
   (∀o p,(∀s∈Qd,o s=A s)->jl l eo K g5 g6 pE pF (O (ps.map BE) 17) a p->Q (.Ao 8) o p)->Bc V (.loop aI) A t Q:=by
 intro r;induction r with
 | zero=>intro i g J b L;refine⟨g,i,b,by omega,by omega,λA t Q c d f h j=> ?_⟩;refine Ba (aC:=⟨[H2],[Ei]⟩) λN q=> ?_;simp[aI,f];exact j _ _ (λs u=>by simp only[Qd,CZ,EK,or_false]at u;rcases u with rfl|rfl|rfl|rfl<;>simp) h
 | succ r P=>
   intro i g J b L;have v:=FU (l:=l) (i:=i) (n:=(ps.length:Int)) (by omega);obtain⟨y,w⟩: ∃y,C2 l i (ps.length:Int)=y:=⟨_,rfl⟩;rw[w]at v;have R:IntKind.i64.wrap (r:Int)=(r:Int):=Ac (by omega) (by omega);have S:(0:Int)<(r:Int)+1:=(by omega);have T:H2.fn [.int .u8 118,.int .i64 ((r:Int)+1)]=some (.string (FE 118 (r+1))):=ZR (n:=r+1) (C:=118) rfl ⟨by decide,by omega⟩;obtain⟨a,eo,U,Y,AI,A0⟩:=P (i+1) (g++[⟨FE 118 (r+1),y⟩]) (by simp;omega) (b.add (by have:W-g.length=r+1:=(by omega);rw[this];exact⟨rfl,v⟩)) (by omega);refine⟨a,eo,U,Y,by omega,λA t Q c d f h j=> ?_⟩;obtain⟨k,⟨x,z,B,G,A1,A3,A4⟩⟩:=h;refine Ba (aC:=⟨[H2],[Ei]⟩) λN q=> ?_;have AJ:=E x;have AK:=E z;have AL:=E B;have AM:=E G;have AN: ¬0=k:= λe=>A1 e.symm;have AO: ¬1=k:= λe=>A3 e.symm;have AP: ¬6=k:= λe=>A4 e.symm;have A5:=z7 (l:=g);have A6:(g.length+1)*24<=140737488355328/\g.length<=9223372036854775806:=(by omega);simp(disch:=first|omega|simp only[A9];omega)[aI,c,d,f,S,x,B,G,G0,T,w,A5,A6,R,wZ,uo,-H,-D,-I,-F,-List.map_map];refine q _ _ (A0 _ _ _ (by simp[c]) (by simp[d]) (by simp) ⟨t.ac+11,?_,?_,?_,?_,by omega,by omega,by omega⟩ λA7 A8 AA AB=>j A7 A8 (λs m=>(AA s m).trans ?_) AB)
   ·simp(disch:=first|omega|simp only[A9];omega)[-H,-D,-I,-F,-List.map_map]
   ·simp(disch:=omega)[z]
   ·simp(disch:=first|omega|simp only[A9];omega)[-H,-D,-I,-F,-List.map_map]
   ·simp(disch:=first|omega|simp only[A9];omega)[-H,-D,-I,-F,-List.map_map];rw[DP (by omega)];simp[CW]
   ·simp only[Qd,CZ,EK,or_false]at m;rcases m with rfl|rfl|rfl|rfl<;>simp
theorem aBa{l:List Ct}: ∀r∈l.map Bq,r.length=7/\ ∀v∈r,DA v=true:= λr b=>by obtain⟨x,_,rfl⟩:=CG.1 b;exact⟨rfl,λv a=>by simp[Bq]at a;rcases a with rfl|rfl|rfl|rfl|rfl|rfl|rfl<;>rfl⟩
theorem aBe{l:List HJ}: ∀r∈l.map Bx,r.length=3/\ ∀v∈r,DA v=true:= λr b=>by obtain⟨x,_,rfl⟩:=CG.1 b;exact⟨rfl,λv a=>by simp[Bx]at a;rcases a with rfl|rfl|rfl<;>rfl⟩
theorem aB6{l:List Dg}: ∀r∈l.map BE,r.length=17/\ ∀v∈r,DA v=true:= λr b=>by obtain⟨x,_,rfl⟩:=CG.1 b;exact⟨rfl,λv a=>by simp[BE]at a;rcases a with rfl|rfl|rfl|rfl|rfl|rfl|rfl|rfl|rfl|rfl|rfl|rfl|rfl|rfl|rfl|rfl|rfl<;>rfl⟩
theorem oV{l:List Jl}: ∀r∈l.map CW,r.length=2/\ ∀v∈r,DA v=true:= λr b=>by obtain⟨x,_,rfl⟩:=CG.1 b;exact⟨rfl,λv a=>by simp[CW]at a;rcases a with rfl|rfl<;>rfl⟩
theorem a4f{l:List SX}: ∀r∈l.map CX,r.length=4/\ ∀v∈r,DA v=true:= λr b=>by obtain⟨x,_,rfl⟩:=CG.1 b;exact⟨rfl,λv a=>by simp[CX]at a;rcases a with rfl|rfl|rfl|rfl<;>rfl⟩
theorem aC9{l:List F9}: ∀r∈l.map CS,r.length=4/\ ∀v∈r,DA v=true:= λr b=>by obtain⟨x,_,rfl⟩:=CG.1 b;exact⟨rfl,λv a=>by simp[CS]at a;rcases a with rfl|rfl|rfl|rfl<;>rfl⟩
def QR:ByteArray:=⟨#[100,105,115,107]⟩
def Wm:ByteArray:=⟨#[98,105,103]⟩
def Va:ByteArray:=⟨#[111,108,100]⟩
def Lz(z:Int):F9:=⟨QR,[CB 1 1],[[CB 0 1]],[CB 1 z]⟩
def Ln:Value:= .slice none 0 0
structure zw(l:List Int)(i:Nat)(K z a b c d:Int)(t:X):Prop where
 DH:t.Y 0=some ⟨[AK l,Z i],true⟩
 JK:t.Y 1=some ⟨PZ,true⟩
 aI8:t.Y 6=some ⟨[Z K,AM 19 1 4,AM 36 2 4,AM 41 1 7,.slice none 0 0,.slice none 0 0,.slice none 0 0],true⟩
 Xu:t.Y 9=some ⟨BT (CB 1 1),true⟩
 aM6:t.Y 11=some ⟨BT (CB 0 1),true⟩
 a7U:t.Y 12=some ⟨[AM 11 1 3],true⟩
 aMD:t.Y 17=some ⟨BT (CB 1 z),true⟩
 aMC:t.Y 19=some ⟨[CU QR,AM 9 1 3,AM 12 1 1,AM 17 1 3],true⟩
 aMB:t.Y 36=some ⟨[CU Wm,Z a,Z b,Z 0,CU Va,Z c,Z d,Z 0],true⟩
 aM8:t.Y 41=some ⟨Bq ⟨⟨#[]⟩,0,-1,0,CB 0 1⟩,true⟩
def LU(a b c d:Int):List SX:=[⟨Wm,a,b,0⟩,⟨Va,c,d,0⟩]
theorem hX{x:Am}: ∀r∈[BT x],r.length=3/\ ∀v∈r,DA v=true:= λr a=>by simp at a;subst a;exact⟨rfl,λv b=>by simp[BT]at b;rcases b with rfl|rfl|rfl<;>rfl⟩
theorem aCd{z a c d:Int}(h:zw l i K z a b c d t)(e:t.ac=44)
 (m: ∀f,Fh l i K (O ([Lz z].map CS) 4) (O ((LU a b c d).map CX) 4) Ln Ln [⟨⟨#[]⟩,0,-1,0,CB 0 1⟩] [] f->Bc V G A f Q):Bc V G A t Q:=by
 obtain⟨n,q,s,u,w,x,y,B,C,D⟩:=h;refine LO (o:=11) (p:=12) (j:=0) (z:=3) (cb:=[BT (CB 0 1)]) (by rw[w];simp) hX x rfl (by decide) ?_;refine LO (o:=9) (p:=19) (j:=1) (z:=3) (cb:=[BT (CB 1 1)]) (cells:=[CU QR,AM 9 1 3,AM 12 1 1,AM 17 1 3]) ?_ hX ?_ rfl (by decide) ?_
 ·rw[A6 (by decide),A6 (by decide),u];simp
 ·rw[A6 (by decide),A6 (by decide),B]
 refine LO (o:=12) (p:=19) (j:=2) (z:=1) (cb:=[[DU [CB 0 1]]]) (cells:=[CU QR,DU [CB 1 1],AM 12 1 1,AM 17 1 3]) ?_ ?_ ?_ rfl (by decide) ?_
 ·rw[A6 (by decide),A6 (by decide),AR (by simp[e])];simp
 ·intro r g;simp at g;subst g;exact⟨rfl,λv k=>by simp at k;subst k;rfl⟩
 ·rw[AR (by simp[e])];simp
 refine LO (o:=17) (p:=19) (j:=3) (z:=3) (cb:=[BT (CB 1 z)]) (cells:=[CU QR,DU [CB 1 1],O [[DU [CB 0 1]]] 1,AM 17 1 3]) ?_ hX ?_ rfl (by decide) ?_
 ·repeat rw[A6 (by decide)]
  rw[y];simp
 ·rw[AR (by simp[e])];simp
 refine LO (o:=19) (p:=6) (j:=1) (z:=4) (cb:=[Lz z].map CS) (cells:=[Z K,AM 19 1 4,AM 36 2 4,AM 41 1 7,.slice none 0 0,.slice none 0 0,.slice none 0 0]) ?_ aC9 ?_ rfl (by decide) ?_
 ·rw[AR (by simp[e])];simp[CS,Lz]
 ·repeat rw[A6 (by decide)]
  rw[s]
 refine LO (o:=36) (p:=6) (j:=2) (z:=4) (cb:=(LU a b c d).map CX) (cells:=[Z K,O ([Lz z].map CS) 4,AM 36 2 4,AM 41 1 7,.slice none 0 0,.slice none 0 0,.slice none 0 0]) ?_ a4f ?_ rfl (by decide) ?_
 ·repeat rw[A6 (by decide)]
  rw[C];simp[CX,LU]
 ·rw[AR (by simp[e])];simp
 refine Nd (o:=6) (j:=4) (z:=3) (cs:=[Z K,O ([Lz z].map CS) 4,O ((LU a b c d).map CX) 4,AM 41 1 7,.slice none 0 0,.slice none 0 0,.slice none 0 0]) ?_ rfl ?_
 ·rw[AR (by simp[e])];simp
 refine m _ ⟨41,44,⟨?_,?_,?_,?_,?_,by decide,by decide,by decide⟩⟩
 ·simp only[Au,e];repeat rw[A6 (by decide)]
  rw[Ab (by simp[e])];repeat rw[A6 (by decide)]
  exact n
 ·simp only[Au,e];repeat rw[A6 (by decide)]
  rw[Ab (by simp[e])];repeat rw[A6 (by decide)]
  exact q
 ·simp only[Au,e];rw[AR (by simp[e])];simp[Ln]
 ·simp only[Au,e];repeat rw[A6 (by decide)]
  rw[Ab (by simp[e])];repeat rw[A6 (by decide)]
  rw[D];simp
 ·simp only[Au,e];rw[A6 (by decide),AR (by simp[e])];simp
theorem a0O{a:Value}(h:Fh l i K g5 g6 Ln a ds B t)
 (m: ∀b,cZ l i K g5 g6 (O (ds.map Bq) 7) (O (B.map Bx) 3) a [] b->Bc V G A b Q):Bc V G A t Q:=by
 obtain⟨n,or,⟨c,d,f,q,r,s,u,v⟩⟩:=h;obtain⟨w,x,y⟩:=s;obtain⟨C,n21,g⟩:=u;have D:=E c;have F:=E d;have k:=E f;refine LO (o:=n) (p:=6) (j:=3) (z:=7) (cb:=ds.map Bq) q aBa f (by simp) y ?_;refine LO (o:=or) (p:=6) (j:=4) (z:=3) (cb:=B.map Bx) (cells:=[Z K,g5,g6,O (ds.map Bq) 7,AM or B.length 3,Ln,a]) ?_ aBe ?_ (by simp) g ?_
 ·rw[A6 g,A6 (λe=>v e.symm)];exact r
 ·rw[AR (by simpa using k)];simp
 refine Nd (o:=6) (j:=5) (z:=17) (cs:=[Z K,g5,g6,O (ds.map Bq) 7,O (B.map Bx) 3,Ln,a]) ?_ rfl ?_
 ·rw[AR (by simpa using k)];simp
 refine m _ ⟨t.ac,⟨?_,?_,?_,?_,by omega,by omega,by omega⟩⟩
 ·simp only[Au];rw[A6 (by decide),A6 (by omega),Ab (by simp;omega),A6 (by decide),A6 (λe=>C e.symm),A6 (by decide),A6 (λe=>w e.symm)];exact c
 ·simp only[Au];rw[A6 (by decide),A6 (by omega),Ab (by simp;omega),A6 (by decide),A6 (λe=>n21 e.symm),A6 (by decide),A6 (λe=>x e.symm)];exact d
 ·simp only[Au];rw[AR (by simp;omega)];simp
 ·simp only[Au];rw[A6 (by omega),AR (by simp)];simp
theorem a3J(h:cZ l i K g5 g6 pE pF Ln ps t)
 (f: ∀a,jl l i K g5 g6 pE pF (O (ps.map BE) 17) [] a->Bc V G A a Q):Bc V G A t Q:=by
 obtain⟨op,⟨b,c,d,g,k,m,n⟩⟩:=h;have r:=E b;have s:=E c;have q:=E d;refine LO (o:=op) (p:=6) (j:=5) (z:=17) (cb:=ps.map BE) g aB6 d (by simp) n ?_;refine Nd (o:=6) (j:=6) (z:=2) (cs:=[Z K,g5,g6,pE,pF,O (ps.map BE) 17,Ln]) ?_ rfl ?_
 ·rw[AR (by simpa using q)];simp
 refine f _ ⟨t.ac,⟨?_,?_,?_,?_,by omega,by omega,by omega⟩⟩
 ·simp only[Au];rw[A6 (by decide),A6 (by omega),Ab (by simp;omega),A6 (by decide),A6 (λe=>k e.symm)];exact b
 ·simp only[Au];rw[A6 (by decide),A6 (by omega),Ab (by simp;omega),A6 (by decide),A6 (λe=>m e.symm)];exact c
 ·simp only[Au];rw[AR (by simp;omega)];simp
 ·simp only[Au];rw[A6 (by omega),AR (by simp)];simp
structure X3(u:AL)(bm:Int):Prop where
 ext:1<=u.ext/\u.ext<=2
 Bu: ∃z,100<=z/\z<200/\u.Bu=[Lz z]
 aME: ∃a b c d,(3<=a/\a<=4)/\(8<=b/\b<=16)/\(1<=c/\c<=3)/\(4<=d/\d<=12)/\u.Af=LU a b c d
 A5:K0 u.A5
 Cg:u.A5.length<=21
 A4:JH u.A5 u.A4
 Es:1<=u.A4.length/\u.A4.length<=9
 eB:1<=u.B7.length/\u.B7.length<=2
 B7:TS u.B7 u.B7.length
 EF:1<=u.A3.length/\(u.A3.length:Int)<=if bm<1 then 1 else bm
 A3:TH u.A3 u.A3.length u.B7.length
def H8(l:List Int)(i:Nat):X:=(Cl.AE 1).A1 0 (some ⟨[AK l,Z i],true⟩)
theorem a0r(J:l.length<=140737488355328)(B9:i<500000)(BA:bm<=100): ∃u eo,X3 u bm/\eo<=i+200/\Bh V 60 [AG 0,Z bm] (H8 l i) λv L=>DI.B3 9 L v=some (.agg (A7 u).toArray)/\L.Y 0=some ⟨[AK l,Z eo],true⟩/\0∉DI.BL 9 L v:=by
 have BB:=FU (l:=l) (i:=i) (n:=2) (by decide);have BC:=FU (l:=l) (i:=i+1) (n:=100) (by decide);have BD:=FU (l:=l) (i:=i+2) (n:=2) (by decide);have BE:=FU (l:=l) (i:=i+3) (n:=9) (by decide);have BF:=FU (l:=l) (i:=i+4) (n:=3) (by decide);have BG:=FU (l:=l) (i:=i+5) (n:=9) (by decide);have BH:=FU (l:=l) (i:=i+6) (n:=3) (by decide);obtain⟨K,A8⟩: ∃x,1+C2 l i 2=x:=⟨_,rfl⟩;obtain⟨z,AA⟩: ∃x,100+C2 l (i+1) 100=x:=⟨_,rfl⟩;obtain⟨a,AB⟩: ∃x,3+C2 l (i+2) 2=x:=⟨_,rfl⟩;obtain⟨b,hb⟩: ∃x,8+C2 l (i+3) 9=x:=⟨_,rfl⟩;obtain⟨c,AD⟩: ∃x,1+C2 l (i+4) 3=x:=⟨_,rfl⟩;obtain⟨d,AE⟩: ∃x,4+C2 l (i+5) 9=x:=⟨_,rfl⟩;obtain⟨s,AF⟩:=Dp (show 0<=3+C2 l (i+6) 3 by omega);have AI:IntKind.i64.wrap (1+C2 l i 2)=K:=by rw[Ac (by omega) (by omega)];exact A8
 have AJ:IntKind.i64.wrap (100+C2 l (i+1) 100)=z:=by rw[Ac (by omega) (by omega)];exact AA
 have AL:IntKind.i64.wrap (3+C2 l (i+2) 2)=a:=by rw[Ac (by omega) (by omega)];exact AB
 have AN:IntKind.i64.wrap (8+C2 l (i+3) 9)=b:=by rw[Ac (by omega) (by omega)];exact hb
 have AO:IntKind.i64.wrap (1+C2 l (i+4) 3)=c:=by rw[Ac (by omega) (by omega)];exact AD
 have AP:IntKind.i64.wrap (4+C2 l (i+5) 9)=d:=by rw[Ac (by omega) (by omega)];exact AE
 have AQ:IntKind.i64.wrap (3+C2 l (i+6) 3)=(s:Int):=by rw[Ac (by omega) (by omega)];exact AF
 have AR:K0 [⟨⟨#[]⟩,0,-1,0,CB 0 1⟩]:=⟨rfl,λk x BI f=>by have:=(Ae.1 f).1;simp at this;omega⟩;obtain⟨ds,B,m,AS,AT,U,BJ,BK,AU⟩:=aB9 (l:=l) J (K:=K) (g5:=O ([Lz z].map CS) 4) (g6:=O ((LU a b c d).map CX) 4) (kz:=Ln) (iM:=Ln) (ah:=s) (by omega) s 0 (i+7) [⟨⟨#[]⟩,0,-1,0,CB 0 1⟩] [] 0 0 (by omega) AR (λk x f=>by simp at f) (by simp) (by simp) (by omega) (.inl rfl);have BN:=FU (l:=l) (i:=m) (n:=2) (by decide);obtain⟨M,AW⟩:=Dp (show 0<=1+C2 l m 2 by omega);have AX:IntKind.i64.wrap (1+C2 l m 2)=(M:Int):=by rw[Ac (by omega) (by omega)];exact AW
 obtain⟨ps,j,AY,AZ,BO,Aa⟩:=a6B (l:=l) J (K:=K) (g5:=O ([Lz z].map CS) 4) (g6:=O ((LU a b c d).map CX) 4) (pE:=O (ds.map Bq) 7) (pF:=O (B.map Bx) 3) (iM:=Ln) (W:=M) (by omega) M (m+1) [] (by simp) (λk x f=>by simp at f) (by omega);have BQ:0<=C2 l j bm/\C2 l j bm<if bm<1 then 1 else bm:=by
  by_cases N:bm<1
  ·rw[if_pos N];have:C2 l j bm=0:=j2 N;omega
  ·rw[if_neg N];exact FU (by omega)
 have BR:(if bm<1 then 1 else bm)<=100:=by split<;>omega
 obtain⟨Mh,Ab⟩:=Dp (show 0<=1+C2 l j bm by omega);have Af:IntKind.i64.wrap (1+C2 l j bm)=(Mh:Int):=by rw[Ac (by omega) (by omega)];exact Ab
 obtain⟨g,i3,Ag,Ah,v3,v4⟩:=zA (l:=l) J (K:=K) (g5:=O ([Lz z].map CS) 4) (g6:=O ((LU a b c d).map CX) 4) (pE:=O (ds.map Bq) 7) (pF:=O (B.map Bx) 3) (ps:=ps) (by omega) (W:=Mh) (by omega) Mh (j+1) [] (by simp) (λk x f=>by simp at f) (by omega);have Ai:1<=K/\K<=2:=by omega
 refine⟨⟨K,[Lz z],LU a b c d,ds,B,ps,g⟩,i3,⟨Ai,⟨z,by omega,by omega,rfl⟩,⟨a,b,c,d,by omega,by omega,by omega,by omega,rfl⟩,AS,by simp only;omega,AT,⟨U.2 (by omega),U.1⟩,by simp only;omega,by simp only[AZ];exact AY,by simp only;omega,by simp only[Ah];exact Ag⟩,by omega,?_⟩;refine Ax (aC:=⟨[H2,PV],[Ei]⟩) Yg.2 ?_;have BU:G8 1 1:=by unfold G8;omega
 have BV:=uI;have BW:G8 1 z:=by unfold G8;omega
 have Aj:((i:Int)+1+1).toNat=i+2:=by omega
 have t3:((i:Int)+1+1+1).toNat=i+3:=by omega
 have t4:((i:Int)+1+1+1+1).toNat=i+4:=by omega
 have Ak:((i:Int)+1+1+1+1+1).toNat=i+5:=by omega
 have Al:((i:Int)+1+1+1+1+1+1).toNat=i+6:=by omega
 simp(disch:=first|omega|simp only[A9];omega)[Yg,mr,H8,G0,Aj,t3,t4,Ak,Al,AI,AJ,AL,AN,AO,AP,AQ,BT,-H,-D,-I,-F,-List.map_map];refine aCd (l:=l) (i:=i+7) (K:=K) (z:=z) (a:=a) (b:=b) (c:=c) (d:=d) ⟨by simp(disch:=first|omega|simp only[A9];omega)[-H,-D,-I,-F,-List.map_map];omega,by simp(disch:=first|omega|simp only[A9];omega)[PZ,-H,-D,-I,-F,-List.map_map],by simp(disch:=first|omega|simp only[A9];omega)[-H,-D,-I,-F,-List.map_map],by simp(disch:=first|omega|simp only[A9];omega)[BT,-H,-D,-I,-F,-List.map_map],by simp(disch:=first|omega|simp only[A9];omega)[BT,-H,-D,-I,-F,-List.map_map],by simp(disch:=first|omega|simp only[A9];omega)[-H,-D,-I,-F,-List.map_map],by simp(disch:=first|omega|simp only[A9];omega)[BT,-H,-D,-I,-F,-List.map_map],by simp(disch:=first|omega|simp only[A9];omega)[QR,-H,-D,-I,-F,-List.map_map],by simp(disch:=first|omega|simp only[A9];omega)[Wm,Va,-H,-D,-I,-F,-List.map_map],by simp(disch:=first|omega|simp only[A9];omega)[Bq,-H,-D,-I,-F,-List.map_map]⟩ (by simp) λAm An=> ?_;refine AU _ Am _ (by simp) (by simp) (by simp) (by simp) (by simp) (by simp) An λt BY o A0=> ?_;have P:t 0=AG 0:=(o 0 (by decide)).trans (by simp);have Ap:t 1=Z bm:=(o 1 (by decide)).trans (by simp);have Aq:t 4=AG 1:=(o 4 (by decide)).trans (by simp);have A1:t 5=AG 6:=(o 5 (by decide)).trans (by simp);clear o;have Ar:=A0;obtain⟨BZ,or,As⟩:=A0;have A2:=As.DH;have Ba:=E A2;simp(disch:=first|omega|simp only[A9];omega)[oW,P,A2,G0,AX];refine a0O (Fh.at Ar (eo:=m+1) (by omega)) λAt Au=> ?_;refine Aa _ At _ (by simp[P]) (by simp[A1]) (by simp) Au λw Bb p Av=> ?_;have Q:w 0=AG 0:=(p 0 (by decide)).trans (by simp[P]);have Aw:w 1=Z bm:=(p 1 (by decide)).trans (by simp[Ap]);have Ay:w 4=AG 1:=(p 4 (by decide)).trans (by simp[Aq]);have A3:w 5=AG 6:=(p 5 (by decide)).trans (by simp[A1]);clear p;obtain⟨op,⟨q,y,A,Az,R,C,A4⟩⟩:=Av;have Bc:=E q;simp(disch:=first|omega|simp only[A9];omega)[vh,Q,Aw,q,G0,Af];refine a3J (l:=l) (i:=j+1) (K:=K) (g5:=O ([Lz z].map CS) 4) (g6:=O ((LU a b c d).map CX) 4) (pE:=O (ds.map Bq) 7) (pF:=O (B.map Bx) 3) (ps:=ps) ⟨op,⟨by simp(disch:=first|omega|simp only[A9];omega),by simp(disch:=first|omega|simp only[A9];omega)[y],by simp(disch:=first|omega|simp only[A9];omega)[A],by simp(disch:=first|omega|simp only[A9];omega)[Az],R,C,A4⟩⟩ λB0 B1=> ?_;refine v4 _ B0 _ (by simp[Q]) (by simp[A3]) (by simp) B1 λS Bd G B2=> ?_;have Be:S 0=AG 0:=(G 0 (by decide)).trans (by simp[Q]);have B4:S 4=AG 1:=(G 4 (by decide)).trans (by simp[Ay]);have B5:S 5=AG 6:=(G 5 (by decide)).trans (by simp[A3]);clear G;obtain⟨A5,⟨q,y,A,T,R,C,A4⟩⟩:=B2;have Bf:=E q;have Bg:=E y;have Bi:=E A;have Bj:=E T;have B6: ∀tt:X,tt.Y A5=some ⟨(g.map CW).flatten,true⟩->DI.B3 8 tt (AM A5 g.length 2)=some (O (g.map CW) 2):= λtt h=>Kn (n:=7) h (by simp) oV;simp(disch:=first|omega|simp only[A9];omega)[ow,B4,B5,y,A,PZ];refine⟨?_,q,?_⟩
 ·rw[B6 _ (by rw[A6 C];exact T)];simp[A7]
 ·rw[a6Z,A6 C,T];simp only[CZ,M6,Mv];rintro(e|⟨v,⟨r,B7,B8⟩,f⟩)
  ·exact R e.symm
  ·rw[DI.PS ((oV r B7).2 v B8)]at f;cases f
theorem wh:(CB 0 1).BA:=by unfold Am.BA;decide
theorem aA4:(CB 1 2).BA:=by unfold Am.BA;decide
theorem a8J:(CB 1 1000).BA:=by unfold Am.BA;decide
theorem aAn:(CB 30 1).BA:=by unfold Am.BA;decide
theorem a2u(c:Nat)(a:c=100\/c=110\/c=112\/c=118): ∀n:Fin 60,BV (FE c n.val):=by rcases a with rfl|rfl|rfl|rfl<;>(unfold BV;decide+kernel)
theorem gm:BV QR/\BV Wm/\BV Va:=by unfold BV;decide+kernel
theorem a7l{c b:Nat}(f:c<256)(g:b<256){d:Nat}(i:n<60)(j:d<60)(h:FE c n=FE b d):c=b/\n=d:=by simp only[FE,ByteArray.mk.injEq]at h;have e:=congrArg (λa:Array UInt8=>(a.toList.map UInt8.toNat)) h;simp at e;omega
theorem k1{l:List ByteArray}{c f:Nat->Nat}(h: ∀(i:Nat) x,l[i]?=some x->x=FE (c i) (f i)/\(c i=100\/c i=110\/c i=112\/c i=118)/\f i<60)(inj: ∀i j,i<j->j<l.length-> ¬(c i=c j/\f i=f j)):EW l=true:=by
 unfold EW;rw[AF,BR];refine⟨λx m=> ?_,decide_eq_true (Mb.2 λi j g k n e=> ?_)⟩
 ·obtain⟨i,g,rfl⟩:=E5 m;obtain⟨a,b,d⟩:=h i _ (AP g);rw[a];exact Pr (a2u (c i) b ⟨f i,d⟩)
 ·obtain⟨a,b,d⟩:=h i _ (AP g);obtain⟨o,q,p⟩:=h j _ (AP k);rw[a,o]at e;exact inj i j n k (a7l (by omega) (by omega) d p e)
theorem a76{b:ByteArray}(c:BV a)(hb:BV b)(h:a≠b):EW [a,b]=true:=by unfold EW;simp[Pr c,Pr hb,h]
theorem a5b(b:BV a):EW [a]=true:=by unfold EW;simp[Pr b]
theorem Hi{a:Int}(c:a<=x)(d:x<=b):C1 x a b=true:=KU.2 ⟨c,d⟩
theorem a8S:IC (CB 1 2)=true/\(CB 1 1000).AZ.small=true/\JB (CB 1 1000).AZ=true/\(CB 30 1).AZ.small=true:=by decide
theorem a0g{x:Dg}(h:dL x n):K3 x 2=true/\Dg.Cu x:=by
 obtain⟨BV,⟨i,s⟩,⟨j,t⟩,⟨k,l⟩,⟨m,u,v,w,z,A,B⟩,a,⟨R,d,c⟩,f,g⟩:=h;obtain⟨o,p,q,r⟩:=a8S;constructor
 ·unfold K3;simp only[AF];refine⟨?_,?_,?_,?_,?_⟩
  ·unfold FI;simp only[AF,BW];exact⟨Hi i (by omega),Hi j (by omega),by omega,Hi k l,m,Hi (by omega) (by omega),Hi (by omega) (by omega),Hi (by omega) (by omega),Hi (by omega) (by omega),Hi (by omega) (by omega)⟩
  ·rcases a with e|e<;>rw[e]<;>rfl
  ·unfold JR;simp only[AF,BW,BR];rw[c,f,g];refine⟨?_,λy b=> ?_,p,q,r⟩
   ·rw[Ov,d]
   ·rw[List.eq_of_mem_replicate b];exact o
  ·rcases a with e|e<;>rw[e]<;>decide
  ·rcases a with e|e<;>rw[e]<;>decide
 ·refine⟨⟨λy b=> ?_,?_⟩,by rw[f];exact a8J,by rw[g];exact aAn,by rcases a with e|e<;>rw[e]<;>decide⟩
  ·rw[c]at b;rw[List.eq_of_mem_replicate b];exact aA4
  ·rw[c,Ov];have:R<=2:=(by split at d<;>omega);omega
theorem a4D{ds:List Ct}(h:K0 ds):Kw ds=true:=by
 have c:(CB 0 1).AZ.small=true/\ ¬0<(CB 0 1).AZ.n:=by decide
 have a:=h.Ly;cases b:ds with
 |nil=>rw[b]at a;cases a
 | cons R l=>
   rw[b]at a;simp at a;unfold Kw;simp only[AF,BR,G3];constructor
   ·rw[a];simp[Na,c.1,c.2]
   ·intro i d;rw[AP d];obtain⟨r,f,a3,⟨q,e,g⟩,j,k,m,o,p⟩:=h.Gc (i+1) l[i] (by omega) (by rw[b,MO];exact AP d);rw[b]at e;simp only[O2,AF];refine⟨Hi f (by omega),?_,Hi j k,Hi m o,by rw[p];exact c.1⟩;unfold Vl;rw[e];exact decide_eq_true g
theorem qO(h:X3 u bm)(M:bm<=12):B4 u:=by
 obtain⟨ext,⟨z,N,D,r⟩,⟨a,b,c,d,O,hb,P,Q,t⟩,p,R,y,S,T,A,E,B⟩:=h;have F:u.A3.length<=12:=by have:=E.2;split at this<;>omega
 have G:u.Af.length=2:=by rw[t];rfl
 have H:u.Bu.length=1:=by rw[r];rfl
 have U:=p.I5;have V:G8 1 z:=by unfold G8;omega
 have Sp: ∀x∈u.B7,K3 x 2=true/\Dg.Cu x:= λx g=>by obtain⟨i,k,rfl⟩:=E5 g;exact a0g (A i _ (AP k))
 have I:Hl u=true:=by
  unfold Hl;simp only[AF,BW];refine⟨Hi ext.1 (by omega),by omega,by omega,by omega,by omega,by omega,F,a4D p,?_,?_,?_,?_,?_,?_,?_,?_,?_,?_⟩
  ·rw[r];rfl
  ·rw[t,H];simp only[LU,F3,List.all_nil,Bool.and_true,AF,PM];exact⟨⟨Hi (by omega) (by omega),Hi (by omega) (by omega),by decide⟩,Hi (by omega) (by omega),Hi (by omega) (by omega),by decide⟩
  ·rw[BR];intro x g;obtain⟨i,k,rfl⟩:=E5 g;obtain⟨J,v,a3,m,e,f⟩:=y i _ (AP k);have:=f.B0;unfold PD;simp only[AF];refine⟨Hi v (by omega),Hi (by omega) (by omega),?_⟩;obtain⟨q,K,L⟩:=f;unfold Vc;rw[e,Dx,K];exact decide_eq_true L
  ·rw[BR,G];exact λx g=>(Sp x g).1
  ·rw[BR];intro x g;obtain⟨i,k,rfl⟩:=E5 g;obtain⟨J,v,a3⟩:=B i _ (AP k);exact Hi v (by omega)
  ·rw[r];exact a5b gm.1
  ·rw[t];exact a76 gm.2.1 gm.2.2 (show Wm≠Va by decide)
  ·refine k1 (c:= λi=>if i<u.A5.length-1 then 110 else 100) (f:= λi=>if i<u.A5.length-1 then i+1 else i-(u.A5.length-1)) (λi x g=> ?_) (λi j C s=> ?_)
   ·by_cases w:i<u.A5.length-1
    ·rw[Ke (by simp;exact w),GX,List.getElem?_tail]at g;simp only[if_pos w];obtain⟨n,l,o⟩:=KH.1 g;rw[<-o];exact⟨(p.Gc (i+1) n (by omega) l).1,by simp,by omega⟩
    ·rw[Ib (by simp;omega)]at g;simp only[E9,List.length_tail,GX]at g;simp only[if_neg w];obtain⟨n,l,o⟩:=KH.1 g;rw[<-o];have W:=(Ae.1 l).1;exact⟨(y _ n l).1,by simp,by omega⟩
   ·split<;>split<;>omega
  ·refine k1 (c:= λ_=>112) (f:= λi=>u.B7.length-i) (λi x g=> ?_) (λi j C s=> ?_)
   ·rw[GX]at g;obtain⟨n,l,o⟩:=KH.1 g;rw[<-o];exact⟨(A i n l).BV,by simp,by omega⟩
   ·simp at s;omega
  ·refine k1 (c:= λ_=>118) (f:= λi=>u.A3.length-i) (λi x g=> ?_) (λi j C s=> ?_)
   ·rw[GX]at g;obtain⟨n,l,o⟩:=KH.1 g;rw[<-o];exact⟨(B i n l).1,by simp,by omega⟩
   ·simp at s;omega
 refine⟨zQ I,⟨λx g=> ?_,λx g=> ?_,λx g=>(Sp x g).2,by omega,by omega,by omega,by omega,by omega,by omega⟩⟩
 ·rw[r]at g;simp at g;subst g;exact⟨z,by omega,D,rfl,rfl,rfl⟩
 ·obtain⟨i,k,rfl⟩:=E5 g;cases i with
  | zero=>have:=p.Ly;rw[AP k]at this;rw[Option.some.inj this];exact wh
  | succ i=>rw[(p.Gc (i+1) _ (by omega) (AP k)).2.2.2.2.2.2.2.2];exact wh
theorem a4v(h:BS u)(a:v<u.A3.length):AO V 101 [.agg (A7 u).toArray,Z v] (Z (CD u v)):=by
 refine BQ (Ax (aC:=⟨[],[]⟩) XP.2 ?_);obtain⟨x,p,q,b,c,o,d,e,r,s,t⟩:=XW h a;have f:=(Ae.1 b).2;have g:=(Ae.1 d).2;have i:(v:Int)<u.A3.length:=by omega
 have j:(p:Int)<u.B7.length:=by omega
 have l:IntKind.i64.wrap (q.k+q.m)=q.k+q.m:=Ac (by omega) (by omega);rw[e];simp(disch:=first|omega|simp only[DI.AB];omega)[XP,uM,A7,CW,BE,i,j,f,c,g,l]
noncomputable abbrev Pe(u:AL)(h:BS u):AN V:= .B9 101 Nat (λv=>v<u.A3.length) (λv=>[.agg (A7 u).toArray,Z v]) (λv=>Z (CD u v)) λv a=>a4v h a
@[simp] theorem aHR{h:BS u}(a:v<u.A3.length):(Pe u h).fn [.agg #[Z u.ext,O (u.Bu.map CS) 4,O (u.Af.map CX) 4,O (u.A5.map Bq) 7,O (u.A4.map Bx) 3,O (u.B7.map BE) 17,O (u.A3.map CW) 2],Z v]=some (Z (CD u v)):=AN.BH (x:=v) a λy b=>by simp at b⊢;omega
theorem a78(v:l.length<=1000000):AO V 102 [AK l,Z x] (.bool (decide (x∈l))):=by
 refine BQ (Ax (aC:=⟨[],[]⟩) YF.2 ?_);simp[YF,qY];refine Cc (aC:=⟨[],[]⟩) (λi A t=>(∀j (a:j<l.length),j<i-> ¬l[j]=x)/\A 0=AK l/\A 1=Z x/\A 5=Z i) l.length ?_ ?_ 0 _ _ (C8 _) ⟨λj a h=>absurd h (Ks _),by simp,by simp,by simp⟩
 ·rintro i A t m ⟨k,b,d,f⟩ w q;obtain⟨y,r⟩:=Cb m;have g:=(Ae.1 r).2;have o:(i:Int)<l.length:=(by omega);have s:=BZ (n:=i) (by omega);by_cases c:y=x
  ·have e:x∈l:=(by rw[<-c,<-g];exact Dq m);simp(disch:=omega)[bt,Vz,b,d,f,o,g,eq_true c,e]
  ·simp(disch:=first|omega|simp only[DI.AB];omega)[bt,Vz,b,d,f,o,g,c,s,-H,-D,-I,-F,-List.map_map];refine q _ _ ⟨λj a z=> ?_,by simp[b],by simp[d],by simp⟩;by_cases e:j=i
   ·subst e;rw[g];exact c
   ·exact k j a (by omega)
 ·rintro A t ⟨k,b,d,f⟩;have e:x∉l:= λu=>by
   obtain⟨j,a,e⟩:=E5 u;exact k j a a e
  simp[bt,Vz,Vz,b,f,e]
noncomputable abbrev Lb:AN V:= .B9 102 (List Int×Int) (λx=>x.1.length<=1000000) (λx=>[AK x.1,Z x.2]) (λx=> .bool (decide (x.2∈x.1))) λ_ h=>a78 h
@[simp] theorem aIP(h:l.length<=1000000):Lb.fn [O (l.map λx=>[Z x]) 1,Z x]=some (.bool (decide (x∈l))):=AN.BH (x:=(l,x)) h λ⟨b,c⟩ a=>by simpa using a
def a2L(t a:X):Prop:=a.ac=t.ac/\ ∀b,a.Y b=t.Y b
def XO:List Nat:=[0,1,3,4,5,6,7,8]
theorem aDU(AA:u.A4.length<=24){a2:List Int}(AD:a2.length<=1000): ∀(r k d:Nat),k+r=u.A4.length->d<u.A4.length-> ∃v:Nat,v<u.A4.length/\ ∀(A:A2) (t:X) (Q:BM->A2->X->Prop) (g or:Nat),A 3=AG g->A 7=AM or a2.length 1->A 9=Z d->A 10=Z k->t.Y g=some ⟨A7 u,true⟩->t.Y or=some ⟨a2.map Z,true⟩->
 (∀l w,(∀s∈XO,l s=A s)->l 9=Z v->a2L t w->Q (.Ao 4) l w)->Bc V (.loop Uy) A t Q:=by
 intro r;induction r with
 | zero=>intro k d R z;refine⟨d,z,λA t Q g or i m j o e p q=> ?_⟩;refine Ba (aC:=⟨[Lb],[Ei]⟩) λK B=> ?_;have L:=E e;have c: ¬(k:Int)<u.A4.length:=(by omega);have S: ¬k<u.A4.length:=(by omega);simp(disch:=first|omega|simp only[DI.AB];omega)[Uy,i,o,e,A7,c,-H,-D,-I,-F,-List.map_map];refine q _ _ (λs f=>by simp only[XO,CZ,EK,or_false]at f;rcases f with rfl|rfl|rfl|rfl|rfl|rfl|rfl|rfl<;>simp) (by simp[j]) ⟨rfl,λ_=>rfl⟩
 | succ r T=>
   intro k d R z;have M: ∀(t:X) (or:Nat),t.Y or=some ⟨a2.map Z,true⟩->DI.B3 9 t (AM or a2.length 1)=some (AK a2):= λt or h=>Kn (n:=8) (by rw[Jd];exact h) (by simp) K7;have c:(k:Int)<u.A4.length:=(by omega);have S:k<u.A4.length:=(by omega);have AE:a2.length<=1000000:=(by omega);by_cases N:(d:Int)∈a2
   case neg=>refine⟨d,z,λA t Q g or i m j o e p q=> ?_⟩;refine Ba (aC:=⟨[Lb],[Ei]⟩) λK B=> ?_;have L:=E e;have C:=M t or p;simp(disch:=first|omega|simp only[DI.AB];omega)[Uy,i,m,j,o,e,A7,c,C,N,-H,-D,-I,-F,-List.map_map];refine q _ _ (λs f=>by simp only[XO,CZ,EK,or_false]at f;rcases f with rfl|rfl|rfl|rfl|rfl|rfl|rfl|rfl<;>simp) (by simp[j]) ⟨by simp,λ_=>by simp⟩
   have U:=BZ (n:=d) (by omega);have W:=BZ (n:=k) (by omega);obtain⟨y,O⟩: ∃y:Nat,((d:Int)+1).tmod u.A4.length=y/\y<u.A4.length:=(by have AF:=Int.tmod_lt_of_pos ((d:Int)+1) (show(0:Int)<u.A4.length by omega);have A0:=Int.tmod_nonneg (a:=(d:Int)+1) (u.A4.length:Int) (by omega);obtain⟨x,A1⟩:=Dp A0;exact⟨x,A1,by omega⟩);obtain⟨v,A3,A5⟩:=T (k+1) y (by omega) O.2;refine⟨v,A3,λA t Q g or i m j o e p q=> ?_⟩;refine Ba (aC:=⟨[Lb],[Ei]⟩) λK B=> ?_;have L:=E e;have C:=M t or p;have A6:=O.1;have A8: ¬u.A4.length=0:=(by omega);simp(disch:=first|omega|simp only[DI.AB];omega)[Uy,i,m,j,o,e,A7,c,C,N,U,W,A6,A8,-H,-D,-I,-F,-List.map_map];refine B _ _ (A5 _ _ Q g or (by simp[i]) (by simp[m]) (by simp) (by simp) (by simpa[A7]using e) (by simpa using p) λl w f A9 P=>q l w (λs G=>(f s G).trans ?_) A9 ⟨by rw[P.1];simp,λb=>by rw[P.2 b];simp⟩);simp only[XO,CZ,EK,or_false]at G;rcases G with rfl|rfl|rfl|rfl|rfl|rfl|rfl|rfl<;>simp
def WG:List Nat:=[0,3,4,5,6]
def aB(u:AL)(a:List Int):Prop:= ∀y∈a,-1<=y/\y<u.A4.length
theorem a4p(BB:l.length<=140737488355328)(h:B4 u)(BC:1<=u.A4.length)(B6:v<u.A3.length): ∀(r:Nat) (a:List Int) (i:Nat),(a.length:Int)+r=CD u v->aB u a->i+2*r+10<1000000->
 ∃ (J:List Int) (eo:Nat),(J.length:Int)=CD u v/\aB u J/\eo<=i+2*r/\ ∀(A:A2) (t:X) (Q:BM->A2->X->Prop) (or:Nat) (z:List Nat),A 0=AG 0->A 3=AG 1->A 6=Z v->A 7=AM or a.length 1->A 8=Z a.length->
   t.Y 0=some ⟨[AK l,Z i],true⟩->t.Y 1=some ⟨A7 u,true⟩->t.Y or=some ⟨a.map Z,true⟩->or≠0->or≠1->(∀b∈z,b≠0/\b≠or/\b<t.ac)->
   (∀Ab W A1,(∀s∈WG,Ab s=A s)->Ab 7=AM A1 J.length 1->W.Y 0=some ⟨[AK l,Z eo],true⟩->W.Y 1=some ⟨A7 u,true⟩->W.Y A1=some ⟨J.map Z,true⟩->A1≠0->A1≠1->(∀b∈z,b≠A1/\W.Y b=t.Y b)->t.ac<=W.ac->Q (.Ao 2) Ab W)->Bc V (.loop Rn) A t Q:=by
 have BD:=L3 h.ok B6;have BE:=h.ok.Es;have BF:(u.A4.length:Int)<=1000000:=by omega
 intro r;induction r with
 | zero=>intro a i B7 A5 B8;refine⟨a,i,by omega,A5,by omega,λA t Q or z B m q K L M k w S T x U=> ?_⟩;refine Ba (aC:=⟨[Lb,Pe u h.ok],[Ei]⟩) λAf A0=> ?_;have Ag:=E k;have c: ¬(a.length:Int)<CD u v:=(by omega);simp(disch:=first|omega|simp only[DI.AB];omega)[Rn,m,q,L,k,A7,c,-H,-D,-I,-F,-List.map_map];exact U _ _ or (λs f=>by simp only[WG,CZ,EK,or_false]at f;rcases f with rfl|rfl|rfl|rfl|rfl<;>simp) (by simp[K]) M k w S T (λb hb=>⟨(x b hb).2.1,rfl⟩) (Aj _)
 | succ r Ah=>
   intro a i B7 A5 B8;have Ai: ∀(t:X) (or:Nat),t.Y or=some ⟨a.map Z,true⟩->DI.B3 9 t (AM or a.length 1)=some (AK a):= λt or h=>Kn (n:=8) (by rw[Jd];exact h) (by simp) K7;have c:(a.length:Int)<CD u v:=(by omega);have BG:a.length<=1000000:=(by omega);have B9:=FU (l:=l) (i:=i) (n:=(u.A4.length:Int)) (by omega);obtain⟨An,BA⟩:=Dp B9.1;have Ak:C2 l i (u.A4.length:Int)=(An:Int):=BA;obtain⟨Ap,BH,Al⟩:=aDU h.ok.Es (a2:=a) (by omega) u.A4.length 0 An (by omega) (by omega);have Aq:((i:Int)+1).toNat=i+1:=(by omega);by_cases Am:(Ap:Int)∈a
   ·skip
    obtain⟨J,eo,A8,A9,Ar,AA⟩:=Ah (a++[-1]) (i+1) (by simp;omega) (λy o=>by
     simp only[D2,IA]at o;rcases o with o|rfl
     ·exact A5 y o
     ·omega) (by omega)
    refine⟨J,eo,A8,A9,by omega,λA t Q or z B m q K L M k w S T x U=> ?_⟩;refine Ba (aC:=⟨[Lb,Pe u h.ok],[Ei]⟩) λAf A0=> ?_;have As:=E M;have Ag:=E k;have At:=E w;have Au: ¬0=or:= λe=>S e.symm;have Av: ¬1=or:= λe=>T e.symm;simp(disch:=first|omega|simp only[DI.AB];omega)[Rn,B,m,q,L,k,A7,M,c,G0,Ak,-H,-D,-I,-F,-List.map_map];refine Al _ _ _ 1 or (by simp[m]) (by simp[K]) (by simp) (by simp) (by simp(disch:=first|omega|simp only[DI.AB];omega)[k,A7,-H,-D,-I,-F,-List.map_map]) (by simp(disch:=first|omega|simp only[DI.AB];omega)[w,-H,-D,-I,-F,-List.map_map]) λg d f AD j=> ?_;have z0:g 0=AG 0:=(f 0 (by decide)).trans (by simp[B]);have z3:g 3=AG 1:=(f 3 (by decide)).trans (by simp[m]);have z4:g 4=A 4:=(f 4 (by decide)).trans (by simp);have AE:g 5=A 5:=(f 5 (by decide)).trans (by simp);have N:g 6=Z v:=(f 6 (by decide)).trans (by simp[q]);have AF:g 7=AM or a.length 1:=(f 7 (by decide)).trans (by simp[K]);have AI:g 8=Z a.length:=(f 8 (by decide)).trans (by simp[L]);have O:d.Y 0=some ⟨[AK l,Z ((i:Int)+1)],true⟩:=(j.2 0).trans (by simp(disch:=first|omega|simp only[DI.AB];omega)[-H,-D,-I,-F,-List.map_map]);have P:d.Y 1=some ⟨A7 u,true⟩:=(j.2 1).trans (by simp(disch:=first|omega|simp only[DI.AB];omega)[k,A7,-H,-D,-I,-F,-List.map_map]);have C:d.Y or=some ⟨a.map Z,true⟩:=(j.2 or).trans (by simp(disch:=first|omega|simp only[DI.AB];omega)[w,-H,-D,-I,-F,-List.map_map]);have AJ: ∀b∈z,d.Y b=t.Y b:= λb hb=>(j.2 b).trans (by rw[A6 (x b hb).1]);have Aw:d.ac=t.ac:=j.1.trans (by simp)
    clear f j;have AL:=Ai d or C;have Ax:=E O;have Ay:=E P;have Az:=E C;have AN:(a.length+1)*8<=140737488355328/\a.length<=9223372036854775806:=(by omega);have AO:IntKind.i64.wrap ((a.length:Int)+1)=(a.length:Int)+1:=Ac (by omega) (by omega);simp(disch:=first|omega|simp only[DI.AB];omega)[AF,AI,AD,C,AL,Am,AN,AO,-H,-D,-I,-F,-List.map_map];refine A0 _ _ (AA _ _ Q (d.ac+3) z (by simp[z0]) (by simp[z3]) (by simp[N]) (by simp) (by simp) ?_ ?_ ?_ (by omega) (by omega) (λb hb=> ?_) λAP AQ AR AS AT AU p AV AW AX R AY=>U AP AQ AR (λs G=>(AS s G).trans ?_) AT AU p AV AW AX (λb hb=>⟨(R b hb).1,(R b hb).2.trans ?_⟩) (by simp at AY;omega))
    ·simp(disch:=first|omega|simp only[DI.AB];omega)[O,-H,-D,-I,-F,-List.map_map]
    ·simp(disch:=first|omega|simp only[DI.AB];omega)[P,A7,-H,-D,-I,-F,-List.map_map]
    ·simp(disch:=first|omega|simp only[DI.AB];omega)[-H,-D,-I,-F,-List.map_map];exact DP (by simp)
    ·obtain⟨p,AZ,Aa⟩:=x b hb;exact⟨p,by omega,by simp;omega⟩
    ·simp only[WG,CZ,EK,or_false]at G;rcases G with rfl|rfl|rfl|rfl|rfl<;>simp[z0,z3,z4,AE,N,B,m,q]
    ·obtain⟨p,AZ,Aa⟩:=x b hb;have B0:b<d.ac:=by omega
     have B1: ¬b=d.ac+2:=by omega
     have B2: ¬b=d.ac+3:=by omega
     simp(disch:=first|omega|simp only[DI.AB];omega)[AJ b hb,-H,-D,-I,-F,-List.map_map]
   by_cases B5:C2 l (i+1) 12=0
   ·skip
    obtain⟨J,eo,A8,A9,Ar,AA⟩:=Ah (a++[-1]) (i+2) (by simp;omega) (λy o=>by
     simp only[D2,IA]at o;rcases o with o|rfl
     ·exact A5 y o
     ·omega) (by omega)
    refine⟨J,eo,A8,A9,by omega,λA t Q or z B m q K L M k w S T x U=> ?_⟩;refine Ba (aC:=⟨[Lb,Pe u h.ok],[Ei]⟩) λAf A0=> ?_;have As:=E M;have Ag:=E k;have At:=E w;have Au: ¬0=or:= λe=>S e.symm;have Av: ¬1=or:= λe=>T e.symm;simp(disch:=first|omega|simp only[DI.AB];omega)[Rn,B,m,q,L,k,A7,M,c,G0,Ak,-H,-D,-I,-F,-List.map_map];refine Al _ _ _ 1 or (by simp[m]) (by simp[K]) (by simp) (by simp) (by simp(disch:=first|omega|simp only[DI.AB];omega)[k,A7,-H,-D,-I,-F,-List.map_map]) (by simp(disch:=first|omega|simp only[DI.AB];omega)[w,-H,-D,-I,-F,-List.map_map]) λg d f AD j=> ?_;have z0:g 0=AG 0:=(f 0 (by decide)).trans (by simp[B]);have z3:g 3=AG 1:=(f 3 (by decide)).trans (by simp[m]);have z4:g 4=A 4:=(f 4 (by decide)).trans (by simp);have AE:g 5=A 5:=(f 5 (by decide)).trans (by simp);have N:g 6=Z v:=(f 6 (by decide)).trans (by simp[q]);have AF:g 7=AM or a.length 1:=(f 7 (by decide)).trans (by simp[K]);have AI:g 8=Z a.length:=(f 8 (by decide)).trans (by simp[L]);have O:d.Y 0=some ⟨[AK l,Z ((i:Int)+1)],true⟩:=(j.2 0).trans (by simp(disch:=first|omega|simp only[DI.AB];omega)[-H,-D,-I,-F,-List.map_map]);have P:d.Y 1=some ⟨A7 u,true⟩:=(j.2 1).trans (by simp(disch:=first|omega|simp only[DI.AB];omega)[k,A7,-H,-D,-I,-F,-List.map_map]);have C:d.Y or=some ⟨a.map Z,true⟩:=(j.2 or).trans (by simp(disch:=first|omega|simp only[DI.AB];omega)[w,-H,-D,-I,-F,-List.map_map]);have AJ: ∀b∈z,d.Y b=t.Y b:= λb hb=>(j.2 b).trans (by rw[A6 (x b hb).1]);have Aw:d.ac=t.ac:=j.1.trans (by simp)
    clear f j;have AL:=Ai d or C;have Ax:=E O;have Ay:=E P;have Az:=E C;have AN:(a.length+1)*8<=140737488355328/\a.length<=9223372036854775806:=(by omega);have AO:IntKind.i64.wrap ((a.length:Int)+1)=(a.length:Int)+1:=Ac (by omega) (by omega);simp(disch:=first|omega|simp only[DI.AB];omega)[z0,AF,AI,AD,O,C,AL,Am,B5,G0,AN,AO,Aq,-H,-D,-I,-F,-List.map_map];refine A0 _ _ (AA _ _ Q (d.ac+3) z (by simp[z0]) (by simp[z3]) (by simp[N]) (by simp) (by simp) ?_ ?_ ?_ (by omega) (by omega) (λb hb=> ?_) λAP AQ AR AS AT AU p AV AW AX R AY=>U AP AQ AR (λs G=>(AS s G).trans ?_) AT AU p AV AW AX (λb hb=>⟨(R b hb).1,(R b hb).2.trans ?_⟩) (by simp at AY;omega))
    ·simp(disch:=first|omega|simp only[DI.AB];omega)[-H,-D,-I,-F,-List.map_map];omega
    ·simp(disch:=first|omega|simp only[DI.AB];omega)[P,A7,-H,-D,-I,-F,-List.map_map]
    ·simp(disch:=first|omega|simp only[DI.AB];omega)[-H,-D,-I,-F,-List.map_map];exact DP (by simp)
    ·obtain⟨p,AZ,Aa⟩:=x b hb;exact⟨p,by omega,by simp;omega⟩
    ·simp only[WG,CZ,EK,or_false]at G;rcases G with rfl|rfl|rfl|rfl|rfl<;>simp[z0,z3,z4,AE,N,B,m,q]
    ·obtain⟨p,AZ,Aa⟩:=x b hb;have B0:b<d.ac:=by omega
     have B1: ¬b=d.ac+2:=by omega
     have B2: ¬b=d.ac+3:=by omega
     simp(disch:=first|omega|simp only[DI.AB];omega)[AJ b hb,-H,-D,-I,-F,-List.map_map]
   ·skip
    obtain⟨J,eo,A8,A9,Ar,AA⟩:=Ah (a++[(Ap:Int)]) (i+2) (by simp;omega) (λy o=>by
     simp only[D2,IA]at o;rcases o with o|rfl
     ·exact A5 y o
     ·omega) (by omega)
    refine⟨J,eo,A8,A9,by omega,λA t Q or z B m q K L M k w S T x U=> ?_⟩;refine Ba (aC:=⟨[Lb,Pe u h.ok],[Ei]⟩) λAf A0=> ?_;have As:=E M;have Ag:=E k;have At:=E w;have Au: ¬0=or:= λe=>S e.symm;have Av: ¬1=or:= λe=>T e.symm;simp(disch:=first|omega|simp only[DI.AB];omega)[Rn,B,m,q,L,k,A7,M,c,G0,Ak,-H,-D,-I,-F,-List.map_map];refine Al _ _ _ 1 or (by simp[m]) (by simp[K]) (by simp) (by simp) (by simp(disch:=first|omega|simp only[DI.AB];omega)[k,A7,-H,-D,-I,-F,-List.map_map]) (by simp(disch:=first|omega|simp only[DI.AB];omega)[w,-H,-D,-I,-F,-List.map_map]) λg d f AD j=> ?_;have z0:g 0=AG 0:=(f 0 (by decide)).trans (by simp[B]);have z3:g 3=AG 1:=(f 3 (by decide)).trans (by simp[m]);have z4:g 4=A 4:=(f 4 (by decide)).trans (by simp);have AE:g 5=A 5:=(f 5 (by decide)).trans (by simp);have N:g 6=Z v:=(f 6 (by decide)).trans (by simp[q]);have AF:g 7=AM or a.length 1:=(f 7 (by decide)).trans (by simp[K]);have AI:g 8=Z a.length:=(f 8 (by decide)).trans (by simp[L]);have O:d.Y 0=some ⟨[AK l,Z ((i:Int)+1)],true⟩:=(j.2 0).trans (by simp(disch:=first|omega|simp only[DI.AB];omega)[-H,-D,-I,-F,-List.map_map]);have P:d.Y 1=some ⟨A7 u,true⟩:=(j.2 1).trans (by simp(disch:=first|omega|simp only[DI.AB];omega)[k,A7,-H,-D,-I,-F,-List.map_map]);have C:d.Y or=some ⟨a.map Z,true⟩:=(j.2 or).trans (by simp(disch:=first|omega|simp only[DI.AB];omega)[w,-H,-D,-I,-F,-List.map_map]);have AJ: ∀b∈z,d.Y b=t.Y b:= λb hb=>(j.2 b).trans (by rw[A6 (x b hb).1]);have Aw:d.ac=t.ac:=j.1.trans (by simp)
    clear f j;have AL:=Ai d or C;have Ax:=E O;have Ay:=E P;have Az:=E C;have AN:(a.length+1)*8<=140737488355328/\a.length<=9223372036854775806:=(by omega);have AO:IntKind.i64.wrap ((a.length:Int)+1)=(a.length:Int)+1:=Ac (by omega) (by omega);simp(disch:=first|omega|simp only[DI.AB];omega)[z0,AF,AI,AD,O,C,AL,Am,B5,G0,AN,AO,Aq,-H,-D,-I,-F,-List.map_map];refine A0 _ _ (AA _ _ Q (d.ac+3) z (by simp[z0]) (by simp[z3]) (by simp[N]) (by simp) (by simp) ?_ ?_ ?_ (by omega) (by omega) (λb hb=> ?_) λAP AQ AR AS AT AU p AV AW AX R AY=>U AP AQ AR (λs G=>(AS s G).trans ?_) AT AU p AV AW AX (λb hb=>⟨(R b hb).1,(R b hb).2.trans ?_⟩) (by simp at AY;omega))
    ·simp(disch:=first|omega|simp only[DI.AB];omega)[-H,-D,-I,-F,-List.map_map];omega
    ·simp(disch:=first|omega|simp only[DI.AB];omega)[P,A7,-H,-D,-I,-F,-List.map_map]
    ·simp(disch:=first|omega|simp only[DI.AB];omega)[-H,-D,-I,-F,-List.map_map];exact DP (by simp)
    ·obtain⟨p,AZ,Aa⟩:=x b hb;exact⟨p,by omega,by simp;omega⟩
    ·simp only[WG,CZ,EK,or_false]at G;rcases G with rfl|rfl|rfl|rfl|rfl<;>simp[z0,z3,z4,AE,N,B,m,q]
    ·obtain⟨p,AZ,Aa⟩:=x b hb;have B0:b<d.ac:=by omega
     have B1: ¬b=d.ac+2:=by omega
     have B2: ¬b=d.ac+3:=by omega
     simp(disch:=first|omega|simp only[DI.AB];omega)[AJ b hb,-H,-D,-I,-F,-List.map_map]
def Lm(u:AL)(L:List (List Int)):Prop:= ∀(w:Nat) (r:List Int),L[w]?=some r->(r.length:Int)=CD u w/\aB u r
theorem Lm.add(h:Lm u L)(b:(r.length:Int)=CD u L.length)(d:aB u r):Lm u (L++[r]):= λw x a=>by
 by_cases c:w<L.length
 ·rw[Ke c]at a;exact h w x a
 ·have f:=(Ae.1 a).1;simp only[En,DZ,KC]at f;have e:w=L.length:=(by omega);subst e;rw[Ib (Aj _)]at a;simp at a;subst a;exact⟨b,d⟩
theorem aC1:(L.map Bz).flatten.length=L.length:=by rw[LV (z:=1) λr a=>by obtain⟨x,_,rfl⟩:=CG.1 a;rfl,E9,Nat.mul_one]
theorem tW: ∀r∈L.map Bz,r.length=1/\ ∀v∈r,DA v=true:= λr b=>by obtain⟨x,_,rfl⟩:=CG.1 b;exact⟨rfl,λv a=>by simp[Bz]at a;subst a;rfl⟩
theorem a60(W:l.length<=140737488355328)(h:B4 u)(A0:1<=u.A4.length): ∀(r:Nat) (L:List (List Int)) (i:Nat),L.length+r=u.A3.length->Lm u L->i+20*r+100<1000000->
 ∃ (d:List (List Int)) (eo:Nat),d.length=u.A3.length/\Lm u d/\eo<=i+20*r/\ ∀(A:A2) (t:X) (Q:BM->A2->X->Prop) (a:Nat),A 0=AG 0->A 3=AG 1->A 5=AM a L.length 1->A 6=Z L.length->
   t.Y 0=some ⟨[AK l,Z i],true⟩->t.Y 1=some ⟨A7 u,true⟩->t.Y a=some ⟨(L.map Bz).flatten,true⟩->a≠0->a≠1->
   (∀M w B,M 5=AM B d.length 1->w.Y 0=some ⟨[AK l,Z eo],true⟩->w.Y B=some ⟨(d.map Bz).flatten,true⟩->B≠0->Q (.Ao 0) M w)->Bc V (.loop Zj) A t Q:=by
 have AZ:=h.ok.EF;intro r;induction r with
 | zero=>intro L i N C A1;refine⟨L,i,by omega,C,by omega,λA t Q a D g F k q f s G A5 H=> ?_⟩;refine Ba (aC:=⟨[Lb,Pe u h.ok],[Ei]⟩) λA9 O=> ?_;have AA:=E f;have c: ¬(L.length:Int)<u.A3.length:=(by omega);have Aa: ¬L.length<u.A3.length:=(by omega);simp[Zj,g,k,f,A7,c];exact H _ _ a (by simp[F]) q s G
 | succ r AD=>
   intro L i N C A1;have P:L.length<u.A3.length:=(by omega);have Ae:=L3 h.ok P;obtain⟨m,AE,AF,AI,a3,a4⟩:=a4p (l:=l) W h A0 P (CD u L.length).toNat [] i (by simp;omega) (λy AJ=>by simp at AJ) (by omega);obtain⟨d,eo,AL,AN,Af,AO⟩:=AD (L++[m]) AE (by simp;omega) (C.add AF AI) (by omega);refine⟨d,eo,AL,AN,by omega,λA t Q a D g F k q f s G A5 H=> ?_⟩;refine Ba (aC:=⟨[Lb,Pe u h.ok],[Ei]⟩) λA9 O=> ?_;have Ag:=E q;have AA:=E f;have Ah:=E s;have c:(L.length:Int)<u.A3.length:=(by omega);simp[Zj,g,k,f,A7,c];refine a4 _ _ _ t.ac [a] (by simp[D]) (by simp[g]) (by simp[k]) (by simp) (by simp) ?_ ?_ ?_ (by omega) (by omega) (λb hb=> ?_) λv I or n AP R S T Ai Aj J AQ=> ?_
   ·simp(disch:=omega)[q]
   ·simp(disch:=omega)[f,A7]
   ·simp(disch:=first|omega|simp only[DI.AB];omega)
   ·simp only[CZ,EK,or_false]at hb;subst hb;exact⟨G,by omega,by simp;omega⟩
   have z0:v 0=AG 0:=(n 0 (by decide)).trans (by simp[D]);have z3:v 3=AG 1:=(n 3 (by decide)).trans (by simp[g]);have AS:v 5=AM a L.length 1:=(n 5 (by decide)).trans (by simp[F]);have AT:v 6=Z L.length:=(n 6 (by decide)).trans (by simp[k]);have U:I.Y a=some ⟨(L.map Bz).flatten,true⟩:=(J a (by simp)).2.trans (by simp(disch:=omega)[s]);have Ak:=E R;have Al:=E S;have Am:=E U;have An:=E T;have K:=aC1 (L:=L);have AU:or=a->False:= λe=>(J a (by simp)).1 e.symm;clear n J AQ;have AV:IntKind.i64.wrap ((L.length:Int)+1)=(L.length:Int)+1:=Ac (by omega) (by omega);have N: ∀x,(L++[m]).map Bz=x->(L.map Bz).flatten++[AK m]=x.flatten:= λx AW=>by subst AW;simp[Bz]
   have AX:List.take L.length (L.map Bz).flatten=(L.map Bz).flatten:=DP (by omega);have AY: ¬or=a:= λe=>by subst e;exact(AU rfl).elim
   simp(disch:=first|omega|simp only[DI.AB];omega)[AS,AT,AP,U,K,AV,AX];refine⟨by omega,O _ _ (LO (o:=or) (p:=I.ac+3) (j:=L.length) (z:=1) (cb:=m.map λx=>[Z x]) (cells:=(L.map Bz).flatten++[AM or m.length 1]) ?_ K7 ?_ ?_ (by omega) (AO _ _ Q (I.ac+3) (by simp[z0]) (by simp[z3]) ?_ ?_ ?_ ?_ ?_ (by omega) (by omega) H))⟩
   ·rw[A6 (by omega),A6 AY,A6 (by omega),X.Ab,Jd];exact T
   ·rw[AR (by simp)]
   ·rw[Ib (by omega)];simp[K]
   ·simp
   ·simp
   ·rw[A6 (by omega),A6 (by omega),A6 (by omega),A6 (by omega),A6 (by omega),X.Ab];exact R
   ·rw[A6 (by omega),A6 (by omega),A6 (by omega),A6 (by omega),A6 (by omega),X.Ab];exact S
   ·rw[AR (by simp),List.set_append_right _ _ (by omega)];simp[K,Bz]
theorem ZX{o l z:Nat}(h:t.Y o=some ⟨cb.flatten,true⟩)(b: ∀r∈cb,r.length=z/\ ∀v∈r,DA v=true)(c:o≠0):0∉DI.BL 9 t (AM o l z):=by
 rw[OO,h];simp only[CZ,M6,Mv];rintro(e|⟨v,⟨r,d,f⟩,a⟩)
 ·exact c e.symm
 ·rw[DI.PS ((b r d).2 v f)]at a;cases a
theorem aCq(c:l.length<=140737488355328)(x:i<600000)(h:B4 u)(e:1<=u.A4.length): ∃L eo,L.length=u.A3.length/\Lm u L/\eo<=i+20*u.A3.length/\Bh V 48 [AG 0,.agg (A7 u).toArray] (H8 l i) λv a=>DI.B3 9 a v=some (Bf L)/\a.Y 0=some ⟨[AK l,Z eo],true⟩/\0∉BL 9 a v:=by
 have y:=h.ok.EF;obtain⟨L,eo,f,g,j,k⟩:=a60 (l:=l) c h e u.A3.length [] i (by simp) (λw r m=>by simp at m) (by omega);refine⟨L,eo,f,g,j,?_⟩;refine Ax (aC:=⟨[Lb,Pe u h.ok],[Ei]⟩) a5.2 ?_;simp[a5,oZ,H8];refine SP (d:=5) (z:=1) (by simp) ?_;refine k _ _ _ 3 (by simp) (by simp) (by simp[Cl]) (by simp) ?_ ?_ ?_ (by decide) (by decide) λB o C p q b s=> ?_
 ·rw[A6 (by simp[Cl]),Ab (by simp[Cl]),A6 (by decide),Ab (by simp[Cl]),AR (by simp[Cl])]
 ·rw[A6 (by simp[Cl]),Ab (by simp[Cl]),AR (by simp[Cl])]
 ·rw[show((((Cl.AE 1).A1 0 (some {cells:=[AK l,Z i],own:=true})).AE 2).A1 1 (some {cells:=A7 u,own:=true})).ac=3 from rfl];exact AR (by simp[Cl])
 simp[p];refine⟨?_,q,ZX b tW s⟩;have:=Kn (n:=8) (t:=o) (l:=L.length) b (by simp) tW;exact this
end Go.Proofs.YtmmkkggfmigppaaGreat
