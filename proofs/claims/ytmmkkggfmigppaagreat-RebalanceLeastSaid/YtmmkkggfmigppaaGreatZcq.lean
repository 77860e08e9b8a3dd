/- A part of the proof. -/
import Derived.Test.YtmmkkggfmigppaaGreatZcp
set_option linter.all false
set_option maxRecDepth 8000
set_option maxHeartbeats 16000000
namespace Go.Proofs.YtmmkkggfmigppaaGreat
open Go Go.DI Go.Big
def Kc(k m:Int):Bool:=decide (1<=k)&&(decide (k<=6)&&(decide (0<=m)&&(decide (m<=4)&&decide (k+m<=8))))
variable{k m q a b:Int}{n i:Nat}{o h:Ac}{r:List Ac}{C:Type}{l:List ByteArray}{s:ByteArray}{J:List (List Ac)}{A:A6}{P:Program}{Q:BM->A6->V->Prop}{c:D}{t:V}
theorem aBW:AL U 197 [Y k,Y m] (.bool (Kc k m)):=by
 refine BG (Ak (an:=⟨[],[]⟩) aDM (by kernel_rfl) (by simp[R8]) ?_);by_cases a:1<=k
 ·have e:k>=1:=a;by_cases c:k<=6
  ·by_cases b:0<=m
   ·have f:m>=0:=b;by_cases d:m<=4
    ·have g:IntKind.i64.wrap (k+m)=k+m:=Ah (by omega) (by omega);simp[R8,S0,a,c,b,d,g,Kc]
    ·simp[R8,S0,a,c,b,d,Kc]
   ·have f: ¬m>=0:=b;simp[R8,S0,a,c,b,Kc]
  ·simp[R8,S0,a,c,Kc]
 ·have e: ¬k>=1:=a;simp[R8,S0,a,Kc]
noncomputable def cb:AK U:= .B8 197 (Int×Int) (λ⟨k,m⟩=>True) (λ⟨k,m⟩=>[Y k,Y m]) (λ⟨k,m⟩=> .bool (Kc k m)) (λ⟨k,m⟩ h=>aBW)
@[simp] theorem aLj:cb.f=197:=rfl
@[simp] theorem aMC:cb.fn ([Y k,Y m])=some (.bool (Kc k m)):=AK.BD (x:=(k,m)) trivial λy a=>by obtain⟨b,c⟩:=y;simpa using a
theorem aEv:Kc k m=(C6 k 1 6&&(C6 m 0 4&&decide (k+m<=8))):=by simp only[Kc,C6,Bool.and_assoc]
def QL(s:I6):Bool:=C6 s.b 0 8&&(C6 s.c 0 8&&(C6 s.d 0 8&&C6 s.e 0 8))
theorem a1o{s:I6}:AL U 141 [Y k,Y m,Y q,.agg #[Y s.a,Y s.b,Y s.c,Y s.d,Y s.e]] (.bool (Fc k m q s)):=by
 refine BG (Ak (an:=⟨[cb,L1],[]⟩) aB0 (by kernel_rfl) (by simp[RU]) ?_);have e:Fc k m q s=(Kc k m&&(C6 q k (k+m)&&(decide (s.a=0)&&QL s))):=by
  rw[aEv];by_cases f:s.a=0
  ·simp[Fc,QL,f,show C6 0 0 8=true from rfl,Bool.and_assoc]
  ·simp[Fc,QL,f]
 rw[e];cases g:Kc k m
 ·simp[RU,VT,PX,g]
 ·have o:IntKind.i64.wrap (k+m)=k+m:=(by simp[Kc]at g;exact Ah (by omega) (by omega));cases p:C6 q k (k+m)
  ·simp[RU,VT,PX,g,p,o]
  ·by_cases v:s.a=0
   ·simp[RU,VT,g,p,v,o];refine CE (an:=⟨[cb,L1],[]⟩) (λi A t=>(∀j:Nat,j<i->C6 (s.at ((j:Int)+1)) 0 8=true)/\t.W 0=some ⟨[Y 0,Y s.b,Y s.c,Y s.d,Y s.e],true⟩/\A 7=AA 0/\A 9=Y ((i:Int)+1)) 4 ?_ ?_ 0 _ _ (C0 _) ⟨by simp,by simp,by simp,by simp⟩
    ·rintro i A t D ⟨f,h,l,n⟩ E B;have G:=F h;have r:i=0\/i=1\/i=2\/i=3:=(by omega);cases hb:C6 (s.at ((i:Int)+1)) 0 8
     ·have u:QL s=false:=by
       rcases r with rfl|rfl|rfl|rfl<;>simp[I6.at]at hb<;>simp[QL,hb]
      rcases r with rfl|rfl|rfl|rfl<;>simp[I6.at]at hb<;>simp[cn,PX,l,n,h,hb,u]
     ·have C: ∀j:Nat,j<i+1->C6 (s.at ((j:Int)+1)) 0 8=true:= λj H=>by
       by_cases e:j=i
       ·subst e;exact hb
       ·exact f j (by omega)
      rcases r with rfl|rfl|rfl|rfl<;>simp[I6.at]at hb<;>simp[cn,PX,l,n,h,hb]<;>exact B _ _ ⟨C,h,by simp[l],by simp;rfl⟩
    ·rintro A t ⟨f,h,l,n⟩;have u:QL s=true:=by
      have w:=f 0 (by decide);have x:=f 1 (by decide);have y:=f 2 (by decide);have z:=f 3 (by decide);simp[I6.at]at w x y z;simp[QL,w,x,y,z]
     simp[cn,PX,PX,n,u]
   ·simp[RU,VT,PX,g,p,v,o]
noncomputable def Zt(n:Nat)(a:n<1000000):AK U:= .B8 190 (List Ac) (λl=> ∀x∈l,x.B1) (λl=>[DZ l,Y n]) (λl=> .bool (decide (l.length=n)&&l.all λx=>x.AZ.small)) λ_ h=>mY h a
@[simp] theorem aIZ{a:n<1000000}:(Zt n a).f=190:=rfl
@[simp] theorem aHW{a:n<1000000}{l:List Ac}(h: ∀x∈l,x.B1):(Zt n a).fn [M (l.map BO) 3,Y n]=some (.bool (decide (l.length=n)&&l.all λx=>x.AZ.small)):=AK.BD (x:=l) h λy b=>by simpa using b
theorem a03(H:0<=m)(I:m<=4){l:List Ac}(y:(∀x∈l,x.B1)/\l.length<1000000):AL U 198 [DZ l,Y m] (.bool (decide ((l.length:Int)=if 1>m then 1 else m)&&l.all Hn)):=by
 obtain⟨n,j⟩: ∃n:Nat,(if 1>m then(1:Int)else m)=n:=⟨(if 1>m then(1:Int)else m).toNat,by split<;>omega⟩;have q:(if m<1 then(1:Int)else m)=n:=j;have r:n<1000000:=by split at j<;>omega
 rw[j];have z:decide ((l.length:Int)=(n:Int))=decide (l.length=n):=by congr 1;apply propext;omega
 rw[z];refine BG (Ak (an:=⟨[Zt n r,QD],[]⟩) a1z (by kernel_rfl) (by simp[c7]) ?_);obtain⟨B,J⟩:=y;cases a:(decide (l.length=n)&&l.all λx=>x.AZ.small)
 ·have e:(decide (l.length=n)&&l.all Hn)=false:=by
   by_cases c:l.length=n
   ·simp only[c,decide_true,Bool.true_and,List.all_eq_false]at a⊢;obtain⟨x,k,h⟩:=a;exact⟨x,k,by simp only[Hn,AB,not_and];intro C;exact absurd C h⟩
   ·simp[c]
  rw[e];simp(disch:=omega)[c7,mS,Si,q,a]
 ·simp(disch:=first|omega|simp only[AD];omega)[c7,mS,q,a];simp only[AB,Ba]at a;obtain⟨c,a⟩:=a;have D:decide (l.length=n)=true:=(by simp[c]);rw[D,Bool.true_and];refine CE (an:=⟨[Zt n r,QD],[]⟩) (λi A t=>(l.take i).all Hn=true/\A 0=DZ l/\A 5=Y i) l.length ?_ ?_ 0 _ _ (C0 _) ⟨by simp,by simp,by simp⟩
  ·rintro i A t s ⟨d,b,f⟩ K E;have k:l[i]?=some l[i]:=AS s;have o:l[i]∈l:=Dc s;have F:=BX (n:=i) (by omega);have u:(i:Int)<l.length:=(by omega);have v:=BF.1 a _ o;have G:l[i].B1/\l[i].AZ.ok=true:=⟨B _ o,vT v⟩;have w:=aDp (Ac.xn G.1);by_cases g:0<l[i].AZ.n
   ·have p: ¬IN l[i].AZ .nil=0:=(by rw[w];exact λh=>h g);simp(disch:=first|omega|simp only[AD];omega)[cY,Si,b,f,u,F,BO,p];exact E _ _ ⟨by rw[MB k,List.all_append,d];simp[Hn,v,g],by simp[b],by simp⟩
   ·have p:IN l[i].AZ .nil=0:=(by rw[w];exact g);simp(disch:=omega)[cY,Si,b,f,u,BO,p];exact⟨_,o,by simp[Hn,g]⟩
  ·rintro A t ⟨d,b,f⟩;rw[EP]at d;simp[cY,Si,b,f,Si];simpa using d
noncomputable def g2(o:Ac)(h:AL U 193 [Y 1] (B5 o)):AK U:= .B8 193 Unit (λ_=>True) (λ_=>[Y 1]) (λ_=>B5 o) λ_ _=>h
@[simp] theorem aHM{h:AL U 193 [Y 1] (B5 o)}:(g2 o h).f=193:=rfl
@[simp] theorem aIN{h:AL U 193 [Y 1] (B5 o)}:(g2 o h).fn [Y 1]=some (B5 o):=AK.BD (x:=()) trivial λ_ _=>rfl
noncomputable def jQ(o:Ac)(h: ∀x:Ac,(x.B1/\x.AZ.ok=true)->AL U 199 [B5 o,B5 x] (.bool (!IP x.AZ))):AK U:= .B8 199 Ac (λx=>x.B1/\x.AZ.ok=true) (λx=>[B5 o,B5 x]) (λx=> .bool (!IP x.AZ)) h
@[simp] theorem aIp{h: ∀x:Ac,(x.B1/\x.AZ.ok=true)->AL U 199 [B5 o,B5 x] (.bool (!IP x.AZ))}:(jQ o h).f=199:=rfl
@[simp] theorem aOe{h: ∀x:Ac,(x.B1/\x.AZ.ok=true)->AL U 199 [B5 o,B5 x] (.bool (!IP x.AZ))}{n:Bool}{a b:List Int}(c:(Ac.mk n a b).B1/\(Ac.mk n a b).AZ.ok=true):(jQ o h).fn [.agg #[.bool o.HY,AP o.a,AP o.b],.agg #[.bool n,AP a,AP b]]=some (.bool (!IP (Ac.mk n a b).AZ)):=
  AK.BD (x:=Ac.mk n a b) c λy d=>by obtain⟨e,f,g⟩:=y;simpa[BO]using d
theorem aFk(x:Ac)(a:x.B1/\x.AZ.ok=true):AL U 199 [B5 ⟨false,[1],[1]⟩,B5 x] (.bool (!IP x.AZ)):=by
 have h:=aDe a.1;have e: ∀y∈VM,decide (IN .Gd y.AZ<0)= !IP y.AZ:=by decide
 rw[<-e x a.1];exact h
noncomputable def ja(m:Int)(h:0<=m/\m<=4):AK U:= .B8 198 (List Ac) (λl=>(∀x∈l,x.B1)/\l.length<1000000) (λl=>[DZ l,Y m]) (λl=> .bool (decide ((l.length:Int)=if 1>m then 1 else m)&&l.all Hn)) λ_ a=>a03 h.1 h.2 a
@[simp] theorem aH5{h:0<=m/\m<=4}:(ja m h).f=198:=rfl
@[simp] theorem aON{h:0<=m/\m<=4}{l:List Ac}(a:(∀x∈l,x.B1)/\l.length<1000000):(ja m h).fn [M (l.map BO) 3,Y m]=some (.bool (decide ((l.length:Int)=if 1>m then 1 else m)&&l.all Hn)):=AK.BD (x:=l) a λy b=>by simpa using b
theorem a1V(d:AL U 193 [Y 1] (B5 o))(f: ∀x:Ac,(x.B1/\x.AZ.ok=true)->AL U 199 [B5 o,B5 x] (.bool (!IP x.AZ)))(g:0<=m/\m<=4){t:Ac}(j:(∀x∈r,x.B1)/\r.length<1000000)(i:t.B1)(k:h.B1):
 AL U 142 [Y m,DZ r,B5 t,B5 h] (.bool (J8 m r t h)):=by
 refine BG (Ak (an:=⟨[ja m g,eL,g2 o d,jQ o f],[]⟩) a3O (by kernel_rfl) (by simp[Sa]) ?_);have e:J8 m r t h=((decide ((r.length:Int)=if 1>m then 1 else m)&&r.all Hn)&&(t.AZ.small&&(IP t.AZ&&h.AZ.small))):=by unfold J8;rw[Bool.and_assoc]
 rw[e];cases a:(decide ((r.length:Int)=if 1>m then 1 else m)&&r.all Hn)
 ·simp(disch:=omega)[Sa,XA,BO,a]
 ·cases b:t.AZ.small
  ·simp(disch:=first|omega|simp only[AD];omega)[Sa,XA,BO,a,b]
  ·have l:t.B1/\t.AZ.ok=true:=⟨i,vT b⟩;cases c:IP t.AZ
   ·simp(disch:=first|omega|simp only[AD];omega)[Sa,XA,BO,a,b,c]
   ·simp(disch:=first|omega|simp only[AD];omega)[Sa,XA,BO,a,b,c]
theorem aCb(a:0<=m/\m<=4){t:Ac}(b:(∀x∈r,x.B1)/\r.length<1000000)(c:t.B1)(d:h.B1):AL U 142 [Y m,DZ r,B5 t,B5 h] (.bool (J8 m r t h)):=
 a1V (o:=⟨false,[1],[1]⟩) Jm aFk a b c d
theorem K3{c:Int}:C6 a b c=true↔b<=a/\a<=c:=by simp[C6]
def DC(f:Nat->C)(i:Nat)(v:C):Nat->C:= λk=>if k=i then v else f k
@[simp] theorem Nh{f:Nat->C}{v:C}:DC f i v i=v:=by simp[DC]
theorem JO{f:Nat->C}{k:Nat}{v:C}(h:k≠i):DC f i v k=f k:=by simp[DC,h]
def DS(l:List ByteArray):List Value:=(l.map λs=>[CU s]).flatten
theorem lQ: ∀r∈l.map (λs=>[CU s]),r.length=1/\ ∀v∈r,Co v=true:= λr b=>by obtain⟨x,_,rfl⟩:=CP.1 b;exact⟨rfl,λv a=>by simp at a;subst a;rfl⟩
theorem yz(b:l.length=n):(∀t,C8 (C8 (DI.Az 8 t)) (FE 1 n (DS l))=some (l.map λs=>[CU s]))/\(∀t,(DS l).flatMap (As 8 t)=[])/\(DS l).length=n:=by
 have c: ∀r∈l.map (λs=>[CU s]),r.length=1:= λr h=>(lQ r h).1;have d:(DS l).length=n:=by rw[DS,JQ c,Eb,b,Nat.mul_one]
 refine⟨λt=> ?_,λt=>cg λv a=> ?_,d⟩
 ·have:=e6 c;rw[Eb,b]at this;rw[DS,this];exact dw λr h=>dw λv a=>Pe ((lQ r h).2 v a)
 ·obtain⟨r,e,f⟩:=RG.1 a;exact(lQ r e).2 v f
theorem tf:DS (l++[s])=DS l++[CU s]:=by simp[DS]
noncomputable def kq:AK U:= .B8 137 F1 F1.B1 (λx=>[Of x]) (λx=> .bool x.Md) λ_ h=>aDK h
@[simp] theorem aQC:kq.f=137:=rfl
@[simp] theorem aH1{n:ByteArray}{s e:List Ac}(h:(F1.mk n s J e).B1):kq.fn [.agg #[CU n,M (s.map BO) 3,M (J.map λr=>[DZ r]) 1,M (e.map BO) 3]]=some (.bool (F1.mk n s J e).Md):=AK.BD (x:=F1.mk n s J e) h λy a=>wc a
noncomputable def nX:AK U:= .B8 141 (Int×Int×Int×I6) (λ_=>True) (λp=>[Y p.1,Y p.2.1,Y p.2.2.1,.agg #[Y p.2.2.2.a,Y p.2.2.2.b,Y p.2.2.2.c,Y p.2.2.2.d,Y p.2.2.2.e]]) (λp=> .bool (Fc p.1 p.2.1 p.2.2.1 p.2.2.2)) λ_ _=>a1o
@[simp] theorem aHC:nX.f=141:=rfl
@[simp] theorem aKm{c d e:Int}:nX.fn [Y k,Y m,Y q,.agg #[Y a,Y b,Y c,Y d,Y e]]=some (.bool (Fc k m q ⟨a,b,c,d,e⟩)):=AK.BD (x:=(k,m,q,(⟨a,b,c,d,e⟩:I6))) trivial λy f=>by obtain⟨r,s,t,u,v,w,z,A⟩:=y;simp at f;obtain⟨g,h,i,j,l,n,o,p⟩:=f;simp[g,h,i,j,l,n,o,p]
noncomputable def hh:AK U:= .B8 142 (Int×List Ac×Ac×Ac) (λp=>(0<=p.1/\p.1<=4)/\((∀x∈p.2.1,x.B1)/\p.2.1.length<1000000)/\p.2.2.1.B1/\p.2.2.2.B1) (λp=>[Y p.1,DZ p.2.1,B5 p.2.2.1,B5 p.2.2.2]) (λp=> .bool (J8 p.1 p.2.1 p.2.2.1 p.2.2.2)) λ_ h=>aCb h.1 h.2.1 h.2.2.1 h.2.2.2
@[simp] theorem aKT:hh.f=142:=rfl
@[simp] theorem aPk{n c:Bool}{a b d e:List Int}(h:(0<=m/\m<=4)/\((∀x∈r,x.B1)/\r.length<1000000)/\(Ac.mk n a b).B1/\(Ac.mk c d e).B1):hh.fn [Y m,M (r.map BO) 3,.agg #[.bool n,AP a,AP b],.agg #[.bool c,AP d,AP e]]=some (.bool (J8 m r ⟨n,a,b⟩ ⟨c,d,e⟩)):=AK.BD (x:=(m,r,(⟨n,a,b⟩:Ac),(⟨c,d,e⟩:Ac))) h λy f=>by obtain⟨s,t,⟨u,v,w⟩,⟨z,A,B⟩⟩:=y;simp[BO]at f;obtain⟨g,i,⟨j,k,l⟩,o,p,q⟩:=f;simp[g,i,j,k,l,o,p,q]
theorem VU(d z:Nat)(e:A d= .slice none 0 0)(h: ∀b,b.next=t.next+1->b.W t.next=some ⟨[],true⟩->(∀a,a<t.next->b.W a=t.W a)->BY P c (FT A d (.slice (some ⟨t.next,0,none⟩) 0 z)) b Q):BY P c A t Q:=
 Pa (d:=d) (z:=z) e (h _ (by simp) (AT (by simp)) λa f=>by rw[A3 (by omega),V.AU])
@[simp] theorem xJ{a b:ByteArray}:G0 (.string a) (.string b)=decide (a=b):=rfl
@[simp] theorem aO2{k c:IntKind}:G0 (.int k a) (.int c b)=decide (a=b):=rfl
def JH(l:List ByteArray):List (Value×Value):=l.map λx=>(CU x,.bool true)
theorem qu{s:ByteArray}: ∀{l:List ByteArray},CT (CU s) (JH l)=(H0 s l).map λ_=> .bool true
 |[]=>rfl
 | x::l=>by
   simp only[JH,E1,CT,xJ,H0];by_cases h:s=x
   ·simp[h]
   ·have:=qu (s:=s) (l:=l);simp only[JH]at this;simp only[h,decide_false,if_false,this,Option.map_map,EI];rfl
theorem x7{s:ByteArray}: ∀{l:List ByteArray},H0 s l=none->DM (CU s) (.bool true) (JH l)=JH (l++[s])
 |[],_=>by simp[JH,DM]
 | x::l,h=>by
   simp only[H0]at h;split at h
   ·cases h
   ·next a=>have:=x7 (s:=s) (l:=l) (by cases b:H0 s l with|none=>rfl|some v=>rw[b]at h;cases h);simp only[JH]at this;simp only[JH,E1,DM,xJ,a,decide_false,EI,if_false,Ih,this]
theorem aCk:DX .str (CU s) (JH l)=true:=by simp only[DX,JH,DT,Bool.true_and,List.all_map,BF];intro x _;rfl
theorem gd: ∀{l:List ByteArray},s∉l->H0 s l=none
 |[],_=>rfl
 | x::l,h=>by simp only[CM,not_or]at h;simp only[H0,if_neg h.1,gd h.2];rfl
theorem aB7(h:l.Nodup)(b:i<l.length):l[i]∉l.take i:= λc=>by
 obtain⟨j,d,a⟩:=EC c;rw[List.getElem_take]at a;have e:j<i:=by rw[GC]at d;omega
 exact(NA.1 h j i (by omega) b e) a
theorem wj:(DS l).length=l.length:=(yz (l:=l) rfl).2.2
noncomputable def EO(l:List ByteArray):Bool:=l.all IY&&decide l.Nodup
theorem nx{s:ByteArray}: ∀{l:List ByteArray},s∈l->H0 s l≠none
 |[],h=>by cases h
 | x::l,h=>by
   simp only[H0];split
   ·exact λh=>by cases h
   ·next e=>
    have c:s∈l:=by
     rcases CM.1 h with rfl|h
     ·exact absurd rfl e
     ·exact h
    have:=nx c;intro a;cases b:H0 s l with
    |none=>exact this b
    |some k=>rw[b]at a;cases a
theorem a6O(s:l.length<1000000)(b:EO l=true):AL U 114 [RA l] (.bool true):=by
 refine BG (Ak (an:=⟨[],[]⟩) aF0 (by kernel_rfl) (by simp[lh]) ?_);simp only[EO,AB,Ba,BF]at b;simp[lh,xw];refine CE (an:=⟨[lj],[]⟩) (λi A t=>t.BL 0=some (JH (l.take i))/\A 3= .map (some 0)/\A 7=RA l/\A 8=Y l.length/\A 9=Y i) l.length ?_ ?_ 0 _ _ (C0 _) ⟨by simp(disch:=first|omega|simp only[AD];omega)[JH],by simp,by simp,by simp,by simp⟩
 ·rintro i A t c ⟨d,e,f,a,g⟩ u j;have k:l[i]?=some l[i]:=AS c;have m:=BX (n:=i) (by omega);have o:(i:Int)<l.length:=(by omega);have p:DX .str (CU l[i]) (JH (l.take i))=true:=aCk;have v:=F (DQ d).1;have q:=b.1 _ (Dc c);have h:H0 l[i] (l.take i)=none:=gd (aB7 b.2 c);have r:CT (CU l[i]) (JH (l.take i))=none:=(by rw[qu,h];rfl);simp(disch:=first|omega|simp only[AD];omega)[m2,Zq,e,f,a,g,o,m,q,d,r,p,-CT,-DM,-DX,-H,-E,-I,-G,-List.map_map];refine j _ _ ⟨?_,by simp[e],by simp[f],by simp[a],by simp⟩;rw[MB k,<-x7 h];simp(disch:=omega)
 ·rintro A t ⟨d,e,f,a,g⟩;simp[m2,Zq,a,g,Zq]
noncomputable def m1:AK U:= .B8 114 (List ByteArray) (λl=>l.length<1000000/\EO l=true) (λl=>[RA l]) (λl=> .bool true) λ_ h=>a6O h.1 h.2
@[simp] theorem aNP:m1.f=114:=rfl
@[simp] theorem aMq(h:l.length<1000000/\EO l=true):m1.fn [M (l.map λs=>[CU s]) 1]=some (.bool true):=AK.BD (x:=l) h λy a=>by simpa using a
def JW(x:Dw)(n:Nat):Bool:=Fc x.k x.m x.q x.D9&&(!x.Aa.isEmpty&&(J8 x.m x.Mi x.Kf x.KW&&((x.Aa.all λm=>C6 m 0 ((n:Int)-1))&&decide x.Aa.Nodup)))
structure Dw.CV(x:Dw):Prop where
 DA:(∀y∈x.Mi,y.B1)/\x.Mi.length<1000000
 aQT:x.Kf.B1
 aQQ:x.KW.B1
 len:x.Aa.length<1000000
theorem vw{l:List Int}(h:l.Nodup)(b:i<l.length):l[i]∉l.take i:= λc=>by
 obtain⟨j,d,a⟩:=EC c;rw[List.getElem_take]at a;have e:j<i:=by rw[GC]at d;omega
 exact(NA.1 h j i (by omega) b e) a
variable{x:Dw}
theorem aCj(A3:n<1000000)(h:Dw.CV x)(v:JW x n=true):AL U 113 [.agg (B3 x).toArray,Y n] (.bool true):=by
 refine BG (Ak (an:=⟨[n0,nU],[]⟩) a2s (by kernel_rfl) (by simp[kx]) ?_);obtain⟨z,B,C,A4⟩:=h;simp only[JW,AB,Iz,Ba,BF]at v;obtain⟨D,J,K,L,M⟩:=v;have N: ¬x.Aa.length=0:= λe=>by rw[<-List.isEmpty_iff_length_eq_zero,J]at e;cases e
 have A5: ¬(x.Aa.length:Int)=0:=by omega
 have A6:((∀y∈x.Mi,y.B1)/\x.Mi.length<1000000)/\x.Kf.B1/\x.KW.B1:=⟨z,B,C⟩;have O:(n:Int)*1<=140737488355328/\n<=140737488355328/\(n:Int)<=140737488355328/\(n:Int)<=9223372036854775807:=by omega
 simp(disch:=first|omega|simp only[AD];omega)[kx,ub,B3,D,K,N,O,-H,-E,-I,-G,-List.map_map];refine CE (an:=⟨[Kh],[]⟩) (λi A t=> ∃b:List Bool,b.length=n/\(∀j:Nat,j<n->b[j]?=some (decide ((j:Int)∈x.Aa.take i)))/\t.W 3=some ⟨b.map Value.bool,true⟩/\A 1=Y n/\A 5= .slice (some ⟨3,0,none⟩) n 1/\A 39=AH x.Aa/\A 40=Y x.Aa.length/\A 41=Y i) x.Aa.length ?_ ?_ 0 _ _ (C0 _) ⟨List.replicate n false,by simp,λj g=>by simp[g],by simp(disch:=first|omega|simp only[AD];omega)[-H,-E,-I,-G,-List.map_map],by simp,by simp,by simp,by simp,by simp⟩
 ·rintro i A t k ⟨b,c,l,m,o,p,q,d,r⟩ A7 P;have Q:x.Aa[i]?=some x.Aa[i]:=AS k;have R:=BX (n:=i) (by omega);have S:IntKind.i64.wrap ((n:Int)-1)=(n:Int)-1:=Ah (by omega) (by omega);have T:(i:Int)<x.Aa.length:=(by omega);have f:=L _ (Dc k);have w:=vw M k;obtain⟨a,s⟩:=DP (K3.1 f).1;rw[s]at f w;have A8:=K3.1 f;have u:a<n:=(by omega);have V:(a:Int)<(n:Int):=(by omega);have X:a+1<=n:=u;have Z:x.Aa[i]?=some (a:Int):=(by rw[Q,s]);have A9:=F m;have A0:b[a]?=some false:=(by rw[l a u];simp[w]);have A1:(b.map Value.bool)[a]?=some (.bool false):=(by rw[GS,A0];rfl);have A2: ∀j:Nat,j<n->(b.set a true)[j]?=some (decide ((j:Int)∈x.Aa.take (i+1))):= λj g=>by
   rw[Ig,MB Z];by_cases e:a=j
   ·subst e;simp[c,u]
   ·rw[if_neg e,l j g];have: ¬(j:Int)=(a:Int):=(by omega);simp[this]
  simp(disch:=first|omega|simp only[AD];omega)[mm,YW,o,p,q,d,r,T,R,S,CC,s,V,X,c,A1,f,m,-H,-E,-I,-G,-List.map_map];refine P _ _ ⟨b.set a true,by simp[c],A2,?_,by simp[o],by simp[p],by simp[q],by simp[d],by simp⟩;simp(disch:=first|omega|simp only[AD];omega)
 ·rintro A t ⟨b,c,l,m,o,p,q,d,r⟩;simp(disch:=first|omega|simp only[AD];omega)[mm,YW,d,r,YW]
noncomputable def hO(n:Nat)(a:n<1000000):AK U:= .B8 113 Dw (λx=>Dw.CV x/\JW x n=true) (λx=>[.agg (B3 x).toArray,Y n]) (λx=> .bool true) λ_ h=>aCj a h.1 h.2
@[simp] theorem aMk{a:n<1000000}:(hO n a).f=113:=rfl
@[simp] theorem aNj{g:n<1000000}(h:Dw.CV x/\JW x n=true):(hO n g).fn [.agg #[CU x.name,Y x.k,Y x.m,Y x.q,Y x.D9.a,Y x.D9.b,Y x.D9.c,Y x.D9.d,Y x.D9.e,AH x.Aa,DZ x.Mi,.bool x.Kf.HY,AP x.Kf.a,AP x.Kf.b,.bool x.KW.HY,AP x.KW.a,AP x.KW.b],Y n]=some (.bool true):=AK.BD (x:=x) h λy f=>by obtain⟨F,G,H,I,⟨J,K,L,M,N⟩,O,P,⟨Q,R,S⟩,⟨T,U,V⟩⟩:=y;obtain⟨W,X,Z,A0,⟨A1,A2,A3,A4,A5⟩,A6,A7,⟨A8,A9,AB⟩,⟨AD,AE,AF⟩⟩:=x;simp[B3]at f;obtain⟨i,j,l,o,p,r,s,t,u,v,w,z,A,B,C,D,E⟩:=f;subst i;subst j;subst l;subst o;subst p;subst r;subst s;subst t;subst u;subst v;subst w;subst z;subst A;subst B;subst C;subst D;subst E;rfl
def NH(d:Dj):Bool:=decide (d.name=⟨#[]⟩)&&(decide (d.EH=0)&&(decide (d.parent= -1)&&(decide (d.SF=0)&&(d.HH.AZ.small&& !decide (0<d.HH.AZ.n)))))
def UC(ds:List Dj)(d:Dj):Bool:=match ds[d.parent.toNat]? with
 |some q=>decide (q.EH=d.EH-1)
 |none=>false
def Nx(ds:List Dj)(i:Nat)(d:Dj):Bool:=C6 d.parent 0 i&&(UC ds d&&(C6 d.EH 1 4&&(C6 d.SF 1 64&&d.HH.AZ.small)))
def KU(ds:List Dj):Bool:=match ds with
 |[]=>false
 | r::l=>NH r&&(List.range l.length).all λi=>match l[i]? with
   |some d=>Nx ds i d
   |none=>true
theorem lI{r:Dj}{l:List Dj}:KU (r::l)=(NH r&&(List.range l.length).all λi=>match l[i]? with
 |some d=>Nx (r::l) i d
 |none=>true):=rfl
structure AY.CV(u:AY):Prop where
 Bz: ∀x∈u.Bz,x.B1
 A5: ∀x∈u.A5,x.HH.B1
 Ay: ∀x∈u.Ay,Dw.CV x
 mT:u.Bz.length<=1000
 BP:u.Aa.length<=1000
 DD:u.A5.length<=1000
 Ek:u.A1.length<=1000
 hH:u.Ay.length<=1000
 F4:u.A7.length<=1000
theorem aAP{r:Dj}{l:List Dj}{d:Dj}(a:l[i]?=some d)(h:Nx (r::l) i d=false):KU (r::l)=false:=by rw[lI];rw[Bool.and_eq_false_iff];refine .inr ?_;rw[List.all_eq_false];exact⟨i,FX.2 (AX.1 a).1,by simp[a,h]⟩
theorem rJ{r:Dj}{l:List Dj}(h:KU (r::l)=true){d:Dj}(a:l[i]?=some d):Nx (r::l) i d=true:=by
 cases b:Nx (r::l) i d
 ·rw[aAP a b]at h;cases h
 ·rfl
theorem a2G{u:AY}(h:AY.CV u)(b:KU u.A5=true):AL U 111 [.agg (A4 u).toArray] (.bool true):=by
 refine BG (Ak (an:=⟨[RQ,bn],[]⟩) a6i (by kernel_rfl) (by simp[js]) ?_);have A3:=h.DD;cases a:u.A5 with
 |nil=>rw[a]at b;cases b
 |cons R ds=>
 have A6:u.A5.length=ds.length+1:=by rw[a];rfl
 have A7: ¬(u.A5.length:Int)=0:=by omega
 have A8:(0:Int)<u.A5.length:=by omega
 have s: ¬u.A5.length=0:=by omega
 have v:0<u.A5.length:=by omega
 have A9:1<=u.A5.length:=by omega
 have w:(1:Int)<=u.A5.length:=by omega
 have x:u.A5[0]?=some R:=by rw[a];rfl
 have AE:R.HH.B1:=h.A5 R (by rw[a];simp);have y:=(AX.1 x).2;have z:(List.take u.A5.length (u.A5.map Bd)).tail=ds.map Bd:=by rw[DV (by simp),a];rfl
 have B:u.A5.length-1=ds.length:=by omega
 have p:NH R=true:=by rw[a,lI,AB]at b;exact b.1
 simp only[NH,AB,Ba,Iz,Nd]at p;obtain⟨C,D,J,K,L,N⟩:=p;simp(disch:=first|omega|simp only[AD];omega)[js,ri,A4,Bd,s,v,w,y,C,D,J,K,L,N];rw[z,B];refine CE (an:=⟨[Kh,RQ],[]⟩) (λi A t=>t.W 0=some ⟨A4 u,true⟩/\A 1=AA 0/\A 45=M (ds.map Bd) 7/\A 46=Y ds.length/\A 47=Y i) ds.length ?_ ?_ 0 _ _ (C0 _) ⟨by simp(disch:=first|omega|simp only[AD];omega)[A4,-H,-E,-I,-G,-List.map_map],by simp,by simp,by simp,by simp⟩
 ·rintro i A t q ⟨d,f,g,e,j⟩ AF O;have P:ds[i]?=some ds[i]:=AS q;have Q:=BX (n:=i) (by omega);have S:(i:Int)<ds.length:=(by omega);have AG:=F d;have AH:ds[i].HH.B1:=h.A5 _ (by rw[a];exact Ty _ (Dc q));have k:=rJ (a▸b) P;rw[<-a]at k;simp only[Nx,AB]at k;obtain⟨l,m,r,T,V⟩:=k;have X:=K3.1 l;have AJ:=K3.1 r;obtain⟨c,o⟩:=DP X.1;have Z:c<u.A5.length:=(by omega);have A0:u.A5[c]?=some u.A5[c]:=AS Z;have A1:(c:Int)<u.A5.length:=(by omega);rw[o]at l;have A2:u.A5[c].EH=IntKind.i64.wrap (ds[i].EH-1):=by
   unfold UC at m;rw[o,EE,A0]at m;rw[Ah (by omega) (by omega)];simpa using m
  simp(disch:=first|omega|simp only[AD];omega)[kJ,YI,cj,YP,eD,A4,Bd,f,g,e,j,d,S,Q,o,A1,l,A2,r,T,V,-H,-E,-I,-G,-List.map_map];exact O _ _ ⟨by simp(disch:=first|omega|simp only[AD];omega)[d,A4,-H,-E,-I,-G,-List.map_map],by simp[f],by simp[g],by simp[e],by simp⟩
 ·rintro A t ⟨d,f,g,e,j⟩;simp[kJ,YI,cj,YP,eD,e,j,eD,YI,cj,YP]
noncomputable def ln(u:AY)(h:AY.CV u)(a:KU u.A5=true):AK U:= .B8 111 Unit (λ_=>True) (λ_=>[.agg (A4 u).toArray]) (λ_=> .bool true) λ_ _=>a2G h a
variable{u:AY}{N B:A6}{d:Nat}{dj PS L:List ByteArray}{dU:Nat->Nat}{w:Nat->List ByteArray}{t0:V}{an:J9 U}{K:D}{v:Value}{ds:List Dj}
@[simp] theorem aKF{h:AY.CV u}{a:KU u.A5=true}:(ln u h a).f=111:=rfl
@[simp] theorem aNl{h:AY.CV u}{a:KU u.A5=true}:(ln u h a).fn [.agg #[Y u.ext,M (u.Bz.map Cc) 4,M (u.Aa.map Ce) 4,M (u.A5.map Bd) 7,M (u.A1.map CB) 3,M (u.Ay.map B3) 17,M (u.A7.map Cd) 2]]=some (.bool true):=AK.BD (x:=()) trivial λ_ _=>rfl
def OT(a:Nat)(x:RT):Bool:=C6 x.ext 1 16&&(C6 x.a1r 1 64&&C6 x.a22 0 ((a:Int)-1))
def WW(ds:List Dj)(m:Int):Bool:=match ds[m.toNat]? with
 |some q=>decide (q.EH=4)
 |none=>false
def Od(BP:Nat)(ds:List Dj)(x:IM):Bool:=C6 x.model 0 ((BP:Int)-1)&&(C6 x.Qz 0 ((ds.length:Int)-1)&&WW ds x.Qz)
def Pz(a:Nat)(x:Je):Bool:=C6 x.JD 0 ((a:Int)-1)
def KR:List Nat:=[1,3,4,5,6,7]
theorem Kq(c:1≠d->N 1=A 1)(e:3≠d->N 3=A 3)(f:4≠d->N 4=A 4)(g:5≠d->N 5=A 5)(h:6≠d->N 6=A 6)(i:7≠d->N 7=A 7): ∀k∈KR,k≠d->N k=A k:= λk b a=>by
 simp only[KR,CM,EK,or_false]at b;rcases b with rfl|rfl|rfl|rfl|rfl|rfl
 ·exact c a
 ·exact e a
 ·exact f a
 ·exact g a
 ·exact h a
 ·exact i a
theorem G4(b:N 1=A 1)(c:N 3=A 3)(d:N 4=A 4)(e:N 5=A 5)(f:N 6=A 6)(g:N 7=A 7): ∀k∈KR,N k=A k:= λk a=>by simp only[KR,CM,EK,or_false]at a;rcases a with rfl|rfl|rfl|rfl|rfl|rfl<;>assumption
theorem wq{f:Nat->C}{a b:C}:DC (DC f d a) d b=DC f d b:=by
 funext k;by_cases h:k=d
 ·subst h;simp
 ·rw[JO h,JO h,JO h]
theorem wH{l:List C}{f:C->ByteArray}{x:C}(a:l[i]?=some x):(dj++(l.take i).map f)++[f x]=dj++(l.take (i+1)).map f:=by rw[MB a];simp
structure DF(u:AY)(dU:Nat->Nat)(w:Nat->List ByteArray)(A:A6)(t:V):Prop where
 ET:A 1=AA 0
 GJ:A 8= .bool true
 Cr:t.W 0=some ⟨A4 u,true⟩
 cR: ∀k,3<=k->k<=7->A k= .slice (some ⟨dU k,0,none⟩) (w k).length 1
 g: ∀k,3<=k->k<=7->t.W (dU k)=some ⟨DS (w k),true⟩
 inj: ∀i j,3<=i->i<=7->3<=j->j<=7->dU i=dU j->i=j
 Wf: ∀k,3<=k->k<=7->dU k≠0
theorem DF.Km(h:DF u dU w A t)(b:N 8=A 8)(a: ∀k∈KR,N k=A k):DF u dU w N t:=
 ⟨(a 1 (by decide)).trans h.ET,b.trans h.GJ,h.Cr,λk c d=>by have:k=3\/k=4\/k=5\/k=6\/k=7:=(by omega);have e:k∈KR:=(by rcases this with rfl|rfl|rfl|rfl|rfl<;>decide);exact(a k e).trans (h.cR k c d),h.g,h.inj,h.Wf⟩
theorem DF.step(h:DF u dU w B t0)(d:Nat)(m:3<=d)(p:d<=7){o:Nat}(z:PS.length=n)
 (x: ∀k∈KR,k≠d->A k=B k) (C:A 8= .bool true) (D:A d= .slice (some ⟨o,0,none⟩) ((w d).length+n) 1) (E:t.W o=some ⟨DS (w d++PS),true⟩) (r:o=dU d\/t0.next<=o) (I:t0.next<=t.next) (y: ∀b,b<t0.next->b≠dU d->t.W b=t0.W b):
 DF u (DC dU d o) (DC w d (w d++PS)) A t:=by
 have s: ∀k,3<=k->k<=7->dU k<t0.next:= λk a b=>F (h.g k a b)
 have G:=F h.Cr;refine⟨(x 1 (by decide) (by omega)).trans h.ET,C,?_,λk a b=> ?_,λk a b=> ?_,λi j a b c e f=> ?_,λk a b=> ?_⟩
 ·rw[y 0 G (Ne.symm (h.Wf d m p))];exact h.Cr
 ·by_cases e:k=d
  ·subst e;rw[Nh,Nh,D,Ds,z]
  ·rw[JO e,JO e];have:k=3\/k=4\/k=5\/k=6\/k=7:=(by omega);have H:k∈KR:=(by rcases this with rfl|rfl|rfl|rfl|rfl<;>decide);exact(x k H e).trans (h.cR k a b)
 ·by_cases e:k=d
  ·subst e;rw[Nh,Nh];exact E
  ·rw[JO e,JO e,y _ (s k a b) (λf=>e (h.inj k d a b m p f))];exact h.g k a b
 ·by_cases v:i=d
  ·by_cases q:j=d
   ·omega
   ·rw[v,Nh,JO q]at f;rcases r with l|l
    ·rw[l]at f;have:=h.inj d j m p c e f;omega
    ·have:=s j c e;omega
  ·by_cases q:j=d
   ·rw[q,Nh,JO v]at f;rcases r with l|l
    ·rw[l]at f;have:=h.inj i d a b m p f;omega
    ·have:=s i a b;omega
   ·rw[JO v,JO q]at f;exact h.inj i j a b c e f
 ·by_cases e:k=d
  ·subst e;rw[Nh];rcases r with l|l
   ·rw[l];exact h.Wf k a b
   ·omega
  ·rw[JO e];exact h.Wf k a b
theorem TD{l:List C}{BP:C->ByteArray}{a b c E:Nat}(s:3<=d)(x:d<=7)(A7:l.length<=1000)(J:DF u dU w B t0)(A8:(w d).length<=10000)
 (m:B a=v) (p:B b=Y l.length) (q:B c=Y 0)
 (body: ∀(i:Nat) (z:i<l.length) (A:A6) (t:V) (o n:Nat) (r:List Value),l[i]?=some l[i]->(i:Int)<l.length->IntKind.i64.wrap ((i:Int)+1)=(i:Int)+1->A 1=AA 0->A 8= .bool true->A d= .slice (some ⟨o,0,none⟩) n 1->t.W 0=some ⟨A4 u,true⟩->t.W o=some ⟨r,true⟩->0<t.next->o<t.next->o≠0->r.length=n->r.take n=r->(n+1)*16<=140737488355328/\n<=9223372036854775806->A a=v->A b=Y l.length->A c=Y i-> ∀y:A6->V->Prop,
  (∀N h o',(∀k∈KR,k≠d->N k=A k)->N 8= .bool true->N d= .slice (some ⟨o',0,none⟩) (n+1) 1->h.W o'=some ⟨r++[CU (BP l[i])],true⟩->t.next<=o'->t.next<=h.next->(∀b,b<t.next->b≠o->h.W b=t.W b)->N a=v->N b=Y l.length->N c=Y ((i:Int)+1)->y N h)->ED an K A t (Li y Q))
 (done: ∀(A:A6) (t:V),A a=v->A b=Y l.length->A c=Y l.length->(∀N,(∀k∈KR,N k=A k)->N 8=A 8->Q (.Ai E) N t)->ED an K A t (Li (λ_ _=>False) Q))
 (L: ∀A t j,DF u j (DC w d (w d++l.map BP)) A t->Q (.Ai E) A t):BY U (.loop K) B t0 Q:=by
 refine CE (an:=an) (λi A t=> ∃j,DF u j (DC w d (w d++(l.take i).map BP)) A t/\A a=v/\A b=Y l.length/\A c=Y i) l.length ?_ ?_ 0 B t0 (C0 _) ⟨dU,?_,m,p,q⟩
 ·rintro i A t z ⟨j,f,m,p,q⟩ y M;have G:l[i]?=some l[i]:=AS z;have D:=f.g d s x;have H:=f.cR d s x;have I:= λ(o':Nat) (N:A6) (h:V)=>DF.step f d s x (o:=o') (A:=N) (t:=h) (PS:=[BP l[i]]) (n:=1) rfl;rw[Nh]at D H I;have A9:(w d++(l.take i).map BP).length<20000:=(by rw[Ds,Eb,GC];omega);refine body i z A t (j d) _ _ G (by omega) (Ah (by omega) (by omega)) f.ET f.GJ H f.Cr D (F f.Cr) (F D) (f.Wf d s x) wj (DV (by rw[wj];omega)) ⟨by omega,by omega⟩ m p q y λN h o' O P R S T X Z A0 A1 A2=> ?_;have:=I o' N h O P (by rw[R]) (by rw[tf];exact S) (.inr T) X Z;rw[wq,wH G]at this;exact M _ _ ⟨_,this,A0,A1,A2⟩
 ·rintro A t ⟨j,f,m,p,q⟩;rw[EP]at f;exact done A t m p q λN A3 A5=>L _ _ j (f.Km A5 A3)
 ·have:DC w d (w d++(l.take 0).map BP)=w:=by
   funext k;by_cases e:k=d
   ·subst e;simp
   ·rw[JO e]
  rw[this];exact J
theorem aAM(h:AY.CV u)(g:u.Bz.all F1.Md=true)(j:DF u dU w B t0)(k:(w 3).length<=10000)(c:B 67=M (u.Bz.map Cc) 4)(a:B 68=Y u.Bz.length)(e:B 69=Y 0)
 (l: ∀A t m,DF u m (DC w 3 (w 3++u.Bz.map (·.name))) A t->Q (.Ai 0) A t):BY U (.loop Z6) B t0 Q:=by
 refine TD (an:=⟨[kF],[]⟩) (by decide) (by decide) h.mT j k c a e ?_ ?_ l
 ·intro i f A t o n L N p q O r s P v R S T x y z c a e V C;have W:=h.Bz _ (Dc f);have D:=BF.1 g _ (Dc f);simp(disch:=first|omega|simp only[DI.A2];omega)[Z6,qa,Cc,r,s,c,a,e,v,p,q,x,y,z,D,-H,-E,-I,-G,-List.map_map];refine C _ _ (t.next+4+4) (Kq (d:=3) ?_ ?_ ?_ ?_ ?_ ?_) ?_ ?_ ?_ (by omega) ?_ (λb hb F=> ?_) ?_ ?_ ?_
  all_goals first
   |(intro J;first|(exact absurd rfl J)|(simp;done))
   |(simp(disch:=first|omega|simp only[DI.A2];omega)[c,a,-H,-E,-I,-G,-List.map_map];done)
   |(simp(disch:=first|omega|simp only[DI.A2];omega)[hb,F,-H,-E,-I,-G,-List.map_map];done)
   |(simp(disch:=first|omega|simp only[DI.A2];omega)[-H,-E,-I,-G,-List.map_map];omega)
 ·intro A t c a e K;simp(disch:=first|omega|simp only[DI.A2];omega)[Z6,a,e,-H,-E,-I,-G,-List.map_map];exact K _ (G4 (by simp) (by simp) (by simp) (by simp) (by simp) (by simp)) (by simp)
theorem aA4(h:AY.CV u)(g:u.Aa.all (OT u.Bz.length)=true)(j:DF u dU w B t0)(k:(w 4).length<=10000)(c:B 85=M (u.Aa.map Ce) 4)(a:B 86=Y u.Aa.length)(e:B 87=Y 0)
 (l: ∀A t m,DF u m (DC w 4 (w 4++u.Aa.map (·.name))) A t->Q (.Ai 2) A t):BY U (.loop b2) B t0 Q:=by
 refine TD (an:=⟨[Kh],[]⟩) (by decide) (by decide) h.BP j k c a e ?_ ?_ l
 ·intro i p A t o n T V q r s v x y z W X Z C D F c a e A0 J;have K:IntKind.i64.wrap ((u.Bz.length:Int)-1)=(u.Bz.length:Int)-1:=Ah (by omega) (by have:=h.mT;omega);have f:=BF.1 g _ (Dc p);simp only[OT,AB]at f;obtain⟨L,N,O⟩:=f;simp(disch:=first|omega|simp only[DI.A2];omega)[b2,uy,A4,Ce,s,v,x,c,a,e,y,z,q,r,C,D,F,K,L,N,O,-H,-E,-I,-G,-List.map_map];refine J _ _ (t.next+4+4) (Kq (d:=4) ?_ ?_ ?_ ?_ ?_ ?_) ?_ ?_ ?_ (by omega) ?_ (λb hb P=> ?_) ?_ ?_ ?_
  all_goals first
   |(intro R;first|(exact absurd rfl R)|(simp;done))
   |(simp(disch:=first|omega|simp only[DI.A2];omega)[c,a,-H,-E,-I,-G,-List.map_map];done)
   |(simp(disch:=first|omega|simp only[DI.A2];omega)[hb,P,-H,-E,-I,-G,-List.map_map];done)
   |(simp(disch:=first|omega|simp only[DI.A2];omega)[-H,-E,-I,-G,-List.map_map];omega)
 ·intro A t c a e S;simp(disch:=first|omega|simp only[DI.A2];omega)[b2,a,e,-H,-E,-I,-G,-List.map_map];exact S _ (G4 (by simp) (by simp) (by simp) (by simp) (by simp) (by simp)) (by simp)
theorem aFg(h:AY.CV u)(f:ds.length<=1000)(g:DF u dU w B t0)(j:(w 5).length<=10000)(c:B 119=M (ds.map Bd) 7)(a:B 120=Y ds.length)(e:B 121=Y 0)
 (k: ∀A t l,DF u l (DC w 5 (w 5++ds.map (·.name))) A t->Q (.Ai 4) A t):BY U (.loop dx) B t0 Q:=by
 refine TD (an:=⟨[],[]⟩) (by decide) (by decide) f g j c a e ?_ ?_ k
 ·intro i J A t o n K L m p N q r O s P R S v x y c a e T z;simp(disch:=first|omega|simp only[DI.A2];omega)[dx,vh,Bd,r,c,a,e,s,m,p,v,x,y,-H,-E,-I,-G,-List.map_map];refine z _ _ (t.next+4+4) (Kq (d:=5) ?_ ?_ ?_ ?_ ?_ ?_) ?_ ?_ ?_ (by omega) ?_ (λb hb C=> ?_) ?_ ?_ ?_
  all_goals first
   |(intro D;first|(exact absurd rfl D)|(simp;done))
   |(simp(disch:=first|omega|simp only[DI.A2];omega)[q,c,a,-H,-E,-I,-G,-List.map_map];done)
   |(simp(disch:=first|omega|simp only[DI.A2];omega)[hb,C,-H,-E,-I,-G,-List.map_map];done)
   |(simp(disch:=first|omega|simp only[DI.A2];omega)[-H,-E,-I,-G,-List.map_map];omega)
 ·intro A t c a e F;simp(disch:=first|omega|simp only[DI.A2];omega)[dx,a,e,-H,-E,-I,-G,-List.map_map];exact F _ (G4 (by simp) (by simp) (by simp) (by simp) (by simp) (by simp)) (by simp)
theorem aF4(h:AY.CV u)(m:u.A1.all (Od u.Aa.length u.A5)=true)(p:DF u dU w B t0)(q:(w 5).length<=10000)(c:B 132=M (u.A1.map CB) 3)(a:B 133=Y u.A1.length)(e:B 134=Y 0)
 (r: ∀A t s,DF u s (DC w 5 (w 5++u.A1.map (·.name))) A t->Q (.Ai 6) A t):BY U (.loop Y3) B t0 Q:=by
 refine TD (an:=⟨[Kh],[]⟩) (by decide) (by decide) h.Ek p q c a e ?_ ?_ r
 ·intro i v A t o n A6 A7 x y z C D F J A8 A9 AD K L N c a e AE O;have P:IntKind.i64.wrap ((u.Aa.length:Int)-1)=(u.Aa.length:Int)-1:=Ah (by omega) (by have:=h.BP;omega);have R:IntKind.i64.wrap ((u.A5.length:Int)-1)=(u.A5.length:Int)-1:=Ah (by omega) (by have:=h.DD;omega);have f:=BF.1 m _ (Dc v);simp only[Od,AB]at f;obtain⟨S,j,k⟩:=f;obtain⟨g,l⟩:=DP (K3.1 j).1;rw[l]at j k;have T:g<u.A5.length:=(by have:=K3.1 j;omega);have V:(g:Int)<u.A5.length:=(by omega);have W:u.A5[g]?=some u.A5[g]:=AS T;have X:u.A5[g].EH=4:=(by unfold WW at k;rw[EE,W]at k;simpa using k);simp(disch:=first|omega|simp only[DI.A2];omega)[Y3,tV,A4,CB,z,C,D,c,a,e,F,J,x,y,K,L,N,P,R,Bd,S,j,l,V,X,-H,-E,-I,-G,-List.map_map];refine O _ _ (t.next+4+4) (Kq (d:=5) ?_ ?_ ?_ ?_ ?_ ?_) ?_ ?_ ?_ (by omega) ?_ (λb hb Z=> ?_) ?_ ?_ ?_
  all_goals first
   |(intro A0;first|(exact absurd rfl A0)|(simp;done))
   |(simp(disch:=first|omega|simp only[DI.A2];omega)[c,a,-H,-E,-I,-G,-List.map_map];done)
   |(simp(disch:=first|omega|simp only[DI.A2];omega)[hb,Z,-H,-E,-I,-G,-List.map_map];done)
   |(simp(disch:=first|omega|simp only[DI.A2];omega)[-H,-E,-I,-G,-List.map_map];omega)
 ·intro A t c a e A3;simp(disch:=first|omega|simp only[DI.A2];omega)[Y3,a,e,-H,-E,-I,-G,-List.map_map];exact A3 _ (G4 (by simp) (by simp) (by simp) (by simp) (by simp) (by simp)) (by simp)
theorem a4L(h:AY.CV u)(g:u.Ay.all (JW · u.Aa.length)=true)(j:DF u dU w B t0)(k:(w 6).length<=10000)(c:B 174=M (u.Ay.map B3) 17)(a:B 175=Y u.Ay.length)(e:B 176=Y 0)
 (l: ∀A t m,DF u m (DC w 6 (w 6++u.Ay.map (·.name))) A t->Q (.Ai 8) A t):BY U (.loop fL) B t0 Q:=by
 refine TD (an:=⟨[hO u.Aa.length (by have:=h.BP;omega)],[]⟩) (by decide) (by decide) h.hH j k c a e ?_ ?_ l
 ·intro i f A t o n N O p q r s v x y P R S z C D c a e T F;have V:Dw.CV u.Ay[i]/\JW u.Ay[i] u.Aa.length=true:=⟨h.Ay _ (Dc f),BF.1 g _ (Dc f)⟩;simp(disch:=first|omega|simp only[DI.A2];omega)[fL,xV,A4,B3,r,s,v,c,a,e,x,y,p,q,z,C,D,-H,-E,-I,-G,-List.map_map];refine F _ _ (t.next+4+4) (Kq (d:=6) ?_ ?_ ?_ ?_ ?_ ?_) ?_ ?_ ?_ (by omega) ?_ (λb hb J=> ?_) ?_ ?_ ?_
  all_goals first
   |(intro K;first|(exact absurd rfl K)|(simp;done))
   |(simp(disch:=first|omega|simp only[DI.A2];omega)[c,a,-H,-E,-I,-G,-List.map_map];done)
   |(simp(disch:=first|omega|simp only[DI.A2];omega)[hb,J,-H,-E,-I,-G,-List.map_map];done)
   |(simp(disch:=first|omega|simp only[DI.A2];omega)[-H,-E,-I,-G,-List.map_map];omega)
 ·intro A t c a e L;simp(disch:=first|omega|simp only[DI.A2];omega)[fL,a,e,-H,-E,-I,-G,-List.map_map];exact L _ (G4 (by simp) (by simp) (by simp) (by simp) (by simp) (by simp)) (by simp)
theorem a3V(h:AY.CV u)(g:u.A7.all (Pz u.Ay.length)=true)(j:DF u dU w B t0)(k:(w 7).length<=10000)(c:B 195=M (u.A7.map Cd) 2)(a:B 196=Y u.A7.length)(e:B 197=Y 0)
 (l: ∀A t m,DF u m (DC w 7 (w 7++u.A7.map (·.name))) A t->Q (.Ai 10) A t):BY U (.loop Y8) B t0 Q:=by
 refine TD (an:=⟨[Kh],[]⟩) (by decide) (by decide) h.F4 j k c a e ?_ ?_ l
 ·intro i p A t o n P R q r s v x y z S T V C D F c a e W J;have K:IntKind.i64.wrap ((u.Ay.length:Int)-1)=(u.Ay.length:Int)-1:=Ah (by omega) (by have:=h.hH;omega);have f:=BF.1 g _ (Dc p);simp only[Pz]at f;simp(disch:=first|omega|simp only[DI.A2];omega)[Y8,yW,A4,Cd,s,v,x,c,a,e,y,z,q,r,C,D,F,K,f,-H,-E,-I,-G,-List.map_map];refine J _ _ (t.next+4+4) (Kq (d:=7) ?_ ?_ ?_ ?_ ?_ ?_) ?_ ?_ ?_ (by omega) ?_ (λb hb L=> ?_) ?_ ?_ ?_
  all_goals first
   |(intro N;first|(exact absurd rfl N)|(simp;done))
   |(simp(disch:=first|omega|simp only[DI.A2];omega)[c,a,-H,-E,-I,-G,-List.map_map];done)
   |(simp(disch:=first|omega|simp only[DI.A2];omega)[hb,L,-H,-E,-I,-G,-List.map_map];done)
   |(simp(disch:=first|omega|simp only[DI.A2];omega)[-H,-E,-I,-G,-List.map_map];omega)
 ·intro A t c a e O;simp(disch:=first|omega|simp only[DI.A2];omega)[Y8,a,e,-H,-E,-I,-G,-List.map_map];exact O _ (G4 (by simp) (by simp) (by simp) (by simp) (by simp) (by simp)) (by simp)
theorem yL(E:A 1=AA 0)(G:A 8= .bool true)(H:A 3= .slice none 0 0)(I:A 4= .slice none 0 0)(J:A 5= .slice none 0 0)(K:A 6= .slice none 0 0)(L:A 7= .slice none 0 0)
 (o:t.W 0=some ⟨A4 u,true⟩) (h: ∀N p dU,DF u dU (λ_=>[]) N p->(∀k,8<k->N k=A k)->BY U c N p Q):BY U c A t Q:=by
 have T:=F o;obtain⟨f,q⟩: ∃f,t.next=f:=⟨_,rfl⟩
 refine VU 3 1 H λM V r O=> ?_;refine VU 4 1 (by simpa using I) λP X s v=> ?_;refine VU 5 1 (by simpa using J) λR Y w n=> ?_;refine VU 6 1 (by simpa using K) λS Z x l=> ?_;refine VU 7 1 (by simpa using L) λm A0 y g=> ?_;have z:M.next=f+1:=by omega
 have B:P.next=f+2:=by omega
 have C:R.next=f+3:=by omega
 have D:S.next=f+4:=by omega
 rw[q]at r;rw[z]at s;rw[B]at w;rw[C]at x;rw[D]at y;rw[q,z,B,C,D];refine h _ _ (λk=>f+(k-3)) ⟨by simpa using E,by simpa using G,?_,λk a b=> ?_,λk a b=> ?_,λi j a b c d e=>by omega,λk a b=>by omega⟩ (λk A1=>by simp only[FT,show¬k=3 by omega,show¬k=4 by omega,show¬k=5 by omega,show¬k=6 by omega,show¬k=7 by omega,if_false])
 ·rw[g 0 (by omega),l 0 (by omega),n 0 (by omega),v 0 (by omega),O 0 (by omega)];exact o
 ·have:k=3\/k=4\/k=5\/k=6\/k=7:=(by omega);rcases this with rfl|rfl|rfl|rfl|rfl<;>simp
 ·have:k=3\/k=4\/k=5\/k=6\/k=7:=(by omega);rcases this with rfl|rfl|rfl|rfl|rfl
  ·show m.W f=_;rw[g f (by omega),l f (by omega),n f (by omega),v f (by omega)];exact r
  ·show m.W (f+1)=_;rw[g _ (by omega),l _ (by omega),n _ (by omega)];exact s
  ·show m.W (f+2)=_;rw[g _ (by omega),l _ (by omega)];exact w
  ·show m.W (f+3)=_;rw[g _ (by omega)];exact x
  ·exact y
noncomputable def HO(u:AY):Bool:=C6 u.ext 1 4&&(decide (u.Bz.length<=4)&&(decide (u.Aa.length<=4)&&(decide (u.A5.length<=40)&&(decide (u.A1.length<=24)&&(decide (u.Ay.length<=4)&&(decide (u.A7.length<=12)&&(KU u.A5&&(u.Bz.all F1.Md&&(u.Aa.all (OT u.Bz.length)&&(u.A1.all (Od u.Aa.length u.A5)&&(u.Ay.all (JW · u.Aa.length)&&(u.A7.all (Pz u.Ay.length)&&(EO (u.Bz.map (·.name))&&(EO (u.Aa.map (·.name))&&(EO (u.A5.tail.map (·.name)++u.A1.map (·.name))&&(EO (u.Ay.map (·.name))&&EO (u.A7.map (·.name))))))))))))))))))
theorem DF.Gd(a:DF u dU w A t)(d:Nat)(b:3<=d)(f:d<=7)(e:w d=L)(h:L.length<1000000)(i:EO L=true):
 ∃o c,∃l:List ByteArray,A d= .slice (some ⟨o,0,none⟩) l.length 1/\t.W o=some ⟨c,true⟩/\(l.length<1000000/\EO l=true)/\(∀t,C8 (C8 (DI.Az 8 t)) (FE 1 l.length c)=some (l.map λs=>[CU s]))/\(∀t,c.flatMap (As 8 t)=[])/\c.length=l.length:=
 ⟨dU d,_,L,e▸a.cR d b f,e▸a.g d b f,⟨h,i⟩,yz rfl⟩
theorem xU{u:AY}(h:AY.CV u)(e:HO u=true):AL U 62 [.agg (A4 u).toArray] (Y 0):=by
 simp only[HO,AB,Ba]at e;obtain⟨i,AJ,AK,f,AM,AN,AO,c,j,k,a3,a4,l,m,n,g,o,p⟩:=e;refine BG (Ak (an:=⟨[Kh,ln u h c,m1],[]⟩) aDz (by kernel_rfl) (by simp[iC]) ?_);have q: ¬(4:Int)<u.Bz.length:=by omega
 have r: ¬(4:Int)<u.Aa.length:=by omega
 have s: ¬(40:Int)<u.A5.length:=by omega
 have v: ¬(24:Int)<u.A1.length:=by omega
 have w: ¬(4:Int)<u.Ay.length:=by omega
 have x: ¬(12:Int)<u.A7.length:=by omega
 obtain⟨R,ds,b⟩: ∃R ds,u.A5=R::ds:=by
  cases y:u.A5 with
  |nil=>rw[y]at c;cases c
  |cons R ds=>exact⟨R,ds,rfl⟩
 have AP:ds.length<=39:=by rw[b]at f;simp at f;omega
 have z:u.A5.tail=ds:=by rw[b];rfl
 rw[z]at g;simp(disch:=first|omega|simp only[DI.A2];omega)[iC,r8,zH,A4,i,q,r,s,v,w,x,-H,-E,-I,-G,-List.map_map];refine yL (u:=u) (by simp) (by simp) (by simp) (by simp) (by simp) (by simp) (by simp) (by simp(disch:=first|omega|simp only[DI.A2];omega)[A4,-H,-E,-I,-G,-List.map_map]) λA t dU a d=> ?_;refine aAM h j a (by simp) (by rw[d 67 (by decide)];simp) (by rw[d 68 (by decide)];simp) (by rw[d 69 (by decide)];simp) λA t dU a=> ?_;simp(disch:=first|omega|simp only[DI.A2];omega)[qR,A4,a.ET,a.Cr,-H,-E,-I,-G,-List.map_map];refine aA4 h k (a.Km (by simp) (G4 (by simp) (by simp) (by simp) (by simp) (by simp) (by simp))) (by simp[DC]<;>omega) (by simp) (by simp) (by simp) λA t dU a=> ?_;have B:(List.take u.A5.length (u.A5.map Bd)).tail=ds.map Bd:=by rw[DV (by simp),b];rfl
 have C:u.A5.length-1=ds.length:=by rw[b];rfl
 have AQ:1<=u.A5.length:=by rw[b];simp
 have D:(1:Int)<=u.A5.length:=by omega
 simp(disch:=first|omega|simp only[DI.A2];omega)[vV,A4,a.ET,a.Cr,D,-H,-E,-I,-G,-List.map_map];rw[B,C];refine aFg h (ds:=ds) (by omega) (a.Km (by simp) (G4 (by simp) (by simp) (by simp) (by simp) (by simp) (by simp))) (by simp[DC]<;>omega) (by simp) (by simp) (by simp) λA t dU a=> ?_;simp(disch:=first|omega|simp only[DI.A2];omega)[xe,A4,a.ET,a.Cr,-H,-E,-I,-G,-List.map_map];refine aF4 h a3 (a.Km (by simp) (G4 (by simp) (by simp) (by simp) (by simp) (by simp) (by simp))) (by simp[DC]<;>omega) (by simp) (by simp) (by simp) λA t dU a=> ?_;simp(disch:=first|omega|simp only[DI.A2];omega)[x9,A4,a.ET,a.Cr,-H,-E,-I,-G,-List.map_map];refine a4L h a4 (a.Km (by simp) (G4 (by simp) (by simp) (by simp) (by simp) (by simp) (by simp))) (by simp[DC]<;>omega) (by simp) (by simp) (by simp) λA t dU a=> ?_;simp(disch:=first|omega|simp only[DI.A2];omega)[w9,A4,a.ET,a.Cr,-H,-E,-I,-G,-List.map_map];refine a3V h l (a.Km (by simp) (G4 (by simp) (by simp) (by simp) (by simp) (by simp) (by simp))) (by simp[DC]<;>omega) (by simp) (by simp) (by simp) λA t dU a=> ?_;obtain⟨AR,AS,AT,F,J,AU,K,L,M⟩:=a.Gd 3 (by decide) (by decide) (by simp[DC]) (by simp<;>omega) m;obtain⟨AV,AW,AX,N,O,AZ,P,Q,S⟩:=a.Gd 4 (by decide) (by decide) (by simp[DC]) (by simp<;>omega) n;obtain⟨Ab,Ac,Ad,T,V,Ae,W,X,Z⟩:=a.Gd 5 (by decide) (by decide) (by simp[DC]) (by simp<;>omega) g;obtain⟨Af,Ag,Ah,A0,A3,Al,A6,A8,A9⟩:=a.Gd 6 (by decide) (by decide) (by simp[DC]) (by simp<;>omega) o;obtain⟨Am,An,Ao,AD,AE,Ap,AF,AG,AH⟩:=a.Gd 7 (by decide) (by decide) (by simp[DC]) (by simp<;>omega) p;simp(disch:=first|omega|simp only[DI.A2];omega)[zl,a.GJ,F,J,K,L,M,N,O,P,Q,S,T,V,W,X,Z,A0,A3,A6,A8,A9,AD,AE,AF,AG,AH,RF,Na,-H,-E,-I,-G,-List.map_map]
end Go.Proofs.YtmmkkggfmigppaaGreat
