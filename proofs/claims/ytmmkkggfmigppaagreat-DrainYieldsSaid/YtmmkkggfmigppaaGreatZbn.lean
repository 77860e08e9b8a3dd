/-
  A part of the proof, shortened by tools of ours.
-/
import Derived.Test.YtmmkkggfmigppaaGreatZbm
set_option linter.all false
set_option maxRecDepth 8000
set_option maxHeartbeats 16000000
namespace Go.Proofs.YtmmkkggfmigppaaGreat
open Go Go.DI Go.Big
def uM(k m:Int):Bool:=decide (1<=k)&&(decide (k<=6)&&(decide (0<=m)&&(decide (m<=4)&&decide (k+m<=8))))
theorem aut{k m:Int}:bP N 197 [D k,D m] (.bool (uM k m)):=by
 refine dJ (c3 (ay:=⟨[],[]⟩) azN (by kernel_rfl) (by simp[EY]) ?_);by_cases A:1<=k
 ·have jw:k>=1:=A;by_cases E:k<=6
  ·by_cases ao:0<=m
   ·have uT:m>=0:=ao;by_cases aS:m<=4
    ·have bp:IntKind.i64.wrap (k+m)=k+m:=db (by omega) (by omega);simp[EY,HR,A,E,ao,aS,bp,uM]
    ·simp[EY,HR,A,E,ao,aS,uM]
   ·have uT: ¬m>=0:=ao;simp[EY,HR,A,E,ao,uM]
  ·simp[EY,HR,A,E,uM]
 ·have jw: ¬k>=1:=A;simp[EY,HR,A,uM]
noncomputable def T4:bF N:= .cM 197 (Int×Int) (λ⟨k,m⟩=>True) (λ⟨k,m⟩=>[D k,D m]) (λ⟨k,m⟩=> .bool (uM k m)) (λ⟨k,m⟩ h=>aut)
@[simp] theorem aVv:T4.f=197:=rfl
@[simp] theorem aVw{k:Int}{m:Int}:T4.fn ([D k,D m])=some (.bool (uM k m)):=bF.dK (x:=(k,m)) trivial λy Z=>by obtain⟨j6,h2⟩:=y;simpa using Z
theorem aus{k m:Int}:uM k m=(fO k 1 6&&(fO m 0 4&&decide (k+m<=8))):=by simp only[uM,fO,Bool.and_assoc]
def Gd(s:rD):Bool:=fO s.b 0 8&&(fO s.c 0 8&&(fO s.d 0 8&&fO s.e 0 8))
theorem aGw{k m q:Int}{s:rD}:bP N 141 [D k,D m,D q,.agg #[D s.a,D s.b,D s.c,D s.d,D s.e]] (.bool (mI k m q s)):=by
 refine dJ (c3 (ay:=⟨[T4,wL],[]⟩) azh (by kernel_rfl) (by simp[HH]) ?_);have e:mI k m q s=(uM k m&&(fO q k (k+m)&&(decide (s.a=0)&&Gd s))):=by
  rw[aus];by_cases ag:s.a=0
  ·simp[mI,Gd,ag,show fO 0 0 8=true from rfl,Bool.and_assoc]
  ·simp[mI,Gd,ag]
 rw[e];cases A:uM k m
 ·simp[HH,LC,Cx,A]
 ·have bp:IntKind.i64.wrap (k+m)=k+m:=(by simp[uM]at A;exact db (by omega) (by omega));cases E:fO q k (k+m)
  ·simp[HH,LC,Cx,A,E,bp]
  ·by_cases ao:s.a=0
   ·simp[HH,LC,A,E,ao,bp];refine gP (ay:=⟨[T4,wL],[]⟩) (λi z t=>(∀j:Nat,j<i->fO (s.at ((j:Int)+1)) 0 8=true)/\t.F 0=some ⟨[D 0,D s.b,D s.c,D s.d,D s.e],true⟩/\z 7=bC 0/\z 9=D ((i:Int)+1)) 4 ?_ ?_ 0 _ _ (gd _) ⟨by simp,by simp,by simp,by simp⟩
    ·rintro i z t Y ⟨ag,aM,cf,cz⟩ bO a1;have dN:=aF aM;have aS:i=0\/i=1\/i=2\/i=3:=(by omega);cases hb:fO (s.at ((i:Int)+1)) 0 8
     ·have aN:Gd s=false:=by
       rcases aS with rfl|rfl|rfl|rfl<;>simp[rD.at]at hb<;>simp[Gd,hb]
      rcases aS with rfl|rfl|rfl|rfl<;>simp[rD.at]at hb<;>simp[Rf,Cx,cf,cz,aM,hb,aN]
     ·have aj: ∀j:Nat,j<i+1->fO (s.at ((j:Int)+1)) 0 8=true:= λj aV=>by
       by_cases e:j=i
       ·subst e;exact hb
       ·exact ag j (by omega)
      rcases aS with rfl|rfl|rfl|rfl<;>simp[rD.at]at hb<;>simp[Rf,Cx,cf,cz,aM,hb]<;>exact a1 _ _ ⟨aj,aM,by simp[cf],by simp;rfl⟩
    ·rintro z t ⟨ag,aM,cf,cz⟩;have aN:Gd s=true:=by
      have qs:=ag 0 (by decide);have dC:=ag 1 (by decide);have fK:=ag 2 (by decide);have iz:=ag 3 (by decide);simp[rD.at]at qs dC fK iz;simp[Gd,qs,dC,fK,iz]
     simp[Rf,Cx,Cx,cz,aN]
   ·simp[HH,LC,Cx,A,E,ao,bp]
noncomputable def Uh(n:Nat)(aj:n<1000000):bF N:= .cM 190 (List cv) (λl=> ∀x∈l,x.dz) (λl=>[iU l,D n]) (λl=> .bool (decide (l.length=n)&&l.all λx=>x.b0.small)) λ_ h=>acV h aj
@[simp] theorem aWU{n:Nat}{aj:n<1000000}:(Uh n aj).f=190:=rfl
@[simp] theorem aWV{n:Nat}{aj:n<1000000}{l:List cv}(h: ∀x∈l,x.dz):(Uh n aj).fn [ai (l.map eL) 3,D n]=some (.bool (decide (l.length=n)&&l.all λx=>x.b0.small)):=bF.dK (x:=l) h λy Z=>by simpa using Z
theorem aGe{m:Int}(bX:0<=m)(aS:m<=4){l:List cv}(O:(∀x∈l,x.dz)/\l.length<1000000):bP N 198 [iU l,D m] (.bool (decide ((l.length:Int)=if 1>m then 1 else m)&&l.all rj)):=by
 obtain⟨n,aj⟩: ∃n:Nat,(if 1>m then(1:Int)else m)=n:=⟨(if 1>m then(1:Int)else m).toNat,by split<;>omega⟩;have Cm:(if m<1 then(1:Int)else m)=n:=aj;have uZ:n<1000000:=by split at aj<;>omega
 rw[aj];have ho:decide ((l.length:Int)=(n:Int))=decide (l.length=n):=by congr 1;apply propext;omega
 rw[ho];refine dJ (c3 (ay:=⟨[Uh n uZ,F3],[]⟩) azO (by kernel_rfl) (by simp[Rx]) ?_);obtain⟨nP,q1⟩:=O;cases A:(decide (l.length=n)&&l.all λx=>x.b0.small)
 ·have e:(decide (l.length=n)&&l.all rj)=false:=by
   by_cases aA:l.length=n
   ·simp only[aA,decide_true,DF,List.all_eq_false]at A⊢;obtain⟨x,B,h⟩:=A;exact⟨x,B,by simp only[rj,a7,not_and];intro cw;exact absurd cw h⟩
   ·simp[aA]
  rw[e];simp(disch:=omega) [Rx,YO,HS,Cm,A]
 ·simp(disch:=first|omega|simp only[bS];omega) [Rx,YO,Cm,A];simp only[a7,eF]at A;obtain⟨aA,A⟩:=A;have xi:decide (l.length=n)=true:=(by simp[aA]);rw[xi,DF];refine gP (ay:=⟨[Uh n uZ,F3],[]⟩) (λi z t=>(l.take i).all rj=true/\z 0=iU l/\z 5=D i) l.length ?_ ?_ 0 _ _ (gd _) ⟨by simp,by simp,by simp⟩
  ·rintro i z t Y ⟨ag,bG,bD⟩ bO a1;have B:l[i]?=some l[i]:=c6 Y;have al:l[i]∈l:=kp Y;have bp:=fB (n:=i) (by omega);have bA:(i:Int)<l.length:=(by omega);have ga:=ei.1 A _ al;have XM:l[i].dz/\l[i].b0.ok=true:=⟨nP _ al,aqQ ga⟩;have bE:=aEU (cv.iy XM.1);by_cases ae:0<l[i].b0.n
   ·have xF: ¬r1 l[i].b0 .nil=0:=(by rw[bE];exact λh=>h ae);simp(disch:=first|omega|simp only[bS];omega) [Ry,HS,bG,bD,bA,bp,eL,xF];exact a1 _ _ ⟨by rw[Gh B,Gt,ag];simp[rj,ga,ae],by simp[bG],by simp⟩
   ·have xF:r1 l[i].b0 .nil=0:=(by rw[bE];exact ae);simp(disch:=omega) [Ry,HS,bG,bD,bA,eL,xF];exact⟨_,al,by simp[rj,ae]⟩
  ·rintro z t ⟨ag,bG,bD⟩;rw[mQ]at ag;simp[Ry,HS,bG,bD,HS];simpa using ag
noncomputable def adi(o:cv)(h:bP N 193 [D 1] (dW o)):bF N:= .cM 193 Unit (λ_=>True) (λ_=>[D 1]) (λ_=>dW o) λ_ _=>h
@[simp] theorem aVS{o:cv}{h:bP N 193 [D 1] (dW o)}:(adi o h).f=193:=rfl
@[simp] theorem aVT{o:cv}{h:bP N 193 [D 1] (dW o)}:(adi o h).fn [D 1]=some (dW o):=bF.dK (x:=()) trivial λ_ _=>rfl
noncomputable def adk(o:cv)(h: ∀x:cv,(x.dz/\x.b0.ok=true)->bP N 199 [dW o,dW x] (.bool (!qp x.b0))):bF N:= .cM 199 cv (λx=>x.dz/\x.b0.ok=true) (λx=>[dW o,dW x]) (λx=> .bool (!qp x.b0)) h
@[simp] theorem aVW{o:cv}{h: ∀x:cv,(x.dz/\x.b0.ok=true)->bP N 199 [dW o,dW x] (.bool (!qp x.b0))}:(adk o h).f=199:=rfl
@[simp] theorem aVX{o:cv}{h: ∀x:cv,(x.dz/\x.b0.ok=true)->bP N 199 [dW o,dW x] (.bool (!qp x.b0))}{n:Bool}{a b:List Int}(B:(cv.mk n a b).dz/\(cv.mk n a b).b0.ok=true):(adk o h).fn [.agg #[.bool o.kx,b6 o.a,b6 o.b],.agg #[.bool n,b6 a,b6 b]]=some (.bool (!qp (cv.mk n a b).b0)):=
  bF.dK (x:=cv.mk n a b) B λy Z=>by obtain⟨g0,ev,cB⟩:=y;simpa[eL]using Z
theorem aDk(x:cv)(B:x.dz/\x.b0.ok=true):bP N 199 [dW ⟨false,[1],[1]⟩,dW x] (.bool (!qp x.b0)):=by
 have h:=aGn B.1;have e: ∀y∈NV,decide (r1 .mK y.b0<0)= !qp y.b0:=by decide
 rw[<-e x B.1];exact h
noncomputable def adA(m:Int)(h:0<=m/\m<=4):bF N:= .cM 198 (List cv) (λl=>(∀x∈l,x.dz)/\l.length<1000000) (λl=>[iU l,D m]) (λl=> .bool (decide ((l.length:Int)=if 1>m then 1 else m)&&l.all rj)) λ_ O=>aGe h.1 h.2 O
@[simp] theorem aXd{m:Int}{h:0<=m/\m<=4}:(adA m h).f=198:=rfl
@[simp] theorem aXe{m:Int}{h:0<=m/\m<=4}{l:List cv}(O:(∀x∈l,x.dz)/\l.length<1000000):(adA m h).fn [ai (l.map eL) 3,D m]=some (.bool (decide ((l.length:Int)=if 1>m then 1 else m)&&l.all rj)):=bF.dK (x:=l) O λy Z=>by simpa using Z
theorem au1{o:cv}(aC:bP N 193 [D 1] (dW o))(aA: ∀x:cv,(x.dz/\x.b0.ok=true)->bP N 199 [dW o,dW x] (.bool (!qp x.b0))){m:Int}(al:0<=m/\m<=4){r:List cv}{t h:cv}(ar:(∀x∈r,x.dz)/\r.length<1000000)(a8:t.dz)(bV:h.dz):
 bP N 142 [D m,iU r,dW t,dW h] (.bool (sY m r t h)):=by
 refine dJ (c3 (ay:=⟨[adA m al,Ug,adi o aC,adk o aA],[]⟩) azi (by kernel_rfl) (by simp[HI]) ?_);have e:sY m r t h=((decide ((r.length:Int)=if 1>m then 1 else m)&&r.all rj)&&(t.b0.small&&(qp t.b0&&h.b0.small))):=by unfold sY;rw[Bool.and_assoc]
 rw[e];cases A:(decide ((r.length:Int)=if 1>m then 1 else m)&&r.all rj)
 ·simp(disch:=omega) [HI,LD,eL,A]
 ·cases E:t.b0.small
  ·simp(disch:=first|omega|simp only[bS];omega) [HI,LD,eL,A,E]
  ·have aQS:t.dz/\t.b0.ok=true:=⟨a8,aqQ E⟩;cases ao:qp t.b0
   ·simp(disch:=first|omega|simp only[bS];omega) [HI,LD,eL,A,E,ao]
   ·simp(disch:=first|omega|simp only[bS];omega) [HI,LD,eL,A,E,ao]
theorem au0{m:Int}(al:0<=m/\m<=4){r:List cv}{t h:cv}(ar:(∀x∈r,x.dz)/\r.length<1000000)(a8:t.dz)(bV:h.dz):bP N 142 [D m,iU r,dW t,dW h] (.bool (sY m r t h)):=
 au1 (o:=⟨false,[1],[1]⟩) ue aDk al ar a8 bV
theorem u5{a b c:Int}:fO a b c=true↔b<=a/\a<=c:=by simp[fO]
def il{dP:Type}(f:Nat->dP)(i:Nat)(v:dP):Nat->dP:= λk=>if k=i then v else f k
@[simp] theorem Bk{dP:Type}{f:Nat->dP}{i:Nat}{v:dP}:il f i v i=v:=by simp[il]
theorem uk{dP:Type}{f:Nat->dP}{i k:Nat}{v:dP}(h:k≠i):il f i v k=f k:=by simp[il,h]
def iM(l:List ByteArray):List Value:=(l.map λs=>[gL s]).flatten
theorem abL{l:List ByteArray}: ∀r∈l.map (λs=>[gL s]),r.length=1/\ ∀v∈r,hH v=true:= λr ar=>by obtain⟨x,_,rfl⟩:=gx.1 ar;exact⟨rfl,λv M=>by simp at M;subst M;rfl⟩
theorem aoY{l:List ByteArray}{n:Nat}(aj:l.length=n):(∀t,fR (fR (DI.dx 8 t)) (lH 1 n (iM l))=some (l.map λs=>[gL s]))/\(∀t,(iM l).flatMap (eC 8 t)=[])/\(iM l).length=n:=by
 have bE: ∀r∈l.map (λs=>[gL s]),r.length=1:= λr h=>(abL r h).1;have ao:(iM l).length=n:=by rw[iM,xl bE,ll,aj,Nat.mul_one]
 refine⟨λt=> ?_,λt=>TP λv M=> ?_,ao⟩
 ·have:=Vz bE;rw[ll,aj]at this;rw[iM,this];exact Na λr h=>Na λv M=>Ee ((abL r h).2 v M)
 ·obtain⟨r,ar,AE⟩:=Gz.1 M;exact(abL r ar).2 v AE
theorem aoX{l:List ByteArray}{s:ByteArray}:iM (l++[s])=iM l++[gL s]:=by simp[iM]
noncomputable def adv:bF N:= .cM 137 lo lo.dz (λx=>[Dz x]) (λx=> .bool x.zh) λ_ h=>aHm h
@[simp] theorem aW4:adv.f=137:=rfl
@[simp] theorem aW5{n:ByteArray}{s e:List cv}{cH:List (List cv)}(h:(lo.mk n s cH e).dz):adv.fn [.agg #[gL n,ai (s.map eL) 3,ai (cH.map λr=>[iU r]) 1,ai (e.map eL) 3]]=some (.bool (lo.mk n s cH e).zh):=bF.dK (x:=lo.mk n s cH e) h λy Z=>arJ Z
noncomputable def ads:bF N:= .cM 141 (Int×Int×Int×rD) (λ_=>True) (λp=>[D p.1,D p.2.1,D p.2.2.1,.agg #[D p.2.2.2.a,D p.2.2.2.b,D p.2.2.2.c,D p.2.2.2.d,D p.2.2.2.e]]) (λp=> .bool (mI p.1 p.2.1 p.2.2.1 p.2.2.2)) λ_ _=>aGw
@[simp] theorem aWE:ads.f=141:=rfl
@[simp] theorem aWF{k m q a b c d e:Int}:ads.fn [D k,D m,D q,.agg #[D a,D b,D c,D d,D e]]=some (.bool (mI k m q ⟨a,b,c,d,e⟩)):=bF.dK (x:=(k,m,q,(⟨a,b,c,d,e⟩:rD))) trivial λy Z=>by obtain⟨h2,kP,sh,wX,Oh,Ji,DB,UU⟩:=y;simp at Z;obtain⟨A,E,ao,aS,bI,cZ,eg,hf⟩:=Z;simp[A,E,ao,aS,bI,cZ,eg,hf]
noncomputable def adr:bF N:= .cM 142 (Int×List cv×cv×cv) (λp=>(0<=p.1/\p.1<=4)/\((∀x∈p.2.1,x.dz)/\p.2.1.length<1000000)/\p.2.2.1.dz/\p.2.2.2.dz) (λp=>[D p.1,iU p.2.1,dW p.2.2.1,dW p.2.2.2]) (λp=> .bool (sY p.1 p.2.1 p.2.2.1 p.2.2.2)) λ_ h=>au0 h.1 h.2.1 h.2.2.1 h.2.2.2
@[simp] theorem aWw:adr.f=142:=rfl
@[simp] theorem aWx{m:Int}{r:List cv}{n g0:Bool}{a b ev cB:List Int}(h:(0<=m/\m<=4)/\((∀x∈r,x.dz)/\r.length<1000000)/\(cv.mk n a b).dz/\(cv.mk g0 ev cB).dz):adr.fn [D m,ai (r.map eL) 3,.agg #[.bool n,b6 a,b6 b],.agg #[.bool g0,b6 ev,b6 cB]]=some (.bool (sY m r ⟨n,a,b⟩ ⟨g0,ev,cB⟩)):=bF.dK (x:=(m,r,(⟨n,a,b⟩:cv),(⟨g0,ev,cB⟩:cv))) h λy Z=>by obtain⟨h2,kP,⟨sh,wX,Oh⟩,⟨Ji,DB,UU⟩⟩:=y;simp[eL]at Z;obtain⟨A,E,⟨ao,aS,bI⟩,cZ,eg,hf⟩:=Z;simp[A,E,ao,aS,bI,cZ,eg,hf]
theorem Oe{P:Program}{c:aB}{z:aD}{t:G}{Q:cO->aD->G->Prop}(d I:Nat)(aW:z d= .slice none 0 0)(h: ∀X,X.next=t.next+1->X.F t.next=some ⟨[],true⟩->(∀a,a<t.next->X.F a=t.F a)->ee P c (k3 z d (.slice (some ⟨t.next,0,none⟩) 0 I)) X Q):ee P c z t Q:=
 ur (d:=d) (I:=I) aW (h _ (by simp) (cb (by simp)) λa ag=>by rw[aX (by omega),G.cl])
def tz(l:List ByteArray):List (Value×Value):=l.map λx=>(gL x,.bool true)
theorem aot{s:ByteArray}: ∀{l:List ByteArray},jK (gL s) (tz l)=(ph s l).map λ_=> .bool true
 |[]=>rfl
 | x::l=>by
   simp only[tz,lW,jK,qa,ph];by_cases h:s=x
   ·simp[h]
   ·have:=aot (s:=s) (l:=l);simp only[tz]at this;simp only[h,decide_false,if_false,this,Option.map_map,jO];rfl
theorem aoH{s:ByteArray}: ∀{l:List ByteArray},ph s l=none->lg (gL s) (.bool true) (tz l)=tz (l++[s])
 |[],_=>by simp[tz,lg]
 | x::l,h=>by
   simp only[ph]at h;split at h
   ·cases h
   ·next H=>have:=aoH (s:=s) (l:=l) (by cases bg:ph s l with|none=>rfl|some v=>rw[bg]at h;cases h);simp only[tz]at this;simp only[tz,lW,lg,qa,H,decide_false,jO,if_false,uu,this]
theorem aCU{s:ByteArray}{l:List ByteArray}:nU .str (gL s) (tz l)=true:=by simp only[nU,tz,pY,DF,List.all_map,ei];intro x _;rfl
theorem X0{s:ByteArray}: ∀{l:List ByteArray},s∉l->ph s l=none
 |[],_=>rfl
 | x::l,h=>by simp only[hv,not_or]at h;simp only[ph,if_neg h.1,X0 h.2];rfl
theorem aEF{l:List ByteArray}(h:l.Nodup){i:Nat}(Y:i<l.length):l[i]∉l.take i:= λal=>by
 obtain⟨j,aV,aU⟩:=n4 al;rw[List.getElem_take]at aU;have l8:j<i:=by rw[te]at aV;omega
 exact(zI.1 h j i (by omega) Y l8) aU
theorem aoW{l:List ByteArray}:(iM l).length=l.length:=(aoY (l:=l) rfl).2.2
noncomputable def kD(l:List ByteArray):Bool:=l.all rY&&decide l.Nodup
theorem aoo{s:ByteArray}: ∀{l:List ByteArray},s∈l->ph s l≠none
 |[],h=>by cases h
 | x::l,h=>by
   simp only[ph];split
   ·exact λh=>by cases h
   ·next e=>
    have al:s∈l:=by
     rcases hv.1 h with rfl|h
     ·exact absurd rfl e
     ·exact h
    have:=aoo al;intro bg;cases bE:ph s l with
    |none=>exact this bE
    |some k=>rw[bE]at bg;cases bg
theorem aJf{l:List ByteArray}(aj:l.length<1000000)(ba:kD l=true):bP N 114 [Eb l] (.bool true):=by
 refine dJ (c3 (ay:=⟨[],[]⟩) azb (by kernel_rfl) (by simp[Yj]) ?_);simp only[kD,a7,eF,ei]at ba;simp(disch:=first|omega|simp only[bS];omega) [Yj,ajx,-ab,-ah,-aa,-ad,-List.map_map];refine gP (ay:=⟨[adl],[]⟩) (λi z t=>t.fC 0=some (tz (l.take i))/\z 3= .map (some 0)/\z 7=Eb l/\z 8=D l.length/\z 9=D i) l.length ?_ ?_ 0 _ _ (gd _) ⟨by simp(disch:=first|omega|simp only[bS];omega) [tz,-ab,-ah,-aa,-ad,-List.map_map],by simp,by simp,by simp,by simp⟩
 ·rintro i z t Y ⟨Aj,bH,cf,bm,cz⟩ bO a1;have B:l[i]?=some l[i]:=c6 Y;have bp:=fB (n:=i) (by omega);have bA:(i:Int)<l.length:=(by omega);have O:nU .str (gL l[i]) (tz (l.take i))=true:=aCU;have aDx:=aF (ji Aj).1;have ma:=ba.1 _ (kp Y);have e2:ph l[i] (l.take i)=none:=X0 (aEF ba.2 Y);have bb:jK (gL l[i]) (tz (l.take i))=none:=(by rw[aot,e2];rfl);simp(disch:=first|omega|simp only[bS];omega) [Yk,QO,bH,cf,bm,cz,bA,bp,ma,Aj,bb,O,-jK,-lg,-nU,-ab,-ah,-aa,-ad,-List.map_map];refine a1 _ _ ⟨?_,by simp[bH],by simp[cf],by simp[bm],by simp⟩;rw[Gh B,<-aoH e2];simp(disch:=first|omega|simp only[bS];omega) [-lg,-ab,-ah,-aa,-ad,-List.map_map]
 ·rintro z t ⟨Aj,bH,cf,bm,cz⟩;simp(disch:=first|omega|simp only[bS];omega) [Yk,QO,bm,cz,QO,-ab,-ah,-aa,-ad,-List.map_map]
noncomputable def adD:bF N:= .cM 114 (List ByteArray) (λl=>l.length<1000000/\kD l=true) (λl=>[Eb l]) (λl=> .bool true) λ_ h=>aJf h.1 h.2
@[simp] theorem aXj:adD.f=114:=rfl
@[simp] theorem aXk{l:List ByteArray}(h:l.length<1000000/\kD l=true):adD.fn [ai (l.map λs=>[gL s]) 1]=some (.bool true):=bF.dK (x:=l) h λy Z=>by simpa using Z
def uo(x:h3)(n:Nat):Bool:=mI x.k x.m x.q x.ay&&(!x.cx.isEmpty&&(sY x.m x.py x.qB x.ni&&((x.cx.all λm=>fO m 0 ((n:Int)-1))&&decide x.cx.Nodup)))
structure h3.gl(x:h3):Prop where
 g6:(∀y∈x.py,y.dz)/\x.py.length<1000000
 a0I:x.qB.dz
 a0h:x.ni.dz
 len:x.cx.length<1000000
theorem ao3{l:List Int}(h:l.Nodup){i:Nat}(Y:i<l.length):l[i]∉l.take i:= λal=>by
 obtain⟨j,aV,aU⟩:=n4 al;rw[List.getElem_take]at aU;have l8:j<i:=by rw[te]at aV;omega
 exact(zI.1 h j i (by omega) Y l8) aU
theorem aJD{x:h3}{n:Nat}(aj:n<1000000)(h:h3.gl x)(M:uo x n=true):bP N 113 [.agg (dU x).toArray,D n] (.bool true):=by
 refine dJ (c3 (ay:=⟨[adm,adz],[]⟩) aza (by kernel_rfl) (by simp[Yh]) ?_);obtain⟨aS,bI,cZ,jj⟩:=h;simp only[uo,a7,sj,eF,ei]at M;obtain⟨A,axg,ao,fw,eM⟩:=M;have Qe: ¬x.cx.length=0:= λe=>by rw[<-List.isEmpty_iff_length_eq_zero,axg]at e;cases e
 have oP: ¬(x.cx.length:Int)=0:=by omega
 have wo:((∀y∈x.py,y.dz)/\x.py.length<1000000)/\x.qB.dz/\x.ni.dz:=⟨aS,bI,cZ⟩;have axz:(n:Int)*1<=140737488355328/\n<=140737488355328/\(n:Int)<=140737488355328/\(n:Int)<=9223372036854775807:=by omega
 simp(disch:=first|omega|simp only[bS];omega) [Yh,ajw,dU,A,ao,Qe,axz,-ab,-ah,-aa,-ad,-List.map_map];refine gP (ay:=⟨[vz],[]⟩) (λi z t=> ∃aP:List Bool,aP.length=n/\(∀j:Nat,j<n->aP[j]?=some (decide ((j:Int)∈x.cx.take i)))/\t.F 3=some ⟨aP.map Value.bool,true⟩/\z 1=D n/\z 5= .slice (some ⟨3,0,none⟩) n 1/\z 39=bq x.cx/\z 40=D x.cx.length/\z 41=D i) x.cx.length ?_ ?_ 0 _ _ (gd _) ⟨List.replicate n false,by simp,λj aV=>by simp[aV],by simp(disch:=first|omega|simp only[bS];omega) [-ab,-ah,-aa,-ad,-List.map_map],by simp,by simp,by simp,by simp,by simp⟩
 ·rintro i z t Y ⟨aP,qW,cd,Wk,aT,bD,ac6,TZ,nY⟩ bO a1;have B:x.cx[i]?=some x.cx[i]:=c6 Y;have bp:=fB (n:=i) (by omega);have cr:IntKind.i64.wrap ((n:Int)-1)=(n:Int)-1:=db (by omega) (by omega);have bA:(i:Int)<x.cx.length:=(by omega);have xx:=fw _ (kp Y);have al:=ao3 eM Y;obtain⟨aR,dH⟩:=j0 (u5.1 xx).1;rw[dH]at xx al;have aQr:=u5.1 xx;have uU:aR<n:=(by omega);have yG:(aR:Int)<(n:Int):=(by omega);have Wy:aR+1<=n:=uU;have ayn:x.cx[i]?=some (aR:Int):=(by rw[B,dH]);have aTm:=aF Wk;have awX:aP[aR]?=some false:=(by rw[cd aR uU];simp[al]);have awB:(aP.map Value.bool)[aR]?=some (.bool false):=(by rw[sk,awX];rfl);have awA: ∀j:Nat,j<n->(aP.set aR true)[j]?=some (decide ((j:Int)∈x.cx.take (i+1))):= λj aV=>by
   rw[Bu,Gh ayn];by_cases e:aR=j
   ·subst e;simp[qW,uU]
   ·rw[if_neg e,cd j aV];have: ¬(j:Int)=(aR:Int):=(by omega);simp[this]
  simp(disch:=first|omega|simp only[bS];omega) [Yi,QN,aT,bD,ac6,TZ,nY,bA,bp,cr,e1,dH,yG,Wy,qW,awB,xx,Wk,-ab,-ah,-aa,-ad,-List.map_map];refine a1 _ _ ⟨aP.set aR true,by simp[qW],awA,?_,by simp[aT],by simp[bD],by simp[ac6],by simp[TZ],by simp⟩;simp(disch:=first|omega|simp only[bS];omega) [-ab,-ah,-aa,-ad,-List.map_map]
 ·rintro z t ⟨aP,qW,cd,Wk,aT,bD,ac6,TZ,nY⟩;simp(disch:=first|omega|simp only[bS];omega) [Yi,QN,TZ,nY,QN,-ab,-ah,-aa,-ad,-List.map_map]
noncomputable def adG(n:Nat)(aj:n<1000000):bF N:= .cM 113 h3 (λx=>h3.gl x/\uo x n=true) (λx=>[.agg (dU x).toArray,D n]) (λx=> .bool true) λ_ h=>aJD aj h.1 h.2
@[simp] theorem aXu{n:Nat}{aj:n<1000000}:(adG n aj).f=113:=rfl
@[simp] theorem aXv{n:Nat}{aj:n<1000000}{x:h3}(h:h3.gl x/\uo x n=true):(adG n aj).fn [.agg #[gL x.name,D x.k,D x.m,D x.q,D x.ay.a,D x.ay.b,D x.ay.c,D x.ay.d,D x.ay.e,bq x.cx,iU x.py,.bool x.qB.kx,b6 x.qB.a,b6 x.qB.b,.bool x.ni.kx,b6 x.ni.a,b6 x.ni.b],D n]=some (.bool true):=bF.dK (x:=x) h λy Z=>by obtain⟨h2,kP,sh,wX,⟨Oh,Ji,DB,UU,a0W⟩,ar8,a0R,⟨ar9,UT,a0S⟩,⟨a0T,a0U,a0V⟩⟩:=y;obtain⟨kE,m6,mO,s9,⟨Bp,Og,ar7,aJ7,aJ8⟩,a0J,a0K,⟨a0L,a0M,a0N⟩,⟨a0O,a0P,a0Q⟩⟩:=x;simp[dU]at Z;obtain⟨A,E,ao,aS,bI,cZ,eg,hf,jj,Ek,PQ,KA,Wm,B5,Wn,Wo,Wp⟩:=Z;subst A;subst E;subst ao;subst aS;subst bI;subst cZ;subst eg;subst hf;subst jj;subst Ek;subst PQ;subst KA;subst Wm;subst B5;subst Wn;subst Wo;subst Wp;rfl
def A5(d:hE):Bool:=decide (d.name=⟨#[]⟩)&&(decide (d.jR=0)&&(decide (d.parent= -1)&&(decide (d.iC=0)&&(d.pB.b0.small&& !decide (0<d.pB.b0.n)))))
def MS(ds:List hE)(d:hE):Bool:=match ds[d.parent.toNat]? with
 |some q=>decide (q.jR=d.jR-1)
 |none=>false
def Ac(ds:List hE)(i:Nat)(d:hE):Bool:=fO d.parent 0 i&&(MS ds d&&(fO d.jR 1 4&&(fO d.iC 1 64&&d.pB.b0.small)))
def uQ(ds:List hE):Bool:=match ds with
 |[]=>false
 | r::l=>A5 r&&(List.range l.length).all λi=>match l[i]? with
   |some d=>Ac ds i d
   |none=>true
theorem VL{r:hE}{l:List hE}:uQ (r::l)=(A5 r&&(List.range l.length).all λi=>match l[i]? with
 |some d=>Ac (r::l) i d
 |none=>true):=rfl
structure aL.gl(u:aL):Prop where
 e7: ∀x∈u.e7,x.dz
 aO: ∀x∈u.aO,x.pB.dz
 dv: ∀x∈u.dv,h3.gl x
 FK:u.e7.length<=1000
 eJ:u.cx.length<=1000
 fp:u.aO.length<=1000
 hj:u.aZ.length<=1000
 AT:u.dv.length<=1000
 iH:u.a2.length<=1000
theorem auM{r:hE}{l:List hE}{i:Nat}{d:hE}(B:l[i]?=some d)(h:Ac (r::l) i d=false):uQ (r::l)=false:=by rw[VL];rw[Bool.and_eq_false_iff];refine .inr ?_;rw[List.all_eq_false];exact⟨i,pH.2 (cN.1 B).1,by simp[B,h]⟩
theorem agS{r:hE}{l:List hE}(h:uQ (r::l)=true){i:Nat}{d:hE}(B:l[i]?=some d):Ac (r::l) i d=true:=by
 cases bg:Ac (r::l) i d
 ·rw[auM B bg]at h;cases h
 ·rfl
theorem aJx{u:aL}(h:aL.gl u)(M:uQ u.aO=true):bP N 111 [.agg (aI u).toArray] (.bool true):=by
 refine dJ (c3 (ay:=⟨[IT,T2],[]⟩) ay8 (by kernel_rfl) (by simp[Yc]) ?_);have eM:=h.fp;cases j9:u.aO with
 |nil=>rw[j9]at M;cases M
 |cons R ds=>
 have dc:u.aO.length=ds.length+1:=by rw[j9];rfl
 have oP: ¬(u.aO.length:Int)=0:=by omega
 have Qe:(0:Int)<u.aO.length:=by omega
 have uY: ¬u.aO.length=0:=by omega
 have Qf:0<u.aO.length:=by omega
 have axu:1<=u.aO.length:=by omega
 have W3:(1:Int)<=u.aO.length:=by omega
 have hh:u.aO[0]?=some R:=by rw[j9];rfl
 have bB:R.pB.dz:=h.aO R (by rw[j9];simp);have XQ:=(cN.1 hh).2;have VR:(List.take u.aO.length (u.aO.map e6)).tail=ds.map e6:=by rw[hx (by simp),j9];rfl
 have VS:u.aO.length-1=ds.length:=by omega
 have Hq:A5 R=true:=by rw[j9,VL,a7]at M;exact M.1
 simp only[A5,a7,eF,sj,Gv]at Hq;obtain⟨ck,c9,k9,iq,yv,BL⟩:=Hq;simp(disch:=first|omega|simp only[bS];omega) [Yc,aju,aI,e6,uY,Qf,W3,XQ,ck,c9,k9,iq,yv,BL,-ab,-ah,-aa,-ad,-List.map_map];rw[VR,VS];refine gP (ay:=⟨[vz,IT],[]⟩) (λi z t=>t.F 0=some ⟨aI u,true⟩/\z 1=bC 0/\z 45=ai (ds.map e6) 7/\z 46=D ds.length/\z 47=D i) ds.length ?_ ?_ 0 _ _ (gd _) ⟨by simp(disch:=first|omega|simp only[bS];omega) [aI,-ab,-ah,-aa,-ad,-List.map_map],by simp,by simp,by simp,by simp⟩
 ·rintro i z t Y ⟨aM,aT,x8,T0,ac7⟩ bO a1;have B:ds[i]?=some ds[i]:=c6 Y;have bp:=fB (n:=i) (by omega);have bA:(i:Int)<ds.length:=(by omega);have dN:=aF aM;have rV:ds[i].pB.dz:=h.aO _ (by rw[j9];exact Gx _ (kp Y));have lN:=agS (j9▸M) B;rw[<-j9]at lN;simp only[Ac,a7]at lN;obtain⟨gI,wi,iT,tu,yy⟩:=lN;have agL:=u5.1 gI;have aPi:=u5.1 iT;obtain⟨aR,dH⟩:=j0 agL.1;have Em:aR<u.aO.length:=(by omega);have bg:u.aO[aR]?=some u.aO[aR]:=c6 Em;have uU:(aR:Int)<u.aO.length:=(by omega);rw[dH]at gI;have hz:u.aO[aR].jR=IntKind.i64.wrap (ds[i].jR-1):=by
   unfold MS at wi;rw[dH,nB,bg]at wi;rw[db (by omega) (by omega)];simpa using wi
  simp(disch:=first|omega|simp only[bS];omega) [Yd,QJ,QK,QL,QM,aI,e6,aT,x8,T0,ac7,aM,bA,bp,dH,uU,gI,hz,iT,tu,yy,-ab,-ah,-aa,-ad,-List.map_map];exact a1 _ _ ⟨by simp(disch:=first|omega|simp only[bS];omega) [aM,aI,-ab,-ah,-aa,-ad,-List.map_map],by simp[aT],by simp[x8],by simp[T0],by simp⟩
 ·rintro z t ⟨aM,aT,x8,T0,ac7⟩;simp(disch:=first|omega|simp only[bS];omega) [Yd,QJ,QK,QL,QM,T0,ac7,QM,QJ,QK,QL,-ab,-ah,-aa,-ad,-List.map_map]
noncomputable def adE(u:aL)(h:aL.gl u)(M:uQ u.aO=true):bF N:= .cM 111 Unit (λ_=>True) (λ_=>[.agg (aI u).toArray]) (λ_=> .bool true) λ_ _=>aJx h M
@[simp] theorem aXp{u:aL}{h:aL.gl u}{M:uQ u.aO=true}:(adE u h M).f=111:=rfl
@[simp] theorem aXq{u:aL}{h:aL.gl u}{M:uQ u.aO=true}:(adE u h M).fn [.agg #[D u.ext,ai (u.e7.map gE) 4,ai (u.cx.map gN) 4,ai (u.aO.map e6) 7,ai (u.aZ.map fH) 3,ai (u.dv.map dU) 17,ai (u.a2.map gD) 2]]=some (.bool true):=bF.dK (x:=()) trivial λ_ _=>rfl
def CU(FK:Nat)(x:GB):Bool:=fO x.ext 1 16&&(fO x.apx 1 64&&fO x.aoa 0 ((FK:Int)-1))
def MW(ds:List hE)(m:Int):Bool:=match ds[m.toNat]? with
 |some q=>decide (q.jR=4)
 |none=>false
def BU(eJ:Nat)(ds:List hE)(x:o5):Bool:=fO x.model 0 ((eJ:Int)-1)&&(fO x.y8 0 ((ds.length:Int)-1)&&MW ds x.y8)
def Gp(AT:Nat)(x:tj):Bool:=fO x.qt 0 ((AT:Int)-1)
def vC:List Nat:=[1,3,4,5,6,7]
theorem wO{z K:aD}{d:Nat}(A:1≠d->K 1=z 1)(ao:3≠d->K 3=z 3)(aS:4≠d->K 4=z 4)(bI:5≠d->K 5=z 5)(cZ:6≠d->K 6=z 6)(eg:7≠d->K 7=z 7): ∀k∈vC,k≠d->K k=z k:= λk O aW=>by
 simp only[vC,hv,kQ,or_false]at O;rcases O with rfl|rfl|rfl|rfl|rfl|rfl
 ·exact A aW
 ·exact ao aW
 ·exact aS aW
 ·exact bI aW
 ·exact cZ aW
 ·exact eg aW
theorem nZ{z K:aD}(A:K 1=z 1)(ao:K 3=z 3)(aS:K 4=z 4)(bI:K 5=z 5)(cZ:K 6=z 6)(eg:K 7=z 7): ∀k∈vC,K k=z k:= λk O=>by simp only[vC,hv,kQ,or_false]at O;rcases O with rfl|rfl|rfl|rfl|rfl|rfl<;>assumption
theorem arG{dP:Type}{f:Nat->dP}{d:Nat}{a b:dP}:il (il f d a) d b=il f d b:=by
 funext k;by_cases h:k=d
 ·subst h;simp
 ·rw[uk h,uk h,uk h]
theorem aqS{dP:Type}{l:List dP}{f:dP->ByteArray}{cI:List ByteArray}{i:Nat}{x:dP}(B:l[i]?=some x):(cI++(l.take i).map f)++[f x]=cI++(l.take (i+1)).map f:=by rw[Gh B];simp
structure im(u:aL)(fU:Nat->Nat)(cn:Nat->List ByteArray)(z:aD)(t:G):Prop where
 aT:z 1=bC 0
 bm:z 8= .bool true
 aM:t.F 0=some ⟨aI u,true⟩
 NP: ∀k,3<=k->k<=7->z k= .slice (some ⟨fU k,0,none⟩) (cn k).length 1
 g: ∀k,3<=k->k<=7->t.F (fU k)=some ⟨iM (cn k),true⟩
 inj: ∀i j,3<=i->i<=7->3<=j->j<=7->fU i=fU j->i=j
 zg: ∀k,3<=k->k<=7->fU k≠0
theorem im.uN{u:aL}{fU:Nat->Nat}{cn:Nat->List ByteArray}{z K:aD}{t:G}(h:im u fU cn z t)(hf:K 8=z 8)(H: ∀k∈vC,K k=z k):im u fU cn K t:=
 ⟨(H 1 (by decide)).trans h.aT,hf.trans h.bm,h.aM,λk A E=>by have:k=3\/k=4\/k=5\/k=6\/k=7:=(by omega);have al:k∈vC:=(by rcases this with rfl|rfl|rfl|rfl|rfl<;>decide);exact(H k al).trans (h.NP k A E),h.g,h.inj,h.zg⟩
theorem im.step{u:aL}{fU:Nat->Nat}{cn:Nat->List ByteArray}{eE z:aD}{t0 t:G}(h:im u fU cn eE t0)(d:Nat)(ao:3<=d)(eg:d<=7){o:Nat}{M0:List ByteArray}{n:Nat}(aj:M0.length=n)
 (gJ: ∀k∈vC,k≠d->z k=eE k) (hf:z 8= .bool true) (ke:z d= .slice (some ⟨o,0,none⟩) ((cn d).length+n) 1) (bw:t.F o=some ⟨iM (cn d++M0),true⟩) (ni:o=fU d\/t0.next<=o) (ka:t0.next<=t.next) (kv: ∀b,b<t0.next->b≠fU d->t.F b=t0.F b):
 im u (il fU d o) (il cn d (cn d++M0)) z t:=by
 have cU: ∀k,3<=k->k<=7->fU k<t0.next:= λk a b=>aF (h.g k a b)
 have dN:=aF h.aM;refine⟨(gJ 1 (by decide) (by omega)).trans h.aT,hf,?_,λk a b=> ?_,λk a b=> ?_,λi j a b c e aU=> ?_,λk a b=> ?_⟩
 ·rw[kv 0 dN (Ne.symm (h.zg d ao eg))];exact h.aM
 ·by_cases e:k=d
  ·subst e;rw[Bk,Bk,ke,iD,aj]
  ·rw[uk e,uk e];have:k=3\/k=4\/k=5\/k=6\/k=7:=(by omega);have al:k∈vC:=(by rcases this with rfl|rfl|rfl|rfl|rfl<;>decide);exact(gJ k al e).trans (h.NP k a b)
 ·by_cases e:k=d
  ·subst e;rw[Bk,Bk];exact bw
  ·rw[uk e,uk e,kv _ (cU k a b) (λaU=>e (h.inj k d a b ao eg aU))];exact h.g k a b
 ·by_cases aG:i=d
  ·by_cases aN:j=d
   ·omega
   ·rw[aG,Bk,uk aN]at aU;rcases ni with cw|cw
    ·rw[cw]at aU;have:=h.inj d j ao eg c e aU;omega
    ·have:=cU j c e;omega
  ·by_cases aN:j=d
   ·rw[aN,Bk,uk aG]at aU;rcases ni with cw|cw
    ·rw[cw]at aU;have:=h.inj i d a b ao eg aU;omega
    ·have:=cU i a b;omega
   ·rw[uk aG,uk aN]at aU;exact h.inj i j a b c e aU
 ·by_cases e:k=d
  ·subst e;rw[Bk];rcases ni with cw|cw
   ·rw[cw];exact h.zg k a b
   ·omega
  ·rw[uk e];exact h.zg k a b
theorem Iv{u:aL}{dP:Type}{l:List dP}{eJ:dP->ByteArray}{v:Value}{d a b c ix:Nat}{ay:mq N}{rI:aB}(ao:3<=d)(eg:d<=7)(dc:l.length<=1000){fU:Nat->Nat}{cn:Nat->List ByteArray}{eE:aD}{t0:G}(Xk:im u fU cn eE t0)(hg:(cn d).length<=10000)
 (iP:eE a=v) (cD:eE b=D l.length) (ia:eE c=D 0) {Q:cO->aD->G->Prop}
 (body: ∀(i:Nat) (Y:i<l.length) (z:aD) (t:G) (o n:Nat) (xh:List Value),l[i]?=some l[i]->(i:Int)<l.length->IntKind.i64.wrap ((i:Int)+1)=(i:Int)+1->z 1=bC 0->z 8= .bool true->z d= .slice (some ⟨o,0,none⟩) n 1->t.F 0=some ⟨aI u,true⟩->t.F o=some ⟨xh,true⟩->0<t.next->o<t.next->o≠0->xh.length=n->xh.take n=xh->(n+1)*16<=140737488355328/\n<=9223372036854775806->z a=v->z b=D l.length->z c=D i-> ∀bO:aD->G->Prop,
  (∀K X o',(∀k∈vC,k≠d->K k=z k)->K 8= .bool true->K d= .slice (some ⟨o',0,none⟩) (n+1) 1->X.F o'=some ⟨xh++[gL (eJ l[i])],true⟩->t.next<=o'->t.next<=X.next->(∀b,b<t.next->b≠o->X.F b=t.F b)->K a=v->K b=D l.length->K c=D ((i:Int)+1)->bO K X)->iK ay rI z t (sS bO Q))
 (done: ∀(z:aD) (t:G),z a=v->z b=D l.length->z c=D l.length->(∀K,(∀k∈vC,K k=z k)->K 8=z 8->Q (.cF ix) K t)->iK ay rI z t (sS (λ_ _=>False) Q))
 (a6: ∀z t jB,im u jB (il cn d (cn d++l.map eJ)) z t->Q (.cF ix) z t):ee N (.loop rI) eE t0 Q:=by
 refine gP (ay:=ay) (λi z t=> ∃jB,im u jB (il cn d (cn d++(l.take i).map eJ)) z t/\z a=v/\z b=D l.length/\z c=D i) l.length ?_ ?_ 0 eE t0 (gd _) ⟨fU,?_,iP,cD,ia⟩
 ·rintro i z t Y ⟨jB,ae,iP,cD,ia⟩ bO a1;have B:l[i]?=some l[i]:=c6 Y;have bw:=ae.g d ao eg;have ke:=ae.NP d ao eg;have kI:= λ(o':Nat) (K:aD) (X:G)=>im.step ae d ao eg (o:=o') (z:=K) (t:=X) (M0:=[eJ l[i]]) (n:=1) rfl;rw[Bk]at bw ke kI;have aj:(cn d++(l.take i).map eJ).length<20000:=(by rw[iD,ll,te];omega);refine body i Y z t (jB d) _ _ B (by omega) (db (by omega) (by omega)) ae.aT ae.bm ke ae.aM bw (aF ae.aM) (aF bw) (ae.zg d ao eg) aoW (hx (by rw[aoW];omega)) ⟨by omega,by omega⟩ iP cD ia bO λK X o' aG aN ct gC mx l5 Ad qS rJ VQ=> ?_;have:=kI o' K X aG aN (by rw[ct]) (by rw[aoX];exact gC) (.inr mx) l5 Ad;rw[arG,aqS B]at this;exact a1 _ _ ⟨_,this,qS,rJ,VQ⟩
 ·rintro z t ⟨jB,ae,iP,cD,ia⟩;rw[mQ]at ae;exact done z t iP cD ia λK A E=>a6 _ _ jB (ae.uN E A)
 ·have:il cn d (cn d++(l.take 0).map eJ)=cn:=by
   funext k;by_cases e:k=d
   ·subst e;simp
   ·rw[uk e]
  rw[this];exact Xk
theorem aJp{u:aL}(h:aL.gl u)(M:u.e7.all lo.zh=true){fU:Nat->Nat}{cn:Nat->List ByteArray}{eE:aD}{t0:G}(ae:im u fU cn eE t0)(hg:(cn 3).length<=10000)(iP:eE 67=ai (u.e7.map gE) 4)(cD:eE 68=D u.e7.length)(ia:eE 69=D 0){Q:cO->aD->G->Prop}
 (a6: ∀z t jB,im u jB (il cn 3 (cn 3++u.e7.map (·.name))) z t->Q (.cF 0) z t):ee N (.loop Sj) eE t0 Q:=by
 refine Iv (ay:=⟨[adF],[]⟩) (by decide) (by decide) h.FK ae hg iP cD ia ?_ ?_ a6
 ·intro i Y z t o n xh B bA bp aT bm ke aM bw dN bh dB au p6 eQ iP cD ia bO a1;have ej:=h.e7 _ (kp Y);have eD:=ei.1 M _ (kp Y);simp(disch:=first|omega|simp only[DI.aw];omega) [Sj,amF,gE,bm,ke,iP,cD,ia,bw,bA,bp,au,p6,eQ,eD,-ab,-ah,-aa,-ad,-List.map_map];refine a1 _ _ (t.next+4+4) (wO (d:=3) ?_ ?_ ?_ ?_ ?_ ?_) ?_ ?_ ?_ (by omega) ?_ (λb hb nO=> ?_) ?_ ?_ ?_
  all_goals first
   |(intro aW;first|(exact absurd rfl aW)|(simp;done))
   |(simp(disch:=first|omega|simp only[DI.aw];omega) [iP,cD,-ab,-ah,-aa,-ad,-List.map_map];done)
   |(simp(disch:=first|omega|simp only[DI.aw];omega) [hb,nO,-ab,-ah,-aa,-ad,-List.map_map];done)
   |(simp(disch:=first|omega|simp only[DI.aw];omega) [-ab,-ah,-aa,-ad,-List.map_map];omega)
 ·intro z t iP cD ia ir;simp(disch:=first|omega|simp only[DI.aw];omega) [Sj,cD,ia,-ab,-ah,-aa,-ad,-List.map_map];exact ir _ (nZ (by simp) (by simp) (by simp) (by simp) (by simp) (by simp)) (by simp)
theorem aJq{u:aL}(h:aL.gl u)(M:u.cx.all (CU u.e7.length)=true){fU:Nat->Nat}{cn:Nat->List ByteArray}{eE:aD}{t0:G}(ae:im u fU cn eE t0)(hg:(cn 4).length<=10000)(iP:eE 85=ai (u.cx.map gN) 4)(cD:eE 86=D u.cx.length)(ia:eE 87=D 0){Q:cO->aD->G->Prop}
 (a6: ∀z t jB,im u jB (il cn 4 (cn 4++u.cx.map (·.name))) z t->Q (.cF 2) z t):ee N (.loop Sk) eE t0 Q:=by
 refine Iv (ay:=⟨[vz],[]⟩) (by decide) (by decide) h.eJ ae hg iP cD ia ?_ ?_ a6
 ·intro i Y z t o n xh B bA bp aT bm ke aM bw dN bh dB au p6 eQ iP cD ia bO a1;have s8:IntKind.i64.wrap ((u.e7.length:Int)-1)=(u.e7.length:Int)-1:=db (by omega) (by have:=h.FK;omega);have f:=ei.1 M _ (kp Y);simp only[CU,a7]at f;obtain⟨ej,eD,gg⟩:=f;simp(disch:=first|omega|simp only[DI.aw];omega) [Sk,amu,aI,gN,aT,bm,ke,iP,cD,ia,aM,bw,bA,bp,au,p6,eQ,s8,ej,eD,gg,-ab,-ah,-aa,-ad,-List.map_map];refine a1 _ _ (t.next+4+4) (wO (d:=4) ?_ ?_ ?_ ?_ ?_ ?_) ?_ ?_ ?_ (by omega) ?_ (λb hb nO=> ?_) ?_ ?_ ?_
  all_goals first
   |(intro aW;first|(exact absurd rfl aW)|(simp;done))
   |(simp(disch:=first|omega|simp only[DI.aw];omega) [iP,cD,-ab,-ah,-aa,-ad,-List.map_map];done)
   |(simp(disch:=first|omega|simp only[DI.aw];omega) [hb,nO,-ab,-ah,-aa,-ad,-List.map_map];done)
   |(simp(disch:=first|omega|simp only[DI.aw];omega) [-ab,-ah,-aa,-ad,-List.map_map];omega)
 ·intro z t iP cD ia ir;simp(disch:=first|omega|simp only[DI.aw];omega) [Sk,cD,ia,-ab,-ah,-aa,-ad,-List.map_map];exact ir _ (nZ (by simp) (by simp) (by simp) (by simp) (by simp) (by simp)) (by simp)
theorem aJr{u:aL}(h:aL.gl u){ds:List hE}(v7:ds.length<=1000){fU:Nat->Nat}{cn:Nat->List ByteArray}{eE:aD}{t0:G}(ae:im u fU cn eE t0)(hg:(cn 5).length<=10000)(iP:eE 119=ai (ds.map e6) 7)(cD:eE 120=D ds.length)(ia:eE 121=D 0){Q:cO->aD->G->Prop}
 (a6: ∀z t jB,im u jB (il cn 5 (cn 5++ds.map (·.name))) z t->Q (.cF 4) z t):ee N (.loop Sl) eE t0 Q:=by
 refine Iv (ay:=⟨[],[]⟩) (by decide) (by decide) v7 ae hg iP cD ia ?_ ?_ a6
 ·intro i Y z t o n xh B bA bp aT bm ke aM bw dN bh dB au p6 eQ iP cD ia bO a1;simp(disch:=first|omega|simp only[DI.aw];omega) [Sl,amw,e6,ke,iP,cD,ia,bw,bA,bp,au,p6,eQ,-ab,-ah,-aa,-ad,-List.map_map];refine a1 _ _ (t.next+4+4) (wO (d:=5) ?_ ?_ ?_ ?_ ?_ ?_) ?_ ?_ ?_ (by omega) ?_ (λb hb nO=> ?_) ?_ ?_ ?_
  all_goals first
   |(intro aW;first|(exact absurd rfl aW)|(simp;done))
   |(simp(disch:=first|omega|simp only[DI.aw];omega) [bm,iP,cD,-ab,-ah,-aa,-ad,-List.map_map];done)
   |(simp(disch:=first|omega|simp only[DI.aw];omega) [hb,nO,-ab,-ah,-aa,-ad,-List.map_map];done)
   |(simp(disch:=first|omega|simp only[DI.aw];omega) [-ab,-ah,-aa,-ad,-List.map_map];omega)
 ·intro z t iP cD ia ir;simp(disch:=first|omega|simp only[DI.aw];omega) [Sl,cD,ia,-ab,-ah,-aa,-ad,-List.map_map];exact ir _ (nZ (by simp) (by simp) (by simp) (by simp) (by simp) (by simp)) (by simp)
theorem aJs{u:aL}(h:aL.gl u)(M:u.aZ.all (BU u.cx.length u.aO)=true){fU:Nat->Nat}{cn:Nat->List ByteArray}{eE:aD}{t0:G}(ae:im u fU cn eE t0)(hg:(cn 5).length<=10000)(iP:eE 132=ai (u.aZ.map fH) 3)(cD:eE 133=D u.aZ.length)(ia:eE 134=D 0){Q:cO->aD->G->Prop}
 (a6: ∀z t jB,im u jB (il cn 5 (cn 5++u.aZ.map (·.name))) z t->Q (.cF 6) z t):ee N (.loop Sm) eE t0 Q:=by
 refine Iv (ay:=⟨[vz],[]⟩) (by decide) (by decide) h.hj ae hg iP cD ia ?_ ?_ a6
 ·intro i Y z t o n xh B bA bp aT bm ke aM bw dN bh dB au p6 eQ iP cD ia bO a1;have s8:IntKind.i64.wrap ((u.cx.length:Int)-1)=(u.cx.length:Int)-1:=db (by omega) (by have:=h.eJ;omega);have Oc:IntKind.i64.wrap ((u.aO.length:Int)-1)=(u.aO.length:Int)-1:=db (by omega) (by have:=h.fp;omega);have f:=ei.1 M _ (kp Y);simp only[BU,a7]at f;obtain⟨ej,eD,gg⟩:=f;obtain⟨aR,dH⟩:=j0 (u5.1 eD).1;rw[dH]at eD gg;have Em:aR<u.aO.length:=(by have:=u5.1 eD;omega);have uU:(aR:Int)<u.aO.length:=(by omega);have bg:u.aO[aR]?=some u.aO[aR]:=c6 Em;have lJ:u.aO[aR].jR=4:=(by unfold MW at gg;rw[nB,bg]at gg;simpa using gg);simp(disch:=first|omega|simp only[DI.aw];omega) [Sm,amy,aI,fH,aT,bm,ke,iP,cD,ia,aM,bw,bA,bp,au,p6,eQ,s8,Oc,e6,ej,eD,dH,uU,lJ,-ab,-ah,-aa,-ad,-List.map_map];refine a1 _ _ (t.next+4+4) (wO (d:=5) ?_ ?_ ?_ ?_ ?_ ?_) ?_ ?_ ?_ (by omega) ?_ (λb hb nO=> ?_) ?_ ?_ ?_
  all_goals first
   |(intro aW;first|(exact absurd rfl aW)|(simp;done))
   |(simp(disch:=first|omega|simp only[DI.aw];omega) [iP,cD,-ab,-ah,-aa,-ad,-List.map_map];done)
   |(simp(disch:=first|omega|simp only[DI.aw];omega) [hb,nO,-ab,-ah,-aa,-ad,-List.map_map];done)
   |(simp(disch:=first|omega|simp only[DI.aw];omega) [-ab,-ah,-aa,-ad,-List.map_map];omega)
 ·intro z t iP cD ia ir;simp(disch:=first|omega|simp only[DI.aw];omega) [Sm,cD,ia,-ab,-ah,-aa,-ad,-List.map_map];exact ir _ (nZ (by simp) (by simp) (by simp) (by simp) (by simp) (by simp)) (by simp)
theorem aJt{u:aL}(h:aL.gl u)(M:u.dv.all (uo · u.cx.length)=true){fU:Nat->Nat}{cn:Nat->List ByteArray}{eE:aD}{t0:G}(ae:im u fU cn eE t0)(hg:(cn 6).length<=10000)(iP:eE 174=ai (u.dv.map dU) 17)(cD:eE 175=D u.dv.length)(ia:eE 176=D 0){Q:cO->aD->G->Prop}
 (a6: ∀z t jB,im u jB (il cn 6 (cn 6++u.dv.map (·.name))) z t->Q (.cF 8) z t):ee N (.loop Sn) eE t0 Q:=by
 refine Iv (ay:=⟨[adG u.cx.length (by have:=h.eJ;omega)],[]⟩) (by decide) (by decide) h.AT ae hg iP cD ia ?_ ?_ a6
 ·intro i Y z t o n xh B bA bp aT bm ke aM bw dN bh dB au p6 eQ iP cD ia bO a1;have ej:h3.gl u.dv[i]/\uo u.dv[i] u.cx.length=true:=⟨h.dv _ (kp Y),ei.1 M _ (kp Y)⟩;simp(disch:=first|omega|simp only[DI.aw];omega) [Sn,amB,aI,dU,aT,bm,ke,iP,cD,ia,aM,bw,bA,bp,au,p6,eQ,-ab,-ah,-aa,-ad,-List.map_map];refine a1 _ _ (t.next+4+4) (wO (d:=6) ?_ ?_ ?_ ?_ ?_ ?_) ?_ ?_ ?_ (by omega) ?_ (λb hb nO=> ?_) ?_ ?_ ?_
  all_goals first
   |(intro aW;first|(exact absurd rfl aW)|(simp;done))
   |(simp(disch:=first|omega|simp only[DI.aw];omega) [iP,cD,-ab,-ah,-aa,-ad,-List.map_map];done)
   |(simp(disch:=first|omega|simp only[DI.aw];omega) [hb,nO,-ab,-ah,-aa,-ad,-List.map_map];done)
   |(simp(disch:=first|omega|simp only[DI.aw];omega) [-ab,-ah,-aa,-ad,-List.map_map];omega)
 ·intro z t iP cD ia ir;simp(disch:=first|omega|simp only[DI.aw];omega) [Sn,cD,ia,-ab,-ah,-aa,-ad,-List.map_map];exact ir _ (nZ (by simp) (by simp) (by simp) (by simp) (by simp) (by simp)) (by simp)
theorem aJu{u:aL}(h:aL.gl u)(M:u.a2.all (Gp u.dv.length)=true){fU:Nat->Nat}{cn:Nat->List ByteArray}{eE:aD}{t0:G}(ae:im u fU cn eE t0)(hg:(cn 7).length<=10000)(iP:eE 195=ai (u.a2.map gD) 2)(cD:eE 196=D u.a2.length)(ia:eE 197=D 0){Q:cO->aD->G->Prop}
 (a6: ∀z t jB,im u jB (il cn 7 (cn 7++u.a2.map (·.name))) z t->Q (.cF 10) z t):ee N (.loop So) eE t0 Q:=by
 refine Iv (ay:=⟨[vz],[]⟩) (by decide) (by decide) h.iH ae hg iP cD ia ?_ ?_ a6
 ·intro i Y z t o n xh B bA bp aT bm ke aM bw dN bh dB au p6 eQ iP cD ia bO a1;have s8:IntKind.i64.wrap ((u.dv.length:Int)-1)=(u.dv.length:Int)-1:=db (by omega) (by have:=h.AT;omega);have ej:=ei.1 M _ (kp Y);simp only[Gp]at ej;simp(disch:=first|omega|simp only[DI.aw];omega) [So,amD,aI,gD,aT,bm,ke,iP,cD,ia,aM,bw,bA,bp,au,p6,eQ,s8,ej,-ab,-ah,-aa,-ad,-List.map_map];refine a1 _ _ (t.next+4+4) (wO (d:=7) ?_ ?_ ?_ ?_ ?_ ?_) ?_ ?_ ?_ (by omega) ?_ (λb hb nO=> ?_) ?_ ?_ ?_
  all_goals first
   |(intro aW;first|(exact absurd rfl aW)|(simp;done))
   |(simp(disch:=first|omega|simp only[DI.aw];omega) [iP,cD,-ab,-ah,-aa,-ad,-List.map_map];done)
   |(simp(disch:=first|omega|simp only[DI.aw];omega) [hb,nO,-ab,-ah,-aa,-ad,-List.map_map];done)
   |(simp(disch:=first|omega|simp only[DI.aw];omega) [-ab,-ah,-aa,-ad,-List.map_map];omega)
 ·intro z t iP cD ia ir;simp(disch:=first|omega|simp only[DI.aw];omega) [So,cD,ia,-ab,-ah,-aa,-ad,-List.map_map];exact ir _ (nZ (by simp) (by simp) (by simp) (by simp) (by simp) (by simp)) (by simp)
theorem ar4{u:aL}{c:aB}{z:aD}{t:G}{Q:cO->aD->G->Prop}(aT:z 1=bC 0)(bm:z 8= .bool true)(bH:z 3= .slice none 0 0)(dp:z 4= .slice none 0 0)(bD:z 5= .slice none 0 0)(bo:z 6= .slice none 0 0)(cf:z 7= .slice none 0 0)
 (aM:t.F 0=some ⟨aI u,true⟩) (h: ∀K X fU,im u fU (λ_=>[]) K X->(∀k,8<k->K k=z k)->ee N c K X Q):ee N c z t Q:=by
 have dN:=aF aM;obtain⟨aq,Iy⟩: ∃aq,t.next=aq:=⟨_,rfl⟩
 refine Oe 3 1 bH λsd sU jh qn=> ?_;refine Oe 4 1 (by simpa using dp) λI9 AS l0 S9=> ?_;refine Oe 5 1 (by simpa using bD) λaef aoL oI aa6=> ?_;refine Oe 6 1 (by simpa using bo) λaIS aoM BH Ta=> ?_;refine Oe 7 1 (by simpa using cf) λwR Is GJ Ft=> ?_;have mT:sd.next=aq+1:=by omega
 have vP:I9.next=aq+2:=by omega
 have af0:aef.next=aq+3:=by omega
 have af1:aIS.next=aq+4:=by omega
 rw[Iy]at jh;rw[mT]at l0;rw[vP]at oI;rw[af0]at BH;rw[af1]at GJ;rw[Iy,mT,vP,af0,af1];refine h _ _ (λk=>aq+(k-3)) ⟨by simpa using aT,by simpa using bm,?_,λk a b=> ?_,λk a b=> ?_,λi j a b c d e=>by omega,λk a b=>by omega⟩ (λk O=>by simp only[k3,show¬k=3 by omega,show¬k=4 by omega,show¬k=5 by omega,show¬k=6 by omega,show¬k=7 by omega,if_false])
 ·rw[Ft 0 (by omega),Ta 0 (by omega),aa6 0 (by omega),S9 0 (by omega),qn 0 (by omega)];exact aM
 ·have:k=3\/k=4\/k=5\/k=6\/k=7:=(by omega);rcases this with rfl|rfl|rfl|rfl|rfl<;>simp
 ·have:k=3\/k=4\/k=5\/k=6\/k=7:=(by omega);rcases this with rfl|rfl|rfl|rfl|rfl
  ·show wR.F aq=_;rw[Ft aq (by omega),Ta aq (by omega),aa6 aq (by omega),S9 aq (by omega)];exact jh
  ·show wR.F (aq+1)=_;rw[Ft _ (by omega),Ta _ (by omega),aa6 _ (by omega)];exact l0
  ·show wR.F (aq+2)=_;rw[Ft _ (by omega),Ta _ (by omega)];exact oI
  ·show wR.F (aq+3)=_;rw[Ft _ (by omega)];exact BH
  ·exact GJ
noncomputable def o2(u:aL):Bool:=fO u.ext 1 4&&(decide (u.e7.length<=4)&&(decide (u.cx.length<=4)&&(decide (u.aO.length<=40)&&(decide (u.aZ.length<=24)&&(decide (u.dv.length<=4)&&(decide (u.a2.length<=12)&&(uQ u.aO&&(u.e7.all lo.zh&&(u.cx.all (CU u.e7.length)&&(u.aZ.all (BU u.cx.length u.aO)&&(u.dv.all (uo · u.cx.length)&&(u.a2.all (Gp u.dv.length)&&(kD (u.e7.map (·.name))&&(kD (u.cx.map (·.name))&&(kD (u.aO.tail.map (·.name)++u.aZ.map (·.name))&&(kD (u.dv.map (·.name))&&kD (u.a2.map (·.name))))))))))))))))))
theorem im.mK{u:aL}{fU:Nat->Nat}{cn:Nat->List ByteArray}{z:aD}{t:G}(ae:im u fU cn z t)(d:Nat)(ao:3<=d)(eg:d<=7){L:List ByteArray}(e:cn d=L)(aj:L.length<1000000)(ba:kD L=true):
 ∃o c,∃l:List ByteArray,z d= .slice (some ⟨o,0,none⟩) l.length 1/\t.F o=some ⟨c,true⟩/\(l.length<1000000/\kD l=true)/\(∀t,fR (fR (DI.dx 8 t)) (lH 1 l.length c)=some (l.map λs=>[gL s]))/\(∀t,c.flatMap (eC 8 t)=[])/\c.length=l.length:=
 ⟨fU d,_,L,e▸ae.NP d ao eg,e▸ae.g d ao eg,⟨aj,ba⟩,aoY rfl⟩
theorem arN{u:aL}(h:aL.gl u)(M:o2 u=true):bP N 62 [.agg (aI u).toArray] (D 0):=by
 simp only[o2,a7,eF]at M;obtain⟨A,dN,hS,jn,abd,abe,CP,aW,br,bQ,a3,a4,fz,ny,Dx,Dy,aem,aeo⟩:=M;refine dJ (c3 (ay:=⟨[vz,adE u h aW,adD],[]⟩) aA2 (by kernel_rfl) (by simp[Zx]) ?_);have jv: ¬(4:Int)<u.e7.length:=by omega
 have ck: ¬(4:Int)<u.cx.length:=by omega
 have c9: ¬(40:Int)<u.aO.length:=by omega
 have k9: ¬(24:Int)<u.aZ.length:=by omega
 have iq: ¬(4:Int)<u.dv.length:=by omega
 have yv: ¬(12:Int)<u.a2.length:=by omega
 obtain⟨R,ds,j9⟩: ∃R ds,u.aO=R::ds:=by
  cases bg:u.aO with
  |nil=>rw[bg]at aW;cases aW
  |cons R ds=>exact⟨R,ds,rfl⟩
 have v7:ds.length<=39:=by rw[j9]at jn;simp at jn;omega
 have XE:u.aO.tail=ds:=by rw[j9];rfl
 rw[XE]at Dy;simp(disch:=first|omega|simp only[DI.aw];omega) [Zx,amt,amA,aI,A,jv,ck,c9,k9,iq,yv,-ab,-ah,-aa,-ad,-List.map_map];refine ar4 (u:=u) (by simp) (by simp) (by simp) (by simp) (by simp) (by simp) (by simp) (by simp(disch:=first|omega|simp only[DI.aw];omega) [aI,-ab,-ah,-aa,-ad,-List.map_map]) λz t fU ae O=> ?_;refine aJp h br ae (by simp) (by rw[O 67 (by decide)];simp) (by rw[O 68 (by decide)];simp) (by rw[O 69 (by decide)];simp) λz t fU ae=> ?_;simp(disch:=first|omega|simp only[DI.aw];omega) [amG,aI,ae.aT,ae.aM,-ab,-ah,-aa,-ad,-List.map_map];refine aJq h bQ (ae.uN (by simp) (nZ (by simp) (by simp) (by simp) (by simp) (by simp) (by simp))) (by simp[il]<;>omega) (by simp) (by simp) (by simp) λz t fU ae=> ?_;have VR:(List.take u.aO.length (u.aO.map e6)).tail=ds.map e6:=by rw[hx (by simp),j9];rfl
 have VS:u.aO.length-1=ds.length:=by rw[j9];rfl
 have axu:1<=u.aO.length:=by rw[j9];simp
 have W3:(1:Int)<=u.aO.length:=by omega
 simp(disch:=first|omega|simp only[DI.aw];omega) [amv,aI,ae.aT,ae.aM,W3,-ab,-ah,-aa,-ad,-List.map_map];rw[VR,VS];refine aJr h (ds:=ds) (by omega) (ae.uN (by simp) (nZ (by simp) (by simp) (by simp) (by simp) (by simp) (by simp))) (by simp[il]<;>omega) (by simp) (by simp) (by simp) λz t fU ae=> ?_;simp(disch:=first|omega|simp only[DI.aw];omega) [amx,aI,ae.aT,ae.aM,-ab,-ah,-aa,-ad,-List.map_map];refine aJs h a3 (ae.uN (by simp) (nZ (by simp) (by simp) (by simp) (by simp) (by simp) (by simp))) (by simp[il]<;>omega) (by simp) (by simp) (by simp) λz t fU ae=> ?_;simp(disch:=first|omega|simp only[DI.aw];omega) [amz,aI,ae.aT,ae.aM,-ab,-ah,-aa,-ad,-List.map_map];refine aJt h a4 (ae.uN (by simp) (nZ (by simp) (by simp) (by simp) (by simp) (by simp) (by simp))) (by simp[il]<;>omega) (by simp) (by simp) (by simp) λz t fU ae=> ?_;simp(disch:=first|omega|simp only[DI.aw];omega) [amC,aI,ae.aT,ae.aM,-ab,-ah,-aa,-ad,-List.map_map];refine aJu h fz (ae.uN (by simp) (nZ (by simp) (by simp) (by simp) (by simp) (by simp) (by simp))) (by simp[il]<;>omega) (by simp) (by simp) (by simp) λz t fU ae=> ?_;obtain⟨iz,aOI,aLa,rb,ch,cA,avN,avO,avP⟩:=ae.mK 3 (by decide) (by decide) (by simp[il]) (by simp<;>omega) ny;obtain⟨ky,aOJ,aLb,aoh,dT,fV,avQ,avR,avS⟩:=ae.mK 4 (by decide) (by decide) (by simp[il]) (by simp<;>omega) Dx;obtain⟨zk,aOK,aLc,aoi,gj,g9,avT,avU,avV⟩:=ae.mK 5 (by decide) (by decide) (by simp[il]) (by simp<;>omega) Dy;obtain⟨Nh,aOL,aLd,MU,ft,mg,avW,avX,avY⟩:=ae.mK 6 (by decide) (by decide) (by simp[il]) (by simp<;>omega) aem;obtain⟨aUi,aOM,aLe,aDR,nL,TM,avZ,av0,av1⟩:=ae.mK 7 (by decide) (by decide) (by simp[il]) (by simp<;>omega) aeo;simp(disch:=first|omega|simp only[DI.aw];omega) [amE,ae.bm,rb,ch,avN,avO,avP,aoh,dT,avQ,avR,avS,aoi,gj,avT,avU,avV,MU,ft,avW,avX,avY,aDR,nL,avZ,av0,av1,B2,zs,-ab,-ah,-aa,-ad,-List.map_map]
end Go.Proofs.YtmmkkggfmigppaaGreat
namespace Go.DI
open Go
section
variable {P:Program} {u:fY} {J:e3} {t m U:G}
theorem ep.aby(H:ep J u t m)(aj:m.next<=U.next)(h: ∀b,(∃o,J o=some b)\/u b≠none->U.F b=m.F b/\U.mp b=m.mp b):ep J u t U where
 jc o x B:=by
  rcases H.jc o x B with⟨b,cs,w,A,E,ao,aS⟩|A
  ·exact .inl ⟨b,cs,w,A,by rw[(h b (.inl ⟨o,A⟩)).1];exact E,ao,aS⟩
  ·exact .inr A
 maps o es aU:=by obtain⟨b,de,A,E,ao⟩:=H.maps o es aU;obtain⟨aE,a5⟩:=h b (.inl ⟨o,A⟩);obtain⟨bB,cC⟩:=ji E;exact⟨b,de,A,kT (by rw[aE];exact bB) (by rw[a5];exact cC),ao⟩
 jA:=H.jA
 inj:=H.inj
 cU o b hb:=⟨(H.cU o b hb).1,qE (H.cU o b hb).2 aj⟩
 b0 b cs hb:=by obtain⟨⟨w,A⟩,E⟩:=H.b0 b cs hb;exact⟨⟨w,by rw[(h b (.inr (by rw[hb];simp))).1];exact A⟩,E⟩
theorem e4.aby{cV:e3}{cE:fY}{X bn cK:G}{ht hU:Nat}(h:e4 ht hU J u t m cV cE X bn)(aj:bn.next<=cK.next)(aH: ∀b,b<hU->cK.F b=bn.F b):e4 ht hU J u t m cV cE X cK:=
 ⟨h.e,h.f,h.la,h.fn,h.lk,mR h.lR aj,λb hb aQ=>by rw[aH b hb];exact h.dg b hb aQ,h.sg,h.tn⟩
end
end Go.DI
namespace Go.Proofs.YtmmkkggfmigppaaGreat
open Go Go.DI Go.Big
noncomputable def xm(l:List ByteArray)(s:ByteArray):Bool:=rY s&&(ph s l).isNone
theorem PD{l:List ByteArray}{s:ByteArray}:xm l s=if rY s then decide (Cu s l<0)else false:=by unfold xm Cu;cases rY s<;>cases h:ph s l<;>simp
def asA(m:G)(bf:Value)(l:List ByteArray):Prop:=(∃b,bf= .slice (some ⟨b,0,none⟩) l.length 1/\m.F b=some ⟨iM l,true⟩)\/(bf= .slice none 0 0/\l=[])
theorem CZ{l:List ByteArray}:iM l=l.map gL:=by
 unfold iM;induction l with
 |nil=>rfl
 |cons x l cj=>rw[lW,td,cj];rfl
theorem abU{l:List ByteArray}:(iM l).length=l.length:=by rw[CZ,ll]
theorem aEA{l:List ByteArray}{i:Nat}{s:ByteArray}(h:l[i]?=some s):(iM l)[i]?=some (gL s):=by rw[CZ,sk,h];rfl
theorem ajh{m:G}{bf:Value}{l:List ByteArray}{s:ByteArray}(ba:(∃b w,bf= .slice (some ⟨b,0,none⟩) l.length 1/\m.F b=some ⟨iM l,w⟩)\/(bf= .slice none 0 0/\l=[]))(aj:l.length<1000000):
 eu N 189 [bf,gL s] m λr _=>r=D (Cu s l):=by
 rcases ba with⟨b,w,rfl,hb⟩|⟨rfl,rfl⟩
 ·have M:cu (λx=>if x=b then some (iM l)else none) kY (Eb l) (.slice (some ⟨b,0,none⟩) l.length 1):=by
   have:=cu.jH (u:= λx=>if x=b then some (iM l)else none) (J:=kY) (v:=Eb l) (b:=b) (off:=0) (I:=1) (cs:=iM l) (bJ:=l.map λs=>[gL s]) rfl (by simp) (by simp[abU]) (λi r h=>by
    simp only[sk,vI]at h;obtain⟨_,_,rfl⟩:=h;rfl) (λi j r x y A E ao=>by
    simp only[sk,vI]at A;obtain⟨q,bg,rfl⟩:=A;have aV:j=0:=(by have:=(cN.1 E).1;simpa using this);subst aV;simp at E;subst E;rw[show 0+i*1+0=i by omega,aEA bg]at ao;cases ao;exact .c4 rfl)
   simpa using this
  refine(aji aj _ m _ (λc cs av=> ?_) (bM.cons M (bM.cons (.c4 rfl) bM.nil))).bt λr U h=> ?_
  ·split at av
   ·next e=>cases av;subst e;exact⟨w,hb⟩
   ·cases av
  ·obtain⟨_,_,cE,_,_,M⟩:=h;exact M.tS
 ·refine(aji aj (λ_=>none) m [.slice none 0 0,gL s] (λc cs av=>by cases av) (bM.cons (.jI rfl) (bM.cons (.c4 rfl) bM.nil))).bt λr U h=> ?_;obtain⟨_,_,cE,_,_,M⟩:=h;exact M.tS
theorem ahj{m:G}{bf:Value}{l:List ByteArray}{s:ByteArray}(ba:asA m bf l)(aj:l.length<1000000):eu N 136 [bf,gL s] m λr U=>r= .tuple #[.slice (some ⟨m.next+3,0,none⟩) (l.length+1) 1,.bool (xm l s)]/\
 ∃k,U=((hR ((m.bU 14).aK (m.next+2) (some ⟨[gL s],true⟩)) bf).aK (m.next+3) (some ⟨iM l++[gL s],true⟩)).bU k:=by
 rw[atU (by simp)];rcases ba with⟨b,rfl,hb⟩|⟨rfl,rfl⟩
 ·have wB:=aF hb;have jG:List.take l.length (iM l)=iM l:=hx (by rw[abU];omega);simp[Rb];rw[ar1];simp(disch:=first|omega|simp only[bS];omega) [pl,DI.s7,hb,abU];refine⟨⟨by omega,by omega⟩,?_⟩;rw[aqc,JX];cases ma:rY s
  ·simp(disch:=first|omega|simp only[bS];omega) [MM,ma,PD,hb,jG,gW];exact⟨_,rfl⟩
  ·simp[];refine(ajh (.inl ⟨b,false,rfl,by simp(disch:=omega) [HB,hb,HA]⟩) aj).bt λr U ar=> ?_;subst ar;rw[JX];simp(disch:=first|omega|simp only[bS];omega) [MM,PD,ma,hb,jG,gW];exact⟨_,rfl⟩
 ·simp[Rb];rw[ar1];simp[pl,DI.s7];rw[aqc,JX];cases ma:rY s
  ·simp(disch:=first|omega|simp only[bS];omega) [MM,ma,PD,CZ];exact⟨_,rfl⟩
  ·simp(disch:=first|omega|simp only[bS];omega) [];refine(ajh (l:=[]) (.inr ⟨rfl,rfl⟩) aj).bt λr U ar=> ?_;subst ar;rw[JX];simp(disch:=first|omega|simp only[bS];omega) [MM,PD,ma,CZ];exact⟨_,rfl⟩
theorem ahe{u:fY}{J:e3}: ∀{xs ys:List Value},bM u J xs ys->(∀x∈xs,∃s,x=gL s)->ys=xs
 |[],ys,h,_=>si.1 h.1.symm
 |x::xs,[],h,_=>by have:=h.1;simp at this
 | x::xs,y::ys,h,B=>by obtain⟨s,rfl⟩:=B x (by simp);have bX:=(h.2 0 (gL s) y rfl rfl).AG;rw[bX,ahe (xs:=xs) (ys:=ys) ⟨by simpa using h.1,λi a b p q=>h.2 (i+1) a b (by simpa using p) (by simpa using q)⟩ λI bE=>B I (by simp[bE])]
theorem aEC{l:List ByteArray}: ∀x∈iM l,∃s,x=gL s:=by rw[CZ];intro x B;obtain⟨s,_,rfl⟩:=gx.1 B;exact⟨s,rfl⟩
def xn(o:Nat)(l:List ByteArray)(s:ByteArray)(t:G):G:=((t.bU 14).aK o none).aK t.next (some ⟨iM (l++[s]),true⟩)
theorem avF{J:e3}{u:fY}{t m bd bn:G}(H:ep J u t m)(A:bd.next=t.next+14)(E:bn.next=m.next+14):DI.tk J u bd bn t.next (m.next+3) where
 e :=by
  cases h:J t.next with
  |none=>rfl
  |some b=>have:=(H.cU _ _ h).1;omega
 b o h:=by have:=(H.cU _ _ h).2;omega
 f :=by
  cases h:u (m.next+3)with
  |none=>rfl
  |some cs=>obtain⟨⟨w,g⟩,_⟩:=H.b0 _ _ h;have:=aF g;omega
 uj:=by omega
 tZ:=by omega
theorem avG{o:Nat}{l:List ByteArray}{s:ByteArray}{t:G}(aj:l.length<1000000)(aC:t.F o=some ⟨iM l,true⟩){bu:Value->G->Prop}
 (iF:bu (.tuple #[.slice (some ⟨t.next,0,none⟩) (l.length+1) 1,.bool (xm l s)]) (xn o l s t)):fg N 136 [.slice (some ⟨o,0,none⟩) l.length 1,gL s] t bu:=by
 intro J u dD m H ag;obtain⟨bf,w,rfl,A,E⟩:=ag.aI4;have aN:=E.AG;subst aN;have bh:=aF aC;have u2:=OY H 14;have Qk:(t.bU 14).F o=some ⟨iM l,true⟩:=by rw[DI.cl bh];exact aC
 have P1:iM (l++[s])=iM l++[gL s]:=aoX;have dV: ∀{J:e3},bM u J (iM (l++[s])) (iM l++[gL s]):=by rw[P1,<-P1,CZ];exact bM.c4 (by simp[ew])
 have cp: ∀c,((∃p,gw J t.next (m.next+3) p=some c)\/u c≠none)->c=m.next+3\/(c<m.next/\((∃p,J p=some c)\/u c≠none)):=by
  rintro c (⟨p,ae⟩|av)
  ·unfold gw at ae;split at ae
   ·cases ae;exact .inl rfl
   ·exact .inr ⟨(H.cU _ _ ae).2,.inl ⟨p,ae⟩⟩
  ·obtain⟨cs,df⟩:=Option.ne_none_iff_exists'.1 av;obtain⟨⟨w,g⟩,_⟩:=H.b0 _ _ df;exact .inr ⟨aF g,.inr av⟩
 have mW: ∀(W:G) (k:Nat) (cJ:G),W.next=m.next+14->W.mp=m.mp->(∀c,c<m.next->cJ.F c=W.F c)->cJ.next=W.next+k->cJ.mp=W.mp->cJ.F (m.next+3)=some ⟨iM l++[gL s],true⟩->
  ep J u ((t.bU 14).aK o none) W->DI.e4 t.next m.next J u t m J u ((t.bU 14).aK o none) W->
  ∃cV cE r X,bu r X/\ep cV cE X cJ/\cu cE cV r (.tuple #[.slice (some ⟨m.next+3,0,none⟩) (l.length+1) 1,.bool (xm l s)])/\DI.e4 t.next m.next J u t m cV cE X cJ:=by
  intro W k cJ aE a5 ch dT gj ft nL qU;have q5:=avF (bd:=(t.bU 14).aK o none) (bn:=W) H rfl aE;have a9:=Tz nL q5 dV;have bW:DI.e4 t.next m.next J u t m (gw J t.next (m.next+3)) u (xn o l s t) (W.aK (m.next+3) (some ⟨iM l++[gL s],true⟩)):=qU.trans (aoU q5 (c8 _) (by omega))
  refine⟨_,u,_,xn o l s t,iF,a9.aby (by rw[eT];omega) (λc av=> ?_),bM.tuple (bM.cons (.slice (by simp[gw])) (bM.cons (.c4 rfl) bM.nil)),bW.aby (by rw[eT];omega) (λc av=> ?_)⟩
  ·rcases cp c av with rfl|⟨av,_⟩
   ·rw[cb (by omega),ft];exact⟨rfl,by rw[gj];rfl⟩
   ·rw[aX (by omega),ch c av,gj];exact⟨rfl,rfl⟩
  ·rw[aX (by omega),ch c av]
 rcases A.lv with⟨b,hb,_,rfl⟩|⟨_,_,bX,rfl⟩
 ·have al:m.F b=some ⟨iM l,true⟩:=by
   rcases H.jc o _ aC with⟨cB,cs,w,ao,aS,bI,cZ⟩|⟨ao,_⟩
   ·rw[hb]at ao;cases ao;rw[aS,bI rfl,ahe cZ aEC]
   ·rw[hb]at ao;cases ao
  have wB:=aF al;refine(ahj (.inl ⟨b,rfl,al⟩) aj).bt λeA U ⟨ar,k,q2⟩=> ?_;subst ar;subst q2;refine mW ((m.bU 14).aK b none) k _ rfl rfl (λc av=> ?_) rfl rfl ?_ (aa9 u2 hb Qk rfl) ((JT H 14).trans (N6 u2 hb Qk rfl))
  ·rw[G.cl,aX (by omega)];by_cases e:c=b
   ·subst e;show(((m.bU 14).aK (m.next+2) _).aK c none).F c=_;rw[cb (by simp;omega),cb (by simp;omega)]
   ·show(((m.bU 14).aK (m.next+2) _).aK b none).F c=_;rw[aX e,aX e,aX (by omega)]
  ·rw[G.cl,cb];show m.next+3<m.next+14
   omega
 ·obtain rfl:l=[]:=si.1 bX;refine(ahj (.inr ⟨rfl,rfl⟩) aj).bt λeA U ⟨ar,k,q2⟩=> ?_;subst ar;subst q2;refine mW (m.bU 14) k _ rfl rfl (λc av=> ?_) rfl rfl ?_ (VO u2) ((JT H 14).trans VN)
  ·rw[G.cl,aX (by omega)];show((m.bU 14).aK (m.next+2) _).F c=_;rw[aX (by omega)]
  ·rw[G.cl,cb];show m.next+3<m.next+14
   omega
theorem aEB{l c7:List ByteArray}:iM l=iM c7↔l=c7:=by rw[CZ,CZ];exact CR λa b h=>by cases h;rfl
open Classical in
noncomputable def Km(o n:Nat)(s:ByteArray)(t:G)(x:Option en):Option (Value×G):=
 if h: ∃l:List ByteArray,l.length=n/\n<1000000/\x=some ⟨iM l,true⟩then some (.tuple #[.slice (some ⟨t.next,0,none⟩) (n+1) 1,.bool (xm h.choose s)],xn o h.choose s t)else none
@[simp] theorem aPD{o:Nat}{s:ByteArray}{t:G}{l:List ByteArray}(h:l.length<1000000):
 Km o l.length s t (some ⟨iM l,true⟩)=some (.tuple #[.slice (some ⟨t.next,0,none⟩) (l.length+1) 1,.bool (xm l s)],xn o l s t):=by
  have B: ∃c7:List ByteArray,c7.length=l.length/\l.length<1000000/\some (⟨iM l,true⟩:en)=some ⟨iM c7,true⟩:=⟨l,rfl,h,rfl⟩;have av:B.choose=l:=by have:=congrArg (λx:Option en=>(x.map en.cells).getD []) B.choose_spec.2.2;exact(aEB.1 this).symm
  simp only[Km,dif_pos B,av]
noncomputable def Ct:jg N:= .cM 136 (Nat×Nat×ByteArray) (λ⟨o,n,s⟩=>[.slice (some ⟨o,0,none⟩) n 1,gL s])
 (λ⟨o,n,s⟩ t=>Km o n s t (t.F o))
 λ⟨o,n,s⟩ t r X h bu iF=>by
   simp only[Km]at h;split at h
   ·next B=>cases h;obtain⟨A,E,ao⟩:=B.choose_spec;generalize B.choose=l at A ao iF;subst A;exact avG E ao iF
   ·cases h
@[simp] theorem aQ0:Ct.f=136:=rfl
@[simp] theorem aQ1{o n:Nat}{s:ByteArray}{t:G}:Ct.fn [.slice (some ⟨o,0,none⟩) n 1,gL s] t=Km o n s t (t.F o):=
  jg.dK (x:=(o,n,s)) (t:=t) λ⟨h2,kP,sh⟩ Z=>by simp at Z;obtain⟨⟨rfl,rfl⟩,rfl⟩:=Z;rfl
theorem aJe{l:List ByteArray}{s:ByteArray}:kD (l++[s])=(kD l&&xm l s):=by
 rw[Bool.eq_iff_iff];unfold kD xm;have A:(ph s l).isNone=true↔s∉l:=by
  constructor
  ·intro h al;have:=aoo al;rw[DG]at h;exact this h
  ·intro h;rw[X0 h];rfl
 simp only[a7,eF,Gt,zM,A,m9,List.all_nil,and_true];constructor
 ·rintro⟨⟨a,b⟩,c,_,d⟩;exact⟨⟨a,c⟩,b,λal=>d s al s (by simp) rfl⟩
 ·rintro⟨⟨a,c⟩,b,d⟩;exact⟨⟨a,b⟩,c,by simp,λx B y Z=>by simp at Z;subst Z;exact λe=>d (e▸B)⟩
theorem arF{l c7:List ByteArray}(h:kD (l++c7)=true):kD l=true:=by unfold kD at*;simp only[a7,eF,Gt,zM]at*;exact⟨h.1.1,h.2.1⟩
def Bf:List Nat:=[1,3,4,5,6,7,17,18]
theorem NU{z K:aD}(A:K 1=z 1)(ao:K 3=z 3)(aS:K 4=z 4)(bI:K 5=z 5)(cZ:K 6=z 6)(eg:K 7=z 7)(hf:K 17=z 17)(jj:K 18=z 18): ∀k∈Bf,K k=z k:= λk O=>by simp only[Bf,hv,kQ,or_false]at O;rcases O with rfl|rfl|rfl|rfl|rfl|rfl|rfl|rfl<;>assumption
theorem I3{z K k5:aD}(h: ∀k∈Bf,K k=z k)(cw: ∀k∈Bf,k5 k=K k): ∀k∈Bf,k5 k=z k:= λk O=>(cw k O).trans (h k O)
theorem aHf{x:h3}{q j:Nat}{v:Int}{eE:aD}{t0:G}(M:x.cx[j]?=some v)(pU:v∉x.cx.take j)(dc:x.cx.length<1000000)(hP:t0.F q=some ⟨dU x,true⟩)(k1:eE 18=bC q)(lT:eE 19=D j)(wH:eE 20=D 0)(bm:eE 8= .bool true)
 {Q:cO->aD->G->Prop} (a6: ∀z,(∀k∈Bf,z k=eE k)->z 19=eE 19->z 8= .bool true->Q (.cF 12) z t0):ee N (.loop SQ) eE t0 Q:=by
 have aV:j<x.cx.length:=(cN.1 M).1;have a9:(j:Int)<x.cx.length:=by omega
 have ayg:=(cN.1 M).2;refine gP (ay:=⟨[],[]⟩) (λk z t=>t=t0/\(∀k∈Bf,z k=eE k)/\z 19=D j/\z 20=D k/\z 8= .bool true) j ?_ ?_ 0 eE t0 (gd _) ⟨rfl,λ_ _=>rfl,lT,wH,bm⟩
 ·rintro k z t O ⟨rfl,H,x6,ac3,x9⟩ bO a1;have B:x.cx[k]?=some x.cx[k]:=c6 (by omega);have bp:=fB (n:=k) (by omega);have bA:(k:Int)<j:=(by omega);have bW:(k:Int)<x.cx.length:=(by omega);have F0:z 18=bC q:=(H 18 (by decide)).trans k1;have e: ¬x.cx[k]=v:= λe=>pU (List.mem_iff_getElem.2 ⟨k,by rw[te];omega,by rw[List.getElem_take];exact e⟩);simp(disch:=first|omega|simp only[bS];omega) [SQ,dU,F0,x6,ac3,x9,hP,bA,a9,bW,bp,ayg,e,-ab,-ah,-aa,-ad,-List.map_map];exact a1 _ _ ⟨rfl,I3 H (NU (by simp) (by simp) (by simp) (by simp) (by simp) (by simp) (by simp) (by simp)),by simp[x6],by simp,by simp⟩
 ·rintro z t ⟨rfl,H,x6,ac3,x9⟩;have F0:z 18=bC q:=(H 18 (by decide)).trans k1;simp(disch:=first|omega|simp only[bS];omega) [SQ,x6,ac3,-ab,-ah,-aa,-ad,-List.map_map];exact a6 _ (I3 H (NU (by simp) (by simp) (by simp) (by simp) (by simp) (by simp) (by simp) (by simp))) (by simp[x6,lT]) (by simp[x9])
def abw(ik:List Int)(n:Nat):Bool:=(ik.all λm=>fO m 0 ((n:Int)-1))&&decide ik.Nodup
theorem aHg{u:aL}(ar:aL.gl u){x:h3}{q:Nat}{eE:aD}{t0:G}(al:abw x.cx u.cx.length=true)(dc:x.cx.length<1000000)(aM:t0.F 0=some ⟨aI u,true⟩)(hP:t0.F q=some ⟨dU x,true⟩)(aT:eE 1=bC 0)(k1:eE 18=bC q)(lT:eE 19=D 0)(bm:eE 8= .bool true)
 {Q:cO->aD->G->Prop} (a6: ∀z,(∀k∈Bf,z k=eE k)->z 8= .bool true->Q (.cF 10) z t0):ee N (.loop SR) eE t0 Q:=by
 have s8:IntKind.i64.wrap ((u.cx.length:Int)-1)=(u.cx.length:Int)-1:=db (by omega) (by have:=ar.eJ;omega);simp only[abw,a7,ei,eF]at al;refine gP (ay:=⟨[wL],[]⟩) (λj z t=>t=t0/\(∀k∈Bf,z k=eE k)/\z 19=D j/\z 8= .bool true) x.cx.length ?_ ?_ 0 eE t0 (gd _) ⟨rfl,λ_ _=>rfl,lT,bm⟩
 ·rintro j z t aV ⟨rfl,H,x6,x9⟩ bO a1;have B:x.cx[j]?=some x.cx[j]:=c6 aV;have bp:=fB (n:=j) (by omega);have bA:(j:Int)<x.cx.length:=(by omega);have F0:z 18=bC q:=(H 18 (by decide)).trans k1;have aHs:z 1=bC 0:=(H 1 (by decide)).trans aT;have ej:=al.1 _ (kp aV);simp(disch:=first|omega|simp only[bS];omega) [SR,dU,aI,aHs,F0,x6,x9,hP,aM,bA,s8,ej,-ab,-ah,-aa,-ad,-List.map_map];refine aHf B (ao3 al.2 aV) dc hP (by simp[F0]) (by simp[x6]) (by simp) (by simp) λc2 iE au5 qS=> ?_;simp(disch:=first|omega|simp only[bS];omega) [au5,x6,bp,-ab,-ah,-aa,-ad,-List.map_map];refine a1 _ _ ⟨rfl,I3 (I3 (I3 H (NU ?_ ?_ ?_ ?_ ?_ ?_ ?_ ?_)) iE) (NU ?_ ?_ ?_ ?_ ?_ ?_ ?_ ?_),?_,?_⟩;all_goals simp[qS]
 ·rintro z t ⟨rfl,H,x6,x9⟩;have F0:z 18=bC q:=(H 18 (by decide)).trans k1;simp(disch:=first|omega|simp only[bS];omega) [SR,dU,F0,x6,hP,-ab,-ah,-aa,-ad,-List.map_map];exact a6 _ (I3 H (NU (by simp) (by simp) (by simp) (by simp) (by simp) (by simp) (by simp) (by simp))) (by simp[x9])
end Go.Proofs.YtmmkkggfmigppaaGreat
