/-
  A part of the proof, shortened by tools of ours.
-/
import Derived.Test.YtmmkkggfmigppaaGreatZbr
set_option linter.all false
set_option maxRecDepth 8000
set_option maxHeartbeats 16000000
namespace Go.Proofs.YtmmkkggfmigppaaGreat
open Go Go.DI Go.Big Go.gU
theorem aJz{dQ b1:Int}{v:Nat}(M:v<=1000):bP N 127 [.agg #[D dQ,D b1],D v] (D (2+v)):=by refine dJ (c3 (ay:=⟨[],[]⟩) ajX (by kernel_rfl) (by simp[Q5]) ?_);have w:IntKind.i64.wrap (2+(v:Int))=2+v:=db (by omega) (by omega);simp[Q5,ajW,w]
noncomputable def IX:bF N:= .cM 127 (Int×Int×Nat) (λx=>x.2.2<=1000) (λx=>[.agg #[D x.1,D x.2.1],D x.2.2]) (λx=>D (2+x.2.2)) λ_ h=>aJz h
@[simp] theorem aXt:IX.f=127:=rfl
@[simp] theorem aqE{dQ b1:Int}{v:Nat}(M:v<=1000):IX.fn [.agg #[D dQ,D b1],D v]=some (D (2+v)):=bF.dK (x:=(dQ,b1,v)) M λ⟨a,b,c⟩ Z=>by simp at Z⊢;omega
def yB(dQ b1 v i:Nat):Int:=if i=0 then 2+(v:Int)else 2+dQ+v*((b1:Int)-1)+i-1
def nI(dQ b1 d:Nat):Int:=2+(dQ:Int)*b1+d
theorem auK{dQ b1 v i:Nat}(cc:dQ<=1000)(ir:1<=b1/\b1<=1000)(M:v<=1000)(Y:i<=1000):bP N 128 [.agg #[D dQ,D b1],D v,D i] (D (yB dQ b1 v i)):=by
 refine dJ (c3 (ay:=⟨[IX],[]⟩) ajY (by kernel_rfl) (by simp[LA]) ?_);unfold yB;by_cases c:i=0
 ·subst c;simp(disch:=first|omega|simp only[DI.aw];omega) [LA,Yv]
 ·have JW: ¬(i:Int)=0:=(by omega);have bX:0<=(v:Int)*((b1:Int)-1):=DN (by omega) (by omega);have A:(v:Int)*((b1:Int)-1)<=1000*1000:=Int.le_trans (Bq (by omega) (by omega)) (Oq (by omega) (by omega));have bp:IntKind.i64.wrap (2+(dQ:Int))=2+dQ:=db (by omega) (by omega);have cr:IntKind.i64.wrap ((b1:Int)-1)=(b1:Int)-1:=db (by omega) (by omega);have ea:IntKind.i64.wrap ((v:Int)*((b1:Int)-1))=(v:Int)*((b1:Int)-1):=db (by omega) (by omega);have ko:IntKind.i64.wrap (2+(dQ:Int)+(v:Int)*((b1:Int)-1))=2+(dQ:Int)+(v:Int)*((b1:Int)-1):=db (by omega) (by omega);have Bo:IntKind.i64.wrap (2+(dQ:Int)+(v:Int)*((b1:Int)-1)+i)=2+(dQ:Int)+(v:Int)*((b1:Int)-1)+i:=db (by omega) (by omega);have Ob:IntKind.i64.wrap (2+(dQ:Int)+(v:Int)*((b1:Int)-1)+i-1)=2+(dQ:Int)+(v:Int)*((b1:Int)-1)+i-1:=db (by omega) (by omega);simp[LA,Yv,c,bp,cr,ea,ko,Bo,Ob]
noncomputable def IS:bF N:= .cM 128 (Nat×Nat×Nat×Nat) (λx=>(x.1<=1000/\1<=x.2.1/\x.2.1<=1000)/\x.2.2.1<=1000/\x.2.2.2<=1000) (λx=>[.agg #[D x.1,D x.2.1],D x.2.2.1,D x.2.2.2]) (λx=>D (yB x.1 x.2.1 x.2.2.1 x.2.2.2)) λ_ h=>auK h.1.1 h.1.2 h.2.1 h.2.2
@[simp] theorem aVA:IS.f=128:=rfl
@[simp] theorem aqC{dQ b1 v i:Nat}(h:(dQ<=1000/\1<=b1/\b1<=1000)/\v<=1000/\i<=1000):IS.fn [.agg #[D dQ,D b1],D v,D i]=some (D (yB dQ b1 v i)):=bF.dK (x:=(dQ,b1,v,i)) h λ⟨a,b,c,d⟩ Z=>by simp at Z⊢;omega
theorem auT{dQ b1 d:Nat}(cc:dQ<=1000)(ir:b1<=1000)(aW:d<=1000):bP N 129 [.agg #[D dQ,D b1],D d] (D (nI dQ b1 d)):=by refine dJ (c3 (ay:=⟨[],[]⟩) aj0 (by kernel_rfl) (by simp[Q6]) ?_);have bX:0<=(dQ:Int)*(b1:Int):=DN (by omega) (by omega);have A:(dQ:Int)*(b1:Int)<=1000*1000:=Int.le_trans (Bq (by omega) (by omega)) (Oq (by omega) (by omega));have ea:IntKind.i64.wrap ((dQ:Int)*(b1:Int))=(dQ:Int)*b1:=db (by omega) (by omega);have ko:IntKind.i64.wrap (2+(dQ:Int)*b1)=2+(dQ:Int)*b1:=db (by omega) (by omega);have Bo:IntKind.i64.wrap (2+(dQ:Int)*b1+d)=2+(dQ:Int)*b1+d:=db (by omega) (by omega);unfold nI;simp[Q6,ajZ,ea,ko,Bo]
noncomputable def Ba:bF N:= .cM 129 (Nat×Nat×Nat) (λx=>x.1<=1000/\x.2.1<=1000/\x.2.2<=1000) (λx=>[.agg #[D x.1,D x.2.1],D x.2.2]) (λx=>D (nI x.1 x.2.1 x.2.2)) λ_ h=>auT h.1 h.2.1 h.2.2
@[simp] theorem aVD:Ba.f=129:=rfl
@[simp] theorem adb{dQ b1 d:Nat}(h:dQ<=1000/\b1<=1000/\d<=1000):Ba.fn [.agg #[D dQ,D b1],D d]=some (D (nI dQ b1 d)):=bF.dK (x:=(dQ,b1,d)) h λ⟨a,b,c⟩ Z=>by simp at Z⊢;omega
theorem auU{u:aL}{d:Nat}:nI u.a2.length u.aO.length d=dk u d:=rfl
theorem afL{l:List dm}{a:dm}:fA (l++[a])=fA l++gH a:=by simp[fA]
def rB(t:G)(q:Nat)(af aP C:Int)(l:List dm)(aR:List Nat):Prop:= ∃o,q≠o/\t.F q=some ⟨[D af,D aP,D C,.slice (some ⟨o,0,none⟩) l.length 4],true⟩/\t.F o=some ⟨fA l,true⟩/\ ∀b∈aR,b≠q/\b≠o/\b<t.next
theorem rB.bt{t X:G}{q:Nat}{af aP C:Int}{l:List dm}{aR uD:List Nat}(h:rB t q af aP C l aR)(aj:t.next<=X.next)(O: ∀b,b<t.next->X.F b=t.F b)(dH: ∀b∈uD,b∈aR\/(t.next<=b/\b<X.next)):rB X q af aP C l uD:=by
 obtain⟨o,A,E,ao,aS⟩:=h;have xU:=aF E;have bh:=aF ao;refine⟨o,A,by rw[O q xU];exact E,by rw[O o bh];exact ao,λb hb=> ?_⟩;rcases dH b hb with h|h
 ·have:=aS b h;exact⟨this.1,this.2.1,by omega⟩
 ·exact⟨by omega,by omega,h.2⟩
structure Js(t:G)(q:Nat)(af aP C:Int)(l:List dm)(aR:List Nat)(X:G):Prop where
 hJ:rB X q af aP C l aR
 next:t.next<=X.next
 dg: ∀b∈aR,X.F b=t.F b
theorem JJ{t:G}{q:Nat}{af aP C:Int}{l:List dm}{aR:List Nat}(h:rB t q af aP C l aR)(aA:l.length<=100000){f g c:Int}:
 fg N 183 [D f,D g,D c,.pointer (some ⟨q,0,none⟩)] t λv X=>v= .tuple #[]/\Js t q af aP C (l++[(dm.mk f g c 0)]) aR X:=by
 obtain⟨o,bx,hP,bw,dH⟩:=h;refine c3 (ay:=⟨[],[]⟩) akA (by kernel_rfl) (by simp[Rr]) ?_;have xU:=aF hP;have bh:=aF bw;have eQ:(l.length+1)*32<=140737488355328/\l.length<=9223372036854775806:=by omega
 have Hj: ¬o=q:= λe=>bx e.symm;simp(disch:=first|omega|simp only[DI.aw];omega) [Rr,akz,hP,bw,eQ,-ab,-ah,-aa,-ad,-List.map_map];have jG:List.take (l.length*4) (fA l)=fA l:=hx (by rw[BI];exact c8 _);have AS: ¬t.next+7=q:=by omega
 refine⟨⟨t.next+7,by omega,?_,?_,λb hb=> ?_⟩,by simp,λb hb=> ?_⟩
 ·rw[cb (by simp;omega)];simp
 ·rw[aX AS,cb (by simp),jG,afL];rfl
 ·have:=dH b hb;exact⟨this.1,by omega,by simp;omega⟩
 ·obtain⟨bB,cC,dO⟩:=dH b hb;rw[aX bB,aX (by omega),aX cC,aX (by omega),cl dO]
structure zU(u:aL)(R:List Int)(v:Nat)(p:h3)(l:List dm)(gv hO:Nat)(z:aD)(t:G):Prop where
 hJ:rB t 18 (nI u.a2.length u.aO.length u.aZ.length) 0 1 l [0,1,10,gv,hO]
 aM:t.F 0=some ⟨aI u,true⟩
 aE:t.F 1=some ⟨[D 0,D 0,D 0,.slice none 0 0],true⟩
 ng:t.F 10=some ⟨[D u.a2.length,D u.aO.length],true⟩
 ig:t.F gv=some ⟨dU p,true⟩
 eB:t.F hO=some ⟨fc u.cx.length λi=> .bool (decide ((i:Int)∈p.cx)),true⟩
 aT:z 1=bq R
 bY:z 2=bC 0
 dp:z 4=bC 1
 bo:z 6=bC 10
 cf:z 7=bC 18
 bm:z 8= .func (.func 183) #[] #[bC 18]
 cz:z 9=D v
 fr:z 11=bC gv
 fM:z 12=bN hO u.cx.length 1
 nY:z 41=ai (u.a2.map gD) 2
 oY:z 42=D u.a2.length
 lU:z 43=D v
def mw(u:aL)(cI:List dm)(v i:Nat):List dm:=cI++sw u v::(List.range (i-1)).map λj=>vO u v (j+1)
theorem VG{u:aL}{cI:List dm}{v i:Nat}(Y:1<=i):mw u cI v (i+1)=mw u cI v i++[vO u v i]:=by obtain⟨k,rfl⟩: ∃k,i=k+1:=⟨i-1,by omega⟩;simp[mw,By]
theorem VF{u:aL}{cI:List dm}{v i:Nat}:(mw u cI v i).length<=cI.length+1+i:=by simp[mw];omega
theorem rB.g{t:G}{q:Nat}{af aP C:Int}{l:List dm}{aR:List Nat}(h:rB t q af aP C l aR){b:Nat}(hb:b∈aR):b≠q/\b<t.next:=by obtain⟨o,_,_,_,aS⟩:=h;have:=aS b hb;exact⟨this.1,this.2.2⟩
theorem aEn{u:aL}(h:cL u){R:List Int}{v gv hO:Nat}{p:h3}(M:v<u.a2.length)(ae:u.dv[nW u v]?=some p){cI:List dm}(hg:cI.length<=50000){Q:cO->aD->G->Prop}{z:aD}{t:G}
 (b8:zU u R v p (mw u cI v 0) gv hO z t) (A8:z 80=ai (u.aO.map e6) 7) (zw:z 81=D u.aO.length) (A9:z 82=D 0) (a6: ∀K X,zU u R v p (mw u cI v u.aO.length) gv hO K X->Q (.cF 4) K X):ee N (.loop HG) z t Q:=by
 have eM:=h.ok.fp;have kH:=h.ok.iH;have bx:=h.ok.g3;obtain⟨jV,pe,_,_,wk,kv⟩:=IG h.ok M;rw[ae]at pe;cases pe;simp only[mI,a7,eF]at wk;obtain⟨ed,er,lA,CV,aEc,sU,AS,aoL,aoM,Is⟩:=wk;have ed:=nk ed;have er:=nk er;refine gP (ay:=⟨[IS],[]⟩) (λi z t=>zU u R v p (mw u cI v i) gv hO z t/\z 80=ai (u.aO.map e6) 7/\z 81=D u.aO.length/\z 82=D i) u.aO.length ?_ ?_ 0 z t (gd _) ⟨b8,A8,zw,A9⟩
 ·rintro i z t Y ⟨b8,A8,zw,A9⟩ bO a1;obtain⟨d,B⟩:=gM Y;have cQ:=(cN.1 B).2;have bA:(i:Int)<u.aO.length:=(by omega);have bp:=fB (n:=i) (by omega);have awM:=b8;obtain⟨hJ,aM,aE,ng,ig,eB,aT,bY,dp,bo,cf,bm,cz,fr,fM,nY,oY,lU⟩:=b8;have dN:=aF aM;have Tg:=aF ng;have FC:=aF ig;have nm:=aF eB;have pk:=hJ.g (b:=gv) (by simp);have dg: ∀(K:aD) (X:G) (c7:List dm),rB X 18 (nI u.a2.length u.aO.length u.aZ.length) 0 1 c7 [0,1,10,gv,hO]->(∀b∈[0,1,10,gv,hO],X.F b=t.F b)->(∀j,j∈[1,2,4,6,7,8,9,11,12,41,42,43]->K j=z j)->zU u R v p c7 gv hO K X:= λK X c7 a b c=>
   ⟨a,by rw[b 0 (by simp),aM],by rw[b 1 (by simp),aE],by rw[b 10 (by simp),ng],by rw[b gv (by simp),ig],by rw[b hO (by simp),eB],by rw[c 1 (by simp),aT],by rw[c 2 (by simp),bY],by rw[c 4 (by simp),dp],by rw[c 6 (by simp),bo],by rw[c 7 (by simp),cf],by rw[c 8 (by simp),bm],by rw[c 9 (by simp),cz],by rw[c 11 (by simp),fr],by rw[c 12 (by simp),fM],by rw[c 41 (by simp),nY],by rw[c 42 (by simp),oY],by rw[c 43 (by simp),lU]⟩
  have dA: ∀b∈[0,1,10,gv,hO],b<t.next:= λb hb=>(hJ.g hb).2
  by_cases c:i=0
  ·subst c;have aex:IntKind.i64.wrap 1=1:=db (by omega) (by omega);simp(disch:=first|omega|simp only[DI.aw];omega) [HG,A8,zw,A9,aex,cQ,Y,e6,-ab,-ah,-aa,-ad,-List.map_map];refine a1 _ _ ⟨dg _ _ _ (hJ.bt (by simp) (λb hb=>by rw[aX (by omega),cl hb]) λb hb=> .inl hb) (λb hb=>by have:=dA b hb;rw[aX (by omega),cl this]) (λj aV=> ?_),by simp[A8],by simp[zw],by simp⟩;have:j≠83/\j≠84/\j≠85/\j≠86/\j≠16/\j≠15/\j≠87/\j≠88/\j≠113/\j≠82:=by
    simp at aV;omega
   simp[k3,this]
  ·have JW: ¬(i:Int)=0:=(by omega);obtain⟨gI,hz,iT,tu,yy⟩:=h.ok.lq i d (by omega) B;obtain⟨P,gr⟩:=j0 gI;obtain⟨j1,En⟩:=j0 (by omega:0<=d.jR);have Cg:(u.a2.length<=1000/\1<=u.aO.length/\u.aO.length<=1000)/\v<=1000/\P<=1000:=(by omega);have P5:(u.a2.length<=1000/\1<=u.aO.length/\u.aO.length<=1000)/\v<=1000/\i<=1000:=(by omega);have cr:IntKind.i64.wrap (p.k+p.m)=p.k+p.m:=db (by omega) (by omega);have awF:j1<5:=(by omega);have KI:(j1:Int)<5:=(by omega);have dc:(dU p).length=17:=rfl;have KJ:4+j1+1<=17:=(by omega);have nP:List.take 1 (dU p).tail=[D p.k]:=rfl;have q1:(dU p)[2]?=some (D p.m):=rfl;have wc: ∀h,(dU p)[2]'h=D p.m:= λ_=>rfl;have rU:zc u v i=if s6 p.ay j1=0 then p.k+p.m else s6 p.ay j1:=by
    have e:hT u i=(j1:Int):=(by unfold hT;simp only[B,En]);unfold zc;simp only[ae,e]
   have Qm:kn u i=P:=(by unfold kn;simp only[B,gr,nB]);have EA:rB ((t.bU 6).aK (t.next+3) (some ⟨[gL d.name,D j1,D P,D d.iC,.bool d.pB.kx,b6 d.pB.a,b6 d.pB.b],true⟩)) 18 (nI u.a2.length u.aO.length u.aZ.length) 0 1 (mw u cI v i) [0,1,10,gv,hO]:=hJ.bt (by simp) (λb hb=>by rw[aX (by omega),cl hb]) λb hb=> .inl hb;have Xm:=VF (u:=u) (cI:=cI) (v:=v) (i:=i);have mW: ∀(K:aD) (X:G) (c:Int),c=zc u v i->Js ((t.bU 6).aK (t.next+3) (some ⟨[gL d.name,D j1,D P,D d.iC,.bool d.pB.kx,b6 d.pB.a,b6 d.pB.b],true⟩)) 18 (nI u.a2.length u.aO.length u.aZ.length) 0 1 (mw u cI v i++[(dm.mk (yB u.a2.length u.aO.length v P) (yB u.a2.length u.aO.length v i) c 0)]) [0,1,10,gv,hO] X->(∀j,j∈[1,2,4,6,7,8,9,11,12,41,42,43]->K j=z j)->zU u R v p (mw u cI v (i+1)) gv hO K X:= λK X c av eh aV=>by have e:mw u cI v (i+1)=mw u cI v i++[(dm.mk (yB u.a2.length u.aO.length v P) (yB u.a2.length u.aO.length v i) c 0)]:=(by rw[VG (by omega),vO,Qm,av];rfl);rw[e];exact dg _ _ _ eh.hJ (λb hb=>by rw[eh.dg b hb];have:=dA b hb;rw[aX (by omega),cl this]) aV
   have aQd:1<=j1:=(by omega);have v5:(dU p)[4+j1]?=some (D (s6 p.ay j1)):=(by obtain rfl|rfl|rfl|rfl:j1=1\/j1=2\/j1=3\/j1=4:=(by omega);all_goals rfl);have KZ: ∀h,(dU p)[4+j1]'h=D (s6 p.ay j1):= λh=>(cN.1 v5).2;by_cases cs:s6 p.ay j1=0
   ·simp(disch:=first|omega|simp only[DI.aw];omega) [HG,bo,bm,cz,fr,A8,zw,A9,bA,cr,cQ,c,e6,gr,En,ng,ig,KI,dc,KJ,nP,wc,KZ,cs,e1,-ab,-ah,-aa,-ad,-List.map_map];refine(JJ EA (by omega)).bt λr X ⟨ar,eh⟩=> ?_;subst ar;simp(disch:=first|omega|simp only[DI.aw];omega) [A9,bp,-ab,-ah,-aa,-ad,-List.map_map];refine a1 _ _ ⟨mW _ _ _ (by rw[rU,if_pos cs]) eh (λj aV=> ?_),by simp[A8],by simp[zw],by simp⟩;have:j≠83/\j≠84/\j≠85/\j≠86/\j≠16/\j≠15/\j≠17/\(j<87\/113<j)/\j≠82:=by
     simp at aV;omega
    obtain⟨xP,xQ,AM,Fl,Fm,Fo,Fp,MJ,Fq⟩:=this;have vb: ∀k,87<=k->k<=113->j≠k:= λk a b=>by omega
    simp[k3,xP,xQ,AM,Fl,Fm,Fo,Fp,Fq,vb]
   ·simp(disch:=first|omega|simp only[DI.aw];omega) [HG,bo,bm,cz,fr,A8,zw,A9,bA,cQ,c,e6,gr,En,ng,ig,KI,dc,KJ,KZ,cs,e1,-ab,-ah,-aa,-ad,-List.map_map];refine(JJ EA (by omega)).bt λr X ⟨ar,eh⟩=> ?_;subst ar;simp(disch:=first|omega|simp only[DI.aw];omega) [A9,bp,-ab,-ah,-aa,-ad,-List.map_map];refine a1 _ _ ⟨mW _ _ _ (by rw[rU,if_neg cs]) eh (λj aV=> ?_),by simp[A8],by simp[zw],by simp⟩;have:j≠83/\j≠84/\j≠85/\j≠86/\j≠16/\j≠15/\j≠17/\(j<87\/113<j)/\j≠82:=by
     simp at aV;omega
    obtain⟨xP,xQ,AM,Fl,Fm,Fo,Fp,MJ,Fq⟩:=this;have vb: ∀k,87<=k->k<=113->j≠k:= λk a b=>by omega
    simp[k3,xP,xQ,AM,Fl,Fm,Fo,Fp,Fq,vb]
 ·rintro z t ⟨b8,A8,zw,A9⟩;simp(disch:=first|omega|simp only[DI.aw];omega) [HG,zw,A9,-ab,-ah,-aa,-ad,-List.map_map];refine a6 _ _ ⟨b8.hJ,b8.aM,b8.aE,b8.ng,b8.ig,b8.eB,?_,?_,?_,?_,?_,?_,?_,?_,?_,?_,?_,?_⟩;all_goals simp[b8.aT,b8.bY,b8.dp,b8.bo,b8.cf,b8.bm,b8.cz,b8.fr,b8.fM,b8.nY,b8.oY,b8.lU]
def pw(u:aL)(cI:List dm)(v i:Nat):List dm:=mw u cI v u.aO.length++((List.range i).filter (pL u v)).map (uH u v)
theorem apT{u:aL}{cI:List dm}{v i:Nat}:pw u cI v (i+1)=pw u cI v i++if pL u v i then[uH u v i]else[]:=by unfold pw;rw[V6];split<;>simp
theorem apS{u:aL}{cI:List dm}{v i:Nat}:(pw u cI v i).length<=cI.length+1+u.aO.length+i:=by have:=VF (u:=u) (cI:=cI) (v:=v) (i:=u.aO.length);have:=On (pL u v) (List.range i);simp only[pw,iD,ll];simp only[Gy]at this;omega
theorem apR{u:aL}{cI:List dm}{v:Nat}:pw u cI v u.aZ.length=cI++qL u v:=by simp[pw,mw,qL]
theorem aEo{u:aL}(h:cL u){R:List Int}{v gv hO:Nat}{p:h3}(M:v<u.a2.length)(ae:u.dv[nW u v]?=some p){cI:List dm}(hg:cI.length<=50000){Q:cO->aD->G->Prop}{z:aD}{t:G}
 (b8:zU u R v p (pw u cI v 0) gv hO z t) (FY:z 115=ai (u.aZ.map fH) 3) (Da:z 116=D u.aZ.length) (FZ:z 117=D 0) (a6: ∀K X,zU u R v p (cI++qL u v) gv hO K X->Q (.cF 6) K X):ee N (.loop Lz) z t Q:=by
 have eM:=h.ok.fp;have hI:=h.ok.hj;have kH:=h.ok.iH;have bx:=h.ok.g3;refine gP (ay:=⟨[IS,Ba],[]⟩) (λi z t=>zU u R v p (pw u cI v i) gv hO z t/\z 115=ai (u.aZ.map fH) 3/\z 116=D u.aZ.length/\z 117=D i) u.aZ.length ?_ ?_ 0 z t (gd _) ⟨b8,FY,Da,FZ⟩
 ·rintro i z t Y ⟨b8,FY,Da,FZ⟩ bO a1;obtain⟨x,B⟩:=gM Y;have cQ:=(cN.1 B).2;obtain⟨br,bQ,a3,a4,fz⟩:=h.ok.tw i x B;obtain⟨W,dq⟩:=j0 br;obtain⟨g1,vY⟩:=j0 a3;have bA:(i:Int)<u.aZ.length:=(by omega);have bp:=fB (n:=i) (by omega);have awM:=b8;obtain⟨hJ,aM,aE,ng,ig,eB,aT,bY,dp,bo,cf,bm,cz,fr,fM,nY,oY,lU⟩:=b8;have dN:=aF aM;have Tg:=aF ng;have FC:=aF ig;have nm:=aF eB;have dg: ∀(K:aD) (X:G) (c7:List dm),rB X 18 (nI u.a2.length u.aO.length u.aZ.length) 0 1 c7 [0,1,10,gv,hO]->(∀b∈[0,1,10,gv,hO],X.F b=t.F b)->(∀j,j∈[1,2,4,6,7,8,9,11,12,41,42,43]->K j=z j)->zU u R v p c7 gv hO K X:= λK X c7 a b c=>
   ⟨a,by rw[b 0 (by simp),aM],by rw[b 1 (by simp),aE],by rw[b 10 (by simp),ng],by rw[b gv (by simp),ig],by rw[b hO (by simp),eB],by rw[c 1 (by simp),aT],by rw[c 2 (by simp),bY],by rw[c 4 (by simp),dp],by rw[c 6 (by simp),bo],by rw[c 7 (by simp),cf],by rw[c 8 (by simp),bm],by rw[c 9 (by simp),cz],by rw[c 11 (by simp),fr],by rw[c 12 (by simp),fM],by rw[c 41 (by simp),nY],by rw[c 42 (by simp),oY],by rw[c 43 (by simp),lU]⟩
  have dA: ∀b∈[0,1,10,gv,hO],b<t.next:= λb hb=>(hJ.g hb).2
  have rT:W<u.cx.length:=(by omega);have a9:(W:Int)<u.cx.length:=(by omega);have PU:W+1<=u.cx.length:=rT;have Cg:(u.a2.length<=1000/\1<=u.aO.length/\u.aO.length<=1000)/\v<=1000/\g1<=1000:=(by omega);have P5:u.a2.length<=1000/\u.aO.length<=1000/\i<=1000:=(by omega);have fw:pL u v i=decide ((W:Int)∈p.cx):=(by unfold pL;simp only[ae,B,dq]);have Cl:jb u i=g1:=(by unfold jb;simp only[B,vY,nB]);have yZ:(fc u.cx.length λi=>Value.bool (decide ((i:Int)∈p.cx)))[W]?=some (.bool (pL u v i)):=(by rw[rl rT,fw]);have aiM: ∀h,(fc u.cx.length λi=>Value.bool (decide ((i:Int)∈p.cx)))[W]'h= .bool (pL u v i):= λh=>(cN.1 yZ).2;have EA:rB ((t.bU 6).aK (t.next+3) (some ⟨[gL x.name,D W,D g1],true⟩)) 18 (nI u.a2.length u.aO.length u.aZ.length) 0 1 (pw u cI v i) [0,1,10,gv,hO]:=hJ.bt (by simp) (λb hb=>by rw[aX (by omega),cl hb]) λb hb=> .inl hb;have Xm:=apS (u:=u) (cI:=cI) (v:=v) (i:=i);have es:=apT (u:=u) (cI:=cI) (v:=v) (i:=i);cases hb:pL u v i
  ·rw[hb]at yZ aiM es;simp(disch:=first|omega|simp only[DI.aw];omega) [Lz,fM,FY,Da,FZ,bA,bp,cQ,fH,dq,vY,eB,a9,PU,yZ,e1,-ab,-ah,-aa,-ad,-List.map_map];refine a1 _ _ ⟨?_,by simp[FY],by simp[Da],by simp⟩;rw[es];simp only[jO,if_false,sl];refine dg _ _ _ EA (λb hb=>by have:=dA b hb;rw[aX (by omega),cl this]) (λj aV=> ?_);have:j≠18/\j≠19/\(j<117\/137<j):=(by simp at aV;omega);obtain⟨xP,xQ,AM⟩:=this;have vb: ∀k,117<=k->k<=137->j≠k:= λk a b=>by omega
   simp[k3,xP,xQ,vb]
  ·rw[hb]at yZ aiM es;simp(disch:=first|omega|simp only[DI.aw];omega) [Lz,bo,bm,cz,fM,FY,Da,FZ,bA,cQ,fH,dq,vY,eB,ng,a9,PU,yZ,e1];refine(JJ EA (by omega)).bt λr X ⟨ar,eh⟩=> ?_;subst ar;simp[FZ,bp];refine a1 _ _ ⟨?_,by simp[FY],by simp[Da],by simp⟩;rw[es];simp only[if_true];have nJ:uH u v i=dm.mk (yB u.a2.length u.aO.length v g1) (nI u.a2.length u.aO.length i) 1 0:=(by rw[uH,Cl];rfl);rw[nJ];refine dg _ _ _ eh.hJ (λb hb=>by rw[eh.dg b hb];have:=dA b hb;rw[aX (by omega),cl this]) (λj aV=> ?_);have:j≠18/\j≠19/\(j<117\/137<j):=(by simp at aV;omega);obtain⟨xP,xQ,AM⟩:=this;have vb: ∀k,117<=k->k<=137->j≠k:= λk a b=>by omega
   simp[k3,xP,xQ,vb]
 ·rintro z t ⟨b8,FY,Da,FZ⟩;rw[apR]at b8;simp[Lz,Da,FZ];refine a6 _ _ ⟨b8.hJ,b8.aM,b8.aE,b8.ng,b8.ig,b8.eB,?_,?_,?_,?_,?_,?_,?_,?_,?_,?_,?_,?_⟩;all_goals simp[b8.aT,b8.bY,b8.dp,b8.bo,b8.cf,b8.bm,b8.cz,b8.fr,b8.fM,b8.nY,b8.oY,b8.lU]
structure yo(u:aL)(R:List Int)(l:List dm)(z:aD)(t:G):Prop where
 hJ:rB t 18 (nI u.a2.length u.aO.length u.aZ.length) 0 1 l [0,1,10]
 aM:t.F 0=some ⟨aI u,true⟩
 aE:t.F 1=some ⟨[D 0,D 0,D 0,.slice none 0 0],true⟩
 ng:t.F 10=some ⟨[D u.a2.length,D u.aO.length],true⟩
 aT:z 1=bq R
 bY:z 2=bC 0
 dp:z 4=bC 1
 bo:z 6=bC 10
 cf:z 7=bC 18
 bm:z 8= .func (.func 183) #[] #[bC 18]
def n0(u:aL)(v:Nat):List dm:=(List.range v).flatMap (qL u)
theorem arK{u:aL}{v:Nat}:n0 u (v+1)=n0 u v++qL u v:=by simp[n0,By]
theorem aEm{ik:List Int}{eJ:Nat}(kU: ∀m∈ik,0<=m/\m<eJ)(aA:ik.length<=1000000){hO:Nat}{Q:cO->aD->G->Prop}{z:aD}{t:G}(fM:z 12=bN hO eJ 1)(eB:t.F hO=some ⟨fc eJ λ_=> .bool false,true⟩)(aqy:z 59=bq ik)(aqz:z 60=D ik.length)(Ny:z 61=D 0)
 (a6: ∀K X,(∀j,j<61->j≠14->K j=z j)->X.F hO=some ⟨fc eJ λi=> .bool (decide ((i:Int)∈ik)),true⟩->(∀b,b≠hO->X.F b=t.F b)->X.next=t.next->Q (.cF 2) K X):ee N (.loop QZ) z t Q:=by
 refine gP (ay:=⟨[],[]⟩) (λi bT bd=>(∀j,j<61->j≠14->bT j=z j)/\bd.F hO=some ⟨fc eJ λk=> .bool (decide ((k:Int)∈ik.take i)),true⟩/\(∀b,b≠hO->bd.F b=t.F b)/\bd.next=t.next/\bT 61=D i) ik.length ?_ ?_ 0 z t (gd _) ⟨λj _ _=>rfl,by simpa using eB,λb _=>rfl,rfl,Ny⟩
 ·rintro i bT bd Y ⟨H,Ai,O,aj,Ny⟩ bO a1;obtain⟨m,B⟩:=gM Y;have cQ:=(cN.1 B).2;obtain⟨ek,bn⟩:=kU m (fX B);obtain⟨W,rfl⟩:=j0 ek;have ae8:bT 12=bN hO eJ 1:=(H 12 (by decide) (by decide)).trans fM;have ass:bT 59=bq ik:=(H 59 (by decide) (by decide)).trans aqy;have afc:bT 60=D ik.length:=(H 60 (by decide) (by decide)).trans aqz;have bA:(i:Int)<ik.length:=(by omega);have rT:W<eJ:=(by omega);have PU:W+1<=eJ:=rT;have nm:=aF Ai;have bp:=fB (n:=i) (by omega);simp(disch:=first|omega|simp only[DI.aw];omega) [QZ,ae8,ass,afc,Ny,Ai,bA,bp,cQ,bn,PU,A3,-ab,-ah,-aa,-ad,-List.map_map];refine a1 _ _ ⟨λj aV B5=> ?_,?_,λb hb=>by rw[aX hb];exact O b hb,by simpa using aj,by simp⟩
  ·have: ∀k,61<=k->j≠k:= λk O=>by omega
   rw[<-H j aV B5];simp[k3,B5,this]
  ·rw[cb nm];congr 2;refine rk λk O=> ?_;rw[qF,B];by_cases e:k=W
   ·subst e;simp
   ·have:((k:Int)∈ik.take i++[(W:Int)])↔(k:Int)∈ik.take i:=(by simp;omega);simp only[Option.toList_some,this,w0 e,Bool.false_or]
 ·rintro bT bd ⟨H,Ai,O,aj,Ny⟩;have ass:bT 59=bq ik:=(H 59 (by decide) (by decide)).trans aqy;have afc:bT 60=D ik.length:=(H 60 (by decide) (by decide)).trans aqz;rw[mQ]at Ai;simp[QZ,afc,Ny];refine a6 _ _ (λj aV B5=> ?_) Ai O aj;have:j≠62:=(by omega);rw[<-H j aV B5];simp[k3,this]
theorem abY: ∀(n:Nat) (l:List Int),l.Nodup->(∀x∈l,0<=x/\x<n)->l.length<=n
 | 0,l,_,h=>by
   cases l with
   |nil=>exact c8 _
   |cons x l=>have:=h x (by simp);omega
 | n+1,l,aW,h=>by
   have A:=abY n (l.erase (n:Int)) (aW.erase _) λx B=>by
    have al:=List.mem_of_mem_erase B;have:=h x al;have bx:x≠(n:Int):= λe=>by subst e;exact(List.Nodup.mem_erase_iff aW).1 B|>.1 rfl
    omega
   have E:=List.length_erase (a:=(n:Int)) (l:=l);split at E<;>omega
theorem aEp{u:aL}(h:cL u){R:List Int}{Q:cO->aD->G->Prop}{z:aD}{t:G}(b8:yo u R [] z t)(nY:z 41=ai (u.a2.map gD) 2)(oY:z 42=D u.a2.length)(lU:z 43=D 0)
 (a6: ∀K X,yo u R (n0 u u.a2.length) K X->Q (.cF 0) K X):ee N (.loop Q0) z t Q:=by
 have eM:=h.ok.fp;have hI:=h.ok.hj;have kH:=h.ok.iH;have ma:=h.ok.eJ;have bx:=h.ok.g3;refine gP (ay:=⟨[IX],[]⟩) (λv z t=>yo u R (n0 u v) z t/\z 41=ai (u.a2.map gD) 2/\z 42=D u.a2.length/\z 43=D v) u.a2.length ?_ ?_ 0 z t (gd _) ⟨b8,nY,oY,lU⟩
 ·rintro v z t M ⟨b8,nY,oY,lU⟩ bO a1;obtain⟨hJ,aM,aE,ng,aT,bY,dp,bo,cf,bm⟩:=b8;obtain⟨x,B⟩:=gM M;have cQ:=(cN.1 B).2;obtain⟨p,ae,u1,hg,wk,kv⟩:=IG h.ok M;obtain⟨P,gr⟩:=j0 (h.ok.N9 v x B).1;have KP:nW u v=P:=(by unfold nW;simp only[B,gr,nB]);have oQ:=ae;rw[KP]at ae hg;have K8:=(cN.1 ae).2;obtain⟨_,aQF,Qi,wj⟩:=h.ok.qt P p ae;have dN:=aF aM;have hS:=aF aE;have Tg:=aF ng;have bA:(v:Int)<u.a2.length:=(by omega);have a9:(P:Int)<u.dv.length:=(by omega);have eQ:(u.cx.length:Int)*1<=140737488355328/\(u.cx.length:Int)<=140737488355328/\(u.cx.length:Int)<=9223372036854775807/\0<=(u.cx.length:Int)/\u.cx.length<=140737488355328:=(by omega);have bp:=fB (n:=v) (by omega);simp(disch:=first|omega|simp only[DI.aw];omega) [Q0,bY,nY,oY,lU,aM,aI,gD,dU,cQ,gr,K8,bA,a9,eQ];have dH: ∀b∈[0,1,10],b≠18/\b<t.next:= λb hb=>hJ.g hb
  have aSy:18<t.next:=by obtain⟨o,_,g,_⟩:=hJ;exact aF g
  obtain⟨DQ,Eo⟩: ∃DQ,DQ=(((((t.bU 6).aK (t.next+3) (some ⟨[gL x.name,D P],true⟩)).bU 8).aK (t.next+6+6) (some ⟨dU p,true⟩)).bU 5).aK (t.next+6+8+3) (some ⟨List.replicate u.cx.length (Value.bool false),true⟩):=⟨_,rfl⟩;have ka:DQ.next=t.next+6+8+5:=by rw[Eo];simp only[eT,fq]
  have jy: ∀b,b<t.next->DQ.F b=t.F b:= λb hb=>by rw[Eo,aX (by omega),cl (by simp only[eT,fq];omega),aX (by omega),cl (by simp only[eT,fq];omega),aX (by omega),cl hb]
  have aoP:=hJ.bt (X:=DQ) (uD:=[0,1,10,t.next+6+6,t.next+6+8+3]) (by omega) jy (λb hb=>by simp at hb⊢;omega);have ahJ:DQ.F (t.next+6+6)=some ⟨dU p,true⟩:=(by rw[Eo,aX (by omega),cl (by simp only[eT,fq];omega),cb (by simp only[eT,fq];omega)]);have ahz:DQ.F (t.next+6+8+3)=some ⟨fc u.cx.length λ_=> .bool false,true⟩:=(by rw[Eo,cb (by simp only[eT,fq];omega),TR]);have Kz:=(jy 0 dN).trans aM;have aws:=(jy 1 hS).trans aE;have awt:=(jy 10 Tg).trans ng;simp only[dU]at Eo;rw[<-Eo];clear Eo;obtain⟨gv,aiF⟩: ∃x,x=t.next+6+6:=⟨_,rfl⟩
  obtain⟨hO,ahV⟩: ∃x,x=t.next+6+8+3:=⟨_,rfl⟩
  rw[<-aiF,<-ahV]at aoP;rw[<-aiF]at ahJ⊢;rw[<-ahV]at ahz⊢;have aEh:hO≠gv:=(by omega);have Ty:hO≠0/\hO≠1/\hO≠10/\hO≠18:=(by omega);have rT:=abY u.cx.length p.cx wj Qi;refine aEm (ik:=p.cx) (eJ:=u.cx.length) Qi (by omega) (hO:=hO) (by simp) ahz (by simp) (by simp) (by simp) λbT bd H Ai O aj=> ?_;have je:bT 1=bq R:=(H 1 (by decide) (by decide)).trans (by simp[aT]);have kf:bT 2=bC 0:=(H 2 (by decide) (by decide)).trans (by simp[bY]);have z4:bT 4=bC 1:=(H 4 (by decide) (by decide)).trans (by simp[dp]);have tb:bT 6=bC 10:=(H 6 (by decide) (by decide)).trans (by simp[bo]);have Gs:bT 7=bC 18:=(H 7 (by decide) (by decide)).trans (by simp[cf]);have DE:bT 8= .func (.func 183) #[] #[bC 18]:=(H 8 (by decide) (by decide)).trans (by simp[bm]);have ast:bT 9=D v:=(H 9 (by decide) (by decide)).trans (by simp[]);have asp:bT 11=bC gv:=(H 11 (by decide) (by decide)).trans (by simp[]);have ae8:bT 12=bN hO u.cx.length 1:=(H 12 (by decide) (by decide)).trans (by simp[]);have aKL:bT 41=ai (u.a2.map gD) 2:=(H 41 (by decide) (by decide)).trans (by simp[nY]);have aKM:bT 42=D u.a2.length:=(H 42 (by decide) (by decide)).trans (by simp[oY]);have aKN:bT 43=D v:=(H 43 (by decide) (by decide)).trans (by simp[lU]);have aEl:rB bd 18 (nI u.a2.length u.aO.length u.aZ.length) 0 1 (n0 u v) [0,1,10,gv,hO]:=by obtain⟨o,aG,aN,ct,gC⟩:=aoP;have mx:=gC hO (by simp);exact⟨o,aG,by rw[O 18 (λe=>Ty.2.2.2 e.symm)];exact aN,by rw[O o (λe=>mx.2.1 e.symm)];exact ct,λb hb=>by rw[aj];exact gC b hb⟩
  have ahq:=(O 0 (λe=>Ty.1 e.symm)).trans Kz;have PF:=(O 1 (λe=>Ty.2.1 e.symm)).trans aws;have Wd:=(O 10 (λe=>Ty.2.2.1 e.symm)).trans awt;have PK:=(O gv (λe=>aEh e.symm)).trans ahJ;have an8:=aF ahq;have aSG:=aF Wd;have aTh:=aF PK;have nj:v<=1000:=(by omega);have dc:(dU p).length=17:=rfl;simp only[mI,a7,eF]at wk;obtain⟨ed,er,_⟩:=wk;have ed:=nk ed;have er:=nk er;have cr:IntKind.i64.wrap (p.k+p.m)=p.k+p.m:=db (by omega) (by omega);have wo:(n0 u v).length<=50000:=(by have:=GK h.ok v;show(n0 u v).length<=_;unfold n0;omega);simp only[dU]at PK;simp(disch:=first|omega|simp only[DI.aw];omega) [Yp,tb,DE,ast,asp,Wd,PK,cr,-ab,-ah,-aa,-ad,-List.map_map];refine(JJ aEl (by omega)).bt λr dR ⟨ar,eh⟩=> ?_;subst ar;have vc:dR.F 0=some ⟨aI u,true⟩:=(eh.dg 0 (by simp)).trans ahq;have bB:dR.F 1=some ⟨[D 0,D 0,D 0,.slice none 0 0],true⟩:=(eh.dg 1 (by simp)).trans PF;have Ft:dR.F 10=some ⟨[D u.a2.length,D u.aO.length],true⟩:=(eh.dg 10 (by simp)).trans Wd;have pk:dR.F gv=some ⟨dU p,true⟩:=(eh.dg gv (by simp)).trans PK;have aCN:dR.F hO=some ⟨fc u.cx.length λi=> .bool (decide ((i:Int)∈p.cx)),true⟩:=(eh.dg hO (by simp)).trans Ai;have ek:=aF vc;have nJ:sw u v=dm.mk 0 (2+v) (p.k+p.m) 0:=(by rw[sw,kv]);rw[<-nJ]at eh;simp[Yq,kf,vc,aI];refine aEn h (R:=R) M oQ (p:=p) (gv:=gv) (hO:=hO) wo ⟨by simpa[mw]using eh.hJ,vc,bB,Ft,pk,aCN,by simp[je],by simp[kf],by simp[z4],by simp[tb],by simp[Gs],by simp[DE],by simp[ast],by simp[asp],by simp[ae8],by simp[aKL],by simp[aKM],by simp[aKN]⟩ (by simp) (by simp) (by simp) λc2 dR kF=> ?_;have aha:=kF.aM;have kP:=kF.bY;have aTp:=aF aha;simp[Yr,kP,aha,aI];refine aEo h (R:=R) M oQ (p:=p) (gv:=gv) (hO:=hO) wo ⟨by simpa[pw]using kF.hJ,kF.aM,kF.aE,kF.ng,kF.ig,kF.eB,by simp[kF.aT],by simp[kF.bY],by simp[kF.dp],by simp[kF.bo],by simp[kF.cf],by simp[kF.bm],by simp[kF.cz],by simp[kF.fr],by simp[kF.fM],by simp[kF.nY],by simp[kF.oY],by simp[kF.lU]⟩ (by simp) (by simp) (by simp) λvK t3 oi=> ?_;have aKb:=oi.lU;simp[aKb,bp];refine a1 _ _ ⟨⟨?_,oi.aM,oi.aE,oi.ng,by simp[oi.aT],by simp[oi.bY],by simp[oi.dp],by simp[oi.bo],by simp[oi.cf],by simp[oi.bm]⟩,by simp[oi.nY],by simp[oi.oY],by simp⟩;rw[arK];exact oi.hJ.bt (c8 _) (λ_ _=>rfl) λb hb=> .inl (by simp at hb⊢;omega)
 ·rintro z t ⟨b8,nY,oY,lU⟩;simp[Q0,Yp,Yq,Yr,oY,lU];refine a6 _ _ ⟨b8.hJ,b8.aM,b8.aE,b8.ng,?_,?_,?_,?_,?_,?_⟩;all_goals simp[b8.aT,b8.bY,b8.dp,b8.bo,b8.cf,b8.bm]
def pO(u:aL)(R:List Int)(i:Nat):List dm:=n0 u u.a2.length++(List.range i).map (w7 u R)
theorem agX{u:aL}{R:List Int}{i:Nat}:pO u R (i+1)=pO u R i++[w7 u R i]:=by simp[pO,By]
theorem agW{u:aL}{R:List Int}:pO u R u.aZ.length=ef u R:=rfl
theorem aEq{u:aL}(h:cL u){R:List Int}{Q:cO->aD->G->Prop}{z:aD}{t:G}(b8:yo u R (pO u R 0) z t)(Nx:z 141=bq (kd u R))(IM:z 142=D u.aZ.length)(IN:z 143=D 0)
 (a6: ∀K X,yo u R (ef u R) K X->Q (.cF 8) K X):ee N (.loop Q1) z t Q:=by
 have eM:=h.ok.fp;have hI:=h.ok.hj;have kH:=h.ok.iH;have bx:=h.ok.g3;refine gP (ay:=⟨[Ba],[]⟩) (λi z t=>yo u R (pO u R i) z t/\z 141=bq (kd u R)/\z 142=D u.aZ.length/\z 143=D i) u.aZ.length ?_ ?_ 0 z t (gd _) ⟨b8,Nx,IM,IN⟩
 ·rintro i z t Y ⟨b8,Nx,IM,IN⟩ bO a1;obtain⟨hJ,aM,aE,ng,aT,bY,dp,bo,cf,bm⟩:=b8;have B:(kd u R)[i]?=some (iO u R i):=(by rw[A4,rl Y]);have cQ: ∀h,(kd u R)[i]'h=iO u R i:= λh=>(cN.1 B).2;have yT:(kd u R).length=u.aZ.length:=TS;have xw:i<(kd u R).length:=(by omega);have bA:(i:Int)<u.aZ.length:=(by omega);have bp:=fB (n:=i) (by omega);have Tg:=aF ng;have Cg:u.a2.length<=1000/\u.aO.length<=1000/\i<=1000:=(by omega);simp(disch:=first|omega|simp only[DI.aw];omega) [Q1,bo,bm,Nx,IM,IN,ng,bA,cQ,yT];have eW:(pO u R i).length<=100000:=by
   have:=GK h.ok u.a2.length;simp only[pO,n0,iD,ll,Gy];omega
  refine(JJ hJ eW).bt λr X ⟨ar,eh⟩=> ?_;subst ar;simp[IN,bp];have nJ:w7 u R i=dm.mk (nI u.a2.length u.aO.length i) 1 (iO u R i) 0:=rfl;rw[<-nJ]at eh;refine a1 _ _ ⟨⟨by rw[agX];exact eh.hJ,(eh.dg 0 (by simp)).trans aM,(eh.dg 1 (by simp)).trans aE,(eh.dg 10 (by simp)).trans ng,by simp[aT],by simp[bY],by simp[dp],by simp[bo],by simp[cf],by simp[bm]⟩,by simp[Nx],by simp[IM],by simp⟩
 ·rintro z t ⟨b8,Nx,IM,IN⟩;rw[agW]at b8;simp[Q1,IM,IN];refine a6 _ _ ⟨b8.hJ,b8.aM,b8.aE,b8.ng,?_,?_,?_,?_,?_,?_⟩;all_goals simp[b8.aT,b8.bY,b8.dp,b8.bo,b8.cf,b8.bm]
theorem aE7{u:aL}(h:cL u){R:List Int}:fg N 124 [.agg (aI u).toArray,bq R] fE λv bd=> ∃o,v= .tuple #[.agg #[D (hK u R).dF,D 0,D 1,bN o (ef u R).length 4],D 0]/\bd.F o=some ⟨fA (ef u R),true⟩:=by
 have M:=h.ok.zE;have eM:=h.ok.fp;have hI:=h.ok.hj;have kH:=h.ok.iH;have bx:=h.ok.g3;have eH:u.a2.length<=1000/\u.aO.length<=1000/\u.aZ.length<=1000:=by omega
 refine c3 (ay:=⟨[Dg u h.gl,IX,IS,Ba,adn u h],[]⟩) ajO (by kernel_rfl) (by simp[QY]) ?_;simp(disch:=first|omega|simp only[DI.aw];omega) [QY,ajN,aI,-ab,-ah,-aa,-ad,-List.map_map];refine zG (o:=18) (j:=3) (I:=4) (cs:=[D (nI u.a2.length u.aO.length u.aZ.length),D 0,D 1,.slice none 0 0]) (by simp(disch:=first|omega|simp only[DI.aw];omega) [-ab,-ah,-aa,-ad,-List.map_map]) rfl ?_;refine aEp h (R:=R) ⟨⟨20,by decide,?_,?_,λb hb=> ?_⟩,?_,?_,?_,by simp,by simp,by simp,by simp,by simp,by simp⟩ (by simp) (by simp) (by simp) λbT bd b8=> ?_
 ·simp(disch:=first|omega|simp only[DI.aw];omega) [-ab,-ah,-aa,-ad,-List.map_map]
 ·simp(disch:=first|omega|simp only[DI.aw];omega) [fA,-ab,-ah,-aa,-ad,-List.map_map]
 ·simp at hb⊢;rcases hb with rfl|rfl|rfl<;>simp
 ·simp(disch:=first|omega|simp only[DI.aw];omega) [aI,-ab,-ah,-aa,-ad,-List.map_map]
 ·simp(disch:=first|omega|simp only[DI.aw];omega) [-ab,-ah,-aa,-ad,-List.map_map]
 ·simp(disch:=first|omega|simp only[DI.aw];omega) [-ab,-ah,-aa,-ad,-List.map_map]
 have aM:=b8.aM;have ek:=aF aM;have h2:=b8.aT;have kP:=b8.bY;have yT:(kd u R).length=u.aZ.length:=TS;simp(disch:=first|omega|simp only[DI.aw];omega) [ajP,h2,kP,aM,aI,yT,-ab,-ah,-aa,-ad,-List.map_map];refine aEq h (R:=R) ⟨by simpa[pO]using b8.hJ,b8.aM,b8.aE,b8.ng,by simp[b8.aT],by simp[b8.bY],by simp[b8.dp],by simp[b8.bo],by simp[b8.cf],by simp[b8.bm]⟩ (by simp) (by simp) (by simp) λc2 dR kF=> ?_;obtain⟨o,aG,aN,ct,gC⟩:=kF.hJ;have bB:=kF.aE;have hS:=aF bB;have aC2:=aF aN;have wX:=kF.dp;have DB:=kF.cf;have abV:o≠1:= λe=>(gC 1 (by simp)).2.1 e.symm;simp(disch:=first|omega|simp only[DI.aw];omega) [ajQ,wX,DB,aN,bB,-ab,-ah,-aa,-ad,-List.map_map];refine⟨o,⟨rfl,rfl⟩,?_⟩;rw[aX abV];exact ct
theorem aE6{u:aL}(h:cL u){R:List Int}(t:G):fg N 124 [.agg (aI u).toArray,bq R] t λv X=>v= .tuple #[.agg #[D (hK u R).dF,D 0,D 1,bN t.next (ef u R).length 4],D 0]/\X=qv t.next [fA (ef u R)] (t.bU 1):=by
 refine aeO (n:=1) (r:= λk=> .tuple #[.agg #[D (hK u R).dF,D 0,D 1,bN k (ef u R).length 4],D 0]) (bs:= λ_=>[fA (ef u R)]) (λ_=>rfl) (λv M=>by simp at M;rcases M with rfl|rfl<;>rfl) ((aE7 h).bt λv bd ⟨o,M,aH⟩=>⟨[o],by simp,rfl,λk=>⟨?_,λi cs iu=> ?_⟩⟩) t
 ·rw[M];exact oa.arx (kq.cons (oa.Vi (kq.cons (.hy rfl) (kq.cons (.hy rfl) (kq.cons (.hy rfl) (kq.cons (.slice ⟨0,rfl,rfl⟩) kq.nil))))) (kq.cons (.hy rfl) kq.nil))
 ·cases i with
  | zero=>simp at iu;subst iu;refine⟨o,_,rfl,aH,kq.cells λv M=> ?_⟩;simp only[fA,Gz,gx]at M;obtain⟨r,⟨a,_,rfl⟩,ar⟩:=M;simp[gH]at ar;rcases ar with rfl|rfl|rfl|rfl<;>rfl
  |succ i=>simp at iu
noncomputable def QB(u:aL)(h:cL u):jg N:= .cM 124 (List Int) (λR=>[.agg (aI u).toArray,bq R]) (λR t=>some (.tuple #[.agg #[D (hK u R).dF,D 0,D 1,bN t.next (ef u R).length 4],D 0],qv t.next [fA (ef u R)] (t.bU 1))) λR t r X bV bu iF=>by cases bV;exact(aE6 h t).bt λr X ⟨a,b⟩=>by rw[a,b];exact iF
@[simp] theorem aQ5{u:aL}{h:cL u}:(QB u h).f=124:=rfl
@[simp] theorem aQ6{u:aL}{h:cL u}{R:List Int}{t:G}:(QB u h).fn [.agg #[D u.ext,ai (u.e7.map gE) 4,ai (u.cx.map gN) 4,ai (u.aO.map e6) 7,ai (u.aZ.map fH) 3,ai (u.dv.map dU) 17,ai (u.a2.map gD) 2],ai (R.map λx=>[D x]) 1] t=some (.tuple #[.agg #[D (hK u R).dF,D 0,D 1,bN t.next (ef u R).length 4],D 0],qv t.next [fA (ef u R)] (t.bU 1)):=jg.dK (x:=R) (t:=t) λy Z=>by
  have:y=R:=by simpa using Z
  rw[this]
theorem aGu{u:aL}(h:gf u){v i:Nat}(M:v<=1000)(Y:i<=1000):bP N 82 [.agg (aI u).toArray,D v,D i] (D (eO u v i)):=by
 have eM:=h.fp;have kH:=h.iH;have bx:=h.g3;refine dJ (c3 (ay:=⟨[],[]⟩) anf (by kernel_rfl) (by simp[Mx]) ?_);unfold eO;have aex:IntKind.i64.wrap (2+(v:Int))=2+v:=db (by omega) (by omega);by_cases c:i=0
 ·subst c;simp[Mx,ZQ,aI,aex]
 ·have JW: ¬(i:Int)=0:=(by omega);have bX:0<=(v:Int)*((u.aO.length:Int)-1):=DN (by omega) (by omega);have A:(v:Int)*((u.aO.length:Int)-1)<=1000*1000:=Int.le_trans (Bq (by omega) (by omega)) (Oq (by omega) (by omega));have bp:IntKind.i64.wrap (2+(u.a2.length:Int))=2+u.a2.length:=db (by omega) (by omega);have cr:IntKind.i64.wrap ((u.aO.length:Int)-1)=(u.aO.length:Int)-1:=db (by omega) (by omega);have ea:IntKind.i64.wrap ((v:Int)*((u.aO.length:Int)-1))=(v:Int)*((u.aO.length:Int)-1):=db (by omega) (by omega);have ko:IntKind.i64.wrap (2+(u.a2.length:Int)+(v:Int)*((u.aO.length:Int)-1))=2+(u.a2.length:Int)+(v:Int)*((u.aO.length:Int)-1):=db (by omega) (by omega);have Bo:IntKind.i64.wrap (2+(u.a2.length:Int)+(v:Int)*((u.aO.length:Int)-1)+i)=2+(u.a2.length:Int)+(v:Int)*((u.aO.length:Int)-1)+i:=db (by omega) (by omega);have Ob:IntKind.i64.wrap (2+(u.a2.length:Int)+(v:Int)*((u.aO.length:Int)-1)+i-1)=2+(u.a2.length:Int)+(v:Int)*((u.aO.length:Int)-1)+i-1:=db (by omega) (by omega);simp[Mx,ZQ,aI,c,bp,cr,ea,ko,Bo,Ob]
noncomputable def zz(u:aL)(h:gf u):bF N:= .cM 82 (Nat×Nat) (λx=>x.1<=1000/\x.2<=1000) (λx=>[.agg (aI u).toArray,D x.1,D x.2]) (λx=>D (eO u x.1 x.2)) λ_ B=>aGu h B.1 B.2
@[simp] theorem aWB{u:aL}{h:gf u}:(zz u h).f=82:=rfl
@[simp] theorem NJ{u:aL}{h:gf u}{v i:Nat}(B:v<=1000/\i<=1000):(zz u h).fn [.agg #[D u.ext,ai (u.e7.map gE) 4,ai (u.cx.map gN) 4,ai (u.aO.map e6) 7,ai (u.aZ.map fH) 3,ai (u.dv.map dU) 17,ai (u.a2.map gD) 2],D v,D i]=some (D (eO u v i)):=bF.dK (x:=(v,i)) B λ⟨a,b⟩ Z=>by simp at Z⊢;omega
theorem aHC{u:aL}{h:gf u}{v:Nat}(B:v<=1000):(zz u h).fn [.agg #[D u.ext,ai (u.e7.map gE) 4,ai (u.cx.map gN) 4,ai (u.aO.map e6) 7,ai (u.aZ.map fH) 3,ai (u.dv.map dU) 17,ai (u.a2.map gD) 2],D v,D 0]=some (D (2+v)):=NJ (i:=0) ⟨B,by omega⟩
theorem aF6{u:aL}(h:gf u){d:Nat}(aW:d<=1000):bP N 83 [.agg (aI u).toArray,D d] (D (dk u d)):=by have eM:=h.fp;have kH:=h.iH;refine dJ (c3 (ay:=⟨[],[]⟩) anh (by kernel_rfl) (by simp[SI]) ?_);have bX:0<=(u.a2.length:Int)*(u.aO.length:Int):=DN (by omega) (by omega);have A:(u.a2.length:Int)*(u.aO.length:Int)<=1000*1000:=Int.le_trans (Bq (by omega) (by omega)) (Oq (by omega) (by omega));have ea:IntKind.i64.wrap ((u.a2.length:Int)*(u.aO.length:Int))=(u.a2.length:Int)*u.aO.length:=db (by omega) (by omega);have ko:IntKind.i64.wrap (2+(u.a2.length:Int)*u.aO.length)=2+(u.a2.length:Int)*u.aO.length:=db (by omega) (by omega);have Bo:IntKind.i64.wrap (2+(u.a2.length:Int)*u.aO.length+d)=2+(u.a2.length:Int)*u.aO.length+d:=db (by omega) (by omega);unfold dk;simp[SI,ang,aI,ea,ko,Bo]
noncomputable def Dd(u:aL)(h:gf u):bF N:= .cM 83 Nat (λx=>x<=1000) (λx=>[.agg (aI u).toArray,D x]) (λx=>D (dk u x)) λ_ B=>aF6 h B
@[simp] theorem aWv{u:aL}{h:gf u}:(Dd u h).f=83:=rfl
@[simp] theorem adq{u:aL}{h:gf u}{d:Nat}(B:d<=1000):(Dd u h).fn [.agg #[D u.ext,ai (u.e7.map gE) 4,ai (u.cx.map gN) 4,ai (u.aO.map e6) 7,ai (u.aZ.map fH) 3,ai (u.dv.map dU) 17,ai (u.a2.map gD) 2],D d]=some (D (dk u d)):=bF.dK (x:=d) B λy Z=>by simp at Z⊢;omega
abbrev IF(p:h3):Value:= .agg #[gL p.name,D p.k,D p.m,D p.q,D p.ay.a,D p.ay.b,D p.ay.c,D p.ay.d,D p.ay.e,bq p.cx,iU p.py,.bool p.qB.kx,b6 p.qB.a,b6 p.qB.b,.bool p.ni.kx,b6 p.ni.a,b6 p.ni.b]
theorem aFT{u:aL}(h:cL u){v d:Nat}{p:h3}(M:v<u.a2.length)(ae:u.dv[nW u v]?=some p)(aW:d<u.aZ.length):bP N 130 [IF p,.agg (aI u).toArray,D d] (.bool (pL u v d)):=by
 have hI:=h.ok.hj;have ma:=h.ok.eJ;obtain⟨x,B⟩:=gM aW;have cQ:=(cN.1 B).2;obtain⟨br,bQ,_⟩:=h.ok.tw d x B;have fw:pL u v d=decide (x.model∈p.cx):=by unfold pL;simp only[ae,B]
 obtain⟨_,_,Qi,wj⟩:=h.ok.qt _ p ae;have rT:=abY u.cx.length p.cx wj Qi;have ah6:(d:Int)<u.aZ.length:=by omega
 refine dJ (c3 (ay:=⟨[],[]⟩) aj2 (by kernel_rfl) (by simp[Q7]) ?_);simp[Q7,aj1,aI];refine gP (ay:=⟨[],[]⟩) (λi z t=>x.model∉p.cx.take i/\t.F 0=some ⟨dU p,true⟩/\t.F 1=some ⟨aI u,true⟩/\z 2=D d/\z 3=bC 0/\z 4=bC 1/\z 7=D i) p.cx.length ?_ ?_ 0 _ _ (gd _) ⟨by simp,by simp[dU],by simp[aI],by simp,by simp,by simp,by simp⟩
 ·rintro i z t Y ⟨al,aM,aE,bY,bH,dp,cf⟩ bO a1;obtain⟨m,Z⟩:=gM Y;have ot:=(cN.1 Z).2;have bA:(i:Int)<p.cx.length:=(by omega);have bp:=fB (n:=i) (by omega);have dN:=aF aM;have hS:=aF aE;by_cases e:m=x.model
  ·have WI:pL u v d=true:=(by rw[fw];exact decide_eq_true (by rw[<-e];exact fX Z));simp(disch:=first|omega|simp only[DI.aw];omega) [Q8,LB,bY,bH,dp,cf,aM,aE,dU,aI,fH,bA,ot,cQ,ah6,e,WI]
  ·simp(disch:=first|omega|simp only[DI.aw];omega) [Q8,LB,bY,bH,dp,cf,aM,aE,dU,aI,fH,bA,bp,ot,cQ,ah6,e,-ab,-ah,-aa,-ad,-List.map_map];refine a1 _ _ ⟨?_,aM,aE,by simp[bY],by simp[bH],by simp[dp],by simp⟩;rw[qF,Z];simp only[Option.toList_some,jP,rz,not_or];exact⟨al,λh=>e h.symm⟩
 ·rintro z t ⟨al,aM,aE,bY,bH,dp,cf⟩;rw[mQ]at al;have WI:pL u v d=false:=(by rw[fw];exact w0 al);have dN:=aF aM;simp[Q8,LB,LB,bH,cf,aM,dU,WI]
noncomputable def adp(u:aL)(h:cL u)(v:Nat)(p:h3)(M:v<u.a2.length)(ae:u.dv[nW u v]?=some p):bF N:= .cM 130 Nat (λd=>d<u.aZ.length) (λd=>[IF p,.agg (aI u).toArray,D d]) (λd=> .bool (pL u v d)) λ_ aW=>aFT h M ae aW
@[simp] theorem aWr{u:aL}{h:cL u}{v:Nat}{p:h3}{M:v<u.a2.length}{ae:u.dv[nW u v]?=some p}:(adp u h v p M ae).f=130:=rfl
@[simp] theorem aWs{u:aL}{h:cL u}{v d:Nat}{p:h3}{M:v<u.a2.length}{ae:u.dv[nW u v]?=some p}(aW:d<u.aZ.length):(adp u h v p M ae).fn [IF p,.agg #[D u.ext,ai (u.e7.map gE) 4,ai (u.cx.map gN) 4,ai (u.aO.map e6) 7,ai (u.aZ.map fH) 3,ai (u.dv.map dU) 17,ai (u.a2.map gD) 2],D d]=some (.bool (pL u v d)):=bF.dK (x:=d) aW λy Z=>by simp at Z⊢;omega
theorem M1{t:G}{q o n a b:Nat}{af aP C:Int}{l:List dm}{aR:List Nat}{x:dm}{T:Option en}(bx:q≠o)(hP:t.F q=some ⟨[D af,D aP,D C,.slice (some ⟨o,0,none⟩) l.length 4],true⟩)(bw:t.F o=some ⟨fA l,true⟩)(dH: ∀b∈aR,b≠q/\b≠o/\b<t.next)(ag:a<n)(hb:b<n)(pa:a≠b):
 Js t q af aP C (l++[x]) aR (((((t.bU n).aK (t.next+a) T).aK o none).aK (t.next+b) (some ⟨fA l++gH x,true⟩)).aK q (some ⟨[D af,D aP,D C,.slice (some ⟨t.next+b,0,none⟩) (l.length+1) 4],true⟩)):=by
 have xU:=aF hP;have bh:=aF bw;refine⟨⟨t.next+b,by omega,?_,?_,λc av=> ?_⟩,by simp,λc av=> ?_⟩
 ·rw[cb (by simp;omega)];simp
 ·rw[aX (by omega),cb (by simp;omega),afL]
 ·have:=dH c av;exact⟨this.1,by omega,by simp;omega⟩
 ·obtain⟨bB,cC,dO⟩:=dH c av;rw[aX bB,aX (by omega),aX cC,aX (by omega),cl dO]
structure vM(u:aL)(R:List Int)(v:Nat)(p:h3)(l:List dm)(gv:Nat)(z:aD)(t:G):Prop where
 hJ:rB t 9 (dk u u.aZ.length) 0 1 l [0,1,gv]
 aM:t.F 0=some ⟨aI u,true⟩
 aE:t.F 1=some ⟨[D 0,D 0,D 0,.slice none 0 0],true⟩
 ig:t.F gv=some ⟨dU p,true⟩
 aT:z 1=bq R
 bY:z 2=bC 0
 dp:z 4=bC 1
 bo:z 6=bC 9
 cf:z 7=D v
 bm:z 8=bC gv
theorem vM.step{u:aL}{R:List Int}{v:Nat}{p:h3}{l c7:List dm}{gv:Nat}{z K:aD}{t X:G}(h:vM u R v p l gv z t)(eh:Js t 9 (dk u u.aZ.length) 0 1 c7 [0,1,gv] X)(H: ∀j,j∈[1,2,4,6,7,8]->K j=z j):vM u R v p c7 gv K X:=
 ⟨eh.hJ,(eh.dg 0 (by simp)).trans h.aM,(eh.dg 1 (by simp)).trans h.aE,(eh.dg gv (by simp)).trans h.ig,(H 1 (by simp)).trans h.aT,(H 2 (by simp)).trans h.bY,(H 4 (by simp)).trans h.dp,(H 6 (by simp)).trans h.bo,(H 7 (by simp)).trans h.cf,(H 8 (by simp)).trans h.bm⟩
theorem vM.yd{u:aL}{R:List Int}{v:Nat}{p:h3}{l:List dm}{gv:Nat}{z K:aD}{t:G}(h:vM u R v p l gv z t)(H: ∀j,j∈[1,2,4,6,7,8]->K j=z j):vM u R v p l gv K t:=
 h.step ⟨h.hJ,c8 _,λ_ _=>rfl⟩ H
theorem aGo{u:aL}(h:cL u){R:List Int}{v gv:Nat}{p:h3}(M:v<u.a2.length)(ae:u.dv[nW u v]?=some p){cI:List dm}(hg:cI.length<=50000){Q:cO->aD->G->Prop}{z:aD}{t:G}
 (b8:vM u R v p (mw u cI v 1) gv z t) (cz:z 9=D 1) (a6: ∀K X,vM u R v p (mw u cI v u.aO.length) gv K X->Q (.cF 2) K X):ee N (.loop Mv) z t Q:=by
 have eM:=h.ok.fp;have kH:=h.ok.iH;have bx:=h.ok.g3;obtain⟨jV,pe,_,_,wk,kv⟩:=IG h.ok M;rw[ae]at pe;cases pe;simp only[mI,a7,eF]at wk;obtain⟨ed,er,lA,CV,aEc,sU,AS,aoL,aoM,Is⟩:=wk;have ed:=nk ed;have er:=nk er;refine gP (ay:=⟨[zz u h.ok],[]⟩) (λi z t=>1<=i/\vM u R v p (mw u cI v i) gv z t/\z 9=D i) u.aO.length ?_ ?_ 1 z t bx ⟨c8 _,b8,cz⟩
 ·rintro i z t Y ⟨A,b8,cz⟩ bO a1;obtain⟨d,B⟩:=gM Y;have cQ:=(cN.1 B).2;have bA:(i:Int)<u.aO.length:=(by omega);have bp:=fB (n:=i) (by omega);obtain⟨hJ,aM,aE,ig,aT,bY,dp,bo,cf,bm⟩:=id b8;obtain⟨o,kj,hP,bw,dH⟩:=hJ;have dN:=aF aM;have FC:=aF ig;have xU:=aF hP;have bh:=aF bw;obtain⟨gI,hz,iT,tu,yy⟩:=h.ok.lq i d (by omega) B;obtain⟨P,gr⟩:=j0 gI;obtain⟨j1,En⟩:=j0 (by omega:0<=d.jR);have Cg:v<=1000/\P<=1000:=(by omega);have P5:v<=1000/\i<=1000:=(by omega);have cr:IntKind.i64.wrap (p.k+p.m)=p.k+p.m:=db (by omega) (by omega);have awF:j1<5:=(by omega);have KI:(j1:Int)<5:=(by omega);have dc:(dU p).length=17:=rfl;have KJ:4+j1+1<=17:=(by omega);have nP:List.take 1 (dU p).tail=[D p.k]:=rfl;have q1:(dU p)[2]?=some (D p.m):=rfl;have wc: ∀h,(dU p)[2]'h=D p.m:= λ_=>rfl;have v5:(dU p)[4+j1]?=some (D (s6 p.ay j1)):=by
   obtain rfl|rfl|rfl|rfl:j1=1\/j1=2\/j1=3\/j1=4:=(by omega);all_goals rfl
  have KZ: ∀h,(dU p)[4+j1]'h=D (s6 p.ay j1):= λh=>(cN.1 v5).2;have rU:zc u v i=if s6 p.ay j1=0 then p.k+p.m else s6 p.ay j1:=by have e:hT u i=(j1:Int):=(by unfold hT;simp only[B,En]);unfold zc;simp only[ae,e]
  have Qm:kn u i=P:=(by unfold kn;simp only[B,gr,nB]);have Xm:=VF (u:=u) (cI:=cI) (v:=v) (i:=i);have eQ:((mw u cI v i).length+1)*32<=140737488355328/\(mw u cI v i).length<=9223372036854775806:=(by omega);have jG:List.take ((mw u cI v i).length*4) (fA (mw u cI v i))=fA (mw u cI v i):=hx (by rw[BI];exact c8 _);have Xf: ¬o=9:= λe=>kj e.symm;have Xg: ¬9=o:=kj;have ho: ¬gv=o:=(dH gv (by simp)).2.1;have aG: ¬(0:Nat)=o:=(dH 0 (by simp)).2.1;by_cases cs:s6 p.ay j1=0
  ·simp(disch:=first|omega|simp only[DI.aw];omega) [Mv,bY,bo,cf,bm,cz,bA,bp,cr,cQ,e6,gr,En,aI,aM,ig,hP,bw,KI,dc,KJ,nP,wc,KZ,cs,e1,eQ,jG];have nJ:vO u v i=dm.mk (eO u v P) (eO u v i) (p.k+p.m) 0:=(by rw[vO,Qm,rU,if_pos cs]);refine a1 _ _ ⟨by omega,?_,by simp⟩;rw[VG A,nJ];refine b8.step (M1 (x:=dm.mk (eO u v P) (eO u v i) (p.k+p.m) 0) kj hP bw dH ?_ ?_ ?_) (λj aV=> ?_)
   ·decide
   ·decide
   ·decide
   ·simp at aV;rcases aV with rfl|rfl|rfl|rfl|rfl|rfl<;>simp
  ·simp(disch:=first|omega|simp only[DI.aw];omega) [Mv,bY,bo,cf,bm,cz,bA,bp,cQ,e6,gr,En,aI,aM,ig,hP,bw,KI,dc,KJ,KZ,cs,e1,eQ,jG];have nJ:vO u v i=dm.mk (eO u v P) (eO u v i) (s6 p.ay j1) 0:=(by rw[vO,Qm,rU,if_neg cs]);refine a1 _ _ ⟨by omega,?_,by simp⟩;rw[VG A,nJ];refine b8.step (M1 (x:=dm.mk (eO u v P) (eO u v i) (s6 p.ay j1) 0) kj hP bw dH ?_ ?_ ?_) (λj aV=> ?_)
   ·decide
   ·decide
   ·decide
   ·simp at aV;rcases aV with rfl|rfl|rfl|rfl|rfl|rfl<;>simp
 ·rintro z t ⟨A,b8,cz⟩;obtain⟨hJ,aM,aE,ig,aT,bY,dp,bo,cf,bm⟩:=id b8;have dN:=aF aM;simp[Mv,bY,cz,aM,aI];exact a6 _ _ (b8.yd λj aV=>by simp at aV;rcases aV with rfl|rfl|rfl|rfl|rfl|rfl<;>simp)
theorem aGp{u:aL}(h:cL u){R:List Int}{v gv:Nat}{p:h3}(M:v<u.a2.length)(ae:u.dv[nW u v]?=some p){cI:List dm}(hg:cI.length<=50000){Q:cO->aD->G->Prop}{z:aD}{t:G}
 (b8:vM u R v p (pw u cI v 0) gv z t) (fr:z 11=D 0) (a6: ∀K X,vM u R v p (cI++qL u v) gv K X->Q (.cF 4) K X):ee N (.loop Mw) z t Q:=by
 have eM:=h.ok.fp;have hI:=h.ok.hj;have kH:=h.ok.iH;have bx:=h.ok.g3;refine gP (ay:=⟨[zz u h.ok,Dd u h.ok,adp u h v p M ae],[]⟩) (λi z t=>vM u R v p (pw u cI v i) gv z t/\z 11=D i) u.aZ.length ?_ ?_ 0 z t (gd _) ⟨b8,fr⟩
 ·rintro i z t Y ⟨b8,fr⟩ bO a1;obtain⟨x,B⟩:=gM Y;have cQ:=(cN.1 B).2;obtain⟨br,bQ,a3,a4,fz⟩:=h.ok.tw i x B;obtain⟨g1,vY⟩:=j0 a3;have Cl:jb u i=g1:=(by unfold jb;simp only[B,vY,nB]);have bA:(i:Int)<u.aZ.length:=(by omega);have bp:=fB (n:=i) (by omega);obtain⟨hJ,aM,aE,ig,aT,bY,dp,bo,cf,bm⟩:=id b8;obtain⟨o,kj,hP,bw,dH⟩:=hJ;have dN:=aF aM;have FC:=aF ig;have xU:=aF hP;have bh:=aF bw;have Cg:v<=1000/\g1<=1000:=(by omega);have P5:i<=1000:=(by omega);have dc:(dU p).length=17:=rfl;have Xm:=apS (u:=u) (cI:=cI) (v:=v) (i:=i);have eQ:((pw u cI v i).length+1)*32<=140737488355328/\(pw u cI v i).length<=9223372036854775806:=(by omega);have jG:List.take ((pw u cI v i).length*4) (fA (pw u cI v i))=fA (pw u cI v i):=hx (by rw[BI];exact c8 _);have Xf: ¬o=9:= λe=>kj e.symm;have Xg: ¬9=o:=kj;have ho: ¬gv=o:=(dH gv (by simp)).2.1;have aG: ¬(0:Nat)=o:=(dH 0 (by simp)).2.1;have es:=apT (u:=u) (cI:=cI) (v:=v) (i:=i);simp only[dU]at ig;cases hb:pL u v i
  ·rw[hb]at es;simp(disch:=omega) [Mw,bY,bm,fr,bA,bp,aI,aM,ig,hb];refine a1 _ _ ⟨?_,by simp⟩;rw[es];simp only[jO,if_false,sl];exact b8.yd λj aV=>by simp at aV;rcases aV with rfl|rfl|rfl|rfl|rfl|rfl<;>simp
  ·rw[hb]at es;simp(disch:=first|omega|simp only[DI.aw];omega) [Mw,bY,bo,cf,bm,fr,bA,bp,cQ,fH,vY,aI,aM,ig,hP,bw,hb,eQ,jG];have nJ:uH u v i=dm.mk (eO u v g1) (dk u i) 1 0:=(by rw[uH,Cl]);refine a1 _ _ ⟨?_,by simp⟩;rw[es,nJ];simp only[if_true];refine b8.step (M1 (x:=dm.mk (eO u v g1) (dk u i) 1 0) kj hP bw dH ?_ ?_ ?_) (λj aV=> ?_)
   ·decide
   ·decide
   ·decide
   ·simp at aV;rcases aV with rfl|rfl|rfl|rfl|rfl|rfl<;>simp
 ·rintro z t ⟨b8,fr⟩;rw[apR]at b8;obtain⟨hJ,aM,aE,ig,aT,bY,dp,bo,cf,bm⟩:=id b8;have dN:=aF aM;simp[Mw,bY,fr,aM,aI];exact a6 _ _ (b8.yd λj aV=>by simp at aV;rcases aV with rfl|rfl|rfl|rfl|rfl|rfl<;>simp)
structure zX(u:aL)(R:List Int)(l:List dm)(z:aD)(t:G):Prop where
 hJ:rB t 9 (dk u u.aZ.length) 0 1 l [0,1]
 aM:t.F 0=some ⟨aI u,true⟩
 aE:t.F 1=some ⟨[D 0,D 0,D 0,.slice none 0 0],true⟩
 aT:z 1=bq R
 bY:z 2=bC 0
 dp:z 4=bC 1
 bo:z 6=bC 9
theorem zX.step{u:aL}{R:List Int}{l c7:List dm}{z K:aD}{t X:G}(h:zX u R l z t)(eh:Js t 9 (dk u u.aZ.length) 0 1 c7 [0,1] X)(H: ∀j,j∈[1,2,4,6]->K j=z j):zX u R c7 K X:=
 ⟨eh.hJ,(eh.dg 0 (by simp)).trans h.aM,(eh.dg 1 (by simp)).trans h.aE,(H 1 (by simp)).trans h.aT,(H 2 (by simp)).trans h.bY,(H 4 (by simp)).trans h.dp,(H 6 (by simp)).trans h.bo⟩
theorem aGq{u:aL}(h:cL u){R:List Int}{Q:cO->aD->G->Prop}{z:aD}{t:G}(b8:zX u R [] z t)(cf:z 7=D 0)
 (a6: ∀K X,zX u R (n0 u u.a2.length) K X->Q (.cF 0) K X):ee N (.loop SG) z t Q:=by
 have eM:=h.ok.fp;have hI:=h.ok.hj;have kH:=h.ok.iH;have bx:=h.ok.g3;refine gP (ay:=⟨[zz u h.ok],[]⟩) (λv z t=>zX u R (n0 u v) z t/\z 7=D v) u.a2.length ?_ ?_ 0 z t (gd _) ⟨b8,cf⟩
 ·rintro v z t M ⟨b8,cf⟩ bO a1;obtain⟨hJ,aM,aE,aT,bY,dp,bo⟩:=id b8;obtain⟨o,kj,hP,bw,dH⟩:=hJ;obtain⟨x,B⟩:=gM M;have cQ:=(cN.1 B).2;obtain⟨p,ae,u1,hg,wk,kv⟩:=IG h.ok M;obtain⟨P,gr⟩:=j0 (h.ok.N9 v x B).1;have KP:nW u v=P:=(by unfold nW;simp only[B,gr,nB]);have oQ:=ae;rw[KP]at ae hg;have K8:=(cN.1 ae).2;have dN:=aF aM;have hS:=aF aE;have xU:=aF hP;have bh:=aF bw;have bA:(v:Int)<u.a2.length:=(by omega);have a9:(P:Int)<u.dv.length:=(by omega);have bp:=fB (n:=v) (by omega);simp only[mI,a7,eF]at wk;obtain⟨ed,er,_⟩:=wk;have ed:=nk ed;have er:=nk er;have cr:IntKind.i64.wrap (p.k+p.m)=p.k+p.m:=db (by omega) (by omega);have wo:(n0 u v).length<=50000:=(by have:=GK h.ok v;unfold n0;omega);have eQ:((n0 u v).length+1)*32<=140737488355328/\(n0 u v).length<=9223372036854775806:=(by omega);have jG:List.take ((n0 u v).length*4) (fA (n0 u v))=fA (n0 u v):=hx (by rw[BI];exact c8 _);have Xf: ¬o=9:= λe=>kj e.symm;have Xg: ¬9=o:=kj;have aG: ¬(0:Nat)=o:=(dH 0 (by simp)).2.1;have sH:=aHC (u:=u) (h:=h.ok) (v:=v) (by omega);simp(disch:=first|omega|simp only[DI.aw];omega) [SG,bY,bo,cf,bA,a9,cr,cQ,K8,gr,gD,dU,aI,aM,hP,bw,sH,eQ,jG,-ab,-ah,-aa,-ad,-List.map_map];obtain⟨bd,ql⟩: ∃bd,bd=(t.bU 12).aK (t.next+10) (some ⟨dU p,true⟩):=⟨_,rfl⟩;have bB: ∀b,b<t.next->bd.F b=t.F b:= λb hb=>by rw[ql,aX (by omega),cl hb]
  have aEH:bd.next=t.next+12:=by rw[ql];simp
  have uU: ∀b∈[0,1,t.next+10],b≠9/\b≠o/\b<bd.next:= λb hb=>by
   simp at hb;rcases hb with rfl|rfl|rfl
   ·have:=dH 0 (by simp);omega
   ·have:=dH 1 (by simp);omega
   ·omega
  have eh:=M1 (t:=bd) (n:=15) (a:=11) (b:=12) (aR:=[0,1,t.next+10]) (x:=dm.mk 0 (2+v) (p.k+p.m) 0) (T:=some ⟨[D 0,D (2+v),D (p.k+p.m),D 0],true⟩) kj ((bB 9 xU).trans hP) ((bB o bh).trans bw) uU (by decide) (by decide) (by decide);have jv:bd.F 0=some ⟨aI u,true⟩:=(bB 0 dN).trans aM;have ck:bd.F 1=some ⟨[D 0,D 0,D 0,.slice none 0 0],true⟩:=(bB 1 hS).trans aE;have GY:bd.F (t.next+10)=some ⟨dU p,true⟩:=(by rw[ql,cb (by simp)]);rw[aEH,ql]at eh;rw[ql]at jv ck GY;have nJ:sw u v=dm.mk 0 (2+v) (p.k+p.m) 0:=(by rw[sw,kv]);simp only[dU,gH]at eh jv ck GY;have KU:=(eh.dg 0 (by simp)).trans jv;have WE:=(eh.dg 1 (by simp)).trans ck;have P1:=(eh.dg (t.next+10) (by simp)).trans GY;have ahW:=eh.hJ;rw[<-nJ]at ahW;simp(disch:=first|omega|simp only[DI.aw];omega) [ZO,-ab,-ah,-aa,-ad,-List.map_map];refine aGo h (R:=R) M oQ (p:=p) (gv:=t.next+10) wo ⟨by simpa[mw]using ahW,KU,WE,P1,by simp[aT],by simp[bY],by simp[dp],by simp[bo],by simp[cf],by simp⟩ (by simp) λc2 dR kF=> ?_;simp(disch:=omega) [ZP];refine aGp h (R:=R) M oQ (p:=p) (gv:=t.next+10) wo (by have e:pw u (n0 u v) v 0=mw u (n0 u v) v u.aO.length:=(by simp[pw]);rw[e];exact kF.yd λj aV=>by simp at aV;rcases aV with rfl|rfl|rfl|rfl|rfl|rfl<;>simp) (by simp) λvK t3 oi=> ?_;have DB:=oi.cf;simp(disch:=omega) [DB,bp];refine a1 _ _ ⟨⟨?_,oi.aM,oi.aE,by simp[oi.aT],by simp[oi.bY],by simp[oi.dp],by simp[oi.bo]⟩,by simp⟩;rw[arK];exact oi.hJ.bt (c8 _) (λ_ _=>rfl) λb hb=> .inl (by simp at hb⊢;omega)
 ·rintro z t ⟨b8,cf⟩;obtain⟨hJ,aM,aE,aT,bY,dp,bo⟩:=id b8;have dN:=aF aM;simp(disch:=omega) [SG,ZO,ZP,bY,cf,aM,aI];exact a6 _ _ (b8.step ⟨hJ,c8 _,λ_ _=>rfl⟩ λj aV=>by simp at aV;rcases aV with rfl|rfl|rfl|rfl<;>simp)
theorem aGr{u:aL}(h:cL u){R:List Int}{Q:cO->aD->G->Prop}{z:aD}{t:G}(b8:zX u R (pO u R 0) z t)(fM:z 12=bq (kd u R))(pA:z 13=D 0)
 (a6: ∀K X,zX u R (ef u R) K X->Q (.cF 6) K X):ee N (.loop SH) z t Q:=by
 have eM:=h.ok.fp;have hI:=h.ok.hj;have kH:=h.ok.iH;have bx:=h.ok.g3;refine gP (ay:=⟨[Dd u h.ok],[]⟩) (λi z t=>zX u R (pO u R i) z t/\z 12=bq (kd u R)/\z 13=D i) u.aZ.length ?_ ?_ 0 z t (gd _) ⟨b8,fM,pA⟩
 ·rintro i z t Y ⟨b8,fM,pA⟩ bO a1;obtain⟨hJ,aM,aE,aT,bY,dp,bo⟩:=id b8;obtain⟨o,kj,hP,bw,dH⟩:=hJ;have B:(kd u R)[i]?=some (iO u R i):=(by rw[A4,rl Y]);have cQ: ∀h,(kd u R)[i]'h=iO u R i:= λh=>(cN.1 B).2;have yT:(kd u R).length=u.aZ.length:=TS;have xw:i<(kd u R).length:=(by omega);have bA:(i:Int)<u.aZ.length:=(by omega);have bp:=fB (n:=i) (by omega);have dN:=aF aM;have xU:=aF hP;have bh:=aF bw;have P5:i<=1000:=(by omega);have eW:(pO u R i).length<=100000:=by
   have:=GK h.ok u.a2.length;simp only[pO,n0,iD,ll,Gy];omega
  have eQ:((pO u R i).length+1)*32<=140737488355328/\(pO u R i).length<=9223372036854775806:=(by omega);have jG:List.take ((pO u R i).length*4) (fA (pO u R i))=fA (pO u R i):=hx (by rw[BI];exact c8 _);have Xf: ¬o=9:= λe=>kj e.symm;have Xg: ¬9=o:=kj;have aG: ¬(0:Nat)=o:=(dH 0 (by simp)).2.1;simp(disch:=first|omega|simp only[DI.aw];omega) [SH,bY,bo,fM,pA,bA,bp,cQ,yT,aI,aM,hP,bw,eQ,jG];have nJ:w7 u R i=dm.mk (dk u i) 1 (iO u R i) 0:=rfl;refine a1 _ _ ⟨?_,by simp[fM],by simp⟩;rw[agX,nJ];refine b8.step (M1 (x:=dm.mk (dk u i) 1 (iO u R i) 0) kj hP bw dH ?_ ?_ ?_) (λj aV=> ?_)
  ·decide
  ·decide
  ·decide
  ·simp at aV;rcases aV with rfl|rfl|rfl|rfl<;>simp
 ·rintro z t ⟨b8,fM,pA⟩;rw[agW]at b8;obtain⟨hJ,aM,aE,aT,bY,dp,bo⟩:=id b8;have dN:=aF aM;simp[SH,bY,pA,aM,aI];exact a6 _ _ (b8.step ⟨hJ,c8 _,λ_ _=>rfl⟩ λj aV=>by simp at aV;rcases aV with rfl|rfl|rfl|rfl<;>simp)
theorem aGt{u:aL}(h:cL u){R:List Int}:fg N 81 [.agg (aI u).toArray,bq R] fE λv bd=> ∃o,v= .tuple #[.agg #[D (hK u R).dF,D 0,D 1,bN o (ef u R).length 4],D 0]/\bd.F o=some ⟨fA (ef u R),true⟩:=by
 have M:=h.ok.zE;have eM:=h.ok.fp;have hI:=h.ok.hj;have kH:=h.ok.iH;have bx:=h.ok.g3;have eH:u.a2.length<=1000/\u.aO.length<=1000/\u.aZ.length<=1000:=by omega
 refine c3 (ay:=⟨[Df u h.gl,zz u h.ok,Dd u h.ok,adt u h],[]⟩) anb (by kernel_rfl) (by simp[SF]) ?_;simp(disch:=first|omega|simp only[DI.aw];omega) [SF,ana,aI,-ab,-ah,-aa,-ad,-List.map_map];refine zG (o:=9) (j:=3) (I:=4) (cs:=[D (dk u u.aZ.length),D 0,D 1,.slice none 0 0]) (by simp(disch:=first|omega|simp only[DI.aw];omega) [-ab,-ah,-aa,-ad,-List.map_map]) rfl ?_;refine aGq h (R:=R) ⟨⟨11,by decide,?_,?_,λb hb=> ?_⟩,?_,?_,by simp,by simp,by simp,by simp⟩ (by simp) λbT bd b8=> ?_
 ·simp(disch:=first|omega|simp only[DI.aw];omega) [-ab,-ah,-aa,-ad,-List.map_map]
 ·simp(disch:=first|omega|simp only[DI.aw];omega) [fA,-ab,-ah,-aa,-ad,-List.map_map]
 ·simp at hb⊢;rcases hb with rfl|rfl<;>simp
 ·simp(disch:=first|omega|simp only[DI.aw];omega) [aI,-ab,-ah,-aa,-ad,-List.map_map]
 ·simp(disch:=first|omega|simp only[DI.aw];omega) [-ab,-ah,-aa,-ad,-List.map_map]
 have aM:=b8.aM;have ek:=aF aM;have h2:=b8.aT;have kP:=b8.bY;simp(disch:=first|omega|simp only[DI.aw];omega) [anc,h2,kP,aM,aI,-ab,-ah,-aa,-ad,-List.map_map];refine aGr h (R:=R) (b8.step ⟨by simpa[pO]using b8.hJ,c8 _,λ_ _=>rfl⟩ λj aV=>by simp at aV;rcases aV with rfl|rfl|rfl|rfl<;>simp) (by simp) (by simp) λc2 dR kF=> ?_;obtain⟨o,aG,aN,ct,gC⟩:=kF.hJ;have bB:=kF.aE;have hS:=aF bB;have aC2:=aF aN;have wX:=kF.dp;have Ji:=kF.bo;have abV:o≠1:= λe=>(gC 1 (by simp)).2.1 e.symm;simp(disch:=first|omega|simp only[DI.aw];omega) [ane,wX,Ji,aN,bB,-ab,-ah,-aa,-ad,-List.map_map];refine⟨o,⟨rfl,rfl⟩,?_⟩;rw[aX abV];exact ct
theorem aGs{u:aL}(h:cL u){R:List Int}(t:G):fg N 81 [.agg (aI u).toArray,bq R] t λv X=>v= .tuple #[.agg #[D (hK u R).dF,D 0,D 1,bN t.next (ef u R).length 4],D 0]/\X=qv t.next [fA (ef u R)] (t.bU 1):=by
 refine aeO (n:=1) (r:= λk=> .tuple #[.agg #[D (hK u R).dF,D 0,D 1,bN k (ef u R).length 4],D 0]) (bs:= λ_=>[fA (ef u R)]) (λ_=>rfl) (λv M=>by simp at M;rcases M with rfl|rfl<;>rfl) ((aGt h).bt λv bd ⟨o,M,aH⟩=>⟨[o],by simp,rfl,λk=>⟨?_,λi cs iu=> ?_⟩⟩) t
 ·rw[M];exact oa.arx (kq.cons (oa.Vi (kq.cons (.hy rfl) (kq.cons (.hy rfl) (kq.cons (.hy rfl) (kq.cons (.slice ⟨0,rfl,rfl⟩) kq.nil))))) (kq.cons (.hy rfl) kq.nil))
 ·cases i with
  | zero=>simp at iu;subst iu;refine⟨o,_,rfl,aH,kq.cells λv M=> ?_⟩;simp only[fA,Gz,gx]at M;obtain⟨r,⟨a,_,rfl⟩,ar⟩:=M;simp[gH]at ar;rcases ar with rfl|rfl|rfl|rfl<;>rfl
  |succ i=>simp at iu
noncomputable def QC(u:aL)(h:cL u):jg N:= .cM 81 (List Int) (λR=>[.agg (aI u).toArray,bq R]) (λR t=>some (.tuple #[.agg #[D (hK u R).dF,D 0,D 1,bN t.next (ef u R).length 4],D 0],qv t.next [fA (ef u R)] (t.bU 1))) λR t r X bV bu iF=>by cases bV;exact(aGs h t).bt λr X ⟨a,b⟩=>by rw[a,b];exact iF
@[simp] theorem aQ9{u:aL}{h:cL u}:(QC u h).f=81:=rfl
@[simp] theorem aRa{u:aL}{h:cL u}{R:List Int}{t:G}:(QC u h).fn [.agg #[D u.ext,ai (u.e7.map gE) 4,ai (u.cx.map gN) 4,ai (u.aO.map e6) 7,ai (u.aZ.map fH) 3,ai (u.dv.map dU) 17,ai (u.a2.map gD) 2],ai (R.map λx=>[D x]) 1] t=some (.tuple #[.agg #[D (hK u R).dF,D 0,D 1,bN t.next (ef u R).length 4],D 0],qv t.next [fA (ef u R)] (t.bU 1)):=jg.dK (x:=R) (t:=t) λy Z=>by
  have:y=R:=by simpa using Z
  rw[this]
open Go Go.DI Go.Big
theorem ar3{c:aB}{Q:cO->aD->G->Prop}{z:aD}{t:G}{o n:Nat}(aC:t.F o=some ⟨List.replicate n (.slice none 0 0),true⟩)
 (g1: ∀(X:G) (ps:List Nat),pJ X o ps (List.replicate n [])->t.next<=X.next->(∀b,b<t.next->b≠o->X.F b=t.F b)->(∀p∈ps,t.next<=p)->ee N c z X Q):ee N c z t Q:=by
 have bh:=aF aC;have key: ∀(r k:Nat) (bd:G),k+r=n->bd.next=t.next+k->bd.F o=some ⟨fc n (λj=>if j<k then bN (t.next+j) 0 1 else .slice none 0 0),true⟩->(∀j,j<k->bd.F (t.next+j)=some ⟨[],true⟩)->(∀b,b<t.next->b≠o->bd.F b=t.F b)->ee N c z bd Q:=by
  intro r;induction r with
  | zero=>
    intro k bd O aj bw ar hb;obtain rfl:k=n:=(by omega);refine g1 bd ((List.range k).map (t.next+ ·)) ⟨by simp,?_,?_,?_,λi p r ae Hp=> ?_⟩ (by omega) hb λp ae=> ?_
    ·refine zI.2 λi j Y aV yQ=> ?_;simp;omega
    ·simp;omega
    ·rw[bw,zd];simp only[Jo];congr 2;refine rk λj aV=> ?_;rw[if_pos aV,ad0 (p:=t.next+j) (r:=[]) (by simp[aV]) (by simp[aV])];rfl
    ·have Y:i<k:=(by have:=(cN.1 Hp).1;simpa using this);have aG:p=t.next+i:=by simp[Y]at ae;exact ae.symm
     have aN:r=[]:=(by simp[Y]at Hp;exact Hp);subst aG aN;exact ar i Y
    ·simp at ae;obtain⟨a,_,rfl⟩:=ae;omega
  | succ r cj=>
    intro k bd O aj bw ar hb;have Aw:k<n:=(by omega);have Tm:=aF bw;refine zG (o:=o) (j:=k) (I:=1) (cs:=fc n (λj=>if j<k then bN (t.next+j) 0 1 else .slice none 0 0)) bw (by rw[rl Aw,if_neg (Nat.lt_irrefl _)]) ?_;refine cj (k+1) _ (by omega) (by simp;omega) ?_ (λj aV=> ?_) λb sD rP=> ?_
    ·rw[cb (by simp;omega),A3];congr 2;refine rk λj aV=> ?_;by_cases e:j=k
     ·subst e;rw[if_pos rfl,if_pos (by omega),aj]
     ·by_cases c:j<k
      ·rw[if_neg e,if_pos c,if_pos (by omega)]
      ·rw[if_neg e,if_neg c,if_neg (by omega)]
    ·by_cases e:j=k
     ·subst e;rw[<-aj,aX (by omega),cb (by simp)]
     ·rw[aX (by omega),aX (by omega),cl (by omega)];exact ar j (by omega)
    ·rw[aX rP,aX (by omega),cl (by omega)];exact hb b sD rP
 exact key n 0 t (by omega) rfl (by rw[aC,TR];congr 2) (λj aV=>absurd aV (DL _)) λb _ _=>rfl
theorem pJ.MR{t:G}{o p:Nat}{ps:List Nat}{L:List (List Int)}(h:pJ t o ps L)(ae:p∈ps):p<t.next:=by
 obtain⟨j,aV,e⟩:=n4 ae;have l8:j<L.length:=by rw[<-h.len];exact aV
 exact aF (h.c5 j p _ (by rw[<-e];exact c6 aV) (c6 l8))
theorem pJ.an1{t X:G}{o:Nat}{ps:List Nat}{L:List (List Int)}(h:pJ t o ps L)(O: ∀b,b<t.next->X.F b=t.F b):pJ X o ps L:=
 h.bt (O o (aF h.jd)) λp ae=>O p (h.MR ae)
theorem pJ.ahL{t X:G}{o dQ p q:Nat}{ps:List Nat}{L:List (List Int)}{r:List Int}{x:Int}(h:pJ t o ps L)(cc:L[dQ]?=some r)(ae:ps[dQ]?=some p)(bg:q≠o/\q∉ps)
 (A:X.F o=some ⟨(zd ps L).set dQ (bN q (r.length+1) 1),true⟩) (E:X.F q=some ⟨(r++[x]).map D,true⟩) (ao: ∀b∈ps,b≠p->X.F b=t.F b):pJ X o (ps.set dQ q) (L.set dQ (r++[x])):=by
 have KR:=(cN.1 cc).1;have PX:=(cN.1 ae).1;refine⟨by simp[h.len],?_,?_,?_,λi b s hb H=> ?_⟩
 ·refine zI.2 λi j Y aV yQ=> ?_;simp only[List.length_set]at Y aV;have bx:=zI.1 h.fp i j Y aV yQ;rw[List.getElem_set,List.getElem_set];by_cases aG:dQ=i
  ·rw[if_pos aG,if_neg (by omega)];exact λe=>bg.2 (e▸kp aV)
  ·rw[if_neg aG];by_cases aN:dQ=j
   ·rw[if_pos aN];exact λe=>bg.2 (e▸kp Y)
   ·rw[if_neg aN];exact bx
 ·intro al;rcases Gu al with al|rfl
  ·exact h.dB al
  ·exact bg.1 rfl
 ·rw[A];congr 2;unfold zd;rw[List.length_set,A3];refine rk λj aV=> ?_;by_cases e:j=dQ
  ·subst e;rw[if_pos rfl,ad0 (p:=q) (r:=r++[x]) (by rw[List.getElem?_set_self PX]) (by rw[List.getElem?_set_self KR])];simp
  ·rw[if_neg e];unfold Uz;simp only[m7,List.getElem?_set_ne (λaN=>e aN.symm)]
 ·by_cases e:dQ=i
  ·subst e;rw[List.getElem?_set_self PX]at hb;rw[List.getElem?_set_self KR]at H;cases hb;cases H;exact E
  ·rw[List.getElem?_set_ne e]at hb H;have bx:b≠p:= λaN=>by
    subst aN;have a:=cN.1 ae;have c:=cN.1 hb;have bV:=zI.1 h.fp;rcases Nat.lt_trichotomy dQ i with ck|ck|ck
    ·exact bV dQ i a.1 c.1 ck (a.2.trans c.2.symm)
    ·exact e ck
    ·exact bV i dQ c.1 a.1 ck (c.2.trans a.2.symm)
   rw[ao b (fX hb) bx];exact h.c5 i b s hb H
theorem pJ.mu{t:G}{o dQ:Nat}{ps:List Nat}{L:List (List Int)}{r:List Int}(h:pJ t o ps L)(cc:L[dQ]?=some r): ∃p,ps[dQ]?=some p/\p∈ps/\t.F p=some ⟨r.map D,true⟩/\List.take 1 (List.drop dQ (zd ps L))=[bN p r.length 1]/\dQ+1<=(zd ps L).length:=by
 have KR:=(cN.1 cc).1;have PX:dQ<ps.length:=by rw[h.len];exact KR
 have ae:ps[dQ]?=some ps[dQ]:=c6 PX;refine⟨ps[dQ],ae,fX ae,h.c5 dQ _ r ae cc,?_,by simp[zd];omega⟩;have e:(zd ps L)[dQ]?=some (bN ps[dQ] r.length 1):=by rw[zd,rl KR,ad0 ae cc]
 have Y:=(cN.1 e).1;rw[pG Y,(cN.1 e).2];rfl
end Go.Proofs.YtmmkkggfmigppaaGreat
