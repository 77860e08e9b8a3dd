/- A part of the proof. -/
import Derived.Test.YtmmkkggfmigppaaGreatZcv
set_option linter.all false
set_option maxRecDepth 8000
set_option maxHeartbeats 16000000
namespace Go.Proofs.YtmmkkggfmigppaaGreat
open Go Go.DI Go.Big
structure E5(t:V)(s o q:Nat)(ps:List Nat)(L:List (List Int))(dc ed:List Int):Prop where
 Dg:t.W s=some ⟨[AQ o L.length 1,AQ q dc.length 1,AH ed],true⟩
 DR:Dt t o ps L
 Ha:t.W q=some ⟨dc.map Y,true⟩
 Vw:s≠o
 TY:s≠q
 Sn:o≠q
 WL:s∉ps
 TC:q∉ps
variable{L C:List (List Int)}{dc ed R r:List Int}{o q s i a1 d f p:Nat}{ps:List Nat}{t au:V}{D:Type}{cE:Int}{k:Value->V->Prop}{aJ:List (List Value)}{u:AY}{l:List Cn}
theorem mf(h:E5 t s o q ps L dc ed):DI.Az 9 t (AA s)=some (BR [Ag L,AH dc,AH ed] 0):=by
 have a:DI.Az 8 t (AQ o L.length 1)=some (Ag L):=Qp (n:=6) h.DR;have b:DI.Az 8 t (AQ q dc.length 1)=some (AH dc):=JG (n:=7) (by rw[K6];exact h.Ha) (by simp) KT;have c:DI.Az 8 t (AH ed)=some (AH ed):=Pe rfl;have e:DI.Az 9 t (AA s)=match t.W s with
  | some x=>(match C8 (DI.Az 8 t) x.cells with
    |some d=>some (BR d 0)
    |none=>none)
  |none=>none:=rfl
 rw[e,h.Dg];simp only[fr,aE3,a,b,c]
def Mo(dc:List Int)(d:Nat)(cE:Int):List Int:=
 let a:=dc.set d (dc.getD d 0+1)
 if 0<=cE then a.set cE.toNat (a.getD cE.toNat 0-1)else a
def GK(t:V)(p q a1 f d:Nat)(cE:Int)(L:List (List Int))(dc:List Int):V:=
 (((t.AE 1).A0 t.next (some ⟨CR ⟨a1,f,cE,d⟩,true⟩)).A0 p (some ⟨((L.getD a1 []).set f (d:Int)).map Y,true⟩)).A0 q (some ⟨(Mo dc d cE).map Y,true⟩)
theorem Lm{l:List D}{x:D}(h:l[i]?=some x):List.take 1 (List.drop i l)=[x]:=by have a:=(AX.1 h).1;rw[Iy a,(AX.1 h).2];rfl
theorem aEo(h:E5 t s o q ps L dc ed)(l:a1<L.length)(m:f<(L.getD a1 []).length)(j:d<dc.length)(Z:cE<dc.length)(k:ps[a1]?=some p)(hb: ∀x∈dc,0<=x/\x<=10000000)
 (R: ∀g:Nat,cE=(g:Int)->1<=(dc.set d (dc.getD d 0+1)).getD g 0):
 Bv U 94 [AA s,.agg (CR ⟨a1,f,cE,d⟩).toArray] t λv au=>v= .tuple #[]/\au=GK t p q a1 f d cE L dc:=by
 refine Ak (an:=⟨[],[]⟩) sP (by kernel_rfl) (by simp[WR]) ?_;have r:L[a1]?=some L[a1]:=AS l;have C:L.getD a1 []=L[a1]:=by simp[r]
 rw[C]at m;have u:=h.Dg;have w:=h.DR.Da;have y:=h.DR.D8 a1 p _ k r;have z:=h.Ha;have A1:=F u;have A3:=F w;have A4:=F y;have A5:=F z;have D:List.take 1 (List.drop a1 (Cv ps L))=[AQ p L[a1].length 1]:=Lm (by rw[Cv,Ej l,Kb k r]);have J:a1+1<=(Cv ps L).length:=by simp[Cv];omega
 have A6:List.take 1 (List.drop f (L[a1].map Y))=[Y L[a1][f]]:=Lm (by simp[m]);have K:List.take 1 (List.drop d (dc.map Y))=[Y dc[d]]:=Lm (by simp[j]);have A7:=hb _ (Dc j);have M:IntKind.i64.wrap (dc[d]+1)=dc[d]+1:=Ah (by omega) (by omega);have S: ¬s=p:= λe=>h.WL (e▸B9 k);have T: ¬q=p:= λe=>h.TC (e▸B9 k);have V: ¬o=p:= λe=>h.DR.Gq (e▸B9 k);have A8: ¬p=s:= λe=>S e.symm;have A9: ¬p=q:= λe=>T e.symm;have AB: ¬p=o:= λe=>V e.symm;have AD:=h.Vw;have AE:=h.TY;have AF:=h.Sn;have AG:=h.Vw.symm;have AH:=h.TY.symm;have AJ:=h.Sn.symm;have N:((L.getD a1 []).set f (d:Int)).map Y=(L[a1].map Y).set f (Y d):=by rw[C,MG]
 have O:dc.getD d 0=dc[d]:=by simp[j]
 have n:(dc.set d (dc.getD d 0+1)).map Y=(dc.map Y).set d (Y (dc[d]+1)):=by rw[O,MG]
 by_cases c:cE>=0
 ·obtain⟨g,rfl⟩:=DP c;have P:g<dc.length:=(by omega);obtain⟨a,b⟩: ∃a,a=dc.set d (dc.getD d 0+1):=⟨_,rfl⟩;have A:g<a.length:=(by rw[b];simpa using P);have Q:a.getD g 0=a[g]:=(by simp[A]);have AK:1<=a[g]:=(by rw[<-Q,b];exact R g rfl);have AL:a[g]<=10000001:=by
   have i:=Dc A;simp only[b]at i;rcases Qk i with i|i
   ·simp only[b];have:=hb _ i;omega
   ·simp only[b];rw[i,O];omega
  rw[<-b]at n;have W:List.take 1 (List.drop g ((dc.map Y).set d (Y (dc[d]+1))))=[Y a[g]]:=(by rw[<-n];exact Lm (by simp[A]));have X:IntKind.i64.wrap (a[g]-1)=a[g]-1:=Ah (by omega) (by omega);have B:(Mo dc d (g:Int)).map Y=((dc.map Y).set d (Y (dc[d]+1))).set g (Y (a[g]-1)):=by rw[<-n,<-MG];unfold Mo;simp only[<-b,EE,Q];rw[if_pos (by omega)]
  simp(disch:=first|omega|simp only[DI.A2];omega)[WR,l7,CR,u,w,y,z,D,J,K,M,l,m,j,c,P,W,X,-H,-E,-I,-G,-List.map_map];refine⟨by omega,by omega,by omega,?_⟩;unfold GK;rw[N,B];rfl
 ·have B:(Mo dc d cE).map Y=(dc.map Y).set d (Y (dc[d]+1)):=by
   rw[<-n];unfold Mo;simp only;rw[if_neg (by omega)]
  simp(disch:=first|omega|simp only[DI.A2];omega)[WR,l7,CR,u,w,y,z,D,J,K,M,l,m,j,c,-H,-E,-I,-G,-List.map_map];refine⟨by omega,by omega,?_⟩;unfold GK;rw[N,B];rfl
theorem xi:(GK t p q a1 f d cE L dc).next=t.next+1:=by simp[GK]
theorem XD{b:Nat}(h:b<t.next)(a:b≠p)(c:b≠q):(GK t p q a1 f d cE L dc).W b=t.W b:=by unfold GK;rw[A3 c,A3 a,A3 (by omega),AU h]
theorem a0b:(Mo dc d cE).length=dc.length:=by unfold Mo;simp only;split<;>simp
theorem E5.step(h:E5 t s o q ps L dc ed)(g:a1<L.length)(a:ps[a1]?=some p):E5 (GK t p q a1 f d cE L dc) s o q ps (Ci L a1 f d) (Mo dc d cE) ed:=by
 have k:L[a1]?=some L[a1]:=AS g;have c:=B9 a;have l:s≠p:= λe=>h.WL (e▸c);have m:q≠p:= λe=>h.TC (e▸c);have n:o≠p:= λe=>h.DR.Gq (e▸c);have w:=F h.Ha;have x:=F (h.DR.D8 a1 p _ a k);refine⟨?_,h.DR.set g a (XD (F h.DR.Da) n h.Sn) (λb hb r=> ?_) ?_,?_,h.Vw,h.TY,h.Sn,h.WL,h.TC⟩
 ·rw[XD (F h.Dg) l h.TY,h.Dg,ML,a0b]
 ·have u:b<t.next:=by
   obtain⟨j,i,e⟩:=EC hb;have v:j<L.length:=(by rw[<-h.DR.len];exact i);exact F (h.DR.D8 j b _ (by rw[<-e];exact AS i) (AS v))
  exact XD u r λe=>h.TC (e▸hb)
 ·unfold GK;rw[A3 m.symm,AT (by simp;omega)]
 ·unfold GK;rw[AT (by simp;omega)]
theorem yu{l c:List Int}(h:l.map Y=c.map Y):l=c:=List.map_inj_right (λa b e=>by simpa using e)|>.1 h
theorem E5.inj{d g:List Int}(h:E5 t s o q ps L dc ed)(c:E5 t s o q ps C d g):L=C/\dc=d:=by
 constructor
 ·have j:L.length=C.length:=h.DR.len.symm.trans c.DR.len;refine LQ j λi e k=> ?_;have f:i<ps.length:=(by rw[h.DR.len];exact e);have a:=h.DR.D8 i _ _ (AS f) (AS e);have b:=c.DR.D8 i _ _ (AS f) (AS k);rw[a]at b;exact yu (by simpa using b)
 ·have a:=h.Ha;rw[c.Ha]at a;exact(yu (by simpa using a)).symm
structure cH(ps:List Nat)(L:List (List Int))(dc:List Int)(a1 f d:Nat)(cE:Int)(p:Nat):Prop where
 gV:a1<L.length
 aGM:f<(L.getD a1 []).length
 aL1:d<dc.length
 jG:cE<dc.length
 QQ:ps[a1]?=some p
 hb: ∀x∈dc,0<=x/\x<=10000000
 aLw: ∀g:Nat,cE=(g:Int)->1<=(dc.set d (dc.getD d 0+1)).getD g 0
structure r3 where
 L:List (List Int)
 ZU:List Int
 a5v:List Int
 b0:Nat
 f:Nat
 d:Nat
 BQ:Int
 p:Nat
open Classical in
noncomputable def P6(s o q:Nat)(ps:List Nat):DB U:=
 ⟨94,λe t=>if h: ∃x:r3,E5 t s o q ps x.L x.ZU x.a5v/\cH ps x.L x.ZU x.b0 x.f x.d x.BQ x.p/\[AA s,.agg (CR ⟨x.b0,x.f,x.BQ,x.d⟩).toArray]=e then some (.tuple #[],GK t h.choose.p q h.choose.b0 h.choose.f h.choose.d h.choose.BQ h.choose.L h.choose.ZU)else none,λe t l au h a7 g=>by
  split at h
  ·next i=>cases h;obtain⟨j,c,k⟩:=i.choose_spec;have:=aEo j c.gV c.aGM c.aL1 c.jG c.QQ c.hb c.aLw;rw[k]at this;exact this.AG λv au ⟨a,b⟩=>by rw[a,b];exact g
  ·cases h⟩
@[simp] theorem aKU:(P6 s o q ps).f=94:=rfl
theorem j0(h:E5 t s o q ps L dc ed)(b:cH ps L dc a1 f d cE p)(m:k (.tuple #[]) (GK t p q a1 f d cE L dc)):
 ep ((P6 s o q ps).fn [AA s,.agg #[Y a1,Y f,Y cE,Y d]] t) k:=by
 have a: ∃x:r3,E5 t s o q ps x.L x.ZU x.a5v/\cH ps x.L x.ZU x.b0 x.f x.d x.BQ x.p/\[AA s,.agg (CR ⟨x.b0,x.f,x.BQ,x.d⟩).toArray]=[AA s,.agg #[Y a1,Y f,Y cE,Y d]]:=⟨⟨L,dc,ed,a1,f,d,cE,p⟩,h,b,rfl⟩;have c:=a.choose_spec;simp only[P6,dif_pos a];generalize a.choose=x at c⊢;obtain⟨n,e,g⟩:=c;obtain⟨i,j⟩:=n.inj h;obtain⟨C,y,z,r,u,v,A,B⟩:=x;simp[CR]at g;simp only at i j e;obtain⟨D,E,w,F⟩:=g;obtain rfl:r=a1:=by omega
 obtain rfl:u=f:=by omega
 obtain rfl:v=d:=by omega
 subst i j w;have l:=e.QQ;rw[b.QQ]at l;cases l;exact m
open Classical in
noncomputable def Mn(L:List (List Int))(t:V):Option (Value×V):=if Bk L/\ ∀r∈L,1<=r.length then some (AQ t.next L.length 1,D2 t.next (Fh L t.next) (t.AE (L.length+1)))else none
theorem kX(h:Bk L)(a: ∀r∈L,1<=r.length):Mn L t=some (AQ t.next L.length 1,D2 t.next (Fh L t.next) (t.AE (L.length+1))):=if_pos ⟨h,a⟩
noncomputable def gC:DB U:= .B8 146 (List (List Int)) (λL=>[Ag L]) Mn λL t r au h a7 c=>by
 unfold Mn at h;split at h
 ·next d=>cases h;exact(zg (aBp d.1) t).AG λr au ⟨a,b⟩=>by rw[a,b];exact c
 ·cases h
@[simp] theorem aKo:gC.f=146:=rfl
@[simp] theorem aLY:gC.fn [M (L.map BE) 1] t=Mn L t:=DB.BD (x:=L) (t:=t) λy a=>by
  have:y=L:=by simpa using a
  rw[this]
noncomputable def ZN:DB U:= .B8 46 (List (List Int)) (λL=>[Ag L]) Mn λL t r au h a7 d=>by
 unfold Mn at h;split at h
 ·next c=>cases h;exact(zg (aEm c.1 c.2) t).AG λr au ⟨a,b⟩=>by rw[a,b];exact d
 ·cases h
@[simp] theorem aPu:ZN.f=46:=rfl
@[simp] theorem aJH:ZN.fn [M (L.map BE) 1] t=Mn L t:=DB.BD (x:=L) (t:=t) λy a=>by
  have:y=L:=by simpa using a
  rw[this]
theorem ox: ∀{aJ:List (List Value)} {n i:Nat} {t:V},i<n->(D2 n aJ t).C1 i=t.C1 i
 |[],_,_,_,_=>rfl
 | c::aJ,n,i,t,h=>by rw[OE,ox (by omega)];show(if i=n then _ else t.C1 i)=t.C1 i;rw[if_neg (by omega)]
theorem tz: ∀{aJ:List (List Value)} {n i:Nat} {a b:V},a.C1 i=b.C1 i->(D2 n aJ a).C1 i=(D2 n aJ b).C1 i
 |[],_,_,_,_,h=>h
 | c::aJ,n,i,a,b,h=>by rw[OE,OE];refine tz ?_;show(if i=n then _ else a.C1 i)=(if i=n then _ else b.C1 i);rw[h]
theorem xf{l:List Nat}{k:Nat}(h: ∀o∈l,o<t.next):FU t (D2 t.next aJ ((ER t l).AE k)) l=D2 t.next aJ (t.AE k):=by
 have b:(FU t (D2 t.next aJ ((ER t l).AE k)) l).C1=(D2 t.next aJ (t.AE k)).C1:=by
  funext i;show(if i∈l then t.C1 i else(D2 t.next aJ ((ER t l).AE k)).C1 i)=_;by_cases a:i∈l
  ·rw[if_pos a,ox (h i a)];show t.C1 i=if i<t.next then t.C1 i else none
   rw[if_pos (h i a)]
  ·rw[if_neg a];refine tz ?_;show(if i<t.next then(if i∈l then none else t.C1 i)else none)=if i<t.next then t.C1 i else none
   rw[if_neg a]
 have c:(FU t (D2 t.next aJ ((ER t l).AE k)) l).next=(D2 t.next aJ (t.AE k)).next:=by
  show(D2 t.next aJ ((ER t l).AE k)).next=_
  rw[OH,OH];rfl
 have d:(FU t (D2 t.next aJ ((ER t l).AE k)) l).mp=(D2 t.next aJ (t.AE k)).mp:=by show(D2 t.next aJ ((ER t l).AE k)).mp=_;rw[V7,V7];rfl
 generalize FU t (D2 t.next aJ ((ER t l).AE k)) l=x at b c d;generalize D2 t.next aJ (t.AE k)=y at b c d
 cases x;cases y;simp only at b c d;rw[b,c,d]
def JC(t:V)(u:AY)(L:List (List Int)):V:=D2 (t.next+2+11) (Fh L (t.next+2+11)) ((((t.AE 2).A0 t.next (some ⟨A4 u,true⟩)).AE 11).AE (L.length+1))
def Hg(t:V)(u:AY)(L:List (List Int))(R:List Int):V:=
 (((JC t u L).AE 1).A0 (t.next+2+11+(L.length+1)) (some ⟨(BZ u L).map Y,true⟩)).A0 (t.next+2+9) (some ⟨[AQ (t.next+2+11) L.length 1,AQ (t.next+2+11+(L.length+1)) u.A1.length 1,AH (BV u R)],true⟩)
theorem aCW(h:Av u)(e:Bk L)(f: ∀r∈L,1<=r.length):Bv U 92 [.agg (A4 u).toArray,Ag L,AH R] t λv au=>v=AA (t.next+2+9)/\au=Hg t u L R:=by
 refine Ak (an:=⟨[Yp u h],[gC,lZ u h]⟩) wi (by kernel_rfl) (by simp[al]) ?_;have g: ∀t:V,Mn L t=some (AQ t.next L.length 1,D2 t.next (Fh L t.next) (t.AE (L.length+1))):= λt=>kX e f;have c:=xf (t:=((t.AE 2).A0 t.next (some ⟨A4 u,true⟩)).AE 11) (l:=[t.next,t.next]) (aJ:=Fh L (t.next+2+11)) (k:=L.length+1) (λo a=>by simp at a;subst a;simp;omega);have d:(JC t u L).next=t.next+2+11+(L.length+1):=by unfold JC;rw[OH];rfl
 have b:=xf (t:=JC t u L) (l:=[t.next]) (aJ:=[(BZ u L).map Y]) (k:=1) (λo a=>by simp at a;subst a;rw[d];omega);rw[d]at b;unfold Hg;simp only[Ar,BC,A4,JC,OE,a75]at c b⊢;have i: ∀(aJ:List (List Value)) (n:Nat) (au:V),t.next<n->(D2 n aJ au).W t.next=au.W t.next:= λaJ n au h=>PW h
 have j: ∀(aJ:List (List Value)) (n:Nat) (au:V),(D2 n aJ au).next=au.next:= λaJ n au=>OH
 simp(disch:=first|omega|simp only[DI.A2];omega)[al,rL,g,c,b,i,j,-H,-E,-I,-G,-List.map_map]
theorem E5.DW(h:E5 t s o q ps L dc ed)(a: ∀b,b<t.next->au.W b=t.W b):E5 au s o q ps L dc ed:=by
 refine⟨by rw[a s (F h.Dg)];exact h.Dg,h.DR.AG (a o (F h.DR.Da)) λp d=> ?_,by rw[a q (F h.Ha)];exact h.Ha,h.Vw,h.TY,h.Sn,h.WL,h.TC⟩;obtain⟨j,c,e⟩:=EC d;have f:j<L.length:=by rw[<-h.DR.len];exact c
 exact a p (F (h.DR.D8 j p _ (by rw[<-e];exact AS c) (AS f)))
theorem Nc{k:Nat}(h:p∈Fs L k):k<p/\p<k+(L.length+1):=by simp only[Fs,CP,FX]at h;obtain⟨j,a,rfl⟩:=h;omega
theorem p5:E5 (Hg t u L R) (t.next+2+9) (t.next+2+11) (t.next+2+11+(L.length+1)) (Fs L (t.next+2+11)) L (BZ u L) (BV u R):=by
 have f:(JC t u L).next=t.next+2+11+(L.length+1):=by unfold JC;rw[OH];rfl
 have c:Dt (JC t u L) (t.next+2+11) (Fs L (t.next+2+11)) L:=ji (t:=((t.AE 2).A0 t.next (some ⟨A4 u,true⟩)).AE 11);have a: ∀b,b<(JC t u L).next->b≠t.next+2+9->(Hg t u L R).W b=(JC t u L).W b:= λb hb d=>by unfold Hg;rw[A3 d,A3 (by omega),AU hb]
 refine⟨?_,c.AG (a _ (by omega) (by omega)) λp e=> ?_,?_,by omega,by omega,by omega,λh=> ?_,λh=> ?_⟩
 ·unfold Hg;rw[AT (by simp;omega),JV]
 ·have:=Nc e;exact a p (by omega) (by omega)
 ·unfold Hg;rw[A3 (by omega),AT (by simp;omega)]
 ·have:=Nc h;omega
 ·have:=Nc h;omega
noncomputable def dv(u:AY)(h:Av u)(L:List (List Int))(c:Bk L)(d: ∀r∈L,1<=r.length)(R:List Int):DB U:= .B8 92 Unit (λ_=>[.agg (A4 u).toArray,Ag L,AH R]) (λ_ t=>some (AA (t.next+2+9),Hg t u L R)) λ_ t r au e a7 f=>by cases e;exact(aCW h c d).AG λr au ⟨a,b⟩=>by rw[a,b];exact f
@[simp] theorem aJM{h:Av u}{a:Bk L}{b: ∀r∈L,1<=r.length}:(dv u h L a b R).f=92:=rfl
@[simp] theorem aOA{h:Av u}{a:Bk L}{b: ∀r∈L,1<=r.length}:(dv u h L a b R).fn [.agg #[Y u.ext,M (u.Bz.map Cc) 4,M (u.Aa.map Ce) 4,M (u.A5.map Bd) 7,M (u.A1.map CB) 3,M (u.Ay.map B3) 17,M (u.A7.map Cd) 2],M (L.map BE) 1,M (R.map λx=>[Y x]) 1] t=some (AA (t.next+2+9),Hg t u L R):=DB.BD (x:=()) (t:=t) λ_ _=>rfl
theorem aCy(h:Av u)(a:Bk L):AL U 91 [.agg (A4 u).toArray,Ag L] (.bool (EN u L)):=by have b:HO u=true:=h.ok.MC;refine BG (Ak (an:=⟨[UZ u h.CV,dg u h],[]⟩) su (by kernel_rfl) (by simp[ZS]) ?_);simp(disch:=first|omega|simp only[DI.A2];omega)[ZS,oW,A4]
theorem a3w{L:List (List Int)}{a1:Nat}{r ek:List Int}{d:Nat}(a:L[a1]?=some r):D1 (L.set a1 ek) d+r.count (d:Int)=D1 L d+ek.count (d:Int):=by
 unfold D1;induction L generalizing a1 with
 |nil=>cases a
 | cons x L b=>
   cases a1 with
   | zero=>simp at a;subst a;simp only[TU,HM,Qw];omega
   | succ a1=>have:=b (a1:=a1) (by simpa using a);simp only[PZ,HM,Qw];omega
theorem a06{r:List Int}{f:Nat}{x y:Int}(a:r[f]?=some y)(d:Int):(r.set f x).count d+(if y=d then 1 else 0)=r.count d+(if x=d then 1 else 0):=by
 induction r generalizing f with
 |nil=>cases a
 | cons z r b=>
   cases f with
   | zero=>simp at a;subst a;simp only[TU,List.count_cons];by_cases c:x=d<;>by_cases e:z=d<;>simp[c,e]<;>omega
   | succ f=>have:=b (f:=f) (by simpa using a);simp only[PZ,List.count_cons];omega
theorem iV{x y:Int}(c:L[a1]?=some r)(g:r[f]?=some y)(d:Nat):D1 (Ci L a1 f x) d+(if y=(d:Int)then 1 else 0)=D1 L d+(if x=(d:Int)then 1 else 0):=by
 have e:L.getD a1 []=r:=by simp[c]
 have a:=a3w (ek:=r.set f x) (d:=d) c;have b:=a06 (x:=x) g (d:Int);unfold Ci;rw[e];omega
theorem gU(h:L[a1]?=some r)(i:r[f]?=some cE)(m:d<u.A1.length)(t:cE<u.A1.length)(n:cE≠(d:Int)):Mo (BZ u L) d cE=BZ u (Ci L a1 f d):=by
 have k: ∀j,j<u.A1.length->(BZ u L)[j]?=some ((D1 L j:Nat):Int):= λj b=>by rw[IL,Ej b]
 have o:(BZ u L).getD d 0=((D1 L d:Nat):Int):=by rw[Dv,k d m];rfl
 unfold Mo;simp only;rw[o];by_cases c:0<=cE
 ·obtain⟨g,rfl⟩:=DP c;have p:g<u.A1.length:=(by omega);have q:g≠d:= λe=>n (by rw[e]);have s:((BZ u L).set d (((D1 L d:Nat):Int)+1)).getD g 0=((D1 L g:Nat):Int):=by
   rw[Dv,Ig,if_neg (λe=>q e.symm),k g p];rfl
  rw[if_pos c,EE,s,IL,IL,KG,KG];refine FG λj b=> ?_;have:=iV (x:=(d:Int)) h i j;by_cases l:j=g
  ·subst l;simp only[if_true];split at this<;>split at this<;>omega
  ·simp only[if_neg l];by_cases a:j=d
   ·subst a;simp only[if_true];split at this<;>split at this<;>omega
   ·simp only[if_neg a];split at this<;>split at this<;>omega
 ·rw[if_neg c,IL,IL,KG];refine FG λj b=> ?_;have:=iV (x:=(d:Int)) h i j;by_cases a:j=d
  ·subst a;simp only[if_true];split at this<;>split at this<;>omega
  ·simp only[if_neg a];split at this<;>split at this<;>omega
def Fb(u:AY)(L:List (List Int)):Prop:=Bk L/\(∀r∈L,1<=r.length)/\ ∀r∈L,∀x∈r,x<u.A1.length
theorem SL(h:Fb u L)(k:d<u.A1.length):Fb u (Ci L a1 f d):=by
 by_cases i:a1<L.length
 ·have g:=Dc i;have e:L.getD a1 []=L[a1]:=(by simp[i]);have b: ∀r∈Ci L a1 f d,r∈L\/r=L[a1].set f (d:Int):= λr b=>by
   have:=Qk b;rw[e]at this;exact this
  refine⟨⟨by rw[ML];exact h.1.1,λr c=> ?_⟩,λr c=> ?_,λr c x j=> ?_⟩
  ·rcases b r c with a|rfl
   ·exact h.1.2 r a
   ·rw[MJ];exact h.1.2 _ g
  ·rcases b r c with a|rfl
   ·exact h.2.1 r a
   ·rw[MJ];exact h.2.1 _ g
  ·rcases b r c with a|rfl
   ·exact h.2.2 r a x j
   ·rcases Qk j with a|rfl
    ·exact h.2.2 _ g x a
    ·omega
 ·have:Ci L a1 f d=L:=(by unfold Ci;rw[List.set_eq_of_length_le (by omega)]);rw[this];exact h
def DE(u:AY)(R:List Int):List Cn->List (List Int)->List (List Int)×Nat
 |[],L=>(L,0)
 |s::l,L=>if CI u.A1.length (BZ u L) (BV u R) L s then((DE u R l (Ci L s.Au.toNat s.B4.toNat s.Bg)).1,(DE u R l (Ci L s.Au.toNat s.B4.toNat s.Bg)).2+1)else(L,0)
theorem SG{s:Cn}(h:CI u.A1.length (BZ u L) (BV u R) L s=true): ∃a1 f d:Nat,∃r,s.Au=a1/\s.B4=f/\s.Bg=d/\L[a1]?=some r/\r[f]?=some s.BQ/\d<u.A1.length/\s.BQ≠(d:Int):=by
 unfold CI at h;simp only[AB,Ba,Iz,UR,Nd]at h;obtain⟨m,v,n,o,a,p,w,b,x⟩:=h;obtain⟨a1,c⟩:=DP m;obtain⟨f,g⟩:=DP n;obtain⟨d,i⟩:=DP p;have q:a1<L.length:=by omega
 have j:L[a1]?=some L[a1]:=AS q;have t:D4 L s=L[a1]:=by unfold D4;rw[c];simp[j]
 rw[t]at o a b;have k:f<L[a1].length:=by omega
 have l:L[a1][f]?=some s.BQ:=by rw[g]at a;simp[k]at a;rw[AS k,a]
 exact⟨a1,f,d,L[a1],c,g,i,j,l,by omega,λe=>b (by rw[i,<-e];exact B9 l)⟩
noncomputable def N2(ed:List Int):AK U:= .B8 93 (List (List Int)×List Int×Cn) (λx=>Bk x.1/\ed.length<=x.2.1.length) (λx=>[BR [Ag x.1,AH x.2.1,AH ed] 0,.agg (CR x.2.2).toArray]) (λx=> .bool (CI ed.length x.2.1 ed x.1 x.2.2)) λx a=>a2a a.1 a.2
@[simp] theorem aI2:(N2 ed).f=93:=rfl
theorem hk{a b c d:Int}(h:Bk L/\ed.length<=dc.length):(N2 ed).fn [BR [Ag L,AH dc,AH ed] 0,.agg #[Y a,Y b,Y c,Y d]]=some (.bool (CI ed.length dc ed L ⟨a,b,c,d⟩)):=
 AK.BD (x:=((L,dc,Cn.mk a b c d):List (List Int)×List Int×Cn)) h λ⟨C,n,f⟩ e=>by obtain⟨o,p,q,r⟩:=f;simp[CR]at e;obtain⟨⟨g,i⟩,j,k,l,m⟩:=e;subst g i j k l m;rfl
theorem fP{R:List Int}(m:E5 t s o q ps L dc ed)(a:Fb u L)(b:L[a1]?=some r)(i:r[f]?=some cE)(n:d<u.A1.length)(v:cE≠(d:Int)): ∃p,cH ps L (BZ u L) a1 f d cE p:=by
 obtain⟨k,e⟩:=AX.1 b;have w:a1<ps.length:=by rw[m.DR.len];exact k
 have y:=(AX.1 i).1;have z:L.getD a1 []=r:=by simp[b]
 have c:r∈L:=B9 b;have h:cE∈r:=B9 i;refine⟨ps[a1],k,by rw[z];exact y,by rw[JV];exact n,by rw[JV];exact a.2.2 r c _ h,AS w,λx l=> ?_,λg A=> ?_⟩
 ·rw[IL]at l;obtain⟨j,D,rfl⟩:=a5C l;have:=dp (d:=j) a.1.2;have:=a.1.1;omega
 ·subst A;have B:g<u.A1.length:=(by have:=a.2.2 r c _ h;omega);have C:g≠d:= λe=>v (by rw[e]);have E:0<D1 L g:=List.count_pos_iff.2 (RG.2 ⟨r,c,h⟩);rw[Dv,Ig,if_neg (λe=>C e.symm),IL,Ej B];show 1<=((D1 L g:Nat):Int);omega
theorem aAf(h:Av u)(AP:l.length<=1000000): ∀(e:List Cn) (i:Nat) (L:List (List Int)),l.drop i=e->i<=l.length->Fb u L-> ∀(g:A6) (t:V) (Q:BM->A6->V->Prop),
 g 10=AA s->g 3=Hr l->g 21=Hr l->g 22=Y l.length->g 23=Y i->E5 t s o q ps L (BZ u L) (BV u R)->
 (∀j au,E5 au s o q ps (DE u R e L).1 (BZ u (DE u R e L).1) (BV u R)->(j 8=AQ o (DE u R e L).1.length 1->j 9=Y ((i+(DE u R e L).2:Nat):Int)->Q .DO j au)/\(i+(DE u R e L).2=l.length->j 10=AA s->j 3=Hr l->Q (.Ai 0) j au))->
 BY U (.loop Vx) g t Q:=by
 intro e;induction e with
 | nil=>intro i L v A5 E g t Q z J G A B C D;have AR:l.length<=i:=(by simpa using v);refine BU (an:=⟨[N2 (BV u R)],[P6 s o q ps]⟩) λA8 N=> ?_;have c: ¬(i:Int)<l.length:=(by omega);simp[Vx,A,B,c];exact(D _ _ C).2 (by simp[DE];omega) (by simp[z]) (by simp[J])
 | cons x e A9=>
   intro i L v A5 E g t Q z J G A B C D;have AB:i<l.length:=by
    rcases Nat.lt_or_ge i l.length with c|c
    ·exact c
    ·rw[List.drop_eq_nil_of_le c]at v;cases v
   have AD:l[i]?=some l[i]:=AS AB;obtain rfl:x=l[i]:=(by have:=congrArg (λk=>k[0]?) v;simp[AD]at this;exact this.symm);have AF:l.drop (i+1)=e:=(by have:=congrArg (List.drop 1) v;simpa using this);refine BU (an:=⟨[N2 (BV u R)],[P6 s o q ps]⟩) λA8 N=> ?_;have c:(i:Int)<l.length:=(by omega);have AG:=BX (n:=i) (by omega);have w:E5 ((t.AE 6).A0 (t.next+3) (some ⟨[Y l[i].Au,Y l[i].B4,Y l[i].BQ,Y l[i].Bg],true⟩)) s o q ps L (BZ u L) (BV u R):=C.DW λb hb=>by rw[A3 (by omega),AU hb]
   have O:=mf w;have H:(N2 (BV u R)).fn [BR [Ag L,AH (BZ u L),AH (BV u R)] 0,.agg #[Y l[i].Au,Y l[i].B4,Y l[i].BQ,Y l[i].Bg]]=some (.bool (CI u.A1.length (BZ u L) (BV u R) L l[i])):=(by have:=hk (ed:=BV u R) (L:=L) (dc:=BZ u L) (a:=l[i].Au) (b:=l[i].B4) (c:=l[i].BQ) (d:=l[i].Bg) ⟨E.1,by rw[JX,JV];exact Ao _⟩;rw[JX]at this;exact this);cases m:CI u.A1.length (BZ u L) (BV u R) L l[i]
   ·rw[m]at H;have P:=C.Dg;have AT:=F P;simp(disch:=first|omega|simp only[DI.A2];omega)[Vx,z,G,A,B,c,CR,O,H,P];refine(D _ _ ?_).1 ?_ ?_
    ·simp only[DE,m];exact w.DW λb hb=>rfl
    ·simp[DE,m]
    ·simp[DE,m]
   ·rw[m]at H;simp(disch:=first|omega|simp only[DI.A2];omega)[Vx,z,G,A,B,c,CR,O,H];obtain⟨a1,f,d,r,S,T,W,X,Z,K,A4⟩:=SG m;obtain⟨p,I⟩:=fP (R:=R) C E X Z K A4;rw[S,T,W]at w⊢;generalize AV:(t.AE 6).A0 (t.next+3) (some ⟨[Y a1,Y f,Y l[i].BQ,Y d],true⟩)=y at w⊢;refine j0 (w.DW (au:=Cm y (As 9 y (AA s))) λb hb=>rfl) I ?_;have M:=E5.step (f:=f) (d:=d) (cE:=l[i].BQ) (w.DW (au:=Cm y (As 9 y (AA s))) λb hb=>rfl) I.gV I.QQ;have AJ:l[i].BQ<u.A1.length:=(by have:=I.jG;rw[JV]at this;exact this);rw[gU X Z K AJ A4]at M;generalize GK (Cm y (As 9 y (AA s))) p q a1 f d l[i].BQ L (BZ u L)=AW at M⊢;simp[B,AG];refine N _ _ (A9 (i+1) (Ci L a1 f d) AF (by omega) (SL E K) _ _ _ (by simp[z]) (by simp[J]) (by simp[G]) (by simp[A]) (by simp) M λj au AK=> ?_);have AL:DE u R (l[i]::e) L=((DE u R e (Ci L a1 f d)).1,(DE u R e (Ci L a1 f d)).2+1):=by
     simp only[DE,m,if_true,S,T,W,EE]
    rw[AL]at D;obtain⟨AM,AN⟩:=D j au AK;refine⟨λa b=>AM a (by rw[b];congr 1;omega),λa b AO=>AN (by omega) b AO⟩
noncomputable def ak(u:AY)(h:Av u):AK U:= .B8 91 (List (List Int)) Bk (λL=>[.agg (A4 u).toArray,Ag L]) (λL=> .bool (EN u L)) λL a=>aCy h a
@[simp] theorem aGy{h:Av u}:(ak u h).f=91:=rfl
@[simp] theorem aH9{h:Av u}(a:Bk L):(ak u h).fn [.agg #[Y u.ext,M (u.Bz.map Cc) 4,M (u.Aa.map Ce) 4,M (u.A5.map Bd) 7,M (u.A1.map CB) 3,M (u.Ay.map B3) 17,M (u.A7.map Cd) 2],M (L.map BE) 1]=some (.bool (EN u L)):=AK.BD (x:=L) a λy b=>by simpa using b
theorem aD8(h:Av u)(d:Fb u L)(i:EN u L=true)(j:l.length<=1000000):AL U 41 [.agg (A4 u).toArray,Ag L,AH R,Hr l] (.tuple #[Ag (DE u R l L).1,Y (DE u R l L).2]):=by
 refine BG (Ak (an:=⟨[ak u h],[dv u h L d.1 d.2.1 R]⟩) yv (by kernel_rfl) (by simp[aZ]) ?_);have p:=d.1;simp(disch:=first|omega|simp only[DI.A2];omega)[aZ,ra,A4,i];have e:E5 (Hg ((D0.AE 3).A0 0 (some ⟨A4 u,true⟩)) u L R) 14 16 (16+(L.length+1)) (Fs L 16) L (BZ u L) (BV u R):=p5 (t:=(D0.AE 3).A0 0 (some ⟨A4 u,true⟩));simp only[A4]at e;generalize Hg _ u L R=q at e⊢;simp(disch:=first|omega|simp only[DI.A2];omega)[xz,-H,-E,-I,-G,-List.map_map];refine aAf h j l 0 L rfl (C0 _) d _ _ _ (by simp) (by simp) (by simp) (by simp) (by simp) e λr au f=>⟨λa b=> ?_,λa b c=> ?_⟩
 ·have g:=Qp (n:=6) f.DR;simp[a,b,g]
 ·have g:=Qp (n:=6) f.DR;have k:=f.Dg;have m:(DE u R l L).2=l.length:=(by omega);simp[oO,b,c,k,g,m]
theorem Dt.DW(h:Dt t o ps L)(a: ∀b,b<t.next->au.W b=t.W b):Dt au o ps L:=
 h.AG (a o (F h.Da)) λp d=>by obtain⟨j,c,e⟩:=EC d;have f:j<L.length:=(by rw[<-h.len];exact c);exact a p (F (h.D8 j p _ (by rw[<-e];exact AS c) (AS f)))
@[simp] theorem aNZ{a:List Cn}:l.map CR=a.map CR↔l=a:=Nf λx y h=>aFJ.1 h
theorem cP(h:Av u)(g:L.length=u.A7.length)(c:LW u L):Fb u L:=by
 refine⟨wX h g c,λr d=> ?_,λr d x i=> ?_⟩
 ·obtain⟨w,f,e⟩:=EC d;have a:=(c w r (by rw[AS f,e])).1;have b:=N9 h.ok (v:=w) (by omega);omega
 ·obtain⟨w,f,e⟩:=EC d;exact((c w r (by rw[AS f,e])).2 x i).2
theorem dN: ∀{l:List Cn} {L:List (List Int)},Fb u L->Fb u (DE u R l L).1
 |[],L,h=>h
 | s::l,L,h=>by
   unfold DE;cases a:CI u.A1.length (BZ u L) (BV u R) L s
   ·exact h
   ·obtain⟨a1,f,d,r,b,c,e,i,j,g,k⟩:=SG a;simp only[if_true,b,c,e,EE];exact dN (SL h g)
abbrev mz:Type:=List (List Int)×List Int×List Cn
noncomputable def YD(u:AY)(h:Av u):AK U:= .B8 41 mz (λx=>(Fb u x.1/\EN u x.1=true)/\x.2.2.length<=1000000) (λx=>[.agg (A4 u).toArray,Ag x.1,AH x.2.1,Hr x.2.2]) (λx=> .tuple #[Ag (DE u x.2.1 x.2.2 x.1).1,Y (DE u x.2.1 x.2.2 x.1).2]) λx a=>aD8 h a.1.1 a.1.2 a.2
theorem a0a(y:mz)(a:[.agg (A4 u).toArray,Ag y.1,AH y.2.1,Hr y.2.2]=[Value.agg (A4 u).toArray,Ag L,AH R,Hr l]):y=(L,R,l):=by obtain⟨b,c,d⟩:=y;simpa using a
@[simp] theorem aQG{h:Av u}:(YD u h).f=41:=rfl
@[simp] theorem aPF{h:Av u}(a:(Fb u L/\EN u L=true)/\l.length<=1000000):(YD u h).fn [.agg #[Y u.ext,M (u.Bz.map Cc) 4,M (u.Aa.map Ce) 4,M (u.A5.map Bd) 7,M (u.A1.map CB) 3,M (u.Ay.map B3) 17,M (u.A7.map Cd) 2],M (L.map BE) 1,M (R.map λx=>[Y x]) 1,M (l.map CR) 4]=some (.tuple #[Ag (DE u R l L).1,Y (DE u R l L).2]):=
  AK.BD (x:=((L,R,l):mz)) a a0a
noncomputable def Te:AK U:= .B8 39 Unit (λ_=>True) (λ_=>[]) (λ_=> .bool true) λ_ _=>a1Q
@[simp] theorem aPb:Te.f=39:=rfl
@[simp] theorem aPD:Te.fn []=some (.bool true):=AK.BD (x:=()) trivial λ_ _=>rfl
end Go.Proofs.YtmmkkggfmigppaaGreat
namespace Go.Ex
structure Ae where
 f:Int
 t:Int
 c:Int
 k:Int
structure CG where
 Am:Int
 Aj:Int
 BJ:Int
 AF:List Ae
def CG.Cy(n:CG)(x:Int):Prop:=0<=x/\x<n.Am
def CG.rh(n:CG)(a:Ae):Prop:=n.Cy a.f/\n.Cy a.t/\0<=a.c/\a.c<=2147483647
structure CG.Cz(n:CG):Prop where
 Ph:2<=n.Am
 PL:n.Am<=700
 JK:n.AF.length<=2500
 Aj:n.Cy n.Aj
 BJ:n.Cy n.BJ
 Di:n.Aj≠n.BJ
 Il: ∀a∈n.AF,n.rh a
def Bj(y x a:Int):Int:=if y=x then a else 0
def DG:List Ae->List Int->Int->Int
 |a::c,b::fs,x=>Bj a.f x b-Bj a.t x b+DG c fs x
 |_,_,_=>0
def Gn(n:CG)(ab:List Int):Prop:=ab.length=n.AF.length/\ ∀(i:Nat) (a:Ae) (b:Int),n.AF[i]?=some a->ab[i]?=some b->0<=b/\b<=a.c
structure Dr(n:CG)(ab:List Int):Prop where
 ES:Gn n ab
 SD: ∀x,n.Cy x->x≠n.Aj->x≠n.BJ->DG n.AF ab x=0
def value(n:CG)(ab:List Int):Int:=DG n.AF ab n.Aj
def Ff:List Ae->(Int->Bool)->Int
 |a::b,s=>(if s a.f=true/\s a.t=false then a.c else 0)+Ff b s
 |[],_=>0
def HT:List Ae->List Int->(Int->Bool)->Int
 |a::c,b::fs,s=>(if s a.f=true then b else 0)-(if s a.t=true then b else 0)+HT c fs s
 |_,_,_=>0
def GP(s:Int->Bool)(g:Int->Int):Nat->Int
 |0=>0
 |k+1=>GP s g k+(if s k=true then g k else 0)
theorem XT(s:Int->Bool)(g h:Int->Int): ∀k,GP s (λx=>g x+h x) k=GP s g k+GP s h k
 |0=>rfl
 | k+1=>by simp only[GP,XT s g h k];split<;>omega
theorem Vu(s:Int->Bool): ∀k,GP s (λ_=>0) k=0
 |0=>rfl
 |k+1=>by simp[GP,Vu s k]
theorem yI(s:Int->Bool)(y a:Int): ∀k:Nat,(k:Int)<=y->GP s (λx=>Bj y x a) k=0
 |0,_=>rfl
 | k+1,h=>by
   have:=yI s y a k (by omega)
   grind [Bj,GP]
theorem gR(s:Int->Bool)(y a:Int)(c:0<=y): ∀k:Nat,y<k->GP s (λx=>Bj y x a) k=if s y=true then a else 0
 |0,h=>by omega
 | k+1,h=>by
   by_cases b:y=k
   ·subst b;have e:Bj k k a=a:=if_pos rfl
    simp_all [GP,yI]
   ·have e:Bj y k a=0:=if_neg b;rw[GP,gR s y a c k (by omega),e];omega
theorem n9(y x a:Int):Bj y x (-a)= -Bj y x a:=by unfold Bj;split<;>omega
theorem hD(s:Int->Bool)(d:Nat): ∀(c:List Ae) (fs:List Int),(∀a∈c,(0<=a.f/\a.f<d)/\(0<=a.t/\a.t<d))->GP s (DG c fs) d=HT c fs s
 | [],fs,_=>by
   simp_all [DG,Vu,HT]
 | a::c,[],_=>by
   simp_all [DG,Vu,HT]
 | a::c,g::fs,h=>by
   have e:DG (a::c) (g::fs)= λx=>(Bj a.f x g+Bj a.t x (-g))+DG c fs x:=by funext x;simp only[DG,n9];omega
   obtain⟨i,j⟩:=h a (by simp);rw[e,XT,XT,gR s _ _ i.1 d i.2,gR s _ _ j.1 d j.2,hD s d c fs (λb hb=>h b (by simp[hb]))];simp only[HT]
   grind
theorem uQ(s:Int->Bool)(g:Int->Int)(a:Nat)(y:Int)(b: ∀x:Int,0<=x->x<a->s x=true->x≠y->g x=0): ∀k:Nat,k<=a->(k:Int)<=y->GP s g k=0
 |0,_,_=>rfl
 | k+1,c,d=>by
   simp only[GP,uQ s g a y b k (by omega) (by omega)]
   grind
theorem eZ(s:Int->Bool)(g:Int->Int)(a:Nat)(y:Int)(d:0<=y)(b:s y=true)(c: ∀x:Int,0<=x->x<a->s x=true->x≠y->g x=0): ∀k:Nat,k<=a->y<k->GP s g k=g y
 |0,_,h=>by omega
 | k+1,f,h=>by
   by_cases e:y=k
   ·subst e;simp only[GP,uQ s g a k c k (by omega) (HB _),b,if_true];omega
   ·simp only[GP,eZ s g a y d b c k (by omega) (by omega)]
    grind
variable{n:CG}{ab:List Int}{s:Int->Bool}
theorem CG.Cz.je(h:n.Cz): ∀a∈n.AF,(0<=a.f/\a.f<(n.Am.toNat:Int))/\(0<=a.t/\a.t<(n.Am.toNat:Int)):=by intro a b;obtain⟨⟨c,d⟩,⟨e,g⟩,_⟩:=h.Il a b;have:=h.Ph;omega
theorem sG(h:n.Cz)(b:Dr n ab)(c:s n.Aj=true)(d:s n.BJ=false):value n ab=HT n.AF ab s:=by have i:=h.Ph;have f:=h.Aj;unfold CG.Cy at f;rw[<-hD s n.Am.toNat n.AF ab h.je];exact(eZ s (DG n.AF ab) n.Am.toNat n.Aj (by omega) c (λx g j a xs=>b.SD x ⟨g,by omega⟩ xs (λe=>by rw[e,d]at a;cases a)) n.Am.toNat (Ao _) (by omega)).symm
theorem vv{s:Int->Bool}: ∀(d:List Ae) (fs:List Int),(∀(i:Nat) a e,d[i]?=some a->fs[i]?=some e->0<=e/\e<=a.c)->(∀a∈d,0<=a.c)->HT d fs s<=Ff d s
 |[],fs,_,_=>by simp[HT,Ff]
 | a::d,[],_,f=>by
   have: ∀l:List Ae,(∀a∈l,0<=a.c)->0<=Ff l s:=by
    intro l;induction l with
    |nil=>intro _;simp[Ff]
    |cons b l j=>intro h;have:=j (λx k=>h x (by simp[k]));have:=h b (by simp);simp only[Ff];split<;>omega
   simp only[HT];exact this _ f
 | a::d,e::fs,h,f=>by
   have n:=h 0 a e rfl rfl;have:=vv (s:=s) d fs (λi a e g m=>h (i+1) a e (by simpa using g) (by simpa using m)) (λa g=>f a (by simp[g]))
   grind [HT,Ff]
theorem s0{s:Int->Bool}: ∀(b:List Ae) (fs:List Int),fs.length=b.length->(∀(i:Nat) a d,b[i]?=some a->fs[i]?=some d->(s a.f=true->s a.t=false->d=a.c)/\(s a.f=false->s a.t=true->d=0))->HT b fs s=Ff b s
 |[],fs,_,_=>by simp[HT,Ff]
 |a::b,[],e,_=>by simp at e
 | a::b,d::fs,e,h=>by
   have k:=h 0 a d rfl rfl;have:=s0 (s:=s) b fs (by simpa using e) (λi a d g j=>h (i+1) a d (by simpa using g) (by simpa using j))
   grind [HT,Ff]
theorem Kr(h:n.Cz)(b:Dr n ab)(c:s n.Aj=true)(d:s n.BJ=false):value n ab<=Ff n.AF s:=by rw[sG h b c d];exact vv _ _ b.ES.2 (λa e=>(h.Il a e).2.2.1)
theorem aDh(h:n.Cz)(d:Dr n ab)(e:s n.Aj=true)(g:s n.BJ=false)
 (j: ∀(i:Nat) a b,n.AF[i]?=some a->ab[i]?=some b->(s a.f=true->s a.t=false->b=a.c)/\(s a.f=false->s a.t=true->b=0)):value n ab=Ff n.AF s:=by
 rw[sG h d e g];exact s0 _ _ d.ES.1 j
theorem xp{s:Int->Bool}: ∀(d:List Ae),(∀a∈d,0<=a.c/\a.c<=2147483647)->0<=Ff d s/\Ff d s<=d.length*2147483647
 |[],_=>by simp[Ff]
 | a::d,h=>by
   have e:=h a (by simp);have:=xp (s:=s) d (λb hb=>h b (by simp[hb]))
   grind [Ff]
theorem Pc(h:n.Cz)(b:Dr n ab):value n ab<=5368709117500:=by have d:=Kr h b (s:= λx=>decide (x=n.Aj)) (by simp) (by have:=h.Di;simp;omega);have e:=(xp (s:= λx=>decide (x=n.Aj)) n.AF (λa c=>(h.Il a c).2.2)).2;have f:=h.JK;omega
abbrev DJ:=Nat×Bool
def Bs(n:CG)(e:DJ):Int:=match n.AF[e.1]? with|some a=>if e.2 then a.f else a.t|none=> -1
def Bi(n:CG)(e:DJ):Int:=match n.AF[e.1]? with|some a=>if e.2 then a.t else a.f|none=> -1
def Ab(n:CG)(ab:List Int)(e:DJ):Int:=match n.AF[e.1]?,ab[e.1]? with|some a,some b=>if e.2 then a.c-b else b|_,_=>0
variable{e:DJ}{B:Int->Bool}{A:Int->DJ}{x d:Int}{l:List DJ}
theorem PH(h:0<Ab n ab e): ∃a b,n.AF[e.1]?=some a/\ab[e.1]?=some b:=by
 grind [Ab]
structure Td(n:CG)(ab:List Int)(B:Int->Bool)(A:Int->DJ):Prop where
 Aj:B n.Aj=true
 O0: ∃a:Int->Nat,∀x,B x=true->x≠n.Aj->0<Ab n ab (A x)/\Bi n (A x)=x/\B (Bs n (A x))=true/\a (Bs n (A x))<a x
 Xq: ∀e,0<Ab n ab e->B (Bs n e)=true->B (Bi n e)=true
theorem Td.ZX(c:n.Cz)(b:Dr n ab)(h:Td n ab B A)(d:B n.BJ=false):value n ab=Ff n.AF B:=by
 refine aDh c b h.Aj d λi a e f g=> ?_;have hb:=b.ES.2 i a e f g;refine⟨λj k=> ?_,λj k=> ?_⟩
 ·have:=h.Xq (i,true)
  grind [Ab,Bs,Bi]
 ·have:=h.Xq (i,false)
  grind [Ab,Bs,Bi]
inductive I1(n:CG)(A:Int->DJ):Int->List DJ->Prop
 |Aj:I1 n A n.Aj []
 |cons {x:Int} {l:List DJ} (a:x≠n.Aj) (b:Bi n (A x)=x) (h:I1 n A (Bs n (A x)) l):I1 n A x (A x::l)
theorem Td.path(h:Td n ab B A)(d:B x=true):
 ∃l,I1 n A x l/\(∀e∈l,0<Ab n ab e)/\(l.map Prod.fst).Nodup:=by
 obtain⟨b,m⟩:=h.O0;have o: ∀(k:Nat) (x:Int),b x<=k->B x=true-> ∃l,I1 n A x l/\(∀e∈l,0<Ab n ab e)/\(l.map Prod.fst).Nodup/\ ∀e∈l,b (Bi n e)<=b x/\b (Bs n e)<b (Bi n e):=by
  intro k;induction k with
  | zero=>
    intro x p d;by_cases c:x=n.Aj
    ·subst c;exact⟨[],.Aj,by simp,by simp,by simp⟩
    ·grind
  | succ k q=>
    intro x p d;by_cases c:x=n.Aj
    ·subst c;exact⟨[],.Aj,by simp,by simp,by simp⟩
    ·obtain⟨r,g,s,F⟩:=m x d c;obtain⟨l,i,t,j,u⟩:=q _ (by omega) s;refine⟨A x::l,.cons c g i,?_,?_,?_⟩
     ·simp_all
     ·simp only[E1,K5];refine⟨λv=> ?_,j⟩;obtain⟨e,w,y⟩:=CP.1 v;obtain⟨z,C⟩:=u e w;have D:Bi n e=x\/Bs n e=x:=by
       rw[<-g];unfold Bi Bs;rw[y];obtain⟨a,G,E,_⟩:=PH r;rw[E];cases e.2<;>cases(A x).2<;>simp
      rcases D with f|f
      ·rw[f]at z;omega
      ·rw[f]at C;omega
     ·grind
 obtain⟨l,i,t,j,_⟩:=o _ x (Ao _) d
 grind
def push(ab:List Int)(e:DJ)(d:Int):List Int:=match ab[e.1]? with|some a=>ab.set e.1 (if e.2 then a+d else a-d)|none=>ab
def HP(ab:List Int)(l:List DJ)(d:Int):List Int:=l.foldl (λab e=>push ab e d) ab
theorem sQ: ∀(c:List Ae) (fs:List Int) (i:Nat) (a:Ae) (d e x:Int),c[i]?=some a->fs[i]?=some d->DG c (fs.set i e) x=DG c fs x+Bj a.f x (e-d)-Bj a.t x (e-d)
 |[],_,_,_,_,_,_,h,_=>by simp at h
 |_::_,[],_,_,_,_,_,_,h=>by simp at h
 | b::c,k::fs,0,a,d,e,x,g,j=>by
   grind [DG,Bj]
 | b::c,k::fs,i+1,a,d,e,x,g,j=>by have:=sQ c fs i a d e x (by simpa using g) (by simpa using j);simp only[PZ,DG,this];omega
theorem aG6(h:0<Ab n ab e)(d x:Int):DG n.AF (push ab e d) x=DG n.AF ab x+Bj (Bs n e) x d-Bj (Bi n e) x d:=by
 obtain⟨a,f,b,c⟩:=PH h;unfold push Bs Bi;simp only[b,c];rw[sQ _ _ _ a f _ x b c]
 grind [n9]
theorem jN:(push ab e d).length=ab.length:=by unfold push;split<;>simp
theorem fK{a:DJ}(h:a.1≠e.1)(d:Int):Ab n (push ab e d) a=Ab n ab a:=by
 grind [push,Ab]
theorem hA(hb:Gn n ab)(k:0<Ab n ab e)(o:0<=d)(h:d<=Ab n ab e):Gn n (push ab e d):=by
 refine⟨by rw[jN,hb.1],λi a l f c=> ?_⟩;obtain⟨b,p,g,j⟩:=PH k;unfold Ab at h;unfold push at c;simp only[g,j]at h c;rw[Ig]at c;split at c
 ·rename_i m;subst m;rw[g]at f;cases f;have:=hb.2 _ _ _ g j
  grind
 ·exact hb.2 i a l f c
theorem ue(c:0<=d): ∀{l:List DJ} {x:Int} {ab:List Int},I1 n A x l->Gn n ab->(∀e∈l,0<Ab n ab e/\d<=Ab n ab e)->(l.map Prod.fst).Nodup->
 Gn n (HP ab l d)/\ ∀y,DG n.AF (HP ab l d) y=DG n.AF ab y+Bj n.Aj y d-Bj x y d
 | [],x,ab,a,hb,f,b=>by
   cases a
   grind [HP]
 | e::l,x,ab,a,hb,f,b=>by
   cases a with
   | cons k m a=>
     simp only[E1,K5]at b;obtain⟨g,h⟩:=f (A x) (by simp);have i:=hA hb g c h;have j: ∀e∈l,0<Ab n (push ab (A x) d) e/\d<=Ab n (push ab (A x) d) e:=by
      grind [fK]
     obtain⟨o,p⟩:=ue c a i j b.2
     grind [aG6,HP]
theorem jt(c:n.Cz)(a:Dr n ab)(f:I1 n A n.BJ l)(g:0<=d)(h: ∀e∈l,0<Ab n ab e/\d<=Ab n ab e)(i:(l.map Prod.fst).Nodup):
 Dr n (HP ab l d)/\value n (HP ab l d)=value n ab+d:=by
 obtain⟨j,b⟩:=ue g f a.ES h i;refine⟨⟨j,λx k m o=> ?_⟩,?_⟩
 ·rw[b,a.SD x k m o]
  grind [Bj]
 ·unfold value;rw[b];simp only[Bj,if_true];rw[if_neg (Ne.symm c.Di)];omega
theorem oJ(e:n.Cz):Dr n (List.replicate n.AF.length 0)/\value n (List.replicate n.AF.length 0)=0:=by
 have d: ∀(b:List Ae) x,DG b (List.replicate b.length 0) x=0:=by
  intro b x;induction b with
  |nil=>rfl
  |cons a b f=>simp only[Df,Rv,DG,f,Bj];split<;>split<;>rfl
 refine⟨⟨⟨by simp,λi a h g c=> ?_⟩,λx _ _ _=>d _ x⟩,d _ _⟩;rw[List.getElem?_replicate]at c;split at c
 ·cases c;exact⟨HB _,(e.Il a (B9 g)).2.2.1⟩
 ·cases c
theorem iN: ∀{xs bs:List Ae} {fs:List Int} {x:Int},xs.map (λa=>(a.f,a.t))=bs.map (λa=>(a.f,a.t))->DG xs fs x=DG bs fs x
 |[],[],_,_,_=>rfl
 |[],_::_,_,_,h=>by simp at h
 |_::_,[],_,_,h=>by simp at h
 |a::xs,b::bs,[],x,h=>rfl
 | a::xs,b::bs,c::fs,x,h=>by simp only[E1,OW,JM]at h;simp only[DG,h.1.1,h.1.2,iN (fs:=fs) (x:=x) h.2]
theorem gn{hq:CG}(j:hq.Am=n.Am)(g:hq.Aj=n.Aj)(k:hq.BJ=n.BJ)(d:n.AF.map (λa=>(a.f,a.t))=hq.AF.map (λa=>(a.f,a.t)))
 (u: ∀(i:Nat) a b,n.AF[i]?=some a->hq.AF[i]?=some b->a.c<=b.c) (e:Dr n ab):Dr hq ab/\value hq ab=value n ab:=by
 have h:n.AF.length=hq.AF.length:=by simpa using congrArg List.length d
 refine⟨⟨⟨by rw[e.ES.1,h],λi b l hb m=> ?_⟩,λx o p q=> ?_⟩,?_⟩
 ·have r:i<n.AF.length:=(by rw[h];exact(AX.1 hb).1);have s:=AS r;have:=e.ES.2 i _ l s m
  grind
 ·rw[<-iN d];exact e.SD x (by simpa[CG.Cy,j]using o) (by rw[<-g];exact p) (by rw[<-k];exact q)
 ·unfold value;rw[g,iN d]
end Go.Ex
namespace Go.Proofs.YtmmkkggfmigppaaGreat
open Go Go.DI Go.Big Go.Ex
def Fa(s:I6)(l:Int):Int:=if l=0 then s.a else if l=1 then s.b else if l=2 then s.c else if l=3 then s.d else s.e
def GI(u:AY)(v:Nat):Nat:=match u.A7[v]? with|some x=>x.JD.toNat|none=>0
def HQ(u:AY)(v i:Nat):Int:=match u.Ay[GI u v]? with
 |some p=>if Fa p.D9 (Cb u i)=0 then p.k+p.m else Fa p.D9 (Cb u i)
 |none=>0
def Es(u:AY)(v d:Nat):Bool:=match u.Ay[GI u v]?,u.A1[d]? with
 |some p,some x=>decide (x.model∈p.Aa)
 |_,_=>false
def Ax(u:AY)(v i:Nat):Int:=if i=0 then 2+(v:Int)else 2+u.A7.length+v*((u.A5.length:Int)-1)+i-1
def AM(u:AY)(d:Nat):Int:=2+(u.A7.length:Int)*u.A5.length+d
def Ft(u:AY)(v:Nat):Ae:=⟨0,2+v,CS u v,0⟩
def Jd(u:AY)(v i:Nat):Ae:=⟨Ax u v (D3 u i),Ax u v i,HQ u v i,0⟩
def E8(u:AY)(v d:Nat):Ae:=⟨Ax u v (CJ u d),AM u d,1,0⟩
def Hi(u:AY)(R:List Int)(d:Nat):Ae:=⟨AM u d,1,CD u R d,0⟩
def Gk(u:AY)(v:Nat):List Ae:=Ft u v::((List.range (u.A5.length-1)).map (λj=>Jd u v (j+1))++((List.range u.A1.length).filter (Es u v)).map (E8 u v))
def B2(u:AY)(R:List Int):List Ae:=(List.range u.A7.length).flatMap (Gk u)++(List.range u.A1.length).map (Hi u R)
def Dd(u:AY)(R:List Int):CG:=⟨AM u u.A1.length,0,1,B2 u R⟩
def HE(u:AY):Int:=((List.range u.A7.length).map (CS u)).foldr (· + ·) 0
theorem aFi{a b:Nat}{bG aJ:Int}(c:(a:Int)<=bG)(hb:(b:Int)<=aJ)(d:0<=bG):(a:Int)*b<=bG*aJ:=
 Int.le_trans (My c (by omega)) (aI hb d)
variable{u:AY}{v d:Nat}{a:Ae}{R:List Int}
theorem E3(h:BW u){i:Nat}(c:v<u.A7.length)(d:i<u.A5.length):2<=Ax u v i/\Ax u v i<AM u 0:=by
 have f:=h.Di;obtain⟨a,b⟩: ∃a:Nat,u.A5.length=a+1:=⟨u.A5.length-1,by omega⟩;have e:(u.A7.length:Int)*u.A5.length=u.A7.length*(a:Int)+u.A7.length:=by rw[b];grind
 have g:((u.A5.length:Int)-1)=a:=by omega
 have m:(v:Int)*a+a<=u.A7.length*(a:Int):=by
  have:((v:Int)+1)*a<=u.A7.length*(a:Int):=My (by omega) (by omega)
  grind
 grind [Ax,AM]
theorem Is(h:BW u):AM u u.A1.length<=506/\2<=AM u 0:=by
 have:=h.DD;have:=h.Ek;have:=h.F4;have:=aFi (a:=u.A7.length) (b:=u.A5.length) (bG:=12) (aJ:=40) (by omega) (by omega) (by omega)
 grind [AM]
theorem WE(h:BW u)(d:v<u.A7.length): ∃p,u.Ay[GI u v]?=some p/\p∈u.Ay/\GI u v<u.Ay.length/\Fc p.k p.m p.q p.D9=true/\CS u v=p.k+p.m:=by
 obtain⟨x,b⟩:=CF d;have hb:=h.Au v x b;have c:GI u v<u.Ay.length:=by unfold GI;simp only[b];omega
 obtain⟨p,a⟩: ∃p,u.Ay[GI u v]?=some p:=⟨_,AS c⟩;refine⟨p,a,B9 a,c,(h.JD _ p a).1,?_⟩
 grind [GI,CS]
theorem n7(h:BW u)(b:v<u.A7.length)(i:Nat):0<=HQ u v i/\HQ u v i<=8:=by
 obtain⟨p,l,_,_,a,_⟩:=WE h b;simp only[Fc,AB,Ba]at a;obtain⟨c,d,a3,a4,m,e,f,g,j,k⟩:=a;have:=GQ c;have:=GQ d;have:=GQ e;have:=GQ f;have:=GQ g;have:=GQ j;have:=GQ k
 grind [HQ,Fa]
theorem Um(h:BW u)(R:List Int)(a:d<u.A1.length):0<=CD u R d/\CD u R d<=16:=by
 obtain⟨x,b⟩:=CF a;obtain⟨e,f,_⟩:=h.Lx d x b;obtain⟨y,c⟩: ∃y,u.Aa[x.model.toNat]?=some y:=⟨_,AS (by omega)⟩;have hb:=h.Xy _ y c
 grind [JT,CD]
theorem Gv(h:BW u)(a:d<u.A1.length):CJ u d<u.A5.length/\Cb u (CJ u d)=4:=by
 obtain⟨x,b⟩:=CF a;obtain⟨_,_,a3,a4,c⟩:=h.Lx d x b
 grind [CJ]
theorem Ls:a∈Gk u v↔a=Ft u v\/(∃j,j<u.A5.length-1/\a=Jd u v (j+1))\/ ∃d,d<u.A1.length/\Es u v d=true/\a=E8 u v d:=by
 grind [Gk]
theorem Oj:a∈B2 u R↔(∃v,v<u.A7.length/\a∈Gk u v)\/ ∃d,d<u.A1.length/\a=Hi u R d:=by
 grind [B2]
theorem a7r(h:BW u):(Gk u v).length<=64:=by
 have:=h.DD;have:=h.Ek
 grind [Gk]
theorem c4(h:BW u): ∀n:Nat,((List.range n).flatMap (Gk u)).length<=64*n
 |0=>by simp
 | n+1=>by
   have:=c4 h n
   grind [a7r,List.range_succ]
theorem dh(h:BW u):(B2 u R).length<=792:=by
 have:=h.Ek;have:=h.F4
 grind [c4,B2]
theorem S7(h:BW u)(R:List Int):(Dd u R).Cz:=by
 obtain⟨q,r⟩:=Is h;have s:AM u u.A1.length=AM u 0+u.A1.length:=by unfold AM;omega
 refine⟨by show 2<=AM u u.A1.length;omega,by show AM u u.A1.length<=700;omega,by have:=dh h (R:=R);show(B2 u R).length<=2500;omega,⟨by show(0:Int)<=0;omega,by show(0:Int)<AM u u.A1.length;omega⟩,⟨by show(0:Int)<=1;omega,by show(1:Int)<AM u u.A1.length;omega⟩,by show(0:Int)≠1;omega,λa l=> ?_⟩;have c: ∀x:Int,0<=x->x<AM u u.A1.length->(Dd u R).Cy x:= λx a b=>⟨a,b⟩;rcases Oj.1 l with⟨v,f,m⟩|⟨d,g,rfl⟩
 ·have n:=h.Di;have t:=N9 h f;rcases Ls.1 m with rfl|⟨j,w,rfl⟩|⟨d,g,_,rfl⟩
  ·have:=E3 h f (i:=0) n;simp only[Ax,if_true]at this;exact⟨c 0 (by omega) (by omega),c _ (by show(0:Int)<=2+v;omega) (by show 2+(v:Int)<_;omega),by show 0<=CS u v;omega,by show CS u v<=2147483647;omega⟩
  ·have k:j+1<u.A5.length:=(by omega);have:=(h.Gu k (h.HV k (by omega))).1;have o:=E3 h f (i:=D3 u (j+1)) (by omega);have y:=E3 h f k;have a3:=n7 h f (j+1);exact⟨c _ (by show 0<=Ax u v (D3 u (j+1));omega) (by show Ax u v (D3 u (j+1))<_;omega),c _ (by show 0<=Ax u v (j+1);omega) (by show Ax u v (j+1)<_;omega),a3.1,by show HQ u v (j+1)<=2147483647;omega⟩
  ·have o:=E3 h f (Gv h g).1;have e:AM u d=AM u 0+d:=(by unfold AM;omega);exact⟨c _ (by show 0<=Ax u v (CJ u d);omega) (by show Ax u v (CJ u d)<_;omega),c _ (by show 0<=AM u d;omega) (by show AM u d<_;omega),by show(0:Int)<=1;omega,by show(1:Int)<=2147483647;omega⟩
 ·have e:AM u d=AM u 0+d:=(by unfold AM;omega);have p:=Um h R g;exact⟨c _ (by show 0<=AM u d;omega) (by show AM u d<_;omega),c 1 (by omega) (by omega),p.1,by show CD u R d<=2147483647;omega⟩
def Pk(u:AY)(R:List Int):Prop:= ∃ab,Dr (Dd u R) ab/\HE u<=value (Dd u R) ab
end Go.Proofs.YtmmkkggfmigppaaGreat
