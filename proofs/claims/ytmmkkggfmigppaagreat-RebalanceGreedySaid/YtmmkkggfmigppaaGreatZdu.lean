/- A part of the proof. -/
import Derived.Test.YtmmkkggfmigppaaGreatZdt
set_option linter.all false
set_option maxRecDepth 20000
set_option maxHeartbeats 16000000
noncomputable section
namespace Go.Proofs.YtmmkkggfmigppaaGreat
open Go Go.DI Go.Big
open Classical in
def Np(L:List (List Int))(t:X):Option (Value×X):=if CP L/\ ∀r∈L,1<=r.length then some (AM t.ac L.length 1,C4 t.ac (F1 L t.ac) (t.AE (L.length+1)))else none
variable{L:List (List Int)}{t:X}{aH:List (List Value)}{k o q s bm f d:Nat}{l ps:List Nat}{R eg gR r:List Int}{u:AL}{fg:Int}
theorem uD(h:CP L)(a: ∀r∈L,1<=r.length):Np L t=some (AM t.ac L.length 1,C4 t.ac (F1 L t.ac) (t.AE (L.length+1))):=if_pos ⟨h,a⟩
abbrev uq:Cp V:= .B9 146 (List (List Int)) (λL=>[Bf L]) Np λL t r aA h a7 c=>by
 unfold Np at h;split at h
 ·next d=>cases h;exact(u1 (zr d.1) t).AD λr aA ⟨a,b⟩=>by rw[a,b];exact c
 ·cases h
@[simp] theorem aK9:uq.fn [O (L.map Bz) 1] t=Np L t:=Cp.BH (x:=L) (t:=t) λy a=>by
  have:y=L:=by simpa using a
  rw[this]
abbrev xz:Cp V:= .B9 46 (List (List Int)) (λL=>[Bf L]) Np λL t r aA h a7 d=>by
 unfold Np at h;split at h
 ·next c=>cases h;exact(u1 (a6s c.1 c.2) t).AD λr aA ⟨a,b⟩=>by rw[a,b];exact d
 ·cases h
@[simp] theorem aJo:xz.fn [O (L.map Bz) 1] t=Np L t:=Cp.BH (x:=L) (t:=t) λy a=>by
  have:y=L:=by simpa using a
  rw[this]
theorem xk: ∀{aH:List (List Value)} {n i:Nat} {t:X},i<n->(C4 n aH t).BY i=t.BY i
 |[],_,_,_,_=>rfl
 | c::aH,n,i,t,h=>by rw[N8,xk (by omega)];show(if i=n then _ else t.BY i)=t.BY i;rw[if_neg (by omega)]
theorem jG: ∀{aH:List (List Value)} {n i:Nat} {a b:X},a.BY i=b.BY i->(C4 n aH a).BY i=(C4 n aH b).BY i
 |[],_,_,_,_,h=>h
 | c::aH,n,i,a,b,h=>by rw[N8,N8];refine jG ?_;show(if i=n then _ else a.BY i)=(if i=n then _ else b.BY i);rw[h]
theorem so(h: ∀o∈l,o<t.ac):G2 t (C4 t.ac aH ((Ex t l).AE k)) l=C4 t.ac aH (t.AE k):=by
 have b:(G2 t (C4 t.ac aH ((Ex t l).AE k)) l).BY=(C4 t.ac aH (t.AE k)).BY:=by
  funext i;show(if i∈l then t.BY i else(C4 t.ac aH ((Ex t l).AE k)).BY i)=_;by_cases a:i∈l
  ·rw[if_pos a,xk (h i a)];show t.BY i=if i<t.ac then t.BY i else none
   rw[if_pos (h i a)]
  ·rw[if_neg a];refine jG ?_;show(if i<t.ac then(if i∈l then none else t.BY i)else none)=if i<t.ac then t.BY i else none
   rw[if_neg a]
 have c:(G2 t (C4 t.ac aH ((Ex t l).AE k)) l).ac=(C4 t.ac aH (t.AE k)).ac:=by
  show(C4 t.ac aH ((Ex t l).AE k)).ac=_
  rw[MD,MD];rfl
 have d:(G2 t (C4 t.ac aH ((Ex t l).AE k)) l).mp=(C4 t.ac aH (t.AE k)).mp:=by show(C4 t.ac aH ((Ex t l).AE k)).mp=_;rw[Pq,Pq];rfl
 generalize G2 t (C4 t.ac aH ((Ex t l).AE k)) l=x at b c d;generalize C4 t.ac aH (t.AE k)=y at b c d
 cases x;cases y;simp only at b c d;rw[b,c,d]
def Mj(t:X)(u:AL)(L:List (List Int)):X:=C4 (t.ac+2+11) (F1 L (t.ac+2+11)) ((((t.AE 2).A1 t.ac (some ⟨A7 u,true⟩)).AE 11).AE (L.length+1))
def LY(t:X)(u:AL)(L:List (List Int))(R:List Int):X:=
 (((Mj t u L).AE 1).A1 (t.ac+2+11+(L.length+1)) (some ⟨(EV u L).map Z,true⟩)).A1 (t.ac+2+9) (some ⟨[AM (t.ac+2+11) L.length 1,AM (t.ac+2+11+(L.length+1)) u.A4.length 1,AK (Ck u R)],true⟩)
theorem aAv(h:B4 u)(e:CP L)(f: ∀r∈L,1<=r.length):Bh V 92 [.agg (A7 u).toArray,Bf L,AK R] t λv aA=>v=AG (t.ac+2+9)/\aA=LY t u L R:=by
 refine Ax (aC:=⟨[jq u h],[uq,l2 u h]⟩) Xy.2 ?_;have g: ∀t:X,Np L t=some (AM t.ac L.length 1,C4 t.ac (F1 L t.ac) (t.AE (L.length+1))):= λt=>uD e f;have c:=so (t:=((t.AE 2).A1 t.ac (some ⟨A7 u,true⟩)).AE 11) (l:=[t.ac,t.ac]) (aH:=F1 L (t.ac+2+11)) (k:=L.length+1) (λo a=>by simp at a;subst a;simp;omega);have d:(Mj t u L).ac=t.ac+2+11+(L.length+1):=by unfold Mj;rw[MD];rfl
 have b:=so (t:=Mj t u L) (l:=[t.ac]) (aH:=[(EV u L).map Z]) (k:=1) (λo a=>by simp at a;subst a;rw[d];omega);rw[d]at b;unfold LY;simp only[Au,B1,A7,Mj,N8,a9e]at c b⊢;have i: ∀(aH:List (List Value)) (n:Nat) (aA:X),t.ac<n->(C4 n aH aA).Y t.ac=aA.Y t.ac:= λaH n aA h=>Oi h
 have j: ∀(aH:List (List Value)) (n:Nat) (aA:X),(C4 n aH aA).ac=aA.ac:= λaH n aA=>MD
 simp(disch:=first|omega|simp only[DI.AB];omega)[Xy,rm,g,c,b,i,j,-H,-D,-I,-F,-List.map_map]
theorem H4.DL{aA:X}(h:H4 t s o q ps L eg gR)(a: ∀b,b<t.ac->aA.Y b=t.Y b):H4 aA s o q ps L eg gR:=by
 refine⟨by rw[a s (E h.Qo)];exact h.Qo,h.Fq.AD (a o (E h.Fq.Dk)) λp d=> ?_,by rw[a q (E h.TA)];exact h.TA,h.fa,h.ZS,h.ZJ,h.j8,h.XE⟩;obtain⟨j,c,e⟩:=E5 d;have f:j<L.length:=by rw[<-h.Fq.len];exact c
 exact a p (E (h.Fq.Ds j p _ (by rw[<-e];exact AP c) (AP f)))
theorem V3{p:Nat}(h:p∈ID L k):k<p/\p<k+(L.length+1):=by simp only[ID,CG,G3]at h;obtain⟨j,a,rfl⟩:=h;omega
theorem aB4:H4 (LY t u L R) (t.ac+2+9) (t.ac+2+11) (t.ac+2+11+(L.length+1)) (ID L (t.ac+2+11)) L (EV u L) (Ck u R):=by
 have f:(Mj t u L).ac=t.ac+2+11+(L.length+1):=by unfold Mj;rw[MD];rfl
 have c:E4 (Mj t u L) (t.ac+2+11) (ID L (t.ac+2+11)) L:=r9 (t:=((t.AE 2).A1 t.ac (some ⟨A7 u,true⟩)).AE 11);have a: ∀b,b<(Mj t u L).ac->b≠t.ac+2+9->(LY t u L R).Y b=(Mj t u L).Y b:= λb hb d=>by unfold LY;rw[A6 d,A6 (by omega),Ab hb]
 refine⟨?_,c.AD (a _ (by omega) (by omega)) λp e=> ?_,?_,by omega,by omega,by omega,λh=> ?_,λh=> ?_⟩
 ·unfold LY;rw[AR (by simp;omega),Uk]
 ·have:=V3 e;exact a p (by omega) (by omega)
 ·unfold LY;rw[A6 (by omega),AR (by simp;omega)]
 ·have:=V3 h;omega
 ·have:=V3 h;omega
abbrev s8(u:AL)(h:B4 u)(L:List (List Int))(c:CP L)(d: ∀r∈L,1<=r.length)(R:List Int):Cp V:= .B9 92 Unit (λ_=>[.agg (A7 u).toArray,Bf L,AK R]) (λ_ t=>some (AG (t.ac+2+9),LY t u L R)) λ_ t r aA e a7 f=>by cases e;exact(aAv h c d).AD λr aA ⟨a,b⟩=>by rw[a,b];exact f
@[simp] theorem aKF{h:B4 u}{a:CP L}{b: ∀r∈L,1<=r.length}:(s8 u h L a b R).fn [.agg #[Z u.ext,O (u.Bu.map CS) 4,O (u.Af.map CX) 4,O (u.A5.map Bq) 7,O (u.A4.map Bx) 3,O (u.B7.map BE) 17,O (u.A3.map CW) 2],O (L.map Bz) 1,O (R.map λx=>[Z x]) 1] t=some (AG (t.ac+2+9),LY t u L R):=Cp.BH (x:=()) (t:=t) λ_ _=>rfl
theorem a1l(h:B4 u)(a:CP L):AO V 91 [.agg (A7 u).toArray,Bf L] (.bool (Cs u L)):=by have b:Hl u=true:=h.ok.Nz;refine BQ (Ax (aC:=⟨[Yk u h.Cu,jm u h],[]⟩) dB.2 ?_);simp(disch:=first|omega|simp only[DI.AB];omega)[dB,pV,A7]
theorem a7p{L:List (List Int)}{bm:Nat}{r eu:List Int}{d:Nat}(a:L[bm]?=some r):ES (L.set bm eu) d+r.count (d:Int)=ES L d+eu.count (d:Int):=by
 unfold ES;induction L generalizing bm with
 |nil=>cases a
 | cons x L b=>
   cases bm with
   | zero=>simp at a;subst a;simp only[List.set_cons_zero,I2,List.count_append];omega
   | succ bm=>have:=b (bm:=bm) (by simpa using a);simp only[Qq,I2,List.count_append];omega
theorem a8w{r:List Int}{f:Nat}{x y:Int}(a:r[f]?=some y)(d:Int):(r.set f x).count d+(if y=d then 1 else 0)=r.count d+(if x=d then 1 else 0):=by
 induction r generalizing f with
 |nil=>cases a
 | cons z r b=>
   cases f with
   | zero=>simp at a;subst a;simp only[List.set_cons_zero,List.count_cons];by_cases c:x=d<;>by_cases e:z=d<;>simp[c,e]<;>omega
   | succ f=>have:=b (f:=f) (by simpa using a);simp only[Qq,List.count_cons];omega
theorem gP{x y:Int}(c:L[bm]?=some r)(g:r[f]?=some y)(d:Nat):ES (EX L bm f x) d+(if y=(d:Int)then 1 else 0)=ES L d+(if x=(d:Int)then 1 else 0):=by
 have e:L.getD bm []=r:=by simp[c]
 have a:=a7p (eu:=r.set f x) (d:=d) c;have b:=a8w (x:=x) g (d:Int);unfold EX;rw[e];omega
theorem a1Z(h:L[bm]?=some r)(i:r[f]?=some fg)(m:d<u.A4.length)(t:fg<u.A4.length)(n:fg≠(d:Int)):N3 (EV u L) d fg=EV u (EX L bm f d):=by
 have k: ∀j,j<u.A4.length->(EV u L)[j]?=some ((ES L j:Nat):Int):= λj b=>by rw[Mc,GH b]
 have o:(EV u L).getD d 0=((ES L d:Nat):Int):=by rw[E1,k d m];rfl
 unfold N3;simp only;rw[o];by_cases c:0<=fg
 ·obtain⟨g,rfl⟩:=Dp c;have p:g<u.A4.length:=(by omega);have q:g≠d:= λe=>n (by rw[e]);have s:((EV u L).set d (((ES L d:Nat):Int)+1)).getD g 0=((ES L g:Nat):Int):=by
   rw[E1,Ih,if_neg (λe=>q e.symm),k g p];rfl
  rw[if_pos c,Dx,s,Mc,Mc,LJ,LJ];refine HS λj b=> ?_;have:=gP (x:=(d:Int)) h i j;by_cases l:j=g
  ·subst l;simp only[if_true];split at this<;>split at this<;>omega
  ·simp only[if_neg l];by_cases a:j=d
   ·subst a;simp only[if_true];split at this<;>split at this<;>omega
   ·simp only[if_neg a];split at this<;>split at this<;>omega
 ·rw[if_neg c,Mc,Mc,LJ];refine HS λj b=> ?_;have:=gP (x:=(d:Int)) h i j;by_cases a:j=d
  ·subst a;simp only[if_true];split at this<;>split at this<;>omega
  ·simp only[if_neg a];split at this<;>split at this<;>omega
def MQ(u:AL)(L:List (List Int)):Prop:=CP L/\(∀r∈L,1<=r.length)/\ ∀r∈L,∀x∈r,x<u.A4.length
theorem pn(h:MQ u L)(k:d<u.A4.length):MQ u (EX L bm f d):=by
 by_cases i:bm<L.length
 ·have g:=Dq i;have e:L.getD bm []=L[bm]:=(by simp[i]);have b: ∀r∈EX L bm f d,r∈L\/r=L[bm].set f (d:Int):= λr b=>by
   have:=Ml b;rw[e]at this;exact this
  refine⟨⟨by rw[Q8];exact h.1.1,λr c=> ?_⟩,λr c=> ?_,λr c x j=> ?_⟩
  ·rcases b r c with a|rfl
   ·exact h.1.2 r a
   ·rw[Ma];exact h.1.2 _ g
  ·rcases b r c with a|rfl
   ·exact h.2.1 r a
   ·rw[Ma];exact h.2.1 _ g
  ·rcases b r c with a|rfl
   ·exact h.2.2 r a x j
   ·rcases Ml j with a|rfl
    ·exact h.2.2 _ g x a
    ·omega
 ·have:EX L bm f d=L:=(by unfold EX;rw[List.set_eq_of_length_le (by omega)]);rw[this];exact h
def F8(u:AL)(R:List Int):List EB->List (List Int)->List (List Int)×Nat
 |[],L=>(L,0)
 |s::l,L=>if Ez u.A4.length (EV u L) (Ck u R) L s then((F8 u R l (EX L s.FQ.toNat s.Gk.toNat s.EJ)).1,(F8 u R l (EX L s.FQ.toNat s.Gk.toNat s.EJ)).2+1)else(L,0)
theorem sz{s:EB}(h:Ez u.A4.length (EV u L) (Ck u R) L s=true): ∃bm f d:Nat,∃r,s.FQ=bm/\s.Gk=f/\s.EJ=d/\L[bm]?=some r/\r[f]?=some s.Em/\d<u.A4.length/\s.Em≠(d:Int):=by
 unfold Ez at h;simp only[AF,BW,JQ,List.contains_eq_mem,OB]at h;obtain⟨m,v,n,o,a,p,w,b,x⟩:=h;obtain⟨bm,c⟩:=Dp m;obtain⟨f,g⟩:=Dp n;obtain⟨d,i⟩:=Dp p;have q:bm<L.length:=by omega
 have j:L[bm]?=some L[bm]:=AP q;have t:DC L s=L[bm]:=by unfold DC;rw[c];simp[j]
 rw[t]at o a b;have k:f<L[bm].length:=by omega
 have l:L[bm][f]?=some s.Em:=by rw[g]at a;simp[k]at a;rw[AP k,a]
 exact⟨bm,f,d,L[bm],c,g,i,j,l,by omega,λe=>b (by rw[i,<-e];exact B5 l)⟩
abbrev Zp(gR:List Int):AN V:= .B9 93 (List (List Int)×List Int×EB) (λx=>CP x.1/\gR.length<=x.2.1.length) (λx=>[BX [Bf x.1,AK x.2.1,AK gR] 0,.agg (EI x.2.2).toArray]) (λx=> .bool (Ez gR.length x.2.1 gR x.1 x.2.2)) λx a=>a5C a.1 a.2
theorem aBg{a b c d:Int}(h:CP L/\gR.length<=eg.length):(Zp gR).fn [BX [Bf L,AK eg,AK gR] 0,.agg #[Z a,Z b,Z c,Z d]]=some (.bool (Ez gR.length eg gR L ⟨a,b,c,d⟩)):=
 AN.BH (x:=((L,eg,EB.mk a b c d):List (List Int)×List Int×EB)) h λ⟨n,o,f⟩ e=>by obtain⟨p,q,r,s⟩:=f;simp[EI]at e;obtain⟨⟨g,i⟩,j,k,l,m⟩:=e;subst g i j k l m;rfl
theorem a6d{R:List Int}(m:H4 t s o q ps L eg gR)(a:MQ u L)(b:L[bm]?=some r)(i:r[f]?=some fg)(n:d<u.A4.length)(v:fg≠(d:Int)): ∃p,aE ps L (EV u L) bm f d fg p:=by
 obtain⟨k,e⟩:=Ae.1 b;have w:bm<ps.length:=by rw[m.Fq.len];exact k
 have y:=(Ae.1 i).1;have z:L.getD bm []=r:=by simp[b]
 have c:r∈L:=B5 b;have h:fg∈r:=B5 i;refine⟨ps[bm],k,by rw[z];exact y,by rw[Uk];exact n,by rw[Uk];exact a.2.2 r c _ h,AP w,λx l=> ?_,λg A=> ?_⟩
 ·rw[Mc]at l;obtain⟨j,D,rfl⟩:=mU l;have:=ob (d:=j) a.1.2;have:=a.1.1;omega
 ·subst A;have B:g<u.A4.length:=(by have:=a.2.2 r c _ h;omega);have C:g≠d:= λe=>v (by rw[e]);have E:0<ES L g:=List.count_pos_iff.2 (Mv.2 ⟨r,c,h⟩);rw[E1,Ih,if_neg (λe=>C e.symm),Mc,GH B];show 1<=((ES L g:Nat):Int);omega
theorem aCh(h:B4 u){l:List EB}(AQ:l.length<=1000000): ∀(e:List EB) (i:Nat) (L:List (List Int)),l.drop i=e->i<=l.length->MQ u L-> ∀(A:A2) (t:X) (Q:BM->A2->X->Prop),
 A 10=AG s->A 3=Pw l->A 21=Pw l->A 22=Z l.length->A 23=Z i->H4 t s o q ps L (EV u L) (Ck u R)->
 (∀g aA,H4 aA s o q ps (F8 u R e L).1 (EV u (F8 u R e L).1) (Ck u R)->(g 8=AM o (F8 u R e L).1.length 1->g 9=Z ((i+(F8 u R e L).2:Nat):Int)->Q .Cz g aA)/\(i+(F8 u R e L).2=l.length->g 10=AG s->g 3=Pw l->Q (.Ao 0) g aA))->
 Bc V (.loop W5) A t Q:=by
 intro e;induction e with
 | nil=>intro i L m A3 F A t Q y J G z B C D;have AR:l.length<=i:=(by simpa using m);refine Ba (aC:=⟨[Zp (Ck u R)],[Ui s o q ps]⟩) λA5 N=> ?_;have c: ¬(i:Int)<l.length:=(by omega);simp[W5,z,B,c];exact(D _ _ C).2 (by simp[F8];omega) (by simp[y]) (by simp[J])
 | cons x e A7=>
   intro i L m A3 F A t Q y J G z B C D;have A8:i<l.length:=by
    rcases Nat.lt_or_ge i l.length with c|c
    ·exact c
    ·rw[List.drop_eq_nil_of_le c]at m;cases m
   have A9:l[i]?=some l[i]:=AP A8;obtain rfl:x=l[i]:=(by have:=congrArg (λk=>k[0]?) m;simp[A9]at this;exact this.symm);have AA:l.drop (i+1)=e:=(by have:=congrArg (List.drop 1) m;simpa using this);refine Ba (aC:=⟨[Zp (Ck u R)],[Ui s o q ps]⟩) λA5 N=> ?_;have c:(i:Int)<l.length:=(by omega);have AD:=BZ (n:=i) (by omega);have v:H4 ((t.AE 6).A1 (t.ac+3) (some ⟨[Z l[i].FQ,Z l[i].Gk,Z l[i].Em,Z l[i].EJ],true⟩)) s o q ps L (EV u L) (Ck u R):=C.DL λb hb=>by rw[A6 (by omega),Ab hb]
   have O:=aBv v;have H:(Zp (Ck u R)).fn [BX [Bf L,AK (EV u L),AK (Ck u R)] 0,.agg #[Z l[i].FQ,Z l[i].Gk,Z l[i].Em,Z l[i].EJ]]=some (.bool (Ez u.A4.length (EV u L) (Ck u R) L l[i])):=(by have:=aBg (gR:=Ck u R) (L:=L) (eg:=EV u L) (a:=l[i].FQ) (b:=l[i].Gk) (c:=l[i].Em) (d:=l[i].EJ) ⟨F.1,by rw[SC,Uk];exact Aj _⟩;rw[SC]at this;exact this);cases j:Ez u.A4.length (EV u L) (Ck u R) L l[i]
   ·rw[j]at H;have P:=C.Qo;have AS:=E P;simp(disch:=first|omega|simp only[DI.AB];omega)[W5,y,G,z,B,c,EI,O,H,P];refine(D _ _ ?_).1 ?_ ?_
    ·simp only[F8,j];exact v.DL λb hb=>rfl
    ·simp[F8,j]
    ·simp[F8,j]
   ·rw[j]at H;simp(disch:=first|omega|simp only[DI.AB];omega)[W5,y,G,z,B,c,EI,O,H];obtain⟨bm,f,d,r,S,T,U,W,Y,K,A0⟩:=sz j;obtain⟨p,I⟩:=a6d (R:=R) C F W Y K A0;rw[S,T,U]at v⊢;generalize AT:(t.AE 6).A1 (t.ac+3) (some ⟨[Z bm,Z f,Z l[i].Em,Z d],true⟩)=w at v⊢;refine yq (v.DL (aA:=Ca w (BL 9 w (AG s))) λb hb=>rfl) I ?_;have M:=H4.step (f:=f) (d:=d) (fg:=l[i].Em) (v.DL (aA:=Ca w (BL 9 w (AG s))) λb hb=>rfl) I.a2x I.ka;have AF:l[i].Em<u.A4.length:=(by have:=I.aBr;rw[Uk]at this;exact this);rw[a1Z W Y K AF A0]at M;generalize LP (Ca w (BL 9 w (AG s))) p q bm f d l[i].Em L (EV u L)=AU at M⊢;simp[B,AD];refine N _ _ (A7 (i+1) (EX L bm f d) AA (by omega) (pn F K) _ _ _ (by simp[y]) (by simp[J]) (by simp[G]) (by simp[z]) (by simp) M λg aA AI=> ?_);have AJ:F8 u R (l[i]::e) L=((F8 u R e (EX L bm f d)).1,(F8 u R e (EX L bm f d)).2+1):=by
     simp only[F8,j,if_true,S,T,U,Dx]
    rw[AJ]at D;obtain⟨AL,AN⟩:=D g aA AI;refine⟨λa b=>AL a (by rw[b];congr 1;omega),λa b AO=>AN (by omega) b AO⟩
abbrev hg(u:AL)(h:B4 u):AN V:= .B9 91 (List (List Int)) CP (λL=>[.agg (A7 u).toArray,Bf L]) (λL=> .bool (Cs u L)) λL a=>a1l h a
@[simp] theorem aGJ{h:B4 u}(a:CP L):(hg u h).fn [.agg #[Z u.ext,O (u.Bu.map CS) 4,O (u.Af.map CX) 4,O (u.A5.map Bq) 7,O (u.A4.map Bx) 3,O (u.B7.map BE) 17,O (u.A3.map CW) 2],O (L.map Bz) 1]=some (.bool (Cs u L)):=AN.BH (x:=L) a λy b=>by simpa using b
end Go.Proofs.YtmmkkggfmigppaaGreat
namespace Go.Big
def Ft:List Int->List Int->Nat
 |x::l,y::k=>(if x=y then 0 else 1)+Ft l k
 |_,_=>0
theorem lG: ∀{a b:List Int},Ft a b<=a.length
 |[],_=>Aj _
 |_::_,[]=>C8 _
 | x::l,y::k=>by have:=lG (a:=l) (b:=k);simp only[Ft,DZ];split<;>omega
theorem rI: ∀{a:List Int},Ft a a=0
 |[]=>rfl
 |x::l=>by simp[Ft,rI (a:=l)]
theorem qH: ∀{a b:List Int} {i:Nat} {x y:Int},a[i]?=some x->b[i]?=some y->Ft (a.take (i+1)) (b.take (i+1))=Ft (a.take i) (b.take i)+if x=y then 0 else 1
 | e::a,v::b,0,x,y,c,d=>by simp at c d;subst c;subst d;simp[Ft]
 | e::a,v::b,i+1,x,y,c,d=>by have:=qH (a:=a) (b:=b) (i:=i) (by simpa using c) (by simpa using d);simp only[Wn,Ft];rw[this];omega
 |[],_,i,x,y,h,_=>by simp at h
 |_::_,[],i,x,y,_,h=>by simp at h
def GB:List (List Int)->List (List Int)->Nat
 |r::a,s::b=>Ft r s+GB a b
 |_,_=>0
theorem lH: ∀{a b:List (List Int)} {ah:Nat},(∀r∈a,r.length<=ah)->GB a b<=a.length*ah
 |[],_,ah,_=>C8 _
 |_::_,[],ah,_=>C8 _
 | r::a,s::b,ah,h=>by have d:=lH (a:=a) (b:=b) (ah:=ah) λx c=>h x (by simp[c]);have e:=lG (a:=r) (b:=s);have f:=h r (by simp);simp only[GB,DZ,IQ,Nat.one_mul];omega
theorem xI: ∀{a:List (List Int)},GB a a=0
 |[]=>rfl
 |x::l=>by simp[GB,xI (a:=l),rI]
theorem lY: ∀{a b:List (List Int)} {i:Nat} {r s:List Int},a[i]?=some r->b[i]?=some s->GB (a.take (i+1)) (b.take (i+1))=GB (a.take i) (b.take i)+Ft r s
 | e::a,v::b,0,x,y,c,d=>by simp at c d;subst c;subst d;simp[GB]
 | e::a,v::b,i+1,x,y,c,d=>by have:=lY (a:=a) (b:=b) (i:=i) (by simpa using c) (by simpa using d);simp only[Wn,GB];rw[this];omega
 |[],_,i,x,y,h,_=>by simp at h
 |_::_,[],i,x,y,_,h=>by simp at h
def NB:List (List Int)->List (List Int)->Bool
 |[],[]=>true
 |r::a,s::b=>decide (r.length=s.length)&&NB a b
 |_,_=>false
theorem qI: ∀{a b:List (List Int)},a.length≠b.length->NB a b=false
 |[],[],h=>absurd rfl h
 |[],_::_,_=>rfl
 |_::_,[],_=>rfl
 | r::a,s::b,h=>by simp only[NB];rw[qI (a:=a) (b:=b) (by simpa using h),Bool.and_false]
theorem w4: ∀{a b:List (List Int)} {i:Nat} {r s:List Int},a[i]?=some r->b[i]?=some s->r.length≠s.length->NB a b=false
 |f::a,v::b,0,x,y,c,d,e=>by simp at c d;subst c;subst d;simp[NB,e]
 | f::a,v::b,i+1,x,y,c,d,e=>by simp only[NB];rw[w4 (a:=a) (b:=b) (i:=i) (by simpa using c) (by simpa using d) e,Bool.and_false]
 |[],_,i,x,y,h,_,_=>by simp at h
 |_::_,[],i,x,y,_,h,_=>by simp at h
theorem Ty: ∀{a b:List (List Int)},a.length=b.length->(∀(i:Nat) r s,a[i]?=some r->b[i]?=some s->r.length=s.length)->NB a b=true
 |[],[],_,_=>rfl
 |[],_::_,h,_=>by simp at h
 |_::_,[],h,_=>by simp at h
 | d::a,v::b,h,c=>by simp only[NB];rw[Ty (by simpa using h) λi x y e f=>c (i+1) x y (by simpa using e) (by simpa using f),c 0 d v rfl rfl];simp
def EH(a b:List (List Int)):Int:=if NB a b then GB a b else-1
end Go.Big
namespace Go.Proofs.YtmmkkggfmigppaaGreat
open Go Go.DI Go.Big
def Eu(br:List (List Int))(v i:Nat)(x:Int):Prop:= ∃r,br[v]?=some r/\r[i]?=some x
variable{br mL Fin L:List (List Int)}{i v:Nat}{x y:Int}{h:EB}{T:List EB}{r:List Int}{aC:Option Nat}
theorem Si(h:Eu br v i x)(c:Eu br v i y):x=y:=by obtain⟨r,d,e⟩:=h;obtain⟨s,a,b⟩:=c;rw[d]at a;cases a;rw[e]at b;cases b;rfl
theorem iz{w j:Nat}{z:Int}(h:Eu br v i z):Eu (EX br v i x) w j y↔if w=v/\j=i then y=x else Eu br w j y:=by
 obtain⟨r,a,d⟩:=h;have f:=(Ae.1 a).1;have g:=(Ae.1 d).1;have k:br.getD v []=r:=by rw[E1,a];rfl
 unfold Eu EX;rw[k];by_cases c:w=v
 ·subst c;rw[List.getElem?_set_self f];simp only[Fx,exists_eq_left',true_and];by_cases b:j=i
  ·subst b;rw[List.getElem?_set_self g,if_pos rfl];simp only[Fx];exact⟨Eq.symm,Eq.symm⟩
  ·rw[List.getElem?_set_ne (λe=>b e.symm),if_neg b,a];simp
 ·rw[List.getElem?_set_ne (λe=>c e.symm),if_neg λq=>c q.1]
def O7(br mL:List (List Int)):Prop:=br.length=mL.length/\ ∀(v:Nat) r s,br[v]?=some r->mL[v]?=some s->r.length=s.length
theorem ma(h:O7 br mL):O7 (EX br v i x) mL:=by
 refine⟨by rw[Q8,h.1],λw r s a b=> ?_⟩;unfold EX at a;rw[Ih]at a;split at a
 ·next e=>
  subst e;split at a
  ·next d=>cases a;rw[Ma];have c:br[v]?=some br[v]:=AP d;rw[E1,c];exact h.2 v _ s c b
  ·cases a
 ·exact h.2 w r s a b
theorem a7h(h:O7 br mL)(f: ∀v i x y,Eu br v i x->Eu mL v i y->x=y):br=mL:=by
 apply Mi;intro v;by_cases c:v<br.length
 ·have g:v<mL.length:=(by rw[<-h.1];exact c);have a:br[v]?=some br[v]:=AP c;have b:mL[v]?=some mL[v]:=AP g;have k:=h.2 v _ _ a b;rw[a,b];congr 1;apply Mi;intro i;by_cases j:i<br[v].length
  ·have d:br[v][i]?=some br[v][i]:=AP j;have e:mL[v][i]?=some mL[v][i]:=AP (by omega);rw[d,e,f v i _ _ ⟨_,a,d⟩ ⟨_,b,e⟩]
  ·rw[L1 (by omega),L1 (by omega)]
 ·rw[L1 (by omega),L1 (by rw[<-h.1];omega)]
def jb(br Fin:List (List Int))(h:EB):Prop:= ∃v i:Nat,h.FQ=v/\h.Gk=i/\Eu br v i h.Em/\Eu Fin v i h.EJ/\h.Em≠h.EJ
structure J7(br Fin:List (List Int))(T:List EB):Prop where
 a8A:O7 br Fin
 UI: ∀v i x y,Eu br v i x->Eu Fin v i y->x≠y-> ∃h∈T,h.FQ=(v:Nat)/\h.Gk=(i:Nat)
 left: ∀h∈T,jb br Fin h
 ch:T.Pairwise λa b=> ¬(a.FQ=b.FQ/\a.Gk=b.Gk)
theorem J7.nil(h:J7 br Fin []):br=Fin:=a7h h.a8A λv i x y a b=>MR λq=>by obtain⟨_,c,_⟩:=h.UI v i x y a b q;simp at c
theorem J7.fc{bT aH:List EB}(e:J7 br Fin (bT++h::aH)):J7 (EX br h.FQ.toNat h.Gk.toNat h.EJ) Fin (bT++aH):=by
 obtain⟨v,i,s,t,g,u,F⟩:=e.left h (by simp);obtain⟨z,A,l⟩:=Vr.1 e.ch;have m:=List.pairwise_cons.1 A;have off: ∀k∈bT++aH,¬(k.FQ=(v:Nat)/\k.Gk=(i:Nat)):= λk d q=>by
  rcases D2.1 d with d|d
  ·exact l k d h (by simp) ⟨by omega,by omega⟩
  ·exact m.1 k d ⟨by omega,by omega⟩
 rw[s,t];simp only[Dx];refine⟨ma e.a8A,λw j x y f n o=> ?_,λk d=> ?_,Vr.2 ⟨z,m.2,λa B b hb=>l a B b (by simp[hb])⟩⟩
 ·rw[iz g]at f;by_cases c:w=v/\j=i
  ·rw[if_pos c]at f;obtain⟨rfl,rfl⟩:=c;exact absurd (by rw[f];exact Si u n) o
  ·rw[if_neg c]at f;obtain⟨k,d,p,r⟩:=e.UI w j x y f n o;simp only[D2,CZ]at d;rcases d with d|rfl|d
   ·exact⟨k,by simp[d],p,r⟩
   ·exact absurd ⟨by omega,by omega⟩ c
   ·exact⟨k,by simp[d],p,r⟩
 ·obtain⟨w,j,C,D,a3,a4,E⟩:=e.left k (by simp only[D2,CZ]at d⊢;rcases d with h|h;exact .inl h;exact .inr (.inr h));refine⟨w,j,C,D,?_,a4,E⟩;rw[iz g,if_neg λq=>off k d ⟨by omega,by omega⟩];exact a3
structure I8(L Fin:List (List Int))(v i:Nat)(T:List EB):Prop where
 UI: ∀(w j:Nat) x y,(w<v\/w=v/\j<i)->Eu L w j x->Eu Fin w j y->x≠y-> ∃h∈T,h.FQ=(w:Nat)/\h.Gk=(j:Nat)
 left: ∀h∈T,jb L Fin h/\(h.FQ<v\/h.FQ=v/\h.Gk<i)
 ch:T.Pairwise λa b=> ¬(a.FQ=b.FQ/\a.Gk=b.Gk)
 len:T.length<=8*v+i
theorem I8.nil:I8 L Fin 0 0 []:=⟨λw j x y h=>by omega,by simp,.nil,by simp⟩
theorem I8.skip(h:I8 L Fin v i T)(g:Eu L v i x)(l:Eu Fin v i x):I8 L Fin v (i+1) T:=by
 refine⟨λw j a b m d hb e=> ?_,λk f=>⟨(h.left k f).1,?_⟩,h.ch,by have:=h.len;omega⟩
 ·by_cases c:w=v/\j=i
  ·obtain⟨rfl,rfl⟩:=c;exact absurd ((Si d g).trans (Si l hb)) e
  ·exact h.UI w j a b (by omega) d hb e
 ·have:=(h.left k f).2;omega
theorem I8.add(h:I8 L Fin v i T)(f:Eu L v i x)(g:Eu Fin v i y)(l:x≠y):I8 L Fin v (i+1) (T++[⟨v,i,x,y⟩]):=by
 refine⟨λw j a b p e hb m=> ?_,λk d=> ?_,Vr.2 ⟨h.ch,List.pairwise_singleton _ _,λa e b hb=> ?_⟩,by have:=h.len;simp;omega⟩
 ·by_cases c:w=v/\j=i
  ·exact⟨⟨v,i,x,y⟩,by simp,by simp[c.1],by simp[c.2]⟩
  ·obtain⟨k,n,o⟩:=h.UI w j a b (by omega) e hb m;exact⟨k,by simp[n],o⟩
 ·rcases D2.1 d with d|d
  ·refine⟨(h.left k d).1,?_⟩;have:=(h.left k d).2;omega
  ·obtain rfl:=IA.1 d;exact⟨⟨v,i,rfl,rfl,f,g,l⟩,.inr ⟨rfl,by simp only;omega⟩⟩
 ·obtain rfl:=IA.1 hb;have:=(h.left a e).2;simp only;omega
theorem I8.Ds(h:I8 L Fin v r.length T)(g:L[v]?=some r)(m:r.length<=8):I8 L Fin (v+1) 0 T:=by
 refine⟨λw j a b n d hb i=> ?_,λk e=>⟨(h.left k e).1,?_⟩,h.ch,by have:=h.len;omega⟩
 ·refine h.UI w j a b ?_ d hb i;by_cases c:w=v
  ·subst c;obtain⟨s,f,l⟩:=d;rw[g]at f;cases f;exact .inr ⟨rfl,(Ae.1 l).1⟩
  ·omega
 ·have:=(h.left k e).2;omega
theorem I8.all(h:I8 L Fin L.length 0 T)(b:O7 L Fin):J7 L Fin T:=
 ⟨b,λv i x y a c d=>h.UI v i x y (.inl (by obtain⟨r,e,_⟩:=a;exact(Ae.1 e).1)) a c d,λk f=>(h.left k f).1,h.ch⟩
@[simp] theorem aHU{b o l c z:Nat}:Er z (.slice (some ⟨b,o,aC⟩) l c)=(c==z):=by simp[Er,DK,G9]
@[simp] theorem aGK{b o l c z:Nat}{i:Int}:Nj (.slice (some ⟨b,o,aC⟩) l c) z i= .pointer (some ⟨b,o+i.toNat*z,none⟩):=rfl
abbrev Fa(T:List EB):List Value:=(T.map EI).flatten
theorem nM:(Fa T).length=T.length*4:=by rw[LV (z:=4) λr a=>by obtain⟨x,_,rfl⟩:=CG.1 a;rfl,E9]
end Go.Proofs.YtmmkkggfmigppaaGreat
namespace Go.DI
open Go Go.RowKit
variable {P:Program} {aC:HC P} {t:X} {A:A2} {c:CF} {Q:BM->A2->X->Prop}
end Go.DI
namespace Go.Proofs.YtmmkkggfmigppaaGreat
open Go Go.DI Go.Big
variable{A:A2}{Q:BM->A2->X->Prop}{c:CF}{o p bm:Nat}{t aA:X}{L:List (List Int)}{ps:List Nat}{r:List Int}{x:Int}
theorem r4{n:Nat}(g:t.Y o=some ⟨List.replicate n (.slice none 0 0),true⟩)
 (l: ∀(aA:X) (ps:List Nat),E4 aA o ps (List.replicate n [])->t.ac<=aA.ac->(∀b,b<t.ac->b≠o->aA.Y b=t.Y b)->(∀p∈ps,t.ac<=p)->Bc V c A aA Q):Bc V c A t Q:=by
 have w:=E g;have key: ∀(r k:Nat) (a:X),k+r=n->a.ac=t.ac+k->a.Y o=some ⟨D4 n (λj=>if j<k then AM (t.ac+j) 0 1 else .slice none 0 0),true⟩->(∀j,j<k->a.Y (t.ac+j)=some ⟨[],true⟩)->(∀b,b<t.ac->b≠o->a.Y b=t.Y b)->Bc V c A a Q:=by
  intro r;induction r with
  | zero=>
    intro k a m h d q hb;obtain rfl:k=n:=(by omega);refine l a ((List.range k).map (t.ac+ ·)) ⟨by simp,?_,?_,?_,λi p r s x=> ?_⟩ (by omega) hb λp s=> ?_
    ·grind [List.pairwise_iff_getElem]
    ·simp;omega
    ·rw[d,D7];simp only[Ov];congr 2;refine HS λj f=> ?_
     simp_all [Kb]
    ·grind
    ·grind
  | succ r u=>
    intro k a m h d q hb;have v:k<n:=(by omega);have y:=E d;refine Nd (o:=o) (j:=k) (z:=1) (cs:=D4 n (λj=>if j<k then AM (t.ac+j) 0 1 else .slice none 0 0)) d (by rw[GH v,if_neg (Nat.lt_irrefl _)]) ?_;refine u (k+1) _ (by omega) (by simp;omega) ?_ (λj f=> ?_) λb B C=> ?_
    ·rw[AR (by simp;omega),LJ]
     grind
    ·by_cases e:j=k
     ·subst e;rw[<-h,A6 (by omega),AR (by simp)]
     ·grind [A6,Ab]
    ·grind [A6,Ab]
 exact key n 0 t (by omega) rfl (by rw[g,Vv];congr 2) (λj f=>absurd f (Ks _)) λb _ _=>rfl
theorem E4.K9(h:E4 t o ps L)(b:p∈ps):p<t.ac:=by
 obtain⟨j,a,e⟩:=E5 b;have c:j<L.length:=by rw[<-h.len];exact a
 exact E (h.Ds j p _ (by rw[<-e];exact AP a) (AP c))
theorem E4.Un(h:E4 t o ps L)(a: ∀b,b<t.ac->aA.Y b=t.Y b):E4 aA o ps L:=
 h.AD (a o (E h.Dk)) λp c=>a p (h.K9 c)
theorem E4.mo{q:Nat}(h:E4 t o ps L)(n:L[bm]?=some r)(f:ps[bm]?=some p)(u:q≠o/\q∉ps)
 (v:aA.Y o=some ⟨(D7 ps L).set bm (AM q (r.length+1) 1),true⟩) (A:aA.Y q=some ⟨(r++[x]).map Z,true⟩) (w: ∀b∈ps,b≠p->aA.Y b=t.Y b):E4 aA o (ps.set bm q) (L.set bm (r++[x])):=by
 have B:=(Ae.1 n).1;have C:=(Ae.1 f).1;refine⟨by simp[h.len],?_,?_,?_,λi b s hb g=> ?_⟩
 ·refine Mb.2 λi j k l y=> ?_;simp only[Ma]at k l;have m:=Mb.1 h.Cg i j k l y
  grind
 ·intro d;rcases Ml d with d|rfl
  ·exact h.F7 d
  ·exact u.1 rfl
 ·rw[v];congr 2;unfold D7;rw[Ma,LJ]
  grind [HS,Lx]
 ·by_cases e:bm=i
  ·grind
  ·rw[List.getElem?_set_ne e]at hb g;have m:b≠p:= λz=>by
    subst z;have a:=Ae.1 f;have c:=Ae.1 hb;have D:=Mb.1 h.Cg
    grind
   rw[w b (B5 hb) m];exact h.Ds i b s hb g
theorem E4.HF(h:E4 t o ps L)(b:L[bm]?=some r): ∃p,ps[bm]?=some p/\p∈ps/\t.Y p=some ⟨r.map Z,true⟩/\List.take 1 (List.drop bm (D7 ps L))=[AM p r.length 1]/\bm+1<=(D7 ps L).length:=by
 have c:=(Ae.1 b).1;have d:bm<ps.length:=by rw[h.len];exact c
 have a:ps[bm]?=some ps[bm]:=AP d;refine⟨ps[bm],a,B5 a,h.Ds bm _ r a b,?_,by simp[D7];omega⟩;have e:(D7 ps L)[bm]?=some (AM ps[bm] r.length 1):=by rw[D7,GH c,Kb a b]
 grind [List.drop_eq_getElem_cons]
end Go.Proofs.YtmmkkggfmigppaaGreat
namespace Go.EL
structure Ah where
 f:Int
 t:Int
 c:Int
 k:Int
structure Bw where
 AS:Int
 Ad:Int
 Aq:Int
 A0:List Ah
def Bw.Ci(n:Bw)(x:Int):Prop:=0<=x/\x<n.AS
def Bw.mY(n:Bw)(a:Ah):Prop:=n.Ci a.f/\n.Ci a.t/\0<=a.c/\a.c<=2147483647
structure Bw.CE(n:Bw):Prop where
 Lq:2<=n.AS
 Jy:n.AS<=700
 Gf:n.A0.length<=2500
 Ad:n.Ci n.Ad
 Aq:n.Ci n.Aq
 D6:n.Ad≠n.Aq
 Gu: ∀a∈n.A0,n.mY a
def Bd(y x a:Int):Int:=if y=x then a else 0
def Cx:List Ah->List Int->Int->Int
 |a::c,b::fs,x=>Bd a.f x b-Bd a.t x b+Cx c fs x
 |_,_,_=>0
def F5(n:Bw)(N:List Int):Prop:=N.length=n.A0.length/\ ∀(i:Nat) (a:Ah) (b:Int),n.A0[i]?=some a->N[i]?=some b->0<=b/\b<=a.c
structure DT(n:Bw)(N:List Int):Prop where
 Da:F5 n N
 RV: ∀x,n.Ci x->x≠n.Ad->x≠n.Aq->Cx n.A0 N x=0
def value(n:Bw)(N:List Int):Int:=Cx n.A0 N n.Ad
def Fm:List Ah->(Int->Bool)->Int
 |a::b,s=>(if s a.f=true/\s a.t=false then a.c else 0)+Fm b s
 |[],_=>0
def Ho:List Ah->List Int->(Int->Bool)->Int
 |a::c,b::fs,s=>(if s a.f=true then b else 0)-(if s a.t=true then b else 0)+Ho c fs s
 |_,_,_=>0
def Gj(s:Int->Bool)(g:Int->Int):Nat->Int
 |0=>0
 |k+1=>Gj s g k+(if s k=true then g k else 0)
theorem UN(s:Int->Bool)(g h:Int->Int): ∀k,Gj s (λx=>g x+h x) k=Gj s g k+Gj s h k
 |0=>rfl
 | k+1=>by simp only[Gj,UN s g h k];split<;>omega
theorem Ve(s:Int->Bool): ∀k,Gj s (λ_=>0) k=0
 |0=>rfl
 |k+1=>by simp[Gj,Ve s k]
theorem y3(s:Int->Bool)(y a:Int): ∀k:Nat,(k:Int)<=y->Gj s (λx=>Bd y x a) k=0
 |0,_=>rfl
 | k+1,h=>by
   have:=y3 s y a k (by omega)
   grind [Bd,Gj]
theorem gJ(s:Int->Bool)(y a:Int)(c:0<=y): ∀k:Nat,y<k->Gj s (λx=>Bd y x a) k=if s y=true then a else 0
 |0,h=>by omega
 | k+1,h=>by
   by_cases b:y=k
   ·subst b;have e:Bd k k a=a:=if_pos rfl
    simp_all [Gj,y3]
   ·have e:Bd y k a=0:=if_neg b;rw[Gj,gJ s y a c k (by omega),e];omega
theorem gU(y x a:Int):Bd y x (-a)= -Bd y x a:=by unfold Bd;split<;>omega
theorem kC(s:Int->Bool)(d:Nat): ∀(c:List Ah) (fs:List Int),(∀a∈c,(0<=a.f/\a.f<d)/\(0<=a.t/\a.t<d))->Gj s (Cx c fs) d=Ho c fs s
 | [],fs,_=>by
   simp_all [Cx,Ve,Ho]
 | a::c,[],_=>by
   simp_all [Cx,Ve,Ho]
 | a::c,g::fs,h=>by
   have e:Cx (a::c) (g::fs)= λx=>(Bd a.f x g+Bd a.t x (-g))+Cx c fs x:=by funext x;simp only[Cx,gU];omega
   obtain⟨i,j⟩:=h a (by simp);rw[e,UN,UN,gJ s _ _ i.1 d i.2,gJ s _ _ j.1 d j.2,kC s d c fs (λb hb=>h b (by simp[hb]))];simp only[Ho]
   grind
theorem wS(s:Int->Bool)(g:Int->Int)(a:Nat)(y:Int)(b: ∀x:Int,0<=x->x<a->s x=true->x≠y->g x=0): ∀k:Nat,k<=a->(k:Int)<=y->Gj s g k=0
 |0,_,_=>rfl
 | k+1,c,d=>by
   simp only[Gj,wS s g a y b k (by omega) (by omega)]
   grind
theorem dE(s:Int->Bool)(g:Int->Int)(a:Nat)(y:Int)(d:0<=y)(b:s y=true)(c: ∀x:Int,0<=x->x<a->s x=true->x≠y->g x=0): ∀k:Nat,k<=a->y<k->Gj s g k=g y
 |0,_,h=>by omega
 | k+1,f,h=>by
   by_cases e:y=k
   ·subst e;simp only[Gj,wS s g a k c k (by omega) (FM _),b,if_true];omega
   ·simp only[Gj,dE s g a y d b c k (by omega) (by omega)]
    grind
variable{n:Bw}{N:List Int}{s:Int->Bool}
theorem Bw.CE.iZ(h:n.CE): ∀a∈n.A0,(0<=a.f/\a.f<(n.AS.toNat:Int))/\(0<=a.t/\a.t<(n.AS.toNat:Int)):=by intro a b;obtain⟨⟨c,d⟩,⟨e,g⟩,_⟩:=h.Gu a b;have:=h.Lq;omega
theorem mz(h:n.CE)(b:DT n N)(c:s n.Ad=true)(d:s n.Aq=false):value n N=Ho n.A0 N s:=by have i:=h.Lq;have f:=h.Ad;unfold Bw.Ci at f;rw[<-kC s n.AS.toNat n.A0 N h.iZ];exact(dE s (Cx n.A0 N) n.AS.toNat n.Ad (by omega) c (λx g j a xs=>b.RV x ⟨g,by omega⟩ xs (λe=>by rw[e,d]at a;cases a)) n.AS.toNat (Aj _) (by omega)).symm
theorem um{s:Int->Bool}: ∀(d:List Ah) (fs:List Int),(∀(i:Nat) a e,d[i]?=some a->fs[i]?=some e->0<=e/\e<=a.c)->(∀a∈d,0<=a.c)->Ho d fs s<=Fm d s
 |[],fs,_,_=>by simp[Ho,Fm]
 | a::d,[],_,f=>by
   have: ∀l:List Ah,(∀a∈l,0<=a.c)->0<=Fm l s:=by
    intro l;induction l with
    |nil=>intro _;simp[Fm]
    |cons b l j=>intro h;have:=j (λx k=>h x (by simp[k]));have:=h b (by simp);simp only[Fm];split<;>omega
   simp only[Ho];exact this _ f
 | a::d,e::fs,h,f=>by
   have n:=h 0 a e rfl rfl;have:=um (s:=s) d fs (λi a e g m=>h (i+1) a e (by simpa using g) (by simpa using m)) (λa g=>f a (by simp[g]))
   grind [Ho,Fm]
theorem ou{s:Int->Bool}: ∀(b:List Ah) (fs:List Int),fs.length=b.length->(∀(i:Nat) a d,b[i]?=some a->fs[i]?=some d->(s a.f=true->s a.t=false->d=a.c)/\(s a.f=false->s a.t=true->d=0))->Ho b fs s=Fm b s
 |[],fs,_,_=>by simp[Ho,Fm]
 |a::b,[],e,_=>by simp at e
 | a::b,d::fs,e,h=>by
   have k:=h 0 a d rfl rfl;have:=ou (s:=s) b fs (by simpa using e) (λi a d g j=>h (i+1) a d (by simpa using g) (by simpa using j))
   grind [Ho,Fm]
theorem JL(h:n.CE)(b:DT n N)(c:s n.Ad=true)(d:s n.Aq=false):value n N<=Fm n.A0 s:=by rw[mz h b c d];exact um _ _ b.Da.2 (λa e=>(h.Gu a e).2.2.1)
theorem a4W(h:n.CE)(d:DT n N)(e:s n.Ad=true)(g:s n.Aq=false)
 (j: ∀(i:Nat) a b,n.A0[i]?=some a->N[i]?=some b->(s a.f=true->s a.t=false->b=a.c)/\(s a.f=false->s a.t=true->b=0)):value n N=Fm n.A0 s:=by
 rw[mz h d e g];exact ou _ _ d.Da.1 j
theorem tR{s:Int->Bool}: ∀(d:List Ah),(∀a∈d,0<=a.c/\a.c<=2147483647)->0<=Fm d s/\Fm d s<=d.length*2147483647
 |[],_=>by simp[Fm]
 | a::d,h=>by
   have e:=h a (by simp);have:=tR (s:=s) d (λb hb=>h b (by simp[hb]))
   grind [Fm]
theorem MU(h:n.CE)(b:DT n N):value n N<=5368709117500:=by have d:=JL h b (s:= λx=>decide (x=n.Ad)) (by simp) (by have:=h.D6;simp;omega);have e:=(tR (s:= λx=>decide (x=n.Ad)) n.A0 (λa c=>(h.Gu a c).2.2)).2;have f:=h.Gf;omega
abbrev CM:=Nat×Bool
def B2(n:Bw)(e:CM):Int:=match n.A0[e.1]? with|some a=>if e.2 then a.f else a.t|none=> -1
def BB(n:Bw)(e:CM):Int:=match n.A0[e.1]? with|some a=>if e.2 then a.t else a.f|none=> -1
def AX(n:Bw)(N:List Int)(e:CM):Int:=match n.A0[e.1]?,N[e.1]? with|some a,some b=>if e.2 then a.c-b else b|_,_=>0
variable{e:CM}{C:Int->Bool}{B:Int->CM}{x d:Int}{l:List CM}
theorem Kt(h:0<AX n N e): ∃a b,n.A0[e.1]?=some a/\N[e.1]?=some b:=by
 grind [AX]
structure Rw(n:Bw)(N:List Int)(C:Int->Bool)(B:Int->CM):Prop where
 Ad:C n.Ad=true
 Mt: ∃a:Int->Nat,∀x,C x=true->x≠n.Ad->0<AX n N (B x)/\BB n (B x)=x/\C (B2 n (B x))=true/\a (B2 n (B x))<a x
 a6: ∀e,0<AX n N e->C (B2 n e)=true->C (BB n e)=true
theorem Rw.Ti(c:n.CE)(b:DT n N)(h:Rw n N C B)(d:C n.Aq=false):value n N=Fm n.A0 C:=by
 refine a4W c b h.Ad d λi a e f g=> ?_;have hb:=b.Da.2 i a e f g;refine⟨λj k=> ?_,λj k=> ?_⟩
 ·have:=h.a6 (i,true)
  grind [AX,B2,BB]
 ·have:=h.a6 (i,false)
  grind [AX,B2,BB]
inductive Gt(n:Bw)(B:Int->CM):Int->List CM->Prop
 |Ad:Gt n B n.Ad []
 |cons {x:Int} {l:List CM} (a:x≠n.Ad) (b:BB n (B x)=x) (h:Gt n B (B2 n (B x)) l):Gt n B x (B x::l)
theorem Rw.path(h:Rw n N C B)(d:C x=true):
 ∃l,Gt n B x l/\(∀e∈l,0<AX n N e)/\(l.map Prod.fst).Nodup:=by
 obtain⟨b,m⟩:=h.Mt;have o: ∀(k:Nat) (x:Int),b x<=k->C x=true-> ∃l,Gt n B x l/\(∀e∈l,0<AX n N e)/\(l.map Prod.fst).Nodup/\ ∀e∈l,b (BB n e)<=b x/\b (B2 n e)<b (BB n e):=by
  intro k;induction k with
  | zero=>
    intro x p d;by_cases c:x=n.Ad
    ·subst c;exact⟨[],.Ad,by simp,by simp,by simp⟩
    ·grind
  | succ k q=>
    intro x p d;by_cases c:x=n.Ad
    ·subst c;exact⟨[],.Ad,by simp,by simp,by simp⟩
    ·obtain⟨r,g,s,F⟩:=m x d c;obtain⟨l,i,t,j,u⟩:=q _ (by omega) s;refine⟨B x::l,.cons c g i,?_,?_,?_⟩
     ·simp_all
     ·simp only[Dl,J9];refine⟨λv=> ?_,j⟩;obtain⟨e,w,y⟩:=CG.1 v;obtain⟨z,A⟩:=u e w;have D:BB n e=x\/B2 n e=x:=by
       rw[<-g];unfold BB B2;rw[y];obtain⟨a,G,E,_⟩:=Kt r;rw[E];cases e.2<;>cases(B x).2<;>simp
      rcases D with f|f
      ·rw[f]at z;omega
      ·rw[f]at A;omega
     ·grind
 obtain⟨l,i,t,j,_⟩:=o _ x (Aj _) d
 grind
def push(N:List Int)(e:CM)(d:Int):List Int:=match N[e.1]? with|some a=>N.set e.1 (if e.2 then a+d else a-d)|none=>N
def G6(N:List Int)(l:List CM)(d:Int):List Int:=l.foldl (λN e=>push N e d) N
theorem tI: ∀(c:List Ah) (fs:List Int) (i:Nat) (a:Ah) (d e x:Int),c[i]?=some a->fs[i]?=some d->Cx c (fs.set i e) x=Cx c fs x+Bd a.f x (e-d)-Bd a.t x (e-d)
 |[],_,_,_,_,_,_,h,_=>by simp at h
 |_::_,[],_,_,_,_,_,_,h=>by simp at h
 | b::c,k::fs,0,a,d,e,x,g,j=>by
   grind [Cx,Bd]
 | b::c,k::fs,i+1,a,d,e,x,g,j=>by have:=tI c fs i a d e x (by simpa using g) (by simpa using j);simp only[Qq,Cx,this];omega
theorem yw(h:0<AX n N e)(d x:Int):Cx n.A0 (push N e d) x=Cx n.A0 N x+Bd (B2 n e) x d-Bd (BB n e) x d:=by
 obtain⟨a,f,b,c⟩:=Kt h;unfold push B2 BB;simp only[b,c];rw[tI _ _ _ a f _ x b c]
 grind [gU]
theorem cu:(push N e d).length=N.length:=by unfold push;split<;>simp
theorem Tf{a:CM}(h:a.1≠e.1)(d:Int):AX n (push N e d) a=AX n N a:=by
 grind [push,AX]
theorem bB(hb:F5 n N)(k:0<AX n N e)(o:0<=d)(h:d<=AX n N e):F5 n (push N e d):=by
 refine⟨by rw[cu,hb.1],λi a l f c=> ?_⟩;obtain⟨b,p,g,j⟩:=Kt k;unfold AX at h;unfold push at c;simp only[g,j]at h c;rw[Ih]at c;split at c
 ·rename_i m;subst m;rw[g]at f;cases f;have:=hb.2 _ _ _ g j
  grind
 ·exact hb.2 i a l f c
theorem od(c:0<=d): ∀{l:List CM} {x:Int} {N:List Int},Gt n B x l->F5 n N->(∀e∈l,0<AX n N e/\d<=AX n N e)->(l.map Prod.fst).Nodup->
 F5 n (G6 N l d)/\ ∀y,Cx n.A0 (G6 N l d) y=Cx n.A0 N y+Bd n.Ad y d-Bd x y d
 | [],x,N,a,hb,f,b=>by
   cases a
   grind [G6]
 | e::l,x,N,a,hb,f,b=>by
   cases a with
   | cons k m a=>
     simp only[Dl,J9]at b;obtain⟨g,h⟩:=f (B x) (by simp);have i:=bB hb g c h;have j: ∀e∈l,0<AX n (push N (B x) d) e/\d<=AX n (push N (B x) d) e:=by
      grind [Tf]
     obtain⟨o,p⟩:=od c a i j b.2
     grind [yw,G6]
theorem Xf(c:n.CE)(a:DT n N)(f:Gt n B n.Aq l)(g:0<=d)(h: ∀e∈l,0<AX n N e/\d<=AX n N e)(i:(l.map Prod.fst).Nodup):
 DT n (G6 N l d)/\value n (G6 N l d)=value n N+d:=by
 obtain⟨j,b⟩:=od g f a.Da h i;refine⟨⟨j,λx k m o=> ?_⟩,?_⟩
 ·rw[b,a.RV x k m o]
  grind [Bd]
 ·unfold value;rw[b];simp only[Bd,if_true];rw[if_neg (Ne.symm c.D6)];omega
theorem eP(e:n.CE):DT n (List.replicate n.A0.length 0)/\value n (List.replicate n.A0.length 0)=0:=by
 have d: ∀(b:List Ah) x,Cx b (List.replicate b.length 0) x=0:=by
  intro b x;induction b with
  |nil=>rfl
  |cons a b f=>simp only[DZ,QY,Cx,f,Bd];split<;>split<;>rfl
 refine⟨⟨⟨by simp,λi a h g c=> ?_⟩,λx _ _ _=>d _ x⟩,d _ _⟩;rw[List.getElem?_replicate]at c;split at c
 ·cases c;exact⟨FM _,(e.Gu a (B5 g)).2.2.1⟩
 ·cases c
theorem fG: ∀{xs bs:List Ah} {fs:List Int} {x:Int},xs.map (λa=>(a.f,a.t))=bs.map (λa=>(a.f,a.t))->Cx xs fs x=Cx bs fs x
 |[],[],_,_,_=>rfl
 |[],_::_,_,_,h=>by simp at h
 |_::_,[],_,_,h=>by simp at h
 |a::xs,b::bs,[],x,h=>rfl
 | a::xs,b::bs,c::fs,x,h=>by simp only[Dl,P6,Ni]at h;simp only[Cx,h.1.1,h.1.2,fG (fs:=fs) (x:=x) h.2]
theorem hJ{ho:Bw}(j:ho.AS=n.AS)(g:ho.Ad=n.Ad)(k:ho.Aq=n.Aq)(d:n.A0.map (λa=>(a.f,a.t))=ho.A0.map (λa=>(a.f,a.t)))
 (u: ∀(i:Nat) a b,n.A0[i]?=some a->ho.A0[i]?=some b->a.c<=b.c) (e:DT n N):DT ho N/\value ho N=value n N:=by
 have h:n.A0.length=ho.A0.length:=by simpa using congrArg List.length d
 refine⟨⟨⟨by rw[e.Da.1,h],λi b l hb m=> ?_⟩,λx o p q=> ?_⟩,?_⟩
 ·have r:i<n.A0.length:=(by rw[h];exact(Ae.1 hb).1);have s:=AP r;have:=e.Da.2 i _ l s m
  grind
 ·rw[<-fG d];exact e.RV x (by simpa[Bw.Ci,j]using o) (by rw[<-g];exact p) (by rw[<-k];exact q)
 ·unfold value;rw[g,fG d]
end Go.EL
namespace Go.Proofs.YtmmkkggfmigppaaGreat
open Go Go.DI Go.Big Go.EL
def J8(s:Ij)(l:Int):Int:=if l=0 then s.a else if l=1 then s.b else if l=2 then s.c else if l=3 then s.d else s.e
def HY(u:AL)(v:Nat):Nat:=match u.A3[v]? with|some x=>x.JS.toNat|none=>0
def IF(u:AL)(v i:Nat):Int:=match u.B7[HY u v]? with
 |some p=>if J8 p.Dz (Dh u i)=0 then p.k+p.m else J8 p.Dz (Dh u i)
 |none=>0
def Fk(u:AL)(v d:Nat):Bool:=match u.B7[HY u v]?,u.A4[d]? with
 |some p,some x=>decide (x.model∈p.Af)
 |_,_=>false
def Ap(u:AL)(v i:Nat):Int:=if i=0 then 2+(v:Int)else 2+u.A3.length+v*((u.A5.length:Int)-1)+i-1
def AI(u:AL)(d:Nat):Int:=2+(u.A3.length:Int)*u.A5.length+d
def FR(u:AL)(v:Nat):Ah:=⟨0,2+v,CD u v,0⟩
def I3(u:AL)(v i:Nat):Ah:=⟨Ap u v (D1 u i),Ap u v i,IF u v i,0⟩
def D8(u:AL)(v d:Nat):Ah:=⟨Ap u v (CI u d),AI u d,1,0⟩
def HX(u:AL)(R:List Int)(d:Nat):Ah:=⟨AI u d,1,CN u R d,0⟩
def Gv(u:AL)(v:Nat):List Ah:=FR u v::((List.range (u.A5.length-1)).map (λj=>I3 u v (j+1))++((List.range u.A4.length).filter (Fk u v)).map (D8 u v))
def Ak(u:AL)(R:List Int):List Ah:=(List.range u.A3.length).flatMap (Gv u)++(List.range u.A4.length).map (HX u R)
def D0(u:AL)(R:List Int):Bw:=⟨AI u u.A4.length,0,1,Ak u R⟩
def Dr(u:AL):Int:=((List.range u.A3.length).map (CD u)).foldr (· + ·) 0
theorem yY{a b:Nat}{bT aH:Int}(c:(a:Int)<=bT)(hb:(b:Int)<=aH)(d:0<=bT):(a:Int)*b<=bT*aH:=
 NW (Jt c (by omega)) (SV hb d)
variable{u:AL}{v d:Nat}{a:Ah}{R:List Int}
theorem E7(h:BS u){i:Nat}(c:v<u.A3.length)(d:i<u.A5.length):2<=Ap u v i/\Ap u v i<AI u 0:=by
 have f:=h.D6;obtain⟨a,b⟩: ∃a:Nat,u.A5.length=a+1:=⟨u.A5.length-1,by omega⟩;have e:(u.A3.length:Int)*u.A5.length=u.A3.length*(a:Int)+u.A3.length:=by rw[b];grind
 have g:((u.A5.length:Int)-1)=a:=by omega
 have m:(v:Int)*a+a<=u.A3.length*(a:Int):=by
  have:((v:Int)+1)*a<=u.A3.length*(a:Int):=Jt (by omega) (by omega)
  grind
 grind [Ap,AI]
theorem I6(h:BS u):AI u u.A4.length<=506/\2<=AI u 0:=by
 have:=h.Cg;have:=h.Es;have:=h.EF;have:=yY (a:=u.A3.length) (b:=u.A5.length) (bT:=12) (aH:=40) (by omega) (by omega) (by omega)
 grind [AI]
theorem SH(h:BS u)(d:v<u.A3.length): ∃p,u.B7[HY u v]?=some p/\p∈u.B7/\HY u v<u.B7.length/\FI p.k p.m p.q p.Dz=true/\CD u v=p.k+p.m:=by
 obtain⟨x,b⟩:=Cb d;have hb:=h.FQ v x b;have c:HY u v<u.B7.length:=by unfold HY;simp only[b];omega
 obtain⟨p,a⟩: ∃p,u.B7[HY u v]?=some p:=⟨_,AP c⟩;refine⟨p,a,B5 a,c,(h.JS _ p a).1,?_⟩
 grind [HY,CD]
theorem og(h:BS u)(b:v<u.A3.length)(i:Nat):0<=IF u v i/\IF u v i<=8:=by
 obtain⟨p,l,_,_,a,_⟩:=SH h b;simp only[FI,AF,BW]at a;obtain⟨c,d,a3,a4,m,e,f,g,j,k⟩:=a;have:=FV c;have:=FV d;have:=FV e;have:=FV f;have:=FV g;have:=FV j;have:=FV k
 grind [IF,J8]
theorem Wp(h:BS u)(R:List Int)(a:d<u.A4.length):0<=CN u R d/\CN u R d<=16:=by
 obtain⟨x,b⟩:=Cb a;obtain⟨e,f,_⟩:=h.LG d x b;obtain⟨y,c⟩: ∃y,u.Af[x.model.toNat]?=some y:=⟨_,AP (by omega)⟩;have hb:=h.ZY _ y c
 grind [KB,CN]
theorem Gq(h:BS u)(a:d<u.A4.length):CI u d<u.A5.length/\Dh u (CI u d)=4:=by
 obtain⟨x,b⟩:=Cb a;obtain⟨_,_,a3,a4,c⟩:=h.LG d x b
 grind [CI]
theorem MB:a∈Gv u v↔a=FR u v\/(∃j,j<u.A5.length-1/\a=I3 u v (j+1))\/ ∃d,d<u.A4.length/\Fk u v d=true/\a=D8 u v d:=by
 grind [Gv]
theorem P2:a∈Ak u R↔(∃v,v<u.A3.length/\a∈Gv u v)\/ ∃d,d<u.A4.length/\a=HX u R d:=by
 grind [Ak]
theorem yv(h:BS u):(Gv u v).length<=64:=by
 have:=h.Cg;have:=h.Es
 grind [Gv]
theorem T2(h:BS u): ∀n:Nat,((List.range n).flatMap (Gv u)).length<=64*n
 |0=>by simp
 | n+1=>by
   have:=T2 h n
   grind [yv,List.range_succ]
theorem Oa(h:BS u):(Ak u R).length<=792:=by
 have:=h.Es;have:=h.EF
 grind [T2,Ak]
theorem R7(h:BS u)(R:List Int):(D0 u R).CE:=by
 obtain⟨q,r⟩:=I6 h;have s:AI u u.A4.length=AI u 0+u.A4.length:=by unfold AI;omega
 refine⟨by show 2<=AI u u.A4.length;omega,by show AI u u.A4.length<=700;omega,by have:=Oa h (R:=R);show(Ak u R).length<=2500;omega,⟨by show(0:Int)<=0;omega,by show(0:Int)<AI u u.A4.length;omega⟩,⟨by show(0:Int)<=1;omega,by show(1:Int)<AI u u.A4.length;omega⟩,by show(0:Int)≠1;omega,λa l=> ?_⟩;have c: ∀x:Int,0<=x->x<AI u u.A4.length->(D0 u R).Ci x:= λx a b=>⟨a,b⟩;rcases P2.1 l with⟨v,f,m⟩|⟨d,g,rfl⟩
 ·have n:=h.D6;have t:=L3 h f;rcases MB.1 m with rfl|⟨j,w,rfl⟩|⟨d,g,_,rfl⟩
  ·have:=E7 h f (i:=0) n;simp only[Ap,if_true]at this;exact⟨c 0 (by omega) (by omega),c _ (by show(0:Int)<=2+v;omega) (by show 2+(v:Int)<_;omega),by show 0<=CD u v;omega,by show CD u v<=2147483647;omega⟩
  ·have k:j+1<u.A5.length:=(by omega);have:=(h.Hn k (h.I5 k (by omega))).1;have o:=E7 h f (i:=D1 u (j+1)) (by omega);have y:=E7 h f k;have a3:=og h f (j+1);exact⟨c _ (by show 0<=Ap u v (D1 u (j+1));omega) (by show Ap u v (D1 u (j+1))<_;omega),c _ (by show 0<=Ap u v (j+1);omega) (by show Ap u v (j+1)<_;omega),a3.1,by show IF u v (j+1)<=2147483647;omega⟩
  ·have o:=E7 h f (Gq h g).1;have e:AI u d=AI u 0+d:=(by unfold AI;omega);exact⟨c _ (by show 0<=Ap u v (CI u d);omega) (by show Ap u v (CI u d)<_;omega),c _ (by show 0<=AI u d;omega) (by show AI u d<_;omega),by show(0:Int)<=1;omega,by show(1:Int)<=2147483647;omega⟩
 ·have e:AI u d=AI u 0+d:=(by unfold AI;omega);have p:=Wp h R g;exact⟨c _ (by show 0<=AI u d;omega) (by show AI u d<_;omega),c 1 (by omega) (by omega),p.1,by show CN u R d<=2147483647;omega⟩
def OK(u:AL)(R:List Int):Prop:= ∃N,DT (D0 u R) N/\Dr u<=value (D0 u R) N
open Go Go.DI
section
set_option maxRecDepth 100000
def Nf:AU V 81:=AW
def Th:=G (A8 Nf.1.body 76951)
def VC:=G (A8 Nf.1.body 81047)
def fw:=(G λx=>AA 9 x (A8 Nf.1.body 15511)) VC
def dv:=(G λx y=>AA 3 y (AA 18 x (A8 Nf.1.body 7319))) Th fw
def ZW:=(G λx=>AA 57 x (A8 Nf.1.body 151)) dv
def Yy:=G (A8 Nf.1.body 607)
def y9:=G (A8 Nf.1.body 127)
def nf:=(G λx y=>AA 7 y (AA 37 x (A8 Nf.1.body 31))) Yy y9
def wH:=(G λx y=>AA 31 y (AA 151 x Nf.1.body)) ZW nf
def tG:=AV V 81 ⟨151,[.DE 4 true 4,.AH 5],wH⟩
def a2R:AU V 82:=AW
def gQ:=G a2R.1.body
def gT:=AV V 82 ⟨25,[.AH 6],gQ⟩
def yh:AU V 83:=AW
def oJ:=G yh.1.body
def vv:=AV V 83 ⟨15,[.AH 4],oJ⟩
def gu:AU V 85:=AW
def gV:=G (A8 gu.1.body 75)
def ZE:=G (A8 gu.1.body 15)
def uu:=(G λx y=>AA 15 y (AA 75 x gu.1.body)) gV ZE
def tm:=AV V 85 ⟨18,[.AH 2],uu⟩
def cd:AU V 90:=AW
def VV:=G (A8 cd.1.body 20043)
def T4:=(G λx=>AA 313 x (A8 cd.1.body 75)) VV
def ug:=G (A8 cd.1.body 15)
def oL:=(G λx y=>AA 15 y (AA 75 x cd.1.body)) T4 ug
def uU:=AV V 90 ⟨74,[.AH 6],oL⟩
def Ls:AU V 124:=AW
def cy:=G (A8 Ls.1.body 1238623)
def TW:=G (A8 Ls.1.body 4974175)
def VD:=G (A8 Ls.1.body 5236319)
def km:=(G λx=>AA 9 x (A8 Ls.1.body 1042015)) VD
def gZ:=(G λx y=>AA 3 y (AA 18 x (A8 Ls.1.body 517727))) TW km
def jC:=(G λx=>AA 3 x (A8 Ls.1.body 255583)) gZ
def Zx:=(G λx y=>AA 499 y (AA 2419 x (A8 Ls.1.body 607))) cy jC
def Y0:=G (A8 Ls.1.body 1215)
def pC:=G (A8 Ls.1.body 255)
def s5:=(G λx y=>AA 3 y (AA 18 x (A8 Ls.1.body 127))) Y0 pC
def q1:=(G λx y=>AA 127 y (AA 607 x Ls.1.body)) Zx s5
def YA:=AV V 124 ⟨156,[.DE 4 true 4,.AH 5],q1⟩
def aBd:AU V 127:=AW
def sE:=G aBd.1.body
def bN:=AV V 127 ⟨7,[.AH 4],sE⟩
def aD8:AU V 128:=AW
def jP:=G aD8.1.body
def WO:=AV V 128 ⟨24,[.AH 6],jP⟩
def a09:AU V 129:=AW
def yL:=G a09.1.body
def Xx:=AV V 129 ⟨13,[.AH 4],yL⟩
def zj:AU V 183:=AW
def oK:=G zj.1.body
def Y2:=AV V 183 ⟨16,[],oK⟩
end
end Go.Proofs.YtmmkkggfmigppaaGreat
end
