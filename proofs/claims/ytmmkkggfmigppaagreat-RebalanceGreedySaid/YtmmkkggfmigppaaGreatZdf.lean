/- A part of the proof. -/
import Derived.LoopN
import Derived.StillTail
import Derived.Test.YtmmkkggfmigppaaGreatZde
set_option linter.all false
set_option maxRecDepth 20000
set_option maxHeartbeats 16000000
namespace Go.DI
open Go Go.RowKit
variable {P:Program} {A u:A2} {m cI:X} {aH:Nat} {cp:Callee} {base:Nat}
theorem Q3{l:List Nat}{d:Nat}(h:KY l (some d)=true):d∉l:=by simpa[KY]using h
theorem Ng{d:Option Nat}{v:Value}{t:Nat}(h:d≠some t):Ar A d v t=A t:=by
 cases d with
 |none=>rfl
 | some d=>have:t≠d:= λe=>h (by rw[e]);simp[Ar,Fg,this]
theorem Po{d e:Option Nat}{a v:Value}(h: ∀x,d=some x->e≠some x):Ar (Ar A d a) e v=Ar (Ar A e v) d a:=by
 cases d with
 |none=>rfl
 | some d=>
   cases e with
   |none=>rfl
   | some e=>
     have b:d≠e:= λx=>h d rfl (by rw[x]);funext t;simp only[Ar,Fg]
     grind
variable{l:List Operand}{t f b YC E:Nat}{x:Operand}{d:Option Nat}{o c i:Av}{v:Value}{k:M}{s:A2×X}{args:List Value}{z:X}{B:Nat×List Value}{n:List Nat}{kJ:Array Bool}{Q:Exit->Act->World->Prop}{F:A2}
theorem Pn(a:x∈l)(b:x= .tmp t):t∈S6 l:=by subst b;exact R0.2 ⟨_,a,rfl⟩
theorem NP(h:KY o.NU d=true): ∀x∈o.k.D9,U (Ar A d v) x=U A x:=by intro x a;refine OU λt b=>Ng λc=> ?_;subst c;exact Q3 h (IK _ (Pn a b))
theorem Kh{o:Av}{d:Option Nat}{v:Value}(h:KY o.NU d=true):Bl (Ar A d v) o.g=Bl A o.g:=by
 cases a:o.g with
 |none=>rfl
 | some c=>obtain⟨t,b⟩:=c;simp only[Bl];rw[Ng λe=> ?_];subst e;exact Q3 h (HO _ (by simp[a]))
theorem gr: ∀x∈k.GA++k.Gd,x∈k.D9:=by
 intro x a;cases k<;>simp[M.GA,M.Gd]at a<;>simp[M.D9,a]
 ·grind
theorem cW(a:Bl A o.g=true)(b:o.k.By A m=none)(h:DJ cp base o A m=some s):
 o.k.ok A m=true/\s=(Ar A o.d (o.k.val (base+o.AQ) A m),o.k.Cj (base+o.AQ) A m):=by
 grind [DJ]
theorem rG(a:Bl A o.g=true)(b:o.k.By A m=none)(c:o.k.ok A m=true):
 DJ cp base o A m=some (Ar A o.d (o.k.val (base+o.AQ) A m),o.k.Cj (base+o.AQ) A m):=by
 grind [DJ]
theorem TJ(a:o.k.MW=false)(b:Bl A o.g=true)(c:o.k.By A m=none)(h:DJ cp base o A m=some s):
 o.k.ok A m=true/\s=(Ar A o.d (o.k.val (base+o.AQ) A m),Df m (o.k.DB (base+o.AQ) A m)):=by
 grind [DJ,xi]
theorem Ss(a:o.k.MW=false)(b:Bl A o.g=true)(c:o.k.By A m=none)(e:o.k.ok A m=true):
 DJ cp base o A m=some (Ar A o.d (o.k.val (base+o.AQ) A m),Df m (o.k.DB (base+o.AQ) A m)):=by
 grind [DJ,xi]
theorem S0(a:Bl A o.g=true)(b:o.k.By A m=some (f,args))(h:DJ cp base o A m=some s):
 ∃v z,cp f args m=some (v,z)/\s=(Ar A o.d v,z):=by
 grind [DJ]
theorem V9(a:Bl A o.g=true)(b:o.k.By A m=some (f,args))(h:cp f args m=some (v,z)):
 DJ cp base o A m=some (Ar A o.d v,z):=by
 unfold DJ
 simp_all
theorem Pb(a:Bl A o.g=false):DJ cp base o A m=some (Ar A o.d undef,m):=by
 unfold DJ
 simp_all
theorem Zk(h:k.By A m=some B):k.FD=true:=by cases k<;>first|rfl|(simp[M.By]at h)
theorem L4(h:k.FD=false):k.By A m=none:=by cases k<;>first|rfl|(simp[M.FD]at h)
theorem ie(a:Bl A o.g=true)(b:o.k.By A m=none)(h:DJ cp base o A m=some s):o.k.FD=false:=
 XL (cW a b h).1
def oe(k i:Av)(A:A2)(m z:X):Prop:=
 Bl A i.g=true->match i.k.By A m with
  |some _=> ∀p∈IV k i,∀b,I (U A p.1)=some b->z.Y b=m.Y b
  |none=> ∀p∈IV k i,∀a b,I (U A p.1)=some a->I (U A p.2)=some b->a≠b
theorem Zn{o:Av}{d:Option Nat}{v:Value}{z:X}(c:KY (o.NU++o.oO) d=true){e i:X}
 (q:o.k.FD=true->e=m/\i=z) (h:I7 o A m z):I7 o (Ar A d v) e i:=by
 have j:KY o.NU d=true:=by
  cases d with
  |none=>rfl
  |some d=>simp[KY]at c⊢;exact c.1
 have r: ∀p∈o.Gr,U (Ar A d v) p.1=U A p.1/\U (Ar A d v) p.2=U A p.2:=by
  intro p a;constructor
  ·refine OU λt f=>Ng λg=> ?_;subst g;exact Q3 c (HO _ (IK _ (Pn (CG.2 ⟨p,a,rfl⟩) f)))
  ·refine OU λt f=>Ng λg=> ?_;subst g;exact Q3 c (HO _ (HO _ (Pn (CG.2 ⟨p,a,rfl⟩) f)))
 intro l;rw[Kh j]at l;have:=h l;have s:o.k.By (Ar A d v) e=o.k.By A m:=by
  rw[(No (m:=e) (id:=0) (NP j)).2.2.2]
  grind [L4]
 rw[s];cases n:o.k.By A m with
 | some B=>rw[n]at this;simp only at this⊢;obtain⟨rfl,rfl⟩:=q (Zk n);intro p a b hb;rw[(r p a).1]at hb;exact this p a b hb
 | none=>
   grind [Cq]
theorem yQ{P:Program}{aH:Nat}(Ax:Iy P aH cp){k i:Av}{BB:List Nat}{u Ay:A2}{cI W:X}(Az:JC k i BB=true)(BY:k.AQ≠i.AQ)(AZ:i.k.Bv=true->m.Y (base+i.AQ)=none)(AO:i.k.Bv=true->base+i.AQ<m.ac)
 (T:DJ cp base k A m=some (u,cI)) (AP:I7 k A m cI) (G:DJ cp base i u cI=some (Ay,W)) (BC:oe k i u cI W):
 ∃Aa AR,DJ cp base i A m=some (Aa,AR)/\DJ cp base k Aa AR=some (Ay,W)/\I7 k Aa AR W/\(i.k.FD=true->Bl A i.g=true->m=cI/\AR=W):=by
 simp only[JC,AF]at Az;obtain⟨⟨⟨⟨⟨K,L⟩,A7⟩,M⟩,B0⟩,H⟩:=Az
 replace K:k.k.MW=false:=by simpa using K
 replace L:i.k.MW=false:=by simpa using L
 have N:KY k.NU i.d=true:=by
  cases Z:i.d with
  |none=>rfl
  |some d=>rw[Z]at A7;simp[KY]at A7⊢;exact A7.1
 have A0: ∀x,k.d=some x->i.d≠some x:=by intro x c a;rw[c,a]at B0;simp at B0
 by_cases E:Bl A k.g=true
 ·by_cases s:Bl A i.g=true
  ·cases r:k.k.By A m with
   | some B=>

     obtain⟨f,args⟩:=B;have V:=Zk r;obtain⟨v,z,O,Q⟩:=S0 E r T;cases Q;have w:i.k.FD=false:=by
      by_cases h:i.k.FD=true
      ·rw[if_pos h]at H;simp[V]at H
      ·simpa using h
     rw[if_neg (by rw[w];simp),if_pos V]at H;simp only[AF,List.isEmpty_iff]at H;obtain⟨BD,Ab⟩:=H;have A3:Bl (Ar A k.d v) i.g=true:=(by rw[Kh M];exact s);obtain⟨AE,R⟩:=TJ L A3 (L4 w) G;cases R;obtain⟨Ac,Ae,AS,_⟩:=No (k:=i.k) (m:=cI) (id:=base+i.AQ) (NP (A:=A) (v:=v) M);obtain⟨AL,AM,AI⟩:=aV (k:=i.k) (A:=A) (id:=base+i.AQ) (m:=cI) (cI:=m) L (by rw[BD];simp);have AT: ∀p∈i.k.DB (base+i.AQ) A m,i.k.Bv=true/\p.1=base+i.AQ:= λp n=>by
      rcases SJ (k:=i.k) (id:=base+i.AQ) (A:=A) (m:=m) p n with h|⟨x,c,_⟩
      ·exact⟨h.1,h.2.1⟩
      ·rw[Ab]at c;cases c

     have BE: ∀(l:List (Nat×Option CC)) (S A4:X),(∀p∈l,i.k.Bv=true/\p.1=base+i.AQ)->cp f args S=some (v,A4)->(l≠[]->base+i.AQ<S.ac/\S.Y (base+i.AQ)=none)->
      cp f args (Df S l)=some (v,Df A4 l)/\(l=[]\/ ∃y,Df S l=S.A1 (base+i.AQ) y/\Df A4 l=A4.A1 (base+i.AQ) y):=by
      intro l S A4 A5 B1 BF;have BG: ∀(l:List (Nat×Option CC)) (x:Option CC),(∀p∈l,p.1=base+i.AQ)-> ∃y,∀Al:X,Df (Al.A1 (base+i.AQ) x) l=Al.A1 (base+i.AQ) y:=by
       intro l;induction l with
       |nil=>intro x _;exact⟨x,λ_=>rfl⟩
       | cons p l BH=>
         intro x n;obtain⟨y,a⟩:=BH p.2 (λq A6=>n q (by simp[A6]));refine⟨y,λAl=> ?_⟩;have e:p.1=base+i.AQ:=n p (by simp);have:(Al.A1 (base+i.AQ) x).A1 p.1 p.2=Al.A1 (base+i.AQ) p.2:=by rw[e];simp only[X.A1,X.mk.injEq,true_and,and_true];funext j;by_cases BI:j=base+i.AQ<;>simp[BI]
         show Df ((Al.A1 (base+i.AQ) x).A1 p.1 p.2) l=_;rw[this,a]
      cases l with
      |nil=>exact⟨B1,.inl rfl⟩
      | cons p l=>obtain⟨y,a⟩:=BG l p.2 (λq A6=>(A5 q (by simp[A6])).2);have e:p.1=base+i.AQ:=(A5 p (by simp)).2;have BJ:Df S (p::l)=S.A1 (base+i.AQ) y:=(by show Df (S.A1 p.1 p.2) l=_;rw[e,a]);have BK:Df A4 (p::l)=A4.A1 (base+i.AQ) y:=(by show Df (A4.A1 p.1 p.2) l=_;rw[e,a]);rw[BJ,BK];obtain⟨BL,BM⟩:=BF (by simp);exact⟨(Ax _ _ _ _ _ B1).2.2.2.1 _ y BL BM,.inr ⟨y,rfl,rfl⟩⟩
     obtain⟨BN,B2⟩:=BE (i.k.DB (base+i.AQ) A m) m cI AT O (λBO=>by obtain⟨p,n⟩:=List.exists_mem_of_ne_nil _ BO;have:=(AT p n).1;exact⟨AO this,AZ this⟩);have B3:k.k.By A (Df m (i.k.DB (base+i.AQ) A m))=some (f,args):=by
      rcases B2 with h|⟨y,a,_⟩
      ·rw[h];exact r
      ·rw[a];by_cases C:i.k.Bv=true
       ·exact fh.Yv ⟨rfl,AO C,AZ C⟩ r
       ·have:i.k.DB (base+i.AQ) A m=[]:=by
         cases A5:i.k.DB (base+i.AQ) A m with
         |nil=>rfl
         |cons p l=>exact absurd (AT p (by rw[A5];simp)).1 C
        rw[this]at a;rw[<-a];exact r
     refine⟨_,_,Ss L s (L4 w) (by rw[<-AL,<-Ac];exact AE),?_,?_,λh=>by rw[w]at h;cases h⟩
     ·have BQ:k.k.By (Ar A i.d (i.k.val (base+i.AQ) A m)) (Df m (i.k.DB (base+i.AQ) A m))=some (f,args):=(by rw[(No (m:=Df m (i.k.DB (base+i.AQ) A m)) (id:=0) (NP N)).2.2.2];exact B3);rw[Ae,AS,AM,AI];have:=V9 (cp:=cp) (base:=base) (m:=Df m (i.k.DB (base+i.AQ) A m)) (by rw[Kh N];exact E) BQ BN;rw[this,Po A0]
     ·rw[AS,AI];refine Zn A7 (λ_=>⟨rfl,rfl⟩) (λAU=> ?_);have AV:=AP AU;rw[r]at AV;rw[B3];simp only at AV⊢;rcases B2 with h|⟨y,a,Af⟩
      ·rw[h];exact AV
      ·rw[a,Af];intro q A6 b hb;have:=AV q A6 b hb;by_cases Ag:b=base+i.AQ
       ·subst Ag;have Ah:i.k.DB (base+i.AQ) A m=[]\/i.k.Bv=true:=by
         cases A5:i.k.DB (base+i.AQ) A m with
         |nil=>exact .inl rfl
         |cons p l=>exact .inr (AT p (by rw[A5];simp)).1
        rcases Ah with Ah|C
        ·rw[Ah]at a Af;rw[<-a,<-Af];exact this
        ·rw[X.GJ,X.GJ,if_pos rfl,if_pos rfl,if_pos (AO C),if_pos (GV (AO C) (Ax _ _ _ _ _ O).2.1)]
       ·rw[X.GJ,X.GJ,if_neg Ag,if_neg Ag];exact this
   | none=>
     have V:=ie E r T;obtain⟨Ai,O⟩:=TJ K E r T;cases O;have A3:Bl (Ar A k.d (k.k.val (base+k.AQ) A m)) i.g=true:=(by rw[Kh M];exact s);obtain⟨Ac,Ae,AS,AJ⟩:=No (k:=i.k) (m:=Df m (k.k.DB (base+k.AQ) A m)) (id:=base+i.AQ) (NP (A:=A) (v:=k.k.val (base+k.AQ) A m) M);have J:=BC A3;cases F:i.k.By A (Df m (k.k.DB (base+k.AQ) A m))with
     | some B=>

       obtain⟨f,args⟩:=B;have w:=Zk F;rw[if_pos w]at H;simp only[AF,JQ,List.isEmpty_iff]at H;obtain⟨⟨⟨_,C⟩,Ab⟩,Aj⟩:=H;have B4:k.k.DB (base+k.AQ) A m=[]:=by
        cases A5:k.k.DB (base+k.AQ) A m with
        |nil=>rfl
        | cons p l=>
          rcases SJ (k:=k.k) (id:=base+k.AQ) (A:=A) (m:=m) p (by rw[A5];simp)with h|⟨x,c,_⟩
          ·rw[C]at h;cases h.1
          ·rw[Ab]at c;cases c
       rw[B4]at G J F AJ⊢;have BS:Df m []=m:=rfl;rw[BS]at G J F AJ;rw[AJ,F]at J;simp only at J;obtain⟨v,z,A8,D⟩:=S0 A3 (by rw[AJ];exact F) G;cases D;refine⟨_,_,V9 s F A8,?_,?_,λ_ _=>⟨rfl,rfl⟩⟩
       ·obtain⟨AL,AM,AI⟩:=aV (k:=k.k) (A:=A) (id:=base+k.AQ) (m:=m) (cI:=W) K (λx c b hb=>by
         have n:(x,x)∈IV k i:=(by simp only[IV,w,if_true];exact CG.2 ⟨x,c,rfl⟩);have BT:U (Ar A k.d (k.k.val (base+k.AQ) A m)) x=U A x:=OU λt Ak=>Ng λZ=>by have:=BR.1 Aj t (Pn c Ak);simp[Z]at this
         exact(J (x,x) n b (by rw[BT];exact hb)).symm)
        obtain⟨A9,AA,AB,AD⟩:=No (k:=k.k) (m:=W) (id:=base+k.AQ) (NP (A:=A) (d:=i.d) (v:=v) N);have:=Ss (cp:=cp) (base:=base) (m:=W) (A:=Ar A i.d v) (o:=k) K (by rw[Kh N];exact E) (L4 V) (by rw[A9,<-AL];exact Ai);rw[this,AA,AB,<-AM,<-AI,B4,Po A0];rfl
       ·exact Zn A7 (λh=>by rw[V]at h;cases h) AP
     | none=>

       have w:=ie (by rw[<-Kh M (A:=A)]at s;exact s) (by rw[AJ];exact F) G;rw[AJ,F]at J;simp only at J;rw[if_neg (by rw[w];simp),if_neg (by rw[V];simp)]at H;simp only[AF,My,JQ]at H;obtain⟨C,Aj⟩:=H;obtain⟨Am,R⟩:=TJ L A3 (L4 w) G;rw[Ac]at Am;rw[Ae,AS]at R

       have An: ∀x∈k.k.GA++k.k.Gd,U (Ar A k.d (k.k.val (base+k.AQ) A m)) x=U A x:=(by intro x c;refine OU λt Ak=>Ng λZ=> ?_;have:=BR.1 Aj t (Pn c Ak);simp[Z]at this);have AW: ∀y∈i.k.GA++i.k.Gd,U (Ar A k.d (k.k.val (base+k.AQ) A m)) y=U A y:= λy a=>NP M y (gr y a);have AX:IV k i=((k.k.Gd++(if k.k.Bv then Xk k.d else[])).flatMap λx=>(i.k.GA++i.k.Gd).map λy=>(x,y))++k.k.GA.flatMap λx=>i.k.Gd.map λy=>(x,y):=by simp only[IV,w,V,E3,if_false]

       have B5: ∀p∈k.k.DB (base+k.AQ) A m,∀y∈i.k.GA++i.k.Gd,∀b,I (U A y)=some b->p.1≠b:=by
        intro p n y a b hb;rcases SJ (k:=k.k) p n with⟨AK,e,Ap⟩|⟨x,c,Aq⟩
        ·rcases C with C|C
         ·rw[C]at AK;cases AK
         ·obtain⟨d,Z⟩:=dH.1 C.1;have:=J (.tmp d,y) (by
           rw[AX];refine IK _ (M6.2 ⟨.tmp d,?_,CG.2 ⟨y,a,rfl⟩⟩);simp[AK,Z,Xk]) (base+k.AQ) b (by simp only[U,Z,Ar,Fg,if_true];exact Ap) (by rw[AW y a];exact hb)
          rw[e];exact this
        ·exact J (x,y) (by rw[AX];exact IK _ (M6.2 ⟨x,IK _ c,CG.2 ⟨y,a,rfl⟩⟩)) p.1 b (by rw[An x (HO _ c)];exact Aq) (by rw[AW y a];exact hb)
       obtain⟨AL,AM,AI⟩:=aV (k:=i.k) (A:=A) (id:=base+i.AQ) (m:=Df m (k.k.DB (base+k.AQ) A m)) (cI:=m) L (λy a b hb=>kR _ _ _ λp n=>B5 p n y (IK _ a) b hb);rw[AL]at Am;rw[AM,AI]at R;cases R

       have B6: ∀p∈i.k.DB (base+i.AQ) A m,∀x∈k.k.GA++k.k.Gd,∀b,I (U A x)=some b->p.1≠b:=by
        intro p n x c b hb e;rcases SJ (k:=i.k) p n with⟨AK,Q,Ap⟩|⟨y,a,AY⟩
        ·have:=a5u Ai x c b hb;rw[<-e,Q,AZ AK]at this;cases this
        ·rcases D2.1 c with As|As
         ·exact J (x,y) (by rw[AX];exact HO _ (M6.2 ⟨x,As,CG.2 ⟨y,a,rfl⟩⟩)) b p.1 (by rw[An x c];exact hb) (by rw[AW y (HO _ a)];exact AY) e.symm
         ·exact J (x,y) (by rw[AX];exact IK _ (M6.2 ⟨x,IK _ As,CG.2 ⟨y,HO _ a,rfl⟩⟩)) b p.1 (by rw[An x c];exact hb) (by rw[AW y (HO _ a)];exact AY) e.symm
       have BU: ∀p∈k.k.DB (base+k.AQ) A m,∀q∈i.k.DB (base+i.AQ) A m,p.1≠q.1:=by
        intro p n q A6 e;rcases SJ (k:=i.k) q A6 with⟨AK,Q,Ap⟩|⟨y,a,AY⟩
        ·rcases SJ (k:=k.k) p n with⟨_,R,_⟩|⟨x,c,Aq⟩
         ·omega
         ·exact B6 q A6 x (HO _ c) p.1 Aq e.symm
        ·exact B5 p n y (HO _ a) q.1 AY e
       refine⟨_,_,Ss L s (L4 w) Am,?_,?_,λh=>by rw[w]at h;cases h⟩
       ·obtain⟨A9,AA,AB,AD⟩:=No (k:=k.k) (m:=Df m (i.k.DB (base+i.AQ) A m)) (id:=base+k.AQ) (NP (A:=A) (d:=i.d) (v:=i.k.val (base+i.AQ) A m) N);obtain⟨A8,D,BV⟩:=aV (k:=k.k) (A:=A) (id:=base+k.AQ) (m:=Df m (i.k.DB (base+i.AQ) A m)) (cI:=m) K (λx c b hb=>kR _ _ _ λp n=>B6 p n x (IK _ c) b hb);have:=Ss (cp:=cp) (base:=base) (m:=Df m (i.k.DB (base+i.AQ) A m)) (A:=Ar A i.d (i.k.val (base+i.AQ) A m)) (o:=k) K (by rw[Kh N];exact E) (L4 V) (by rw[A9,A8];exact Ai);rw[this,AA,AB,D,BV,Po A0,sT _ _ m BU]
       ·exact Zn A7 (λh=>by rw[V]at h;cases h) AP
  ·
   have AN:Bl A i.g=false:=(by simpa using s);have BW: ∃v,u=Ar A k.d v:=by
    cases r:k.k.By A m with
    |some B=>obtain⟨v,z,_,e⟩:=S0 E r T;cases e;exact⟨v,rfl⟩
    |none=>obtain⟨_,e⟩:=TJ K E r T;cases e;exact⟨_,rfl⟩
   obtain⟨v,rfl⟩:=BW;rw[Pb (by rw[Kh M];exact AN)]at G;cases G;refine⟨_,_,Pb AN,?_,Zn A7 (λ_=>⟨rfl,rfl⟩) AP,λ_ h=>absurd h s⟩;have B7:Bl (Ar A i.d undef) k.g=true:=(by rw[Kh N];exact E);obtain⟨A9,AA,AB,AD⟩:=No (k:=k.k) (m:=m) (id:=base+k.AQ) (NP (A:=A) (d:=i.d) (v:=undef) N);cases r:k.k.By A m with
   | some B=>obtain⟨f,args⟩:=B;obtain⟨At,z,A8,D⟩:=S0 E r T;have O:=congrArg Prod.fst D;have Q:=congrArg Prod.snd D;simp only at O Q;subst Q;have R:Ar (Ar A i.d undef) k.d At=Ar (Ar A k.d At) i.d undef:=(Po A0).symm;rw[V9 B7 (by rw[AD];exact r) A8,R,<-O]
   | none=>obtain⟨AE,D⟩:=TJ K E r T;have O:=congrArg Prod.fst D;have Q:=congrArg Prod.snd D;simp only at O Q;subst Q;have R:Ar (Ar A i.d undef) k.d (k.k.val (base+k.AQ) A m)=Ar (Ar A k.d (k.k.val (base+k.AQ) A m)) i.d undef:=(Po A0).symm;rw[Ss K B7 (by rw[AD];exact r) (by rw[A9];exact AE),AA,AB,R,<-O]
 ·
  have B8:Bl A k.g=false:=(by simpa using E);rw[Pb B8]at T;cases T;have Au: ∀v Al,DJ cp base k (Ar A i.d v) Al=some (Ar (Ar A i.d v) k.d undef,Al):= λv Al=>Pb (by rw[Kh N];exact B8);have Aw: ∀v B9 BA,I7 k (Ar A i.d v) B9 BA:= λv B9 BA AU=>by rw[Kh N]at AU;exact absurd AU E
  obtain⟨A9,AA,AB,AD⟩:=No (k:=i.k) (m:=m) (id:=base+i.AQ) (NP (A:=A) (d:=k.d) (v:=undef) M);by_cases s:Bl A i.g=true
  ·have A3:Bl (Ar A k.d undef) i.g=true:=(by rw[Kh M];exact s);cases F:i.k.By A m with
   | some B=>obtain⟨f,args⟩:=B;obtain⟨At,z,A8,D⟩:=S0 A3 (by rw[AD];exact F) G;cases D;exact⟨_,_,V9 s F A8,by rw[Au,Po A0],Aw _ _ _,λ_ _=>⟨rfl,rfl⟩⟩
   | none=>obtain⟨AE,D⟩:=TJ L A3 (by rw[AD];exact F) G;have w:=XL AE;rw[AA,AB]at D;cases D;exact⟨_,_,Ss L s F (by rw[<-A9];exact AE),by rw[Au,Po A0],Aw _ _ _,λh=>by rw[w]at h;cases h⟩
  ·have AN:Bl A i.g=false:=(by simpa using s);rw[Pb (by rw[Kh M];exact AN)]at G;cases G;exact⟨_,_,Pb AN,by rw[Au,Po A0],Aw _ _ _,λ_ h=>absurd h s⟩
def LC(l:List Av):List Nat:=l.filterMap (·.d)
variable {P:Program} {aH:Nat} {cp:Callee} {base:Nat} {ops:Array Oper} {D:Nat}
theorem ji{k i:Av}{b c:List Nat}(h: ∀t∈c,t∈b)(e:JC k i b=true):JC k i c=true:=by
 have g: ∀t,(!b.contains t)=true->(!c.contains t)=true:=by
  grind
 have j: ∀l:List Nat,(l.all λt=> !b.contains t&&k.d !=some t)=true->(l.all λt=> !c.contains t&&k.d !=some t)=true:=by
  simp_all
 simp only[JC,AF]at e⊢;refine⟨e.1,?_⟩;have a:=e.2;split at a
 ·simp_all
 ·rename_i m;rw[if_neg m];split at a
  ·simp_all
  ·rename_i n;rw[if_neg n];simp only[AF,My]at a⊢;refine⟨a.1.imp id λf=>⟨f.1,?_⟩,j _ a.2⟩;cases o:k.d with
   |none=>rfl
   |some d=>rw[o]at f;exact g d f.2
theorem sh{A b:A2}{m:X}(h:DJ cp base o A m=some (b,z))(a:o.d≠some t):b t=A t:=by
 unfold DJ at h;split at h
 ·split at h
  ·split at h
   ·cases h;exact Ng a
   ·cases h
  ·split at h
   ·cases h;exact Ng a
   ·cases h
 ·cases h;exact Ng a
theorem move(H:Iy P aH cp){i:Av}{post:List Av}{A0:A2×X}: ∀(l:List Av) (A:A2) (m:X),Et cp base (l++i::post) A m=some A0->
 (∀I k C,l=I++k::C->JC k i (LC C)=true/\ ∀p∈IV k i,p∈i.Gr)->(∀k∈l,k.AQ≠i.AQ)->(i.k.Bv=true->m.Y (base+i.AQ)=none/\base+i.AQ<m.ac)->
 ∃J D f v K,DJ cp base i A m=some (J,D)/\Et cp base (l++post) J D=some A0/\I7 i f v K/\(∀t,t∉LC l->f t=A t)/\(i.k.FD=true->Bl A i.g=true->v=m/\K=D)
 | [],A,m,h,_,_,_=>by
   grind [JA]
 | k::l,A,m,h,A1,A3,E=>by
   obtain⟨u,cI,L,AB,AD⟩:=JA h;have AE:=A3 k (by simp);have O:=A1 [] k l rfl;obtain⟨AT,AI,f,v,K,AJ,AK,A4,F,A5⟩:=move H l u cI AD (λI M C e=>A1 (k::I) M C (by rw[e];rfl)) (λM Q=>A3 M (by simp[Q])) (λn=>⟨dM H L (E n).2 (by omega) (E n).1,GV (E n).2 (Rf H L)⟩)

   have A6: ∀t,t∈i.NU->t∉LC l:=by
    intro t q o;obtain⟨M,Q,AU⟩:=R0.1 o;obtain⟨I,C,e⟩:=List.append_of_mem Q
    grind [JC,Q3]
   have AL:Bl f i.g=Bl u i.g:=by
    cases N:i.g with
    |none=>rfl
    |some R=>obtain⟨t,b⟩:=R;simp only[Bl];rw[F t (A6 t (HO _ (by simp[N])))]
   have A7: ∀x∈i.k.D9,U f x=U u x:= λx r=>OU λt q=>F t (A6 t (IK _ (Pn r q)));have AM:oe k i u cI AI:=by
    intro S;have w:=A4 (by rw[AL];exact S);have AN:i.k.By f v=i.k.By u cI:=by
     rw[(No (m:=v) (id:=0) A7).2.2.2];cases T:i.k.FD with
     |true=>rw[(A5 T S).1]
     |false=>rw[L4 T,L4 T]
    rw[AN]at w;have j:=O.1;simp only[JC,AF]at j;obtain⟨_,j⟩:=j;cases V:i.k.By u cI with
    | some B=>
      have s:=Zk V;rw[V]at w;simp only at w⊢;obtain⟨rfl,rfl⟩:=A5 s S;rw[if_pos s]at j;simp only[AF]at j;intro p z b hb;have G:=z;simp only[IV,s,if_true]at G;obtain⟨x,r,rfl⟩:=CG.1 G;refine w _ (O.2 _ z) b ?_;rw[show U f x=U u x from OU λt q=>F t (λo=> ?_)]
      ·exact hb
      ·have:=BR.1 j.2 t (Pn r q)
       simp_all
    | none=>
      rw[V]at w;simp only[Cq,BR]at w;simp only;intro p z a b AV hb e;by_cases s:i.k.FD=true
      ·grind [ie]
      rw[if_neg s]at j;by_cases W:k.k.FD=true
      ·simp only[IV,if_neg s,if_pos W]at z;cases z
      rw[if_neg W]at j;simp only[AF,My,JQ]at j;have G:=z;simp only[IV,if_neg s,if_neg W]at G;have AW: ∀x∈k.k.GA++k.k.Gd,U f x=U u x:= λx r=>OU λt q=>F t λo=>by
       have:=BR.1 j.2 t (Pn r q)
       simp_all
      have AX:U f p.1=U u p.1/\U f p.2=U u p.2:=by
       rcases D2.1 G with A8|A8
       ·obtain⟨x,r,A9⟩:=M6.1 A8;obtain⟨y,AO,rfl⟩:=CG.1 A9;refine⟨?_,A7 y (gr y AO)⟩;rcases D2.1 r with c|c
        ·grind
        ·split at c
         ·rename_i n;rcases j.1 with Z|Z
          ·grind
          ·cases o:k.d with
           |none=>rw[o]at c;cases c
           | some d=>rw[o]at c Z;simp only[Xk,IA]at c;subst c;exact F d (Q3 Z.2)
         ·cases c
       ·grind [gr]
      grind
   obtain⟨J,D,AP,AR,AS,AY⟩:=yQ H O.1 AE (λn=>(E n).1) (λn=>(E n).2) L AB AJ AM;refine⟨J,D,f,v,K,AP,OA AR AS AK,A4,λt q=> ?_,λA9 c=> ?_⟩
   ·grind [LC,sh]
   ·have AA:KY i.NU k.d=true:=by
     grind [JC]
    have AZ:Bl u i.g=true:=by
     cases N:i.g with
     |none=>rfl
     | some R=>
       obtain⟨t,b⟩:=R;rw[N]at c;simp only[Bl]at c⊢;rw[sh L (t:=t) λo=> ?_]
       ·exact c
       ·rw[o]at AA;exact Q3 AA (HO _ (by simp[N]))
    simp_all
def IW(n:List Nat):List Av->Prop
 |[]=>True
 |k::a=>(∀b i post,a=b++i::post->(n.getD i.AQ 0).testBit k.AQ=true\/(JC k i (LC b)=true/\ ∀p∈IV k i,p∈i.Gr))/\IW n a
theorem IW.HF: ∀(b:List Av) (k:Av) (C:List Av) (i:Av) (a:List Av),IW n (b++k::C++i::a)->(n.getD i.AQ 0).testBit k.AQ=true\/(JC k i (LC C)=true/\ ∀p∈IV k i,p∈i.Gr)
 |[],_,C,i,a,h=>h.1 C i a rfl
 |_::b,k,C,i,a,h=>IW.HF b k C i a h.2
theorem IW.sk: ∀(c:List Av) (x:Av) (C:List Av),IW n (c++x::C)->IW n (c++C)
 |[],_,_,h=>h.2
 | k::c,x,C,h=>by
   refine⟨λo i post e=> ?_,IW.sk c x C h.2⟩;rcases List.append_eq_append_iff.1 e with⟨p,d,a⟩|⟨bs,d,a⟩
   ·
    have:=h.1 (c++x::p) i post (by rw[a];simp);refine this.imp id λf=>⟨ji (λt g=> ?_) f.1,f.2⟩;rw[d]at g;obtain⟨j,m,l⟩:=R0.1 g;refine R0.2 ⟨j,?_,l⟩
    grind
   ·cases bs with
    | nil=>simp only[Pf]at d;simp only[MC]at a;have:=h.1 (c++[x]) i post (by rw[<-a];simp);refine this.imp id λf=>⟨ji (λt g=> ?_) f.1,f.2⟩;rw[<-d]at g;obtain⟨j,m,l⟩:=R0.1 g;exact R0.2 ⟨j,IK _ m,l⟩
    | cons b bs=>simp only[Js,P6]at a;obtain⟨rfl,a⟩:=a;exact h.1 o i (bs++x::C) (by rw[d];simp)
theorem a8H{o:Oper}(h:(Yp n o).testBit b=true): ∃e∈o.after,Region.binds .any e=true/\(e.on=b\/(n.getD e.on 0).testBit b=true):=by
 unfold Yp at h;have key: ∀(l:List Edge) (s:Nat),(l.foldl (λs e=>if Region.binds .any e then s|||2^e.on|||n.getD e.on 0 else s) s).testBit b=true->s.testBit b=true\/ ∃e∈l,Region.binds .any e=true/\(e.on=b\/(n.getD e.on 0).testBit b=true):=by
  intro l;induction l with
  |nil=>intro s h;exact .inl h
  | cons e l a=>
    grind
 grind
theorem kv{kJ:Nat->Prop}(m: ∀j a,ops[j]?=some a->kJ j-> ∀e∈a.after,Region.binds .any e=true->kJ e.on):
 ∀ (l:List Oper) (c:List Nat),(∀j,l[j]?=ops[c.length+j]?)->
   (∀j,j<c.length-> ∀a,ops[j]?=some a->(∀e∈a.after,Region.binds .any e=true->kJ e.on)-> ∀b,(c.getD j 0).testBit b=true->kJ b)->
   ∀j a,ops[j]?=some a->(∀e∈a.after,Region.binds .any e=true->kJ e.on)-> ∀b,((PY l c).getD j 0).testBit b=true->kJ b
 | [],c,d,n,j,a,g,k,b,hb=>by
   grind [PY]
 | o::l,c,d,n,j,a,g,k,b,hb=>by
   have r:ops[c.length]?=some o:=(by have:=d 0;simpa using this.symm);refine kv m l (c++[Yp c o]) (λi=>by have:=d (i+1);simp at this⊢;rw[this];congr 1;omega) (λi p s t u v f=> ?_) j a g k b hb;simp only[En,DZ,KC]at p;by_cases h:i<c.length
   ·rw[E1,Ke h,<-E1]at f
    grind
   ·have q:i=c.length:=(by omega);subst q;rw[E1,Ib (Aj _)]at f;simp only[Nat.sub_self,List.getElem?_cons_zero,Jb]at f
    grind [a8H]
variable {P:Program} {aH:Nat} {cp:Callee} {base:Nat} {ops:Array Oper} {D:Nat}
theorem YT{i j:Nat}(a:i<kJ.size):(kJ.setIfInBounds i true).getD j false=true↔(j=i\/kJ.getD j false=true):=by
 by_cases h:i=j
 ·subst h;simp[a]
 ·rw[getD_set_ne false h]
  grind
theorem pM(J:Iy P aH cp){AE:X}: ∀(O:Nat) (L:List Av) (kJ:Array Bool) (A:A2) (m:X) (a:Act) (w:World) (l:Ren),
 L.length=O->kJ.size=ops.size->(∀j,j<ops.size->(kJ.getD j false=true↔ ∀c∈L,c.AQ≠j))->
 (∀j f,ops[j]?=some f->kJ.getD j false=true-> ∀e∈f.after,Region.binds .any e=true->kJ.getD e.on false=true)->
 (∀c∈L,∃o,NK P ops D c o)->(L.map (·.AQ)).Nodup->IW (PY ops.toList []) L->
 (∀g c post,L=g++c::post-> ∀f,ops[c.AQ]?=some f-> ∀e∈f.after,Region.binds .any e=true->kJ.getD e.on false=true\/ ∃k∈g,k.AQ=e.on)->
 Cr l D A a->BF aH l m w->aH<=w.heap.size->YC<=base->(∀c∈L,c.k.Bv=true->base+c.AQ<m.ac/\m.Y (base+c.AQ)=none/\l (base+c.AQ)=none)->base<=m.ac->
 Et cp base L A m=some (F,AE)->
 (∀R K B,CY l B->(∀b,b<YC->B b=l b)->Cr B D F R->BF aH B AE K->Below aH w K->Q .normal R K)->wpAny P .any ops Q O kJ a w
 | 0,L,kJ,A,m,a,w,l,S,E,s,_,_,_,_,_,A0,A1,_,_,_,_,T,A3=>by have AT:L=[]:=Ii.1 S;subst AT;simp only[Et,Fx,Ni]at T;obtain⟨rfl,rfl⟩:=T;refine⟨?_,A3 a w l (CY.refl l) (λ_ _=>rfl) A0 A1 (Below.refl _ _)⟩;apply List.eq_nil_iff_forall_not_mem.2;intro i A4;obtain⟨M,f,A5,_⟩:=mem_ready.1 A4;have n:i<ops.size:=(QC.1 A5).1;have:=(s i n).2 (by simp);rw[getD_both M]at this;cases this
 | O+1,L,kJ,A,m,a,w,l,S,E,s,AF,U,t,AI,V,A0,A1,AJ,AU,AK,Ay,T,A3=>by
   refine⟨λAV=> ?_,λi A4=> ?_⟩
   ·
    exfalso;cases L with
    |nil=>simp at S
    | cons c L=>
      obtain⟨o,N⟩:=U c (by simp);have n:c.AQ<ops.size:=(QC.1 N.1).1;have AL:c.AQ∈Region.ready .any ops kJ:=by
       refine mem_ready.2 ⟨?_,o,N.1,λe q hb=> ?_⟩
       ·have:kJ.getD c.AQ false≠true:= λh=>(s c.AQ n).1 h c (by simp) rfl;exact getD_in (by rw[E];exact n) (by simpa using this)
       ·rcases V [] c L rfl o N.1 e q hb with h|⟨k,d,_⟩
        ·exact h
        ·cases d
      rw[AV]at AL;cases AL
   ·obtain⟨AW,AM,A6,AN⟩:=mem_ready.1 A4;have n:i<ops.size:=(QC.1 A6).1;have AX:kJ.getD i false=false:=getD_both AW;have AY: ∃c∈L,c.AQ=i:=by
     by_cases h: ∃c∈L,c.AQ=i
     ·exact h
     ·exfalso;have:=(s i n).2 (λc A7 e=>h ⟨c,A7,e⟩);rw[AX]at this;cases this
    obtain⟨c,A7,rfl⟩:=AY;obtain⟨g,post,rfl⟩:=List.append_of_mem A7;simp only[Gs,Dl,LD,J9]at t;have A8: ∀k∈g,k.AQ≠c.AQ:= λk d e=>t.2.2 k.AQ (CG.2 ⟨k,d,rfl⟩) c.AQ (by simp) e;have AZ: ∀A9 k C,g=A9++k::C->JC k c (LC C)=true/\ ∀p∈IV k c,p∈c.Gr:=by
     intro A9 k C e;subst e;rcases IW.HF A9 k C c post (by simpa using AI)with h|h
     ·exfalso;have d:kJ.getD k.AQ false=true:=kv (ops:=ops) (kJ:= λj=>kJ.getD j false=true) AF ops.toList [] (by simp) (by simp) c.AQ AM A6 AN k.AQ h;obtain⟨Az,Aa⟩:=U k (by simp);exact(s k.AQ (QC.1 Aa.1).1).1 d k (by simp) rfl
     ·exact h
    have W:=AK c (by simp);obtain⟨Ab,Ac,_,_,_,M,A5,_,_,_⟩:=move J g A m T AZ A8 (λr=>⟨(W r).2.1,(W r).1⟩);obtain⟨o,N⟩:=U c (by simp);have B0:=Rf J M;refine sA J N A0 A1 AJ (λr=>(W r).1) (λr=>(W r).2.2) M λR K B Ae AO Af Ag AP=> ?_;refine pM J O (g++post) (kJ.setIfInBounds c.AQ true) Ab Ac R K B (by simp at S⊢;omega) (by simp[E]) (λj u=> ?_) (λj f G u e q hb=> ?_) (λk d=>U k (by
     rcases D2.1 d with h|h
     ·exact IK _ h
     ·exact HO _ (by simp[h]))) ?_ (IW.sk g c post AI) (λAh k AR e f G AA q hb=> ?_) Af Ag (E8 AJ AP.size) AU (λk d r=> ?_) (by omega) A5 (λAi Aj Ak Al Am An Ap Aq=>A3 Ai Aj Ak (Ae.trans Al) (λb hb=>(Am b hb).trans (AO b (by omega) (by omega))) An Ap (AP.trans Aq))
    ·rw[YT (by rw[E];exact n)];constructor
     ·rintro(rfl|h) k d e
      ·rcases D2.1 d with h|h
       ·exact A8 k h e
       ·exact t.2.1.1 (CG.2 ⟨k,h,e⟩)
      ·refine(s j u).1 h k ?_ e;rcases D2.1 d with h|h
       ·exact IK _ h
       ·exact HO _ (by simp[h])
     ·intro h;by_cases e:j=c.AQ
      ·exact .inl e
      ·refine .inr ((s j u).2 λk d AB=> ?_);rcases D2.1 d with v|v
       ·exact h k (IK _ v) AB
       ·rcases CZ.1 v with v|v
        ·subst v;exact e AB.symm
        ·exact h k (HO _ v) AB
    ·rw[YT (by rw[E];exact n)]at u⊢;rcases u with rfl|u
     ·have:f=AM:=Option.some.inj (G.symm.trans A6);subst this;exact .inr (AN e q hb)
     ·exact .inr (AF j f G u e q hb)
    ·simp only[Gs,LD];exact⟨t.1,t.2.1.2,λx Ar y As=>t.2.2 x Ar y (by simp[As])⟩
    ·rw[YT (by rw[E];exact n)];rcases List.append_eq_append_iff.1 e with⟨At,H,z⟩|⟨bs,H,z⟩
     ·rcases V (g++c::At) k AR (by rw[z];simp) f G AA q hb with h|⟨Z,AD,I⟩
      ·exact .inl (.inr h)
      ·rcases D2.1 AD with h|h
       ·exact .inr ⟨Z,by rw[H];exact IK _ h,I⟩
       ·rcases CZ.1 h with h|h
        ·subst h;exact .inl (.inl I.symm)
        ·exact .inr ⟨Z,by rw[H];exact HO _ h,I⟩
     ·cases bs with
      | nil=>
        simp only[Pf]at H;simp only[MC]at z;rcases V (g++[c]) k AR (by rw[<-z];simp) f G AA q hb with h|⟨Z,AD,I⟩
        ·exact .inl (.inr h)
        ·rcases D2.1 AD with h|h
         ·exact .inr ⟨Z,by rw[<-H];exact h,I⟩
         ·simp only[IA]at h;subst h;exact .inl (.inl I.symm)
      | cons b bs=>
        simp only[Js,P6]at z;obtain⟨rfl,z⟩:=z;rcases V Ah k (bs++c::post) (by rw[H];simp) f G AA q hb with h|h
        ·exact .inl (.inr h)
        ·exact .inr h
    ·have Au:k∈g++c::post:=by
      rcases D2.1 d with h|h
      ·exact IK _ h
      ·exact HO _ (by simp[h])
     have B1:k.AQ≠c.AQ:=by
      rcases D2.1 d with h|h
      ·exact A8 k h
      ·exact λe=>t.2.1.1 (CG.2 ⟨k,h,e⟩)
     obtain⟨AS,Aw,Ax⟩:=AK k Au r;exact⟨by omega,dM J M AS (by omega) Aw,by rw[AO _ AS (by omega)];exact Ax⟩
theorem vj(h:Yt P ops D E=some c):c.AQ=E/\ ∃o,NK P ops D c o:=by
 unfold Yt at h;split at h
 ·rename_i o a;split at h
  ·rename_i k g b d;split at h
   ·rename_i e;cases h;exact⟨rfl,o,a,b,d,rfl,e⟩
   ·cases h
  ·cases h
 ·cases h
theorem gS: ∀(a:List Nat) (L:List Av),Sn P ops D a=some L->L.map (·.AQ)=a/\ ∀c∈L,∃o,NK P ops D c o
 |[],L,h=>by simp[Sn]at h;subst h;simp
 | E::r,L,h=>by
   simp only[Sn]at h;split at h
   ·rename_i c b d f;cases h;obtain⟨e,o,g⟩:=vj d;obtain⟨i,j⟩:=gS r b f
    grind
   ·cases h
theorem tp: ∀(c:List Av) (f:List Nat),aq n i c f=true->(∀p∈Ld n i c,p∈i.Gr)->
 ∀b k C,c=b++k::C->(n.getD i.AQ 0).testBit k.AQ=true\/(JC k i (f++LC b)=true/\ ∀p∈IV k i,p∈i.Gr)
 |[],_,_,_,b,k,C,e=>by simp at e
 | x::c,f,h,g,b,k,C,e=>by
   simp only[aq,AF,My]at h;cases b with
   | nil=>
     grind [LC,Ld]
   | cons a b=>
     simp only[Js,P6]at e;obtain⟨rfl,rfl⟩:=e;have:=tp (b++k::C) (f++x.d.toList) h.2 (λp j=>g p (by simp only[Ld];exact HO _ j)) b k C rfl
     grind [LC]
theorem ni: ∀(v:List Nat) (b:List Av) (L:List Av),WR P ops D n v b=some L->IW n b.reverse->
 L.map (·.AQ)=v/\(∀c∈L,∃o,NK P ops D c o)/\IW n (b.reverse++L)/\
 (∀f c post,L=f++c::post-> ∀s,ops[c.AQ]?=some s-> ∀e∈s.after,Region.binds .any e=true-> ∃k∈b.reverse++f,k.AQ=e.on)
 | [],b,L,h,w=>by
   grind [WR]
 | E::r,b,L,h,w=>by
   simp only[WR]at h;split at h
   ·rename_i a G;split at h
    ·rename_i z;split at h
     ·rename_i H I;cases h;simp only[AF]at z;obtain⟨q,op,J⟩:=vj G;have T:NK P ops D ⟨a.AQ,a.d,a.g,a.k,Ld n a b⟩ op:=J;have K:IW n (Av.mk a.AQ a.d a.g a.k (Ld n a b)::b).reverse:=by
       rw[List.reverse_cons];have M:=tp b [] z.1 (λp U=>by
        have: ∀(l:List Av),Ld n ⟨a.AQ,a.d,a.g,a.k,Ld n a b⟩ l=Ld n a l:=by
         intro l;induction l with
         |nil=>rfl
         |cons x l u=>simp only[Ld];rw[u];rfl
        simp_all)

       have key: ∀(l:List Av) (x:Av),IW n l->(∀j k C,l=j++k::C->(n.getD x.AQ 0).testBit k.AQ=true\/(JC k x (LC C)=true/\ ∀p∈IV k x,p∈x.Gr))->IW n (l++[x]):=by
        intro l x;induction l with
        |nil=>intro _ _;exact⟨by intro f i post e;simp at e,trivial⟩
        | cons k l u=>
          intro A N;refine⟨λf i post e=> ?_,u A.2 λj O C e=>N (k::j) O C (by rw[e];rfl)⟩;rcases List.append_eq_append_iff.1 e with⟨B,q,m⟩|⟨bs,q,m⟩
          ·cases B with
           | nil=>
             simp_all
           |cons y B=>simp at m
          ·cases bs with
           | nil=>
             simp_all
           | cons y bs=>simp only[Js,P6]at m;obtain⟨rfl,m⟩:=m;exact A.1 f i bs q
       refine key _ _ w λj k C e=> ?_;have Q:b=C.reverse++k::j.reverse:=by
        simp_all
       refine(M C.reverse k j.reverse Q).imp id λF=>⟨ji (λt V=> ?_) F.1,F.2⟩
       grind [LC]
      obtain⟨R,W,S,X⟩:=ni r _ H I K;refine⟨by simp[q,R],λk Y=> ?_,by simpa using S,λf c post e s Z A0 A1 hb=> ?_⟩
      ·grind
      ·cases f with
       | nil=>
         grind [sH]
       | cons x f=>
         grind
     ·cases h
    ·cases h
   ·cases h
end Go.DI
