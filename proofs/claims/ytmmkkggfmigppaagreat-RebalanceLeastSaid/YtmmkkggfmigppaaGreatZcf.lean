/-
  A part of the proof, shortened by tools of ours.
-/
import Derived.LoopN
import Derived.StillTail
import Derived.Test.YtmmkkggfmigppaaGreatZce
set_option linter.all false
set_option maxRecDepth 8000
set_option maxHeartbeats 16000000
namespace Go.DI
open Go Go.RowKit
variable {P:Program} {A u:A6} {m cJ:V} {aJ:Nat} {b4:Callee} {base:Nat}
theorem Pm{l:List Nat}{d:Nat}(h:KZ l (some d)=true):d∉l:=by simpa[KZ]using h
variable{d:Option Nat}{t f b ZA F:Nat}{v:Value}{l:List Operand}{x:Operand}{o i c:Ap}{k:K}{s G:A6×V}{args:List Value}{z:V}{B:Nat×List Value}{E n:List Nat}{post:List Ap}{ki:Array Bool}{Q:Exit->Act->World->Prop}{H:A6}
theorem NW(h:d≠some t):Af A d v t=A t:=by
 cases d with
 |none=>rfl
 | some d=>have:t≠d:= λe=>h (by rw[e]);simp[Af,FT,this]
theorem PB{e:Option Nat}{a:Value}(h: ∀x,d=some x->e≠some x):Af (Af A d a) e v=Af (Af A e v) d a:=by
 cases d with
 |none=>rfl
 | some d=>
   cases e with
   |none=>rfl
   | some e=>
     have b:d≠e:= λx=>h d rfl (by rw[x]);funext t;simp only[Af,FT]
     grind
theorem PT(a:x∈l)(b:x= .tmp t):t∈Rz l:=by subst b;exact RD.2 ⟨_,a,rfl⟩
theorem NN(h:KZ o.Nk d=true): ∀x∈o.k.D6,O (Af A d v) x=O A x:=by intro x a;refine OO λt b=>NW λc=> ?_;subst c;exact Pm h (Ho _ (PT a b))
theorem KJ(h:KZ o.Nk d=true):Bf (Af A d v) o.g=Bf A o.g:=by
 cases a:o.g with
 |none=>rfl
 | some c=>obtain⟨t,b⟩:=c;simp only[Bf];rw[NW λe=> ?_];subst e;exact Pm h (Gr _ (by simp[a]))
theorem nN: ∀x∈k.Fv++k.GO,x∈k.D6:=by
 intro x a;cases k<;>simp[K.Fv,K.GO]at a<;>simp[K.D6,a]
 ·grind
theorem Z5(a:Bf A o.g=true)(b:o.k.C2 A m=none)(h:DK b4 base o A m=some s):
 o.k.ok A m=true/\s=(Af A o.d (o.k.val (base+o.AO) A m),o.k.Cl (base+o.AO) A m):=by
 grind [DK]
theorem rl(a:Bf A o.g=true)(b:o.k.C2 A m=none)(c:o.k.ok A m=true):
 DK b4 base o A m=some (Af A o.d (o.k.val (base+o.AO) A m),o.k.Cl (base+o.AO) A m):=by
 grind [DK]
theorem TL(a:o.k.Mg=false)(b:Bf A o.g=true)(c:o.k.C2 A m=none)(h:DK b4 base o A m=some s):
 o.k.ok A m=true/\s=(Af A o.d (o.k.val (base+o.AO) A m),Dk m (o.k.DA (base+o.AO) A m)):=by
 grind [DK,zZ]
theorem TK(a:o.k.Mg=false)(b:Bf A o.g=true)(c:o.k.C2 A m=none)(e:o.k.ok A m=true):
 DK b4 base o A m=some (Af A o.d (o.k.val (base+o.AO) A m),Dk m (o.k.DA (base+o.AO) A m)):=by
 grind [DK,zZ]
theorem Sg(a:Bf A o.g=true)(b:o.k.C2 A m=some (f,args))(h:DK b4 base o A m=some s):
 ∃v z,b4 f args m=some (v,z)/\s=(Af A o.d v,z):=by
 grind [DK]
theorem WC(a:Bf A o.g=true)(b:o.k.C2 A m=some (f,args))(h:b4 f args m=some (v,z)):
 DK b4 base o A m=some (Af A o.d v,z):=by
 unfold DK
 simp_all
theorem OY(a:Bf A o.g=false):DK b4 base o A m=some (Af A o.d undef,m):=by
 unfold DK
 simp_all
theorem cT(h:k.C2 A m=some B):k.F0=true:=by cases k<;>first|rfl|(simp[K.C2]at h)
theorem Ks(h:k.F0=false):k.C2 A m=none:=by cases k<;>first|rfl|(simp[K.F0]at h)
theorem fm(a:Bf A o.g=true)(b:o.k.C2 A m=none)(h:DK b4 base o A m=some s):o.k.F0=false:=
 Zz (Z5 a b h).1
def x5(k i:Ap)(A:A6)(m z:V):Prop:=
 Bf A i.g=true->match i.k.C2 A m with
  |some _=> ∀p∈IZ k i,∀b,I (O A p.1)=some b->z.W b=m.W b
  |none=> ∀p∈IZ k i,∀a b,I (O A p.1)=some a->I (O A p.2)=some b->a≠b
theorem b6(c:KZ (o.Nk++o.wk) d=true){e i:V}
 (q:o.k.F0=true->e=m/\i=z) (h:Hv o A m z):Hv o (Af A d v) e i:=by
 have j:KZ o.Nk d=true:=by
  cases d with
  |none=>rfl
  |some d=>simp[KZ]at c⊢;exact c.1
 have r: ∀p∈o.Gc,O (Af A d v) p.1=O A p.1/\O (Af A d v) p.2=O A p.2:=by
  intro p a;constructor
  ·refine OO λt f=>NW λg=> ?_;subst g;exact Pm c (Gr _ (Ho _ (PT (CP.2 ⟨p,a,rfl⟩) f)))
  ·refine OO λt f=>NW λg=> ?_;subst g;exact Pm c (Gr _ (Gr _ (PT (CP.2 ⟨p,a,rfl⟩) f)))
 intro l;rw[KJ j]at l;have:=h l;have s:o.k.C2 (Af A d v) e=o.k.C2 A m:=by
  rw[(OA (m:=e) (id:=0) (NN j)).2.2.2]
  grind [Ks]
 rw[s];cases n:o.k.C2 A m with
 | some B=>rw[n]at this;simp only at this⊢;obtain⟨rfl,rfl⟩:=q (cT n);intro p a b hb;rw[(r p a).1]at hb;exact this p a b hb
 | none=>
   grind [Dm]
theorem aDl{P:Program}{aJ:Nat}(Ay:Ie P aJ b4){k:Ap}{u Az:A6}{cJ Z:V}(B0:Ic k i E=true)(BY:k.AO≠i.AO)(Aa:i.k.Bt=true->m.W (base+i.AO)=none)(AQ:i.k.Bt=true->base+i.AO<m.next)
 (X:DK b4 base k A m=some (u,cJ)) (AR:Hv k A m cJ) (H:DK b4 base i u cJ=some (Az,Z)) (BC:x5 k i u cJ Z):
 ∃Ab AS,DK b4 base i A m=some (Ab,AS)/\DK b4 base k Ab AS=some (Az,Z)/\Hv k Ab AS Z/\(i.k.F0=true->Bf A i.g=true->m=cJ/\AS=Z):=by
 simp only[Ic,AB]at B0;obtain⟨⟨⟨⟨⟨L,M⟩,A8⟩,N⟩,B1⟩,J⟩:=B0
 replace L:k.k.Mg=false:=by simpa using L
 replace M:i.k.Mg=false:=by simpa using M
 have Q:KZ k.Nk i.d=true:=by
  cases A1:i.d with
  |none=>rfl
  |some d=>rw[A1]at A8;simp[KZ]at A8⊢;exact A8.1
 have A2: ∀x,k.d=some x->i.d≠some x:=by intro x c a;rw[c,a]at B1;simp at B1
 by_cases F:Bf A k.g=true
 ·by_cases s:Bf A i.g=true
  ·cases r:k.k.C2 A m with
   | some B=>

     obtain⟨f,args⟩:=B;have Y:=cT r;obtain⟨v,z,R,S⟩:=Sg F r X;cases S;have w:i.k.F0=false:=by
      by_cases h:i.k.F0=true
      ·rw[if_pos h]at J;simp[Y]at J
      ·simpa using h
     rw[if_neg (by rw[w];simp),if_pos Y]at J;simp only[AB,List.isEmpty_iff]at J;obtain⟨BD,Ac⟩:=J;have A3:Bf (Af A k.d v) i.g=true:=(by rw[KJ N];exact s);obtain⟨AH,T⟩:=TL M A3 (Ks w) H;cases T;obtain⟨Ae,Ag,AT,_⟩:=OA (k:=i.k) (m:=cJ) (id:=base+i.AO) (NN (A:=A) (v:=v) N);obtain⟨AM,AN,AJ⟩:=bf (k:=i.k) (A:=A) (id:=base+i.AO) (m:=cJ) (cJ:=m) M (by rw[BD];simp);have AU: ∀p∈i.k.DA (base+i.AO) A m,i.k.Bt=true/\p.1=base+i.AO:= λp n=>by
      rcases Sx (k:=i.k) (id:=base+i.AO) (A:=A) (m:=m) p n with h|⟨x,c,_⟩
      ·exact⟨h.1,h.2.1⟩
      ·rw[Ac]at c;cases c

     have BE: ∀(l:List (Nat×Option Bw)) (U A4:V),(∀p∈l,i.k.Bt=true/\p.1=base+i.AO)->b4 f args U=some (v,A4)->(l≠[]->base+i.AO<U.next/\U.W (base+i.AO)=none)->
      b4 f args (Dk U l)=some (v,Dk A4 l)/\(l=[]\/ ∃y,Dk U l=U.A0 (base+i.AO) y/\Dk A4 l=A4.A0 (base+i.AO) y):=by
      intro l U A4 A5 B2 BG;have BH: ∀(l:List (Nat×Option Bw)) (x:Option Bw),(∀p∈l,p.1=base+i.AO)-> ∃y,∀Ad:V,Dk (Ad.A0 (base+i.AO) x) l=Ad.A0 (base+i.AO) y:=by
       intro l;induction l with
       |nil=>intro x _;exact⟨x,λ_=>rfl⟩
       | cons p l BI=>
         intro x n;obtain⟨y,a⟩:=BI p.2 (λq A7=>n q (by simp[A7]));refine⟨y,λAd=> ?_⟩;have e:p.1=base+i.AO:=n p (by simp);have:(Ad.A0 (base+i.AO) x).A0 p.1 p.2=Ad.A0 (base+i.AO) p.2:=by rw[e];simp only[V.A0,V.mk.injEq,true_and,and_true];funext j;by_cases BJ:j=base+i.AO<;>simp[BJ]
         show Dk ((Ad.A0 (base+i.AO) x).A0 p.1 p.2) l=_;rw[this,a]
      cases l with
      |nil=>exact⟨B2,.inl rfl⟩
      | cons p l=>obtain⟨y,a⟩:=BH l p.2 (λq A7=>(A5 q (by simp[A7])).2);have e:p.1=base+i.AO:=(A5 p (by simp)).2;have BK:Dk U (p::l)=U.A0 (base+i.AO) y:=(by show Dk (U.A0 p.1 p.2) l=_;rw[e,a]);have BL:Dk A4 (p::l)=A4.A0 (base+i.AO) y:=(by show Dk (A4.A0 p.1 p.2) l=_;rw[e,a]);rw[BK,BL];obtain⟨BM,BN⟩:=BG (by simp);exact⟨(Ay _ _ _ _ _ B2).2.2.2.1 _ y BM BN,.inr ⟨y,rfl,rfl⟩⟩
     obtain⟨BO,B3⟩:=BE (i.k.DA (base+i.AO) A m) m cJ AU R (λBP=>by obtain⟨p,n⟩:=List.exists_mem_of_ne_nil _ BP;have:=(AU p n).1;exact⟨AQ this,Aa this⟩);have B4:k.k.C2 A (Dk m (i.k.DA (base+i.AO) A m))=some (f,args):=by
      rcases B3 with h|⟨y,a,_⟩
      ·rw[h];exact r
      ·rw[a];by_cases C:i.k.Bt=true
       ·exact ld.bz ⟨rfl,AQ C,Aa C⟩ r
       ·have:i.k.DA (base+i.AO) A m=[]:=by
         cases A5:i.k.DA (base+i.AO) A m with
         |nil=>rfl
         |cons p l=>exact absurd (AU p (by rw[A5];simp)).1 C
        rw[this]at a;rw[<-a];exact r
     refine⟨_,_,TK M s (Ks w) (by rw[<-AM,<-Ae];exact AH),?_,?_,λh=>by rw[w]at h;cases h⟩
     ·have BQ:k.k.C2 (Af A i.d (i.k.val (base+i.AO) A m)) (Dk m (i.k.DA (base+i.AO) A m))=some (f,args):=(by rw[(OA (m:=Dk m (i.k.DA (base+i.AO) A m)) (id:=0) (NN Q)).2.2.2];exact B4);rw[Ag,AT,AN,AJ];have:=WC (b4:=b4) (base:=base) (m:=Dk m (i.k.DA (base+i.AO) A m)) (by rw[KJ Q];exact F) BQ BO;rw[this,PB A2]
     ·rw[AT,AJ];refine b6 A8 (λ_=>⟨rfl,rfl⟩) (λAV=> ?_);have AW:=AR AV;rw[r]at AW;rw[B4];simp only at AW⊢;rcases B3 with h|⟨y,a,Ah⟩
      ·rw[h];exact AW
      ·rw[a,Ah];intro q A7 b hb;have:=AW q A7 b hb;by_cases Ak:b=base+i.AO
       ·subst Ak;have Al:i.k.DA (base+i.AO) A m=[]\/i.k.Bt=true:=by
         cases A5:i.k.DA (base+i.AO) A m with
         |nil=>exact .inl rfl
         |cons p l=>exact .inr (AU p (by rw[A5];simp)).1
        rcases Al with Al|C
        ·rw[Al]at a Ah;rw[<-a,<-Ah];exact this
        ·rw[V.G1,V.G1,if_pos rfl,if_pos rfl,if_pos (AQ C),if_pos (Eo (AQ C) (Ay _ _ _ _ _ R).2.1)]
       ·rw[V.G1,V.G1,if_neg Ak,if_neg Ak];exact this
   | none=>
     have Y:=fm F r X;obtain⟨Am,R⟩:=TL L F r X;cases R;have A3:Bf (Af A k.d (k.k.val (base+k.AO) A m)) i.g=true:=(by rw[KJ N];exact s);obtain⟨Ae,Ag,AT,AK⟩:=OA (k:=i.k) (m:=Dk m (k.k.DA (base+k.AO) A m)) (id:=base+i.AO) (NN (A:=A) (v:=k.k.val (base+k.AO) A m) N);have K:=BC A3;cases G:i.k.C2 A (Dk m (k.k.DA (base+k.AO) A m))with
     | some B=>

       obtain⟨f,args⟩:=B;have w:=cT G;rw[if_pos w]at J;simp only[AB,Iz,List.isEmpty_iff]at J;obtain⟨⟨⟨_,C⟩,Ac⟩,An⟩:=J;have B5:k.k.DA (base+k.AO) A m=[]:=by
        cases A5:k.k.DA (base+k.AO) A m with
        |nil=>rfl
        | cons p l=>
          rcases Sx (k:=k.k) (id:=base+k.AO) (A:=A) (m:=m) p (by rw[A5];simp)with h|⟨x,c,_⟩
          ·rw[C]at h;cases h.1
          ·rw[Ac]at c;cases c
       rw[B5]at H K G AK⊢;have BS:Dk m []=m:=rfl;rw[BS]at H K G AK;rw[AK,G]at K;simp only at K;obtain⟨v,z,A9,D⟩:=Sg A3 (by rw[AK];exact G) H;cases D;refine⟨_,_,WC s G A9,?_,?_,λ_ _=>⟨rfl,rfl⟩⟩
       ·obtain⟨AM,AN,AJ⟩:=bf (k:=k.k) (A:=A) (id:=base+k.AO) (m:=m) (cJ:=Z) L (λx c b hb=>by
         have n:(x,x)∈IZ k i:=(by simp only[IZ,w,if_true];exact CP.2 ⟨x,c,rfl⟩);have BU:O (Af A k.d (k.k.val (base+k.AO) A m)) x=O A x:=OO λt Ao=>NW λA1=>by have:=BF.1 An t (PT c Ao);simp[A1]at this
         exact(K (x,x) n b (by rw[BU];exact hb)).symm)
        obtain⟨AD,AE,AF,AG⟩:=OA (k:=k.k) (m:=Z) (id:=base+k.AO) (NN (A:=A) (d:=i.d) (v:=v) Q);have:=TK (b4:=b4) (base:=base) (m:=Z) (A:=Af A i.d v) (o:=k) L (by rw[KJ Q];exact F) (Ks Y) (by rw[AD,<-AM];exact Am);rw[this,AE,AF,<-AN,<-AJ,B5,PB A2];rfl
       ·exact b6 A8 (λh=>by rw[Y]at h;cases h) AR
     | none=>

       have w:=fm (by rw[<-KJ N (A:=A)]at s;exact s) (by rw[AK];exact G) H;rw[AK,G]at K;simp only at K;rw[if_neg (by rw[w];simp),if_neg (by rw[Y];simp)]at J;simp only[AB,N0,Iz]at J;obtain⟨C,An⟩:=J;obtain⟨Aq,T⟩:=TL M A3 (Ks w) H;rw[Ae]at Aq;rw[Ag,AT]at T

       have Ar: ∀x∈k.k.Fv++k.k.GO,O (Af A k.d (k.k.val (base+k.AO) A m)) x=O A x:=(by intro x c;refine OO λt Ao=>NW λA1=> ?_;have:=BF.1 An t (PT c Ao);simp[A1]at this);have AX: ∀y∈i.k.Fv++i.k.GO,O (Af A k.d (k.k.val (base+k.AO) A m)) y=O A y:= λy a=>NN N y (nN y a);have AY:IZ k i=((k.k.GO++(if k.k.Bt then ZL k.d else[])).flatMap λx=>(i.k.Fv++i.k.GO).map λy=>(x,y))++k.k.Fv.flatMap λx=>i.k.GO.map λy=>(x,y):=by simp only[IZ,w,Y,EI,if_false]

       have B6: ∀p∈k.k.DA (base+k.AO) A m,∀y∈i.k.Fv++i.k.GO,∀b,I (O A y)=some b->p.1≠b:=by
        intro p n y a b hb;rcases Sx (k:=k.k) p n with⟨AL,e,As⟩|⟨x,c,At⟩
        ·rcases C with C|C
         ·rw[C]at AL;cases AL
         ·obtain⟨d,A1⟩:=ax.1 C.1;have:=K (.tmp d,y) (by
           rw[AY];refine Ho _ (LM.2 ⟨.tmp d,?_,CP.2 ⟨y,a,rfl⟩⟩);simp[AL,A1,ZL]) (base+k.AO) b (by simp only[O,A1,Af,FT,if_true];exact As) (by rw[AX y a];exact hb)
          rw[e];exact this
        ·exact K (x,y) (by rw[AY];exact Ho _ (LM.2 ⟨x,Ho _ c,CP.2 ⟨y,a,rfl⟩⟩)) p.1 b (by rw[Ar x (Gr _ c)];exact At) (by rw[AX y a];exact hb)
       obtain⟨AM,AN,AJ⟩:=bf (k:=i.k) (A:=A) (id:=base+i.AO) (m:=Dk m (k.k.DA (base+k.AO) A m)) (cJ:=m) M (λy a b hb=>jh _ _ _ λp n=>B6 p n y (Ho _ a) b hb);rw[AM]at Aq;rw[AN,AJ]at T;cases T

       have B7: ∀p∈i.k.DA (base+i.AO) A m,∀x∈k.k.Fv++k.k.GO,∀b,I (O A x)=some b->p.1≠b:=by
        intro p n x c b hb e;rcases Sx (k:=i.k) p n with⟨AL,S,As⟩|⟨y,a,AZ⟩
        ·have:=a1C Am x c b hb;rw[<-e,S,Aa AL]at this;cases this
        ·rcases Cg.1 c with Au|Au
         ·exact K (x,y) (by rw[AY];exact Gr _ (LM.2 ⟨x,Au,CP.2 ⟨y,a,rfl⟩⟩)) b p.1 (by rw[Ar x c];exact hb) (by rw[AX y (Gr _ a)];exact AZ) e.symm
         ·exact K (x,y) (by rw[AY];exact Ho _ (LM.2 ⟨x,Ho _ Au,CP.2 ⟨y,Gr _ a,rfl⟩⟩)) b p.1 (by rw[Ar x c];exact hb) (by rw[AX y (Gr _ a)];exact AZ) e.symm
       have BV: ∀p∈k.k.DA (base+k.AO) A m,∀q∈i.k.DA (base+i.AO) A m,p.1≠q.1:=by
        intro p n q A7 e;rcases Sx (k:=i.k) q A7 with⟨AL,S,As⟩|⟨y,a,AZ⟩
        ·rcases Sx (k:=k.k) p n with⟨_,T,_⟩|⟨x,c,At⟩
         ·omega
         ·exact B7 q A7 x (Gr _ c) p.1 At e.symm
        ·exact B6 p n y (Gr _ a) q.1 AZ e
       refine⟨_,_,TK M s (Ks w) Aq,?_,?_,λh=>by rw[w]at h;cases h⟩
       ·obtain⟨AD,AE,AF,AG⟩:=OA (k:=k.k) (m:=Dk m (i.k.DA (base+i.AO) A m)) (id:=base+k.AO) (NN (A:=A) (d:=i.d) (v:=i.k.val (base+i.AO) A m) Q);obtain⟨A9,D,BW⟩:=bf (k:=k.k) (A:=A) (id:=base+k.AO) (m:=Dk m (i.k.DA (base+i.AO) A m)) (cJ:=m) L (λx c b hb=>jh _ _ _ λp n=>B7 p n x (Ho _ c) b hb);have:=TK (b4:=b4) (base:=base) (m:=Dk m (i.k.DA (base+i.AO) A m)) (A:=Af A i.d (i.k.val (base+i.AO) A m)) (o:=k) L (by rw[KJ Q];exact F) (Ks Y) (by rw[AD,A9];exact Am);rw[this,AE,AF,D,BW,PB A2,w0 _ _ m BV]
       ·exact b6 A8 (λh=>by rw[Y]at h;cases h) AR
  ·
   have AP:Bf A i.g=false:=(by simpa using s);have BX: ∃v,u=Af A k.d v:=by
    cases r:k.k.C2 A m with
    |some B=>obtain⟨v,z,_,e⟩:=Sg F r X;cases e;exact⟨v,rfl⟩
    |none=>obtain⟨_,e⟩:=TL L F r X;cases e;exact⟨_,rfl⟩
   obtain⟨v,rfl⟩:=BX;rw[OY (by rw[KJ N];exact AP)]at H;cases H;refine⟨_,_,OY AP,?_,b6 A8 (λ_=>⟨rfl,rfl⟩) AR,λ_ h=>absurd h s⟩;have B8:Bf (Af A i.d undef) k.g=true:=(by rw[KJ Q];exact F);obtain⟨AD,AE,AF,AG⟩:=OA (k:=k.k) (m:=m) (id:=base+k.AO) (NN (A:=A) (d:=i.d) (v:=undef) Q);cases r:k.k.C2 A m with
   | some B=>obtain⟨f,args⟩:=B;obtain⟨Av,z,A9,D⟩:=Sg F r X;have R:=congrArg Prod.fst D;have S:=congrArg Prod.snd D;simp only at R S;subst S;have T:Af (Af A i.d undef) k.d Av=Af (Af A k.d Av) i.d undef:=(PB A2).symm;rw[WC B8 (by rw[AG];exact r) A9,T,<-R]
   | none=>obtain⟨AH,D⟩:=TL L F r X;have R:=congrArg Prod.fst D;have S:=congrArg Prod.snd D;simp only at R S;subst S;have T:Af (Af A i.d undef) k.d (k.k.val (base+k.AO) A m)=Af (Af A k.d (k.k.val (base+k.AO) A m)) i.d undef:=(PB A2).symm;rw[TK L B8 (by rw[AG];exact r) (by rw[AD];exact AH),AE,AF,T,<-R]
 ·
  have B9:Bf A k.g=false:=(by simpa using F);rw[OY B9]at X;cases X;have Aw: ∀v Ad,DK b4 base k (Af A i.d v) Ad=some (Af (Af A i.d v) k.d undef,Ad):= λv Ad=>OY (by rw[KJ Q];exact B9);have Ax: ∀v BA BB,Hv k (Af A i.d v) BA BB:= λv BA BB AV=>by rw[KJ Q]at AV;exact absurd AV F
  obtain⟨AD,AE,AF,AG⟩:=OA (k:=i.k) (m:=m) (id:=base+i.AO) (NN (A:=A) (d:=k.d) (v:=undef) N);by_cases s:Bf A i.g=true
  ·have A3:Bf (Af A k.d undef) i.g=true:=(by rw[KJ N];exact s);cases G:i.k.C2 A m with
   | some B=>obtain⟨f,args⟩:=B;obtain⟨Av,z,A9,D⟩:=Sg A3 (by rw[AG];exact G) H;cases D;exact⟨_,_,WC s G A9,by rw[Aw,PB A2],Ax _ _ _,λ_ _=>⟨rfl,rfl⟩⟩
   | none=>obtain⟨AH,D⟩:=TL M A3 (by rw[AG];exact G) H;have w:=Zz AH;rw[AE,AF]at D;cases D;exact⟨_,_,TK M s G (by rw[<-AD];exact AH),by rw[Aw,PB A2],Ax _ _ _,λh=>by rw[w]at h;cases h⟩
  ·have AP:Bf A i.g=false:=(by simpa using s);rw[OY (by rw[KJ N];exact AP)]at H;cases H;exact⟨_,_,OY AP,by rw[Aw,PB A2],Ax _ _ _,λ_ h=>absurd h s⟩
def Kp(l:List Ap):List Nat:=l.filterMap (·.d)
variable {P:Program} {aJ:Nat} {b4:Callee} {base:Nat} {ops:Array Oper} {D:Nat}
theorem mg{k:Ap}{b c:List Nat}(h: ∀t∈c,t∈b)(e:Ic k i b=true):Ic k i c=true:=by
 have g: ∀t,(!b.contains t)=true->(!c.contains t)=true:=by
  grind
 have j: ∀l:List Nat,(l.all λt=> !b.contains t&&k.d !=some t)=true->(l.all λt=> !c.contains t&&k.d !=some t)=true:=by
  simp_all
 simp only[Ic,AB]at e⊢;refine⟨e.1,?_⟩;have a:=e.2;split at a
 ·simp_all
 ·rename_i m;rw[if_neg m];split at a
  ·simp_all
  ·rename_i n;rw[if_neg n];simp only[AB,N0]at a⊢;refine⟨a.1.imp id λf=>⟨f.1,?_⟩,j _ a.2⟩;cases o:k.d with
   |none=>rfl
   |some d=>rw[o]at f;exact g d f.2
theorem xG{A b:A6}{m:V}(h:DK b4 base o A m=some (b,z))(a:o.d≠some t):b t=A t:=by
 unfold DK at h;split at h
 ·split at h
  ·split at h
   ·cases h;exact NW a
   ·cases h
  ·split at h
   ·cases h;exact NW a
   ·cases h
 ·cases h;exact NW a
theorem move(I:Ie P aJ b4): ∀(l:List Ap) (A:A6) (m:V),Ef b4 base (l++i::post) A m=some G->
 (∀J k C,l=J++k::C->Ic k i (Kp C)=true/\ ∀p∈IZ k i,p∈i.Gc)->(∀k∈l,k.AO≠i.AO)->(i.k.Bt=true->m.W (base+i.AO)=none/\base+i.AO<m.next)->
 ∃K D f v L,DK b4 base i A m=some (K,D)/\Ef b4 base (l++post) K D=some G/\Hv i f v L/\(∀t,t∉Kp l->f t=A t)/\(i.k.F0=true->Bf A i.g=true->v=m/\L=D)
 | [],A,m,h,_,_,_=>by
   grind [Iq]
 | k::l,A,m,h,A1,A2,E=>by
   obtain⟨u,cJ,M,AE,AF⟩:=Iq h;have AG:=A2 k (by simp);have R:=A1 [] k l rfl;obtain⟨AT,AH,f,v,L,AJ,AK,A3,F,A4⟩:=move I l u cJ AF (λJ N C e=>A1 (k::J) N C (by rw[e];rfl)) (λN S=>A2 N (by simp[S])) (λn=>⟨dG I M (E n).2 (by omega) (E n).1,Eo (E n).2 (Rj I M)⟩)

   have A5: ∀t,t∈i.Nk->t∉Kp l:=by
    intro t q o;obtain⟨N,S,AU⟩:=RD.1 o;obtain⟨J,C,e⟩:=List.append_of_mem S
    grind [Ic,Pm]
   have AL:Bf f i.g=Bf u i.g:=by
    cases Q:i.g with
    |none=>rfl
    |some T=>obtain⟨t,b⟩:=T;simp only[Bf];rw[F t (A5 t (Gr _ (by simp[Q])))]
   have A7: ∀x∈i.k.D6,O f x=O u x:= λx r=>OO λt q=>F t (A5 t (Ho _ (PT r q)));have AM:x5 k i u cJ AH:=by
    intro U;have w:=A3 (by rw[AL];exact U);have AN:i.k.C2 f v=i.k.C2 u cJ:=by
     rw[(OA (m:=v) (id:=0) A7).2.2.2];cases X:i.k.F0 with
     |true=>rw[(A4 X U).1]
     |false=>rw[Ks X,Ks X]
    rw[AN]at w;have j:=R.1;simp only[Ic,AB]at j;obtain⟨_,j⟩:=j;cases Y:i.k.C2 u cJ with
    | some B=>
      have s:=cT Y;rw[Y]at w;simp only at w⊢;obtain⟨rfl,rfl⟩:=A4 s U;rw[if_pos s]at j;simp only[AB]at j;intro p z b hb;have H:=z;simp only[IZ,s,if_true]at H;obtain⟨x,r,rfl⟩:=CP.1 H;refine w _ (R.2 _ z) b ?_;rw[show O f x=O u x from OO λt q=>F t (λo=> ?_)]
      ·exact hb
      ·have:=BF.1 j.2 t (PT r q)
       simp_all
    | none=>
      rw[Y]at w;simp only[Dm,BF]at w;simp only;intro p z a b AV hb e;by_cases s:i.k.F0=true
      ·grind [fm]
      rw[if_neg s]at j;by_cases Z:k.k.F0=true
      ·simp only[IZ,if_neg s,if_pos Z]at z;cases z
      rw[if_neg Z]at j;simp only[AB,N0,Iz]at j;have H:=z;simp only[IZ,if_neg s,if_neg Z]at H;have AW: ∀x∈k.k.Fv++k.k.GO,O f x=O u x:= λx r=>OO λt q=>F t λo=>by
       have:=BF.1 j.2 t (PT r q)
       simp_all
      have AX:O f p.1=O u p.1/\O f p.2=O u p.2:=by
       rcases Cg.1 H with A8|A8
       ·obtain⟨x,r,A9⟩:=LM.1 A8;obtain⟨y,AP,rfl⟩:=CP.1 A9;refine⟨?_,A7 y (nN y AP)⟩;rcases Cg.1 r with c|c
        ·grind
        ·split at c
         ·rename_i n;rcases j.1 with A0|A0
          ·grind
          ·cases o:k.d with
           |none=>rw[o]at c;cases c
           | some d=>rw[o]at c A0;simp only[ZL,Gw]at c;subst c;exact F d (Pm A0.2)
         ·cases c
       ·grind [nN]
      grind
   obtain⟨K,D,AQ,AR,AS,AY⟩:=aDl I R.1 AG (λn=>(E n).1) (λn=>(E n).2) M AE AJ AM;refine⟨K,D,f,v,L,AQ,Ns AR AS AK,A3,λt q=> ?_,λA9 c=> ?_⟩
   ·grind [Kp,xG]
   ·have AD:KZ i.Nk k.d=true:=by
     grind [Ic]
    have AZ:Bf u i.g=true:=by
     cases Q:i.g with
     |none=>rfl
     | some T=>
       obtain⟨t,b⟩:=T;rw[Q]at c;simp only[Bf]at c⊢;rw[xG M (t:=t) λo=> ?_]
       ·exact c
       ·rw[o]at AD;exact Pm AD (Gr _ (by simp[Q]))
    simp_all
def IU(n:List Nat):List Ap->Prop
 |[]=>True
 |k::a=>(∀b i post,a=b++i::post->(n.getD i.AO 0).testBit k.AO=true\/(Ic k i (Kp b)=true/\ ∀p∈IZ k i,p∈i.Gc))/\IU n a
theorem IU.Hc: ∀(b:List Ap) (k:Ap) (C:List Ap) (i:Ap) (a:List Ap),IU n (b++k::C++i::a)->(n.getD i.AO 0).testBit k.AO=true\/(Ic k i (Kp C)=true/\ ∀p∈IZ k i,p∈i.Gc)
 |[],_,C,i,a,h=>h.1 C i a rfl
 |_::b,k,C,i,a,h=>IU.Hc b k C i a h.2
theorem IU.oB: ∀(c:List Ap) (x:Ap) (C:List Ap),IU n (c++x::C)->IU n (c++C)
 |[],_,_,h=>h.2
 | k::c,x,C,h=>by
   refine⟨λo i post e=> ?_,IU.oB c x C h.2⟩;rcases List.append_eq_append_iff.1 e with⟨p,d,a⟩|⟨bs,d,a⟩
   ·
    have:=h.1 (c++x::p) i post (by rw[a];simp);refine this.imp id λf=>⟨mg (λt g=> ?_) f.1,f.2⟩;rw[d]at g;obtain⟨j,m,l⟩:=RD.1 g;refine RD.2 ⟨j,?_,l⟩
    grind
   ·cases bs with
    | nil=>simp only[NP]at d;simp only[Ni]at a;have:=h.1 (c++[x]) i post (by rw[<-a];simp);refine this.imp id λf=>⟨mg (λt g=> ?_) f.1,f.2⟩;rw[<-d]at g;obtain⟨j,m,l⟩:=RD.1 g;exact RD.2 ⟨j,Ho _ m,l⟩
    | cons b bs=>simp only[Ih,OW]at a;obtain⟨rfl,a⟩:=a;exact h.1 o i (bs++x::C) (by rw[d];simp)
theorem a2d{o:Oper}(h:(aB n o).testBit b=true): ∃e∈o.after,Region.binds .any e=true/\(e.on=b\/(n.getD e.on 0).testBit b=true):=by
 unfold aB at h;have key: ∀(l:List Edge) (s:Nat),(l.foldl (λs e=>if Region.binds .any e then s|||2^e.on|||n.getD e.on 0 else s) s).testBit b=true->s.testBit b=true\/ ∃e∈l,Region.binds .any e=true/\(e.on=b\/(n.getD e.on 0).testBit b=true):=by
  intro l;induction l with
  |nil=>intro s h;exact .inl h
  | cons e l a=>
    grind
 grind
theorem iB{ki:Nat->Prop}(m: ∀j a,ops[j]?=some a->ki j-> ∀e∈a.after,Region.binds .any e=true->ki e.on):
 ∀ (l:List Oper) (c:List Nat),(∀j,l[j]?=ops[c.length+j]?)->
   (∀j,j<c.length-> ∀a,ops[j]?=some a->(∀e∈a.after,Region.binds .any e=true->ki e.on)-> ∀b,(c.getD j 0).testBit b=true->ki b)->
   ∀j a,ops[j]?=some a->(∀e∈a.after,Region.binds .any e=true->ki e.on)-> ∀b,((PF l c).getD j 0).testBit b=true->ki b
 | [],c,d,n,j,a,g,k,b,hb=>by
   grind [PF]
 | o::l,c,d,n,j,a,g,k,b,hb=>by
   have r:ops[c.length]?=some o:=(by have:=d 0;simpa using this.symm);refine iB m l (c++[aB c o]) (λi=>by have:=d (i+1);simp at this⊢;rw[this];congr 1;omega) (λi p s t u v f=> ?_) j a g k b hb;simp only[Ds,Df,Jx]at p;by_cases h:i<c.length
   ·rw[Dv,L8 h,<-Dv]at f
    grind
   ·have q:i=c.length:=(by omega);subst q;rw[Dv,KM (Ao _)]at f;simp only[Nat.sub_self,List.getElem?_cons_zero,L2]at f
    grind [a2d]
variable {P:Program} {aJ:Nat} {b4:Callee} {base:Nat} {ops:Array Oper} {D:Nat}
theorem cM{i j:Nat}(a:i<ki.size):(ki.setIfInBounds i true).getD j false=true↔(j=i\/ki.getD j false=true):=by
 by_cases h:i=j
 ·subst h;simp[a]
 ·rw[getD_set_ne false h]
  grind
theorem pS(J:Ie P aJ b4){AF:V}: ∀(O:Nat) (L:List Ap) (ki:Array Bool) (A:A6) (m:V) (a:Act) (w:World) (l:Ren),
 L.length=O->ki.size=ops.size->(∀j,j<ops.size->(ki.getD j false=true↔ ∀c∈L,c.AO≠j))->
 (∀j f,ops[j]?=some f->ki.getD j false=true-> ∀e∈f.after,Region.binds .any e=true->ki.getD e.on false=true)->
 (∀c∈L,∃o,OG P ops D c o)->(L.map (·.AO)).Nodup->IU (PF ops.toList []) L->
 (∀g c post,L=g++c::post-> ∀f,ops[c.AO]?=some f-> ∀e∈f.after,Region.binds .any e=true->ki.getD e.on false=true\/ ∃k∈g,k.AO=e.on)->
 Cw l D A a->BA aJ l m w->aJ<=w.heap.size->ZA<=base->(∀c∈L,c.k.Bt=true->base+c.AO<m.next/\m.W (base+c.AO)=none/\l (base+c.AO)=none)->base<=m.next->
 Ef b4 base L A m=some (H,AF)->
 (∀R K B,CZ l B->(∀b,b<ZA->B b=l b)->Cw B D H R->BA aJ B AF K->Below aJ w K->Q .normal R K)->wpAny P .any ops Q O ki a w
 | 0,L,ki,A,m,a,w,l,S,E,s,_,_,_,_,_,A0,A1,_,_,_,_,T,A2=>by have AT:L=[]:=Gy.1 S;subst AT;simp only[Ef,GY,JM]at T;obtain⟨rfl,rfl⟩:=T;refine⟨?_,A2 a w l (CZ.refl l) (λ_ _=>rfl) A0 A1 (Below.refl _ _)⟩;apply List.eq_nil_iff_forall_not_mem.2;intro i A3;obtain⟨M,f,A4,_⟩:=mem_ready.1 A3;have n:i<ops.size:=(R1.1 A4).1;have:=(s i n).2 (by simp);rw[getD_both M]at this;cases this
 | O+1,L,ki,A,m,a,w,l,S,E,s,AG,U,t,AH,X,A0,A1,AJ,AU,AK,Ay,T,A2=>by
   refine⟨λAV=> ?_,λi A3=> ?_⟩
   ·
    exfalso;cases L with
    |nil=>simp at S
    | cons c L=>
      obtain⟨o,N⟩:=U c (by simp);have n:c.AO<ops.size:=(R1.1 N.1).1;have AL:c.AO∈Region.ready .any ops ki:=by
       refine mem_ready.2 ⟨?_,o,N.1,λe q hb=> ?_⟩
       ·have:ki.getD c.AO false≠true:= λh=>(s c.AO n).1 h c (by simp) rfl;exact getD_in (by rw[E];exact n) (by simpa using this)
       ·rcases X [] c L rfl o N.1 e q hb with h|⟨k,d,_⟩
        ·exact h
        ·cases d
      rw[AV]at AL;cases AL
   ·obtain⟨AW,AM,A5,AN⟩:=mem_ready.1 A3;have n:i<ops.size:=(R1.1 A5).1;have AX:ki.getD i false=false:=getD_both AW;have AY: ∃c∈L,c.AO=i:=by
     by_cases h: ∃c∈L,c.AO=i
     ·exact h
     ·exfalso;have:=(s i n).2 (λc A7 e=>h ⟨c,A7,e⟩);rw[AX]at this;cases this
    obtain⟨c,A7,rfl⟩:=AY;obtain⟨g,post,rfl⟩:=List.append_of_mem A7;simp only[Ld,E1,Mz,K5]at t;have A8: ∀k∈g,k.AO≠c.AO:= λk d e=>t.2.2 k.AO (CP.2 ⟨k,d,rfl⟩) c.AO (by simp) e;have AZ: ∀A9 k C,g=A9++k::C->Ic k c (Kp C)=true/\ ∀p∈IZ k c,p∈c.Gc:=by
     intro A9 k C e;subst e;rcases IU.Hc A9 k C c post (by simpa using AH)with h|h
     ·exfalso;have d:ki.getD k.AO false=true:=iB (ops:=ops) (ki:= λj=>ki.getD j false=true) AG ops.toList [] (by simp) (by simp) c.AO AM A5 AN k.AO h;obtain⟨Az,Aa⟩:=U k (by simp);exact(s k.AO (R1.1 Aa.1).1).1 d k (by simp) rfl
     ·exact h
    have Y:=AK c (by simp);obtain⟨Ab,Ac,_,_,_,M,A4,_,_,_⟩:=move J g A m T AZ A8 (λr=>⟨(Y r).2.1,(Y r).1⟩);obtain⟨o,N⟩:=U c (by simp);have B0:=Rj J M;refine sX J N A0 A1 AJ (λr=>(Y r).1) (λr=>(Y r).2.2) M λR K B Ad AP Ae Af AQ=> ?_;refine pS J O (g++post) (ki.setIfInBounds c.AO true) Ab Ac R K B (by simp at S⊢;omega) (by simp[E]) (λj u=> ?_) (λj f F u e q hb=> ?_) (λk d=>U k (by
     rcases Cg.1 d with h|h
     ·exact Ho _ h
     ·exact Gr _ (by simp[h]))) ?_ (IU.oB g c post AH) (λAg k AR e f F AB q hb=> ?_) Ae Af (Dh AJ AQ.size) AU (λk d r=> ?_) (by omega) A4 (λAh Ak Al Am An Ao Aq Ar=>A2 Ah Ak Al (Ad.trans Am) (λb hb=>(An b hb).trans (AP b (by omega) (by omega))) Ao Aq (AQ.trans Ar))
    ·rw[cM (by rw[E];exact n)];constructor
     ·rintro(rfl|h) k d e
      ·rcases Cg.1 d with h|h
       ·exact A8 k h e
       ·exact t.2.1.1 (CP.2 ⟨k,h,e⟩)
      ·refine(s j u).1 h k ?_ e;rcases Cg.1 d with h|h
       ·exact Ho _ h
       ·exact Gr _ (by simp[h])
     ·intro h;by_cases e:j=c.AO
      ·exact .inl e
      ·refine .inr ((s j u).2 λk d AD=> ?_);rcases Cg.1 d with v|v
       ·exact h k (Ho _ v) AD
       ·rcases CM.1 v with v|v
        ·subst v;exact e AD.symm
        ·exact h k (Gr _ v) AD
    ·rw[cM (by rw[E];exact n)]at u⊢;rcases u with rfl|u
     ·have:f=AM:=Option.some.inj (F.symm.trans A5);subst this;exact .inr (AN e q hb)
     ·exact .inr (AG j f F u e q hb)
    ·simp only[Ld,Mz];exact⟨t.1,t.2.1.2,λx As y At=>t.2.2 x As y (by simp[At])⟩
    ·rw[cM (by rw[E];exact n)];rcases List.append_eq_append_iff.1 e with⟨Au,G,z⟩|⟨bs,G,z⟩
     ·rcases X (g++c::Au) k AR (by rw[z];simp) f F AB q hb with h|⟨Z,AE,I⟩
      ·exact .inl (.inr h)
      ·rcases Cg.1 AE with h|h
       ·exact .inr ⟨Z,by rw[G];exact Ho _ h,I⟩
       ·rcases CM.1 h with h|h
        ·subst h;exact .inl (.inl I.symm)
        ·exact .inr ⟨Z,by rw[G];exact Gr _ h,I⟩
     ·cases bs with
      | nil=>
        simp only[NP]at G;simp only[Ni]at z;rcases X (g++[c]) k AR (by rw[<-z];simp) f F AB q hb with h|⟨Z,AE,I⟩
        ·exact .inl (.inr h)
        ·rcases Cg.1 AE with h|h
         ·exact .inr ⟨Z,by rw[<-G];exact h,I⟩
         ·simp only[Gw]at h;subst h;exact .inl (.inl I.symm)
      | cons b bs=>
        simp only[Ih,OW]at z;obtain⟨rfl,z⟩:=z;rcases X Ag k (bs++c::post) (by rw[G];simp) f F AB q hb with h|h
        ·exact .inl (.inr h)
        ·exact .inr h
    ·have Av:k∈g++c::post:=by
      rcases Cg.1 d with h|h
      ·exact Ho _ h
      ·exact Gr _ (by simp[h])
     have B1:k.AO≠c.AO:=by
      rcases Cg.1 d with h|h
      ·exact A8 k h
      ·exact λe=>t.2.1.1 (CP.2 ⟨k,h,e⟩)
     obtain⟨AS,Aw,Ax⟩:=AK k Av r;exact⟨by omega,dG J M AS (by omega) Aw,by rw[AP _ AS (by omega)];exact Ax⟩
theorem pF(h:ZF P ops D F=some c):c.AO=F/\ ∃o,OG P ops D c o:=by
 unfold ZF at h;split at h
 ·rename_i o a;split at h
  ·rename_i k g b d;split at h
   ·rename_i e;cases h;exact⟨rfl,o,a,b,d,rfl,e⟩
   ·cases h
  ·cases h
 ·cases h
theorem k7: ∀(a:List Nat) (L:List Ap),Rn P ops D a=some L->L.map (·.AO)=a/\ ∀c∈L,∃o,OG P ops D c o
 |[],L,h=>by simp[Rn]at h;subst h;simp
 | F::r,L,h=>by
   simp only[Rn]at h;split at h
   ·rename_i c b d f;cases h;obtain⟨e,o,g⟩:=pF d;obtain⟨i,j⟩:=k7 r b f
    grind
   ·cases h
theorem yq: ∀(c:List Ap) (E:List Nat),Xt n i c E=true->(∀p∈Lk n i c,p∈i.Gc)->
 ∀b k C,c=b++k::C->(n.getD i.AO 0).testBit k.AO=true\/(Ic k i (E++Kp b)=true/\ ∀p∈IZ k i,p∈i.Gc)
 |[],_,_,_,b,k,C,e=>by simp at e
 | x::c,E,h,f,b,k,C,e=>by
   simp only[Xt,AB,N0]at h;cases b with
   | nil=>
     grind [Kp,Lk]
   | cons a b=>
     simp only[Ih,OW]at e;obtain⟨rfl,rfl⟩:=e;have:=yq (b++k::C) (E++x.d.toList) h.2 (λp g=>f p (by simp only[Lk];exact Gr _ g)) b k C rfl
     grind [Kp]
theorem uk: ∀(v:List Nat) (b:List Ap) (L:List Ap),Uk P ops D n v b=some L->IU n b.reverse->
 L.map (·.AO)=v/\(∀c∈L,∃o,OG P ops D c o)/\IU n (b.reverse++L)/\
 (∀f c post,L=f++c::post-> ∀s,ops[c.AO]?=some s-> ∀e∈s.after,Region.binds .any e=true-> ∃k∈b.reverse++f,k.AO=e.on)
 | [],b,L,h,w=>by
   grind [Uk]
 | F::r,b,L,h,w=>by
   simp only[Uk]at h;split at h
   ·rename_i a G;split at h
    ·rename_i z;split at h
     ·rename_i H I;cases h;simp only[AB]at z;obtain⟨q,op,J⟩:=pF G;have T:OG P ops D ⟨a.AO,a.d,a.g,a.k,Lk n a b⟩ op:=J;have K:IU n (Ap.mk a.AO a.d a.g a.k (Lk n a b)::b).reverse:=by
       rw[List.reverse_cons];have M:=yq b [] z.1 (λp U=>by
        have: ∀(l:List Ap),Lk n ⟨a.AO,a.d,a.g,a.k,Lk n a b⟩ l=Lk n a l:=by
         intro l;induction l with
         |nil=>rfl
         |cons x l u=>simp only[Lk];rw[u];rfl
        simp_all)

       have key: ∀(l:List Ap) (x:Ap),IU n l->(∀j k C,l=j++k::C->(n.getD x.AO 0).testBit k.AO=true\/(Ic k x (Kp C)=true/\ ∀p∈IZ k x,p∈x.Gc))->IU n (l++[x]):=by
        intro l x;induction l with
        |nil=>intro _ _;exact⟨by intro f i post e;simp at e,trivial⟩
        | cons k l u=>
          intro A N;refine⟨λf i post e=> ?_,u A.2 λj O C e=>N (k::j) O C (by rw[e];rfl)⟩;rcases List.append_eq_append_iff.1 e with⟨B,q,m⟩|⟨bs,q,m⟩
          ·cases B with
           | nil=>
             simp_all
           |cons y B=>simp at m
          ·cases bs with
           | nil=>
             simp_all
           | cons y bs=>simp only[Ih,OW]at m;obtain⟨rfl,m⟩:=m;exact A.1 f i bs q
       refine key _ _ w λj k C e=> ?_;have Q:b=C.reverse++k::j.reverse:=by
        simp_all
       refine(M C.reverse k j.reverse Q).imp id λE=>⟨mg (λt V=> ?_) E.1,E.2⟩
       grind [Kp]
      obtain⟨R,W,S,X⟩:=uk r _ H I K;refine⟨by simp[q,R],λk Y=> ?_,by simpa using S,λf c post e s Z A0 A1 hb=> ?_⟩
      ·grind
      ·cases f with
       | nil=>
         grind [xl]
       | cons x f=>
         grind
     ·cases h
    ·cases h
   ·cases h
end Go.DI
