/-
  A part of the proof, shortened by tools of ours.
-/
import Derived.Test.YtmmkkggfmigppaaGreatZcb
set_option linter.all false
set_option maxRecDepth 8000
set_option maxHeartbeats 16000000
namespace Go.DI
open Go Go.RowKit
def K.pure:K->Bool
 | .IX _| .JP _| .HG _ _ _ _| .E4 _ _ _| .Nt _ _ _| .store _ _ _| .M6 _| .MS _| .IA _ _ _ _ _| .app _ _ _ _| .KD _ _ _ _ _| .Cm _ _| .KC _ _| .Iw _ _| .Ip _ _ _| .LB| .Ll _ _ _ _ _| .Kn _ _ _ _=>false
 |_=>true
variable {P:Program} {w:World} {o:Oper} {a:Act} {g:Ren} {I:Nat} {A:A6} {m:V}
theorem RO(b:Cw g I A a): ∀(xs:List Operand),xs.all An=true->Al g (xs.map (O A)) (xs.map a.eval)
 |xs,h=>Al.Sd _ _ xs λx c=>b.O (BF.1 h x c)
variable{v a6:Value}{M:List IV}{op:BinOp}{t e:TypeId}{x:Operand}{k:K}{l:Ou}{b n off:Nat}{cs z:List Value}{cm:World}{ds:Array Value}{J:Bool}{B:Addr}{D:List (Nat×Nat×Operand)}{ps:Array (Nat×Operand)}{u:TypeInfo}
theorem yx(h:Bo v=true):BB v=true:=by cases v<;>simp[Bo]at h<;>rfl
theorem Jk(h:B6 g a6 v)(a:Bo a6=true):v=a6/\ ∃k n,a6= .int k n:=by cases a6<;>simp[Bo]at a;exact⟨h.Hd,_,_,rfl⟩
theorem fu(c:Bool)(f:Cw g I A a): ∀(xs:List Operand) (b:Value),xs.all An=true->(xs.all λy=>Bo (O A y))=true->
 xs.foldl (λb y=>if c then HI b (a.eval y)else H9 b (a.eval y)) b=xs.foldl (λb y=>if c then HI b (O A y)else H9 b (O A y)) b
 |[],_,_,_=>rfl
 | x::xs,b,d,e=>by simp only[Fz,AB]at d e;have:=(Jk (f.O d.1) e.1).1;simp only[IJ,this];exact fu c f xs _ d.2 e.2
theorem gB(b:Bool): ∀(xs:List Operand) (a:Value),Bo a=true->(xs.all λy=>Bo (O A y))=true->
 Bo (xs.foldl (λa y=>if b then HI a (O A y)else H9 a (O A y)) a)=true
 |[],_,h,_=>h
 | x::xs,a,d,c=>by simp only[Fz,AB]at c;simp only[IJ];refine gB b xs _ ?_ c.2;cases a<;>simp[Bo]at d;have e:=c.1;cases f:O A x<;>simp[f,Bo]at e;cases b<;>simp[HI,H9,Bo]
theorem ye: ∀(M:List IV) (xs ys a b:List Value),Dp M xs ys=true->Al g xs a->Al g ys b->a=xs/\b=ys
 | [],[],[],a,b,_,c,d=>by
   have j:=c.1;have l:=d.1
   grind
 |[],[],_::_,_,_,h,_,_=>by simp[Dp]at h
 |[],_::_,_,_,_,h,_,_=>by simp[Dp]at h
 |_::_,[],_,_,_,h,_,_=>by simp[Dp]at h
 |_::_,_::_,[],_,_,h,_,_=>by simp[Dp]at h
 |_::_,_::_,_::_,[],_,_,h,_=>by simp[Al]at h
 |_::_,_::_,_::_,_::_,[],_,_,h=>by simp[Al]at h
 | k::M,x::xs,y::ys,a6::a,v::b,h,c,d=>by simp only[Dp,AB]at h;obtain⟨j,l⟩:=ye M xs ys a b h.2 ⟨by simpa using c.1,λi p q e f=>c.2 (i+1) p q (by simpa using e) (by simpa using f)⟩ ⟨by simpa using d.1,λi p q e f=>d.2 (i+1) p q (by simpa using e) (by simpa using f)⟩;have n:=c.2 0 x a6 rfl rfl;have o:=d.2 0 y v rfl rfl;have r:=h.1;have m:BB x=true/\BB y=true:=(by cases k<;>cases x<;>cases y<;>simp[Om]at r<;>exact⟨rfl,rfl⟩);exact⟨by rw[j,n.DH m.1],by rw[l,o.DH m.2]⟩
theorem p7{p:TypeId}{y:Operand}(b:Bool)(q:o.op= .binOp op t x y p)(r:op=if b then .neq else .eql)(s:Lj P 8 t=some M)
 (u:P.eqGuardType P.depth t=false) (v:Hw P t= .agg) (f:Cw g I A a) (z:An x=true) (B:An y=true) (h:(K.PC b M x y).ok A m=true) (id:Nat):
 ∃i,EJ P o a w i w/\B6 g ((K.PC b M x y).val id A m) i:=by
 simp only[K.ok,AB]at h;obtain⟨⟨j,k⟩,c⟩:=h;have l:=f.O z;have n:=f.O B;simp only[K.val];cases d:O A x<;>simp only[d,Jc]at j<;>try cases j
 cases e:O A y<;>simp only[e,Jc]at k<;>try cases k
 rename_i xs ys;rw[d]at l;rw[e]at n;obtain⟨Q,C,D⟩:=l.K8;obtain⟨R,E,F⟩:=n.K8;simp only[d,e,H]at c;obtain⟨G,J⟩:=ye M _ _ _ _ c D F;have L:=Array.toList_inj.1 G;have N:=Array.toList_inj.1 J;subst L;subst N;exact⟨_,a1B b q r s u v C E c,.BT rfl⟩
theorem e1(h:B6 g a6 v)(a:Fe a6=true):v=a6/\ ∃s,a6= .string s:=by cases a6<;>simp[Fe]at a;exact⟨h.NV,_,rfl⟩
theorem a7L(j:PU P o=some k)(Z:k.pure=true)(E:Cw g I A a)(r:k.ok A m=true)(id:Nat):
 ∃Aq,EJ P o a w Aq w/\B6 g (k.val id A m) Aq:=by
 rcases aL j with j|rfl
 rotate_left
 ·rw[sd]at r;cases r
 unfold So at j;split at j
 ·
  rename_i x G;split at j<;>cases j;rename_i C;exact⟨_,aF7 G,E.O C⟩
 ·rename_i x G;split at j<;>cases j;rename_i C;exact⟨_,aEz G,E.O C⟩
 ·
  rename_i c x y G;split at j<;>cases j;rename_i C;simp only[AB]at C;have J:=E.O C.1.1;simp only[K.ok]at r;cases F:O A c<;>simp[F,Kv]at r;rw[F]at J;refine⟨_,a78 G J.Jv,?_⟩;simp only[K.val,F,Me];split
  ·exact E.O C.1.2
  ·exact E.O C.2
 ·
  rename_i x G;split at j<;>cases j;rename_i C;have H:=E.O C;simp only[K.ok]at r;refine⟨_,a4T G ?_,H⟩;generalize O A x=a6 at H r;generalize a.eval x=v at H;cases H<;>simp_all [P5]
  grind
 ·split at j<;>cases j;simp[K.pure]at Z
 ·split at j<;>cases j;simp[K.pure]at Z
 ·
  rename_i t ps G;split at j
  ·rename_i fs z R A0;split at j
   ·rename_i D AP;split at j<;>cases j;rename_i B4;obtain⟨u,AQ,T,AR,AT,AF,B5⟩:=OR A0;obtain⟨AU,AV⟩:=zK _ _ AP;simp only[K.ok]at r
    let AW:Nat->Option (Nat×Nat):= λi=>(fs[i]?).bind λ(f:Field)=>(P.info? f.type).map λu=>(f.offset,u.size)
    obtain⟨ds,N,S,AX⟩:=fM E AW ps.toList D z AQ.cells ⟨AU,λi p q AY AZ=>by obtain⟨A4,A2,f,BX,Aa,Ab,B7,B8⟩:=AV i p q AY AZ;exact⟨A4,A2,by simp[AW,Aa,Ab,B7,B8]⟩⟩ (by rw[AT];exact Al.BT g AF) (λv F=>No (BF.1 AF v F)) r;refine⟨_,a5r (cells:=ds) G T AR R B4 (λB9 BA=>by have:B9=AW:=funext BA;rw[this];exact N),?_⟩;have:=S.agg AX;simp only[K7]at this;exact this
   ·cases j
  ·rename_i n e z R A0;split at j
   ·rename_i BY Ar;split at j<;>cases j;rename_i D AP;obtain⟨u,AQ,T,AR,AT,AF,B5⟩:=OR A0;obtain⟨As,AL,rfl⟩:=Kg Ar;obtain⟨AU,AV⟩:=jj _ _ AP;simp only[K.ok]at r;obtain⟨ds,N,S,AX⟩:=fM E (λi=>some (i*As.size,As.size)) ps.toList D z AQ.cells ⟨AU,λi p q AY AZ=>by
     obtain⟨A4,A2,Aa,Ab⟩:=AV i p q AY AZ;exact⟨A4,A2,by simp[Aa,Ab]⟩⟩ (by rw[AT];exact Al.BT g AF) (λv F=>No (BF.1 AF v F)) r
    refine⟨_,aEV (cells:=ds) G T AR R AL N,?_⟩;have:=S.agg AX;simp only[K7]at this;exact this
   ·cases j
  ·cases j
 ·repeat (split at j<;>try cases j)
  simp[K.pure]at Z
 ·repeat (split at j<;>try cases j)
  simp[K.pure]at Z
 ·repeat (split at j<;>try cases j)
  simp[K.pure]at Z
 ·
  rename_i op t x y BZ G;split at j
  ·rename_i C;simp only[AB]at C;split at j
   ·rename_i A7;split at j
    ·rename_i M A8;split at j<;>cases j;rename_i Ac;exact p7 false G rfl A8 (by simpa using Ac) A7 E C.1 C.2 r id
    ·rename_i M A8;split at j<;>cases j;rename_i Ac;exact p7 true G rfl A8 (by simpa using Ac) A7 E C.1 C.2 r id
    ·cases j
   ·cases j;exact a5A G (E.O C.1) (E.O C.2) r
  ·cases j
 ·
  rename_i op t x G;split at j<;>cases j;rename_i C;simp only[K.ok]at r;have H:=E.O C;have AL:a.eval x=O A x:=by cases Q:O A x<;>cases op<;>simp[Q,NB]at r<;>rw[Q]at H<;>first|exact H.Hd|exact H.Jv
  refine⟨_,aEj G (by rw[AL];exact r),?_⟩;simp only[K.val,AL];exact .BT (by cases Q:O A x<;>cases op<;>simp[Q,NB]at r<;>simp[RC,BB])
 ·
  rename_i s d x G;split at j
  ·rename_i Bb k Ad Ae;split at j<;>cases j;rename_i C;simp only[K.ok]at r;obtain⟨e,Bc,n,F⟩:=Jk (E.O C) r;refine⟨_,aG1 G Ad Ae (by rw[e,F]),?_⟩;simp only[K.val,F,Bh];exact .BT rfl
  ·rename_i Ad Ae;split at j<;>cases j;rename_i C;simp only[K.ok]at r;obtain⟨e,b,F⟩:=e1 (E.O C) r;refine⟨_,aEh G Ad Ae (by rw[e,F]),?_⟩;simp only[K.val,F];exact .BT rfl
  ·repeat (split at j<;>try cases j)
   simp[K.pure]at Z
  ·grind
  ·cases j
 ·repeat (split at j<;>try cases j)
  simp[K.pure]at Z
 ·
  rename_i t x A3 T At G;split at j
  ·rename_i R;split at j<;>cases j;rename_i J;simp only[AB,Rl]at J;obtain⟨⟨⟨C,A9⟩,AD⟩,rfl⟩:=J;simp only[K.ok,AB,Ba]at r;obtain⟨⟨⟨⟨⟨N,S⟩,U⟩,Y⟩,AG⟩,AH⟩:=r;obtain⟨e,b,F⟩:=e1 (E.O C) N;simp only[F,De]at AG AH;refine⟨_,a7p G R (by rw[e,F]) (QF E A9 S 0 (by simpa using Y)) (QF E AD U b.size (by omega)) (by simp;omega) (by omega),?_⟩;simp only[K.val,F,Lb,De];exact .BT rfl
  ·rename_i e R;split at j
   ·rename_i z A0;split at j
    ·split at j<;>cases j;rename_i J;simp only[AB]at J;obtain⟨⟨C,A9⟩,AD⟩:=J;simp only[K.ok,AB,Ba]at r;obtain⟨⟨⟨⟨⟨N,S⟩,U⟩,Y⟩,AG⟩,AH⟩:=r;obtain⟨u,AJ,rfl⟩:=Kg A0;have H:=E.O C;simp only[K.val];cases Q:O A x<;>simp only[Q,Fj]at N<;>try cases N
     rename_i p len c;rw[Q]at H;simp only[Q,De]at AG AH;cases p with
     | none=>simp only[AB,beq_iff_eq]at N;obtain⟨rfl,rfl⟩:=N;have F:=H.DH rfl;refine⟨_,sM G R AJ F (QF E A9 S 0 (by simpa using Y)) (QF E AD U 0 (by omega)) (by simp;omega) (by omega),?_⟩;have Af:(Cq A A3 (0:Nat)).toNat=0:=(by simp;omega);have A4:(Cq A T (0:Nat)).toNat=0:=(by simp;omega);rw[Af,A4];simp only[IT,M8,ite_self];exact .BT rfl
     | some B=>
       simp only[beq_iff_eq]at N;obtain⟨l,Au,cap,X,AM,F,V,Av,Aw⟩:=H.Fk;obtain rfl:=N;refine⟨_,sM G R AJ F (QF E A9 S 0 (by simpa using Y)) (QF E AD U len (by omega)) (by simp;omega) (by omega),?_⟩;simp only[De];have Ag:Cq A A3 ((0:Nat):Int)=Cq A A3 0:=rfl;rw[Ag];generalize Ah:(Cq A A3 0).toNat=L;generalize Ak:(Cq A T (len:Int)).toNat=A6;have BC:L<=A6:=(by omega);have Bd:A6<=len:=(by omega);obtain⟨Am,Ax,BD⟩: ∃Am:Option Nat,(∀k,Am=some k->k<=cap-L)/\(if(A3.isNone&&KA T)=true then M8 (.slice (some B) len u.size)else IT (.slice (some B) len u.size) u.size L A6)= .slice (some ⟨B.block,B.off+L*u.size,Am⟩) (A6-L) u.size:=by
        by_cases A0:(A3.isNone&&KA T)=true
        ·obtain⟨BE,BG⟩:=a1N (A:=A) (d:=(len:Int)) A0;rw[BE]at Ah;rw[BG]at Ak;have BH:L=0:=(by rw[<-Ah];rfl);have BI:A6=0:=(by rw[<-Ak];rfl);refine⟨some len,λk j=>by cases j;omega,?_⟩;rw[if_pos A0,BH,BI,Nat.zero_mul];rfl
        ·refine⟨none,?_,?_⟩
         ·intro k j;cases j
         ·rw[if_neg A0];rfl
       rw[BD];by_cases AK:cap=L
       ·rw[if_pos AK];exact .slice X (.inl ⟨by omega,by omega⟩) (by omega) (by omega) λk j=>by have:=Ax k j;omega
       ·rw[if_neg AK];rcases V with⟨rfl,rfl⟩|⟨rfl,V⟩
        ·omega
        ·have A1:(⟨l.c,l.o+B.off,none⟩:Addr).add (L*u.size)=⟨l.c,l.o+(B.off+L*u.size),none⟩:=by
          unfold Addr.add
          grind
         simp only[Option.map_some,A1];refine .slice X (.inr ⟨rfl,?_⟩) (by omega) (by omega) λk j=>by have:=Ax k j;omega
         have:L*u.size+(cap-L)*u.size=cap*u.size:=(by rw[<-Hl];congr 1;omega);omega
    ·rename_i BJ;split at j
     ·rename_i BK;split at j<;>cases j;rename_i J;simp only[AB]at J;obtain⟨⟨⟨C,A9⟩,AD⟩,BL⟩:=J;simp only[K.ok,AB,Ba]at r;obtain⟨⟨⟨⟨⟨⟨⟨N,S⟩,U⟩,Y⟩,AG⟩,AH⟩,BM⟩,Ay⟩:=r;obtain⟨u,AJ,rfl⟩:=Kg A0;have H:=E.O C;simp only[K.val];obtain⟨BN,BO,AN,Az⟩:=Jk (E.O AD) U;obtain⟨em,BP,AO,B0⟩:=Jk (E.O BL) Y;simp only[Az,B0,Bh]at AH BM Ay⊢;cases Q:O A x<;>simp only[Q,Fj]at N<;>try cases N
      rename_i p len c;rw[Q]at H;simp only[Q,De]at Ay;have An:=QF E A9 S 0 (by simpa using AG);have Ag:Cq A A3 ((0:Nat):Int)=Cq A A3 0:=rfl;rw[Ag]at An;have B1: ∃(k:IntKind) (i:Int),a.eval BK= .int k i/\0<=i/\i.toNat=AN.toNat:=⟨BO,AN,by rw[BN,Az],by omega,rfl⟩;have B2: ∃(k:IntKind) (i:Int),a.eval BJ= .int k i/\0<=i/\i.toNat=AO.toNat:=⟨BP,AO,by rw[em,B0],by omega,rfl⟩;cases p with
      | none=>simp only[AB,beq_iff_eq]at N;obtain⟨rfl,rfl⟩:=N;have F:=H.DH rfl;refine⟨_,qB G R AJ F An B1 B2 (by omega) (by omega) (by omega),?_⟩;have Af:(Cq A A3 0).toNat=0:=(by omega);have A4:AN.toNat=0:=(by omega);have A2:AO.toNat=0:=(by omega);rw[Af,A4,A2];simp only[IT];exact .BT rfl
      | some B=>
        simp only[beq_iff_eq]at N;obtain⟨l,Au,cap,X,AM,F,V,Av,Aw⟩:=H.Fk;obtain rfl:=N;refine⟨_,qB G R AJ F An B1 B2 (by omega) (by omega) (by omega),?_⟩;simp only[IT];generalize Ah:(Cq A A3 0).toNat=L;generalize Ak:AN.toNat=A6;generalize Be:AO.toNat=AE;have BC:L<=A6:=(by omega);have Bf:A6<=AE:=(by omega);have Bg:AE<=len:=(by omega);by_cases AK:AE=L
        ·rw[if_pos AK];exact .slice X (.inl ⟨by omega,by omega⟩) (by omega) (by omega)
        ·rw[if_neg AK];rcases V with⟨rfl,rfl⟩|⟨rfl,V⟩
         ·omega
         ·have A1:(⟨l.c,l.o+B.off,none⟩:Addr).add (L*u.size)=⟨l.c,l.o+(B.off+L*u.size),none⟩:=by
           unfold Addr.add
           grind
          simp only[Option.map_some,A1];refine .slice X (.inr ⟨rfl,?_⟩) (by omega) (by omega);have Bi:L*u.size+(AE-L)*u.size=AE*u.size:=(by rw[<-Hl];congr 1;omega);have Bj:AE*u.size<=cap*u.size:=IF _ (by omega);omega
     ·cases j
   ·cases j
  ·(repeat' split at j)<;>cases j
   simp[K.pure]at Z
  ·cases j
 ·
  rename_i s x i G;split at j
  ·rename_i fs R;split at j
   ·rename_i f A8;split at j
    ·rename_i n V;split at j<;>cases j;rename_i J;simp only[AB,Ba]at J;obtain⟨u,T,rfl⟩:=Kg V;simp only[K.ok]at r;have H:=E.O J.1;simp only[K.val];cases Q:O A x<;>simp only[Q,J4]at r<;>try cases r
     rename_i p;rw[Q]at H;cases p with
     |none=>cases r
     | some B=>obtain⟨l,X,AM,F⟩:=H.Io;refine⟨_,aBs G R A8 T J.2 F,?_⟩;simp only[Ml,JN];exact .AA X
    ·cases j
   ·cases j
  ·cases j
 ·
  rename_i t x i G;split at j
  ·rename_i fs R;split at j
   ·rename_i f A8;split at j
    ·rename_i b n hb V;split at j<;>cases j;rename_i C;obtain⟨u,T,rfl⟩:=Kg V;simp only[K.ok,AB,N0,Ba]at r;have H:=E.O C;simp only[K.val];cases Q:O A x<;>simp only[Q,Uo]at r<;>try cases r.1
     rename_i xs;rw[Q]at H;obtain⟨ys,F,X⟩:=H.K8;have Ar:ys.size=xs.size:=(by have:=X.1;simp at this;exact this.symm);have Bk:f.offset+u.size<=xs.size:=(by simpa using r.1);refine⟨_,aDD G R A8 T hb F (by omega) r.2,?_⟩;simp only[Zi];cases b
     ·simp only[EI,if_false];have N:u.size=1:=(by simpa using r.2);have BQ:f.offset<xs.toList.length:=(by simp;omega);obtain⟨y,A5,BS⟩:=X.W (AS BQ)
      grind
     ·simp only[if_true];exact((X.drop _).take _).agg λx C=>H.a8g x (RH (K2 C))
    ·cases j
   ·cases j
  ·cases j
 ·
  rename_i t x i G;split at j
  ·rename_i e R;split at j
   ·rename_i z A0;split at j<;>cases j;rename_i J;simp only[AB]at J;obtain⟨u,T,rfl⟩:=Kg A0;simp only[K.ok,AB,Ba]at r;obtain⟨⟨⟨N,S⟩,U⟩,Y⟩:=r;obtain⟨A2,k,n,V⟩:=Jk (E.O J.2) S;have H:=E.O J.1;simp only[K.val];cases Q:O A x<;>simp only[Q,Fj]at N<;>try cases N
    rename_i p len c;rw[Q]at H;simp only[V,Bh]at U Y⊢;simp only[Q,De]at Y;cases p with
    | none=>
      grind
    | some B=>
      simp only[beq_iff_eq]at N;obtain⟨l,Au,cap,X,AM,F,B3,Av,Aw⟩:=H.Fk;rcases B3 with⟨rfl,rfl⟩|⟨rfl,B3⟩
      ·omega
      ·refine⟨_,aAZ G R T F (by rw[A2,V]) U Y,?_⟩;simp only[Pb,JN];exact .AA X
   ·cases j
  ·rename_i len e R;split at j
   ·rename_i z A0;split at j<;>cases j;rename_i J;simp only[AB]at J;obtain⟨u,T,rfl⟩:=Kg A0;simp only[K.ok,AB,Ba]at r;obtain⟨⟨⟨N,S⟩,U⟩,Y⟩:=r;obtain⟨A2,k,n,V⟩:=Jk (E.O J.2) S;have H:=E.O J.1;simp only[K.val];cases Q:O A x<;>simp only[Q,J4]at N<;>try cases N
    rename_i p;rw[Q]at H;simp only[V,Bh]at U Y⊢;cases p with
    |none=>cases N
    | some B=>obtain⟨l,X,AM,F⟩:=H.Io;refine⟨_,aEJ G R T F (by rw[A2,V]) U Y,?_⟩;simp only[Ml,JN];exact .AA X
   ·cases j
  ·cases j
 ·
  rename_i t x i G;split at j
  ·rename_i R;split at j<;>cases j;rename_i J;simp only[AB]at J;simp only[K.ok,AB,Ba]at r;obtain⟨⟨⟨N,S⟩,U⟩,Y⟩:=r;obtain⟨A4,b,F⟩:=e1 (E.O J.1) N;obtain⟨A2,k,n,V⟩:=Jk (E.O J.2) S;simp only[V,Bh]at U Y;simp only[F,De]at Y;refine⟨_,a18 G R (by rw[A4,F]) (by rw[A2,V]) U Y,?_⟩;simp only[K.val,F,V,Lb,Bh];exact .BT rfl
  ·cases j
 ·
  rename_i x i G;split at j<;>cases j;rename_i C;have H:=E.O C;simp only[K.ok]at r;simp only[K.val];cases Q:O A x<;>simp only[Q,Rk]at r<;>try cases r
  rename_i xs;rw[Q]at H;obtain⟨ys,F,X⟩:=H.S1;have T:i<xs.toList.length:=(by simpa using r);obtain⟨y,A5,BS⟩:=X.W (AS T);have BU:i<ys.size:=(by have:=X.1;simp at this T;omega);refine⟨_,a4M G F BU,?_⟩;rw[F];simp only[Q4]
  simp_all
 ·
  rename_i t x G;split at j
  ·cases j
  ·rename_i d Ao Ap;split at j<;>cases j;rename_i C;refine⟨.iface t (a.eval x),.inl ?_,.iface (E.O C)⟩;cases d<;>first|exact absurd rfl (Ao _)|simp[execOp,G,Instr.makeInterface,underlying,Ap]
  ·cases j
 ·
  rename_i x t0 t ok G;split at j
  ·cases j
  ·rename_i d Ao Ap;split at j<;>cases j;rename_i C;simp only[AB,Iz]at C;obtain⟨C,rfl⟩:=C;have H:=E.O C;simp only[K.ok]at r;simp only[K.val];cases Q:O A x<;>simp only[Q,W8]at r<;>try cases r
   rename_i Bl v;have:=of_decide_eq_true r;subst this;rw[Q]at H;obtain⟨y,F,A5⟩:=H.V8;refine⟨y,.inl ?_,A5⟩;cases d<;>first|exact absurd rfl (Ao _)|simp[execOp,G,Instr.typeAssert,underlying,Ap,F]
  ·cases j
 ·repeat (split at j<;>try cases j)
  simp[K.pure]at Z
 ·repeat (split at j<;>try cases j)
  simp[K.pure]at Z
 ·repeat (split at j<;>try cases j)
  simp[K.pure]at Z
 ·
  rename_i fn x y G;split at j<;>cases j;rename_i J;simp only[AB]at J;refine⟨_,a7A G,?_⟩;simp only[K.val];have BV:=RO E _ J.1;have BW:=RO E _ J.2;exact .func (by simp) (by simpa using BV.2) (by simp) (by simpa using BW.2)
 ·
  rename_i c G;unfold Vi at j;split at j
  ·split at j<;>cases j;simp[K.pure]at Z
  ·repeat (split at j<;>try cases j)
   simp[K.pure]at Z
  ·repeat (split at j<;>try cases j)
   simp[K.pure]at Z
  ·rename_i J;split at j
   ·rename_i x t A1 A7;split at j
    ·rename_i R;split at j<;>cases j;rename_i C;simp only[K.ok]at r;obtain⟨e,b,F⟩:=e1 (E.O C) r;refine⟨_,aAE G J A1 A7 R (by rw[e,F]),?_⟩;simp only[K.val,F,De];exact .BT rfl
    ·rename_i e R;split at j<;>cases j;rename_i C;simp only[K.ok]at r;have H:=E.O C;simp only[K.val];cases Q:O A x<;>simp only[Q,Lo]at r<;>try cases r
     rename_i p len c;rw[Q]at H;have F: ∃q cap,a.eval x= .slice q len cap:=by
      cases p with
      | none=>
        refine⟨none,c,?_⟩;generalize a.eval x=v at H;cases H with
        |BT h=>rfl
      |some B=>obtain⟨_,_,_,_,_,h,_⟩:=H.Fk;exact⟨_,_,h⟩
     obtain⟨q,cap,F⟩:=F;exact⟨_,aEI G J A1 A7 R F,.BT rfl⟩
    ·cases j
   ·cases j
  ·(repeat' split at j)<;>cases j<;>simp[K.pure]at Z
  ·rename_i J;split at j
   ·rename_i x xs A1;split at j<;>cases j;rename_i C;simp only[AB]at C;simp only[K.ok,AB]at r;have N:=Jk (E.O C.1) r.1;have S: ∀y∈xs,Bo (a.eval y)=true:= λy A5=>by
     have:=BF.1 r.2 y A5;rw[(Jk (E.O (BF.1 C.2 y A5)) this).1];exact this
    refine⟨_,tD (gu:=false) G (by simpa using J) A1 (by rw[N.1];exact r.1) S,?_⟩;rw[fu false E xs _ C.2 r.2,N.1];simp only[K.val];have U:=gB (A:=A) false xs (O A x) r.1 r.2;exact .BT (yx U)
   ·cases j
  ·rename_i J;split at j
   ·rename_i x xs A1;split at j<;>cases j;rename_i C;simp only[AB]at C;simp only[K.ok,AB]at r;have N:=Jk (E.O C.1) r.1;have S: ∀y∈xs,Bo (a.eval y)=true:= λy A5=>by
     have:=BF.1 r.2 y A5;rw[(Jk (E.O (BF.1 C.2 y A5)) this).1];exact this
    refine⟨_,tD (gu:=true) G (by simpa using J) A1 (by rw[N.1];exact r.1) S,?_⟩;rw[fu true E xs _ C.2 r.2,N.1];simp only[K.val];have U:=gB (A:=A) true xs (O A x) r.1 r.2;exact .BT (yx U)
   ·cases j
  ·
   rename_i J;split at j
   ·rename_i x t A1 A7;split at j
    ·rename_i e R;split at j<;>cases j;rename_i C;have H:=E.O C;simp only[K.ok]at r;have Q:O A x= .slice none 0 0:=aa r;rw[Q]at H;exact⟨_,aB5 G J A1 A7 R (H.DH rfl),.BT rfl⟩
    ·cases j
   ·cases j
  ·(repeat' split at j)<;>cases j<;>simp[K.pure]at Z
  ·cases j
 ·cases j
theorem hz(v:Value):v.oneCell'=G v:=by cases v<;>rfl
variable {P:Program} {w E:World} {g:Ren} {m:V} {aJ:Nat}
def DU(g:Ren)(id:Nat)(l:Ou):Ren:= λb=>if b=id then some l else g b
theorem Kt{id:Nat}(h:g id=none):CZ g (DU g id l):=by
 intro b a hb
 grind [DU]
theorem ky(c o j:Nat):(⟨c,o,none⟩:Addr).add j=⟨c,o+j,none⟩:=by unfold Addr.add;split<;>simp_all
theorem BA.cells(k:BA aJ g m w){x:Bw}(d:m.W b=some x)(p:g b=some l)(h:off+n<=x.cells.length):
 ∃ds:List Value,Al g (CW m b off n) ds/\ds.length=n/\(∀j a6,ds[j]?=some a6->w.cell? ((⟨l.c,l.o+off,none⟩:Addr).add j)=some a6)/\(∀a6∈ds,a6.oneCell'=true):=by
 obtain⟨y,e,z,q,_⟩:=k.G2 b x d;rw[p]at e;cases e;have key: ∀j,j<n-> ∃v a,x.cells[off+j]?=some v/\G v=true/\w.cell? ⟨l.c,l.o+(off+j),none⟩=some a/\B6 g v a:=by
  intro j f;have r:off+j<x.cells.length:=(by omega);obtain⟨A,a,B,C⟩:=q (off+j) _ (AS r)
  simp_all
 refine⟨(List.range n).map λj=>(w.cell? ⟨l.c,l.o+(off+j),none⟩).getD undef,⟨?_,?_⟩,by simp,?_,?_⟩
 ·simp[CW,d];omega
 ·grind [CW]
 ·grind [ky]
 ·intro a6 i;simp only[CP,FX]at i;obtain⟨j,f,rfl⟩:=i;obtain⟨D,E,F,s,t,u⟩:=key j f;rw[t];simp only[L2,hz];rw[u.G];exact s
theorem BA.uw(d:BA aJ g m w){id C o:Nat}(M:id<m.next)(K:g id=none)
 (s: ∀b x l,m.W b=some x->g b=some l->l.c≠C) (N:w.heap.size<=E.heap.size) (O:C<E.heap.size) (P:aJ<=C)
 (Q: ∀a:Addr,a.block<w.heap.size->a.block≠C->E.cell? a=w.cell? a/\E.frozen? a=w.frozen? a)
 (L: ∀k,k<w.heap.size->k≠C->E.heap[k]?=w.heap[k]?)
 (R:cs.length<=n) (S: ∀i v,cs[i]?=some v->G v=true/\ ∃p,E.cell? ⟨C,o+i,none⟩=some p/\B6 g v p)
 (T: ∀i,i<n->(E.cell? ⟨C,o+i,none⟩).isSome=true/\E.frozen? ⟨C,o+i,none⟩=false) (AD:IE E C):
 BA aJ (DU g id ⟨C,o,n⟩) (m.A0 id (some ⟨cs,true⟩)) E:=by
 have q:=Kt (l:=⟨C,o,n⟩) K;refine⟨λb l hb=> ?_,λb l hb=> ?_,λb x f=> ?_,λb x U X l Y t Z u A1 y z=> ?_,λb es hb=> ?_,λb es hb=> ?_,λb x l f A h=> ?_⟩
 ·unfold DU at hb;split at hb
  ·rename_i e;rw[e];exact M
  ·exact d.Fq b l hb
 ·unfold DU at hb;split at hb
  ·cases hb;exact O
  ·exact Eo (d.G9 b l hb) N
 ·rw[V.G1]at f;split at f
  ·rename_i e;cases f;exact⟨⟨C,o,n⟩,by simp[DU,e],R,λi v B=>by obtain⟨D,p,F,H⟩:=S i v B;exact⟨D,p,F,H.AG q⟩,λ_=>⟨P,T⟩⟩
  ·obtain⟨l,j,r,A2,A3⟩:=d.G2 b x f;have A4:=d.G9 b l j;have I:=s b x l f j;refine⟨l,q _ _ j,r,λi v B=> ?_,λA=>⟨(A3 A).1,λi AE=> ?_⟩⟩
   ·obtain⟨D,p,F,H⟩:=A2 i v B;exact⟨D,p,by rw[(Q _ A4 I).1];exact F,H.AG q⟩
   ·simp_all
 ·rw[V.G1]at t u;unfold DU at y z;split at t
  ·grind
  ·rename_i e;rw[if_neg e]at y;split at u
   ·grind
   ·rename_i A5;rw[if_neg A5]at z;exact d.MD b x U X l Y t Z u A1 y z
 ·obtain⟨l,h⟩:=d.NC b es hb;exact⟨l,q _ _ h⟩
 ·obtain⟨j,r⟩:=V.Hp hb;have I:b≠id:= λe=>by
   subst e;obtain⟨l,h⟩:=d.NC b es r;rw[K]at h;cases h
  rw[V.G1,if_neg I]at j;obtain⟨l,A6,A7,J,A8,A9,AB⟩:=d.maps b es (V.E7 j r);exact⟨l,A6,A7,q _ _ J,A8,by rw[L l.c (d.G9 b l J) (s b _ l j J)];exact A9,AB.AG q⟩
 ·rw[V.G1]at f;unfold DU at h;split at f
  ·grind
  ·rename_i e;rw[if_neg e]at h;exact(d.NU b x l f A h).Rb (L l.c (d.G9 b l h) (s b x l f h))
theorem BA.Dx(c:BA aJ g m w)(b:Nat):BA aJ g (m.A0 b none) w:=by
 have d: ∀a x,(m.A0 b none).W a=some x->a≠b/\m.W a=some x:=by
  grind [V.G1]
 exact⟨c.Fq,c.G9,λa x j=>c.G2 a x (d a x j).2,λe f k l h n i o p=>c.MD e f k l h n (d _ _ i).2 o (d _ _ p).2,c.NC,λa es hb=>by obtain⟨q,r⟩:=V.Hp hb;exact c.maps a es (V.E7 (d _ _ q).2 r),λe f h i=>c.NU e f h (d _ _ i).2⟩
theorem kM(b k:Nat)(c:k≠b): ∀(a:List Value) (o:Nat) (w:World),(w.setCells b o a).heap[k]?=w.heap[k]?
 |[],_,_=>rfl
 |v::a,o,w=>by rw[World.setCells,kM b k c a];simp[World.setCell,Array.getElem?_modify,Ne.symm c]
theorem Xm(b:Nat): ∀(a:List Value) (o:Nat) (w:World),(w.setCells b o a).heap.size=w.heap.size
 |[],_,_=>rfl
 |v::a,o,w=>by rw[World.setCells,Xm b a];simp[World.setCell]
theorem WQ{aJ:Nat}(hb:aJ<=b): ∀(a:List Value) (o:Nat) (w:World),Below aJ w (w.setCells b o a)
 |[],_,_=>Below.refl _ _
 |v::a,o,w=>((Below.refl aJ w).setCell (p:=⟨b,o,none⟩) hb v).trans (WQ hb a _ _)
theorem zP: ∀(a:List Value) (off:Nat) (cs:List Value) (i:Nat),off+a.length<=cs.length->(C3 cs off a)[i]?=if off<=i/\i<off+a.length then a[i-off]? else cs[i]?
 |[],off,cs,i,_=>by simp[C3];intro b c;omega
 | v::a,off,cs,i,h=>by
   simp only[C3];simp only[Df]at h;rw[zP a (off+1) (cs.set off v) i (by simp;omega),Ig]
   grind
theorem BA.store(p:BA aJ g m w){x:Bw}(t:m.W b=some x)(r:x.own=true)(D:g b=some l){n:List Value}(T:Al g cs n)(A6: ∀v∈cs,G v=true)
 (h:off+cs.length<=x.cells.length):BA aJ g (m.A0 b (some ⟨C3 x.cells off cs,x.own⟩)) (w.setCells l.c (l.o+off) n):=by
 have hb:=V.F t;have A7:=T.1;obtain⟨q,u,A8,A9,J⟩:=p.G2 b x t;rw[D]at u;cases u;have U: ∀a f K,m.W a=some f->a≠b->g a=some K->K.c≠l.c:= λa f K N O P=>Ne.symm (p.MD b x a f l K t r N (Ne.symm O) D P);refine⟨p.Fq,λa q AB=>by rw[Xm];exact p.G9 a q AB,λa f d=> ?_,λX AD Y AE AF z N O P AG AH AJ=> ?_,p.NC,λa es AK=> ?_,λa f q d AL u=> ?_⟩
 ·rw[V.G1]at d;split at d
  ·rename_i e;cases d;subst e;refine⟨l,D,by rw[VP];exact A8,λi v s=> ?_,λ_=>⟨(J r).1,λi E=> ?_⟩⟩
   ·rw[zP _ _ _ _ h]at s;split at s
    ·rename_i E;obtain⟨a6,L,AM⟩:=T.W s;refine⟨A6 v (B9 s),a6,?_,AM⟩;have Z:i-off<n.length:=(by omega);have:=World.cell?_setCells_in l.c n (l.o+off) w (λj AN=>by
      have:=((J r).2 (off+j) (by omega)).1
      rwa [<-JN]at this) (i-off) Z
     rw[show l.o+off+(i-off)=l.o+i by omega]at this;rw[this];rw[AS Z]at L;exact L
    ·rename_i E;obtain⟨k,AO,A,Q⟩:=A9 i v s;refine⟨k,AO,?_,Q⟩;rw[World.cell?_setCells_out l.c n (l.o+off) w _ (λ_ _=>by show l.o+i<l.o+off\/l.o+off+n.length<=l.o+i;omega)];exact A
   ·have A1:=(J r).2 i E;refine⟨?_,by rw[World.frozen?_setCells];exact A1.2⟩;by_cases AU:off<=i/\i<off+n.length
    ·have:=World.cell?_setCells_in l.c n (l.o+off) w (λj AN=>by
      have:=((J r).2 (off+j) (by omega)).1
      rwa [<-JN]at this) (i-off) (by omega)
     rw[show l.o+off+(i-off)=l.o+i by omega]at this;rw[this];rfl
    ·rw[World.cell?_setCells_out l.c n (l.o+off) w _ (λ_ _=>by show l.o+i<l.o+off\/l.o+off+n.length<=l.o+i;omega)];exact A1.1
  ·rename_i e;obtain⟨q,k,A,Q,A2⟩:=p.G2 a f d;have AP:=U a f q d e k;have B: ∀i,(w.setCells l.c (l.o+off) n).cell? ⟨q.c,q.o+i,none⟩=w.cell? ⟨q.c,q.o+i,none⟩:= λi=>World.cell?_setCells_out _ _ _ _ _ (λAQ _=>absurd AQ AP);refine⟨q,k,A,λi v s=>by rw[B];exact Q i v s,λA3=>⟨(A2 A3).1,λi E=>by rw[B,World.frozen?_setCells];exact(A2 A3).2 i E⟩⟩
 ·have A4: ∀a f,(m.A0 b (some ⟨C3 x.cells off cs,x.own⟩)).W a=some f-> ∃A5,m.W a=some A5/\A5.own=f.own:=by
   intro a f d;rw[V.G1]at d;split at d
   ·rename_i e;cases d;exact⟨x,by rw[e];exact t,rfl⟩
   ·exact⟨f,d,rfl⟩
  obtain⟨AR,C,H⟩:=A4 X AD N;obtain⟨AT,I,M⟩:=A4 Y AE P;exact p.MD X AR Y AT AF z C (by rw[H];exact O) I AG AH AJ
 ·obtain⟨k,A⟩:=V.Hp AK;rw[V.G1]at k;by_cases e:a=b
  ·subst e;rw[if_pos rfl,if_pos hb]at k;injection k with k;have B:x.cells=[]:=by
    have:=congrArg (λy=>y.cells.length) k;simp only[VP,Jx]at this;exact Gy.1 this
   have L:n=[]:=(by rw[B]at h;simp at h;exact Gy.1 (by rw[<-A7,h.2];rfl));subst L;have d:x=⟨[],true⟩:=(by cases x;simp at B r;rw[B,r]);obtain⟨z,R,S,C,H,I,M⟩:=p.maps a es (V.E7 (by rw[t,d]) A);exact⟨z,R,S,C,H,I,M⟩
  ·rw[if_neg e]at k;obtain⟨z,R,S,C,H,I,M⟩:=p.maps a es (V.E7 k A);exact⟨z,R,S,C,H,by rw[kM _ _ (U a _ z k e C)];exact I,M⟩
 ·rw[V.G1]at d;split at d
  ·rename_i e;subst e;rw[D]at u;cases u;exact(p.NU a x l t r D).setCells _ _ _
  ·exact(p.NU a f q d AL u).setCells _ _ _
def Ix(P:Program)(o:Oper)(k:K)(a:Act)(aJ:Nat)(g:Ren)(A:A6)(m:V)(w:World)(id:Nat):Prop:=
 ∃d E c,EJ P o a w d E/\CZ g c/\(∀b,b≠id->c b=g b)/\B6 c (k.val id A m) d/\BA aJ c (k.Cl id A m) E/\Below aJ w E
variable {P:Program} {w:World} {o:Oper} {a:Act} {g:Ren} {I:Nat} {A:A6} {m:V} {aJ id:Nat}
theorem NQ: ∀b,b≠id->DU g id l b=g b:= λb h=>by simp[DU,h]
theorem BA.T5(d:BA aJ g m w)(c:cm.heap=w.heap)(h:aJ<=w.heap.size)(j:id<m.next)(o:g id=none){a:Nat×Nat}
 (p:cs.length<=n) (u:n<=ds.size) (y: ∀(i:Nat) v,cs[i]?=some v->G v=true/\ ∃f,ds[i]?=some f/\B6 g v f) (z: ∀i,i<n-> ¬(a.1<=i/\i<a.2)) (q: ¬(a.1<=ds.size/\ds.size<a.2):=by simp):
 BA aJ (DU g id ⟨w.heap.size,0,n⟩) (m.A0 id (some ⟨cs,true⟩)) (cm.alloc (.cells ds e a)):=by
 have A:(cm.alloc (.cells ds e a)).heap.size=w.heap.size+1:=by show(cm.heap.push _).size=_;rw[Array.size_push,c]
 have r:(cm.alloc (.cells ds e a)).heap[w.heap.size]?=some (.cells ds e a):=by show(cm.heap.push _)[_]?=_;rw[c];simp
 refine d.uw j o (λb x l C s=>by have:=d.G9 b l s;omega) (by omega) (by omega) h (λB t D=> ?_) (λk t _=>by show(cm.heap.push _)[k]?=_;rw[c,Array.getElem?_push,if_neg (by omega)]) p (λi v E=> ?_) (λi F=> ?_) (IE.a2z r q)
 ·have:(cm.alloc (.cells ds e a)).heap[B.block]?=w.heap[B.block]?:=by
   show(cm.heap.push _)[_]?=_
   grind
  grind [World.cell?_of_block,World.frozen?_of_block]
 ·grind [World.cell?]
 ·grind [World.cell?,World.frozen?]
theorem Mf(a:cm.heap=w.heap)(b:cm.os=w.os)(c:cm.tape=w.tape)(d:cm.output=w.output)(e:aJ<=w.heap.size)(x:Obj):Below aJ w (cm.alloc x):=by have:Below aJ w cm:=⟨b,c,d,by rw[a];exact Ao _,λk _=>by rw[a]⟩;exact this.alloc (by rw[a];exact e) x
theorem ht(h:Al g cs ds.toList)(c: ∀v∈cs,G v=true): ∀(i:Nat) v,cs[i]?=some v->G v=true/\ ∃a,ds[i]?=some a/\B6 g v a:=by
 intro i v b;obtain⟨y,d,e⟩:=h.W b
 grind
theorem a2M(q:o.op= .alloc e)(h:IC P e=some z)(j:BA aJ g m w)(b:aJ<=w.heap.size)(k:id<m.next)(c:g id=none):Ix P o (.IX z) a aJ g A m w id:=by
 obtain⟨u,n,r,s,d,f,t⟩:=OR h;refine⟨.pointer (some ⟨w.heap.size,0,none⟩),w.alloc (.cells n.cells e),DU g id ⟨w.heap.size,0,z.length⟩,.inl ?_,Kt c,NQ,?_,?_,Mf rfl rfl rfl rfl b _⟩
 ·simp_all [execOp,Instr.alloc,zeroValue,typeInfo,newVar,newRow]
 ·exact .AA (off:=0) (l:=⟨w.heap.size,0,z.length⟩) (by simp[DU])
 ·refine j.T5 rfl b k c (Ao _) (by rw[<-d];simp) (ht (by rw[d];exact Al.BT g f) λv p=>No (BF.1 f v p)) (λi _=>by simp)
theorem aFh(q:o.op= .box e x)(b:An x=true)(c:Cw g I A a)(j:(K.JP x).ok A m=true)(k:BA aJ g m w)(d:aJ<=w.heap.size)(n:id<m.next)(f:g id=none):Ix P o (.JP x) a aJ g A m w id:=by
 have h:=fj (c.O b);have p:=iT (c.O b) j;have r:(a.eval x).cells.size=(H (O A x)).length:=by have:=h.1;simp at this;exact this.symm
 refine⟨.pointer (some ⟨w.heap.size,0,none⟩),w.alloc (.cells (a.eval x).cells e),DU g id ⟨w.heap.size,0,(H (O A x)).length⟩,.inl ?_,Kt f,NQ,?_,?_,Mf rfl rfl rfl rfl d _⟩
 ·simp_all [execOp,Instr.box,newVar,newRow]
 ·exact .AA (off:=0) (l:=⟨w.heap.size,0,(H (O A x)).length⟩) (by simp[DU])
 ·exact k.T5 rfl d n f (Ao _) (by omega) (ht h p) (λi _=>by simp)
theorem e7(h:Bx m v n=true): ∃b off x,v= .pointer (some ⟨b,off,none⟩)/\m.W b=some x/\off+n<=x.cells.length:=by
 unfold Bx at h;split at h
 ·rename_i B;simp only[AB,Rl]at h;obtain⟨a,h⟩:=h;split at h
  ·rename_i x c;obtain⟨b,off,d⟩:=B;simp only at a c h;subst a
   grind
  ·cases h
 ·cases h
theorem lJ{ds:List Value}(c:I0 P t=some J)(e:FQ P t=some n)(f:J=true\/n=1)(a:ds.length=n)(b: ∀(j:Nat) a6,ds[j]?=some a6->w.cell? (B.add j)=some a6):
 (loadVar t B).run P w= .ok (if J then .agg ds.toArray else ds.headD undef) w:=by
 obtain⟨u,g,rfl⟩:=Kg e;simp only[loadVar,Sem.run_bind,lA c,Result.andThen_ok];cases J
 ·have h:u.size=1:=(by simpa using f);rw[h]at a;obtain⟨d,rfl⟩:=NZ a;have i:=b 0 d rfl
  grind [Addr.add,Go.load,Sem.run]
 ·simp only[if_true,Sem.run_bind,sizeOf,typeInfo,run_program,g,Sem.run_pure,Result.andThen_ok];have:=run_loadCells_list (P:=P) w B ds b
  simp_all
theorem ly{f:Value}(h:BA aJ g m w)(p:B6 g v f)(q:Bx m v n=true)(r:J=true\/n=1):
 ∃(B:Addr) (ds:List Value),f= .pointer (some B)/\ds.length=n/\(∀(j:Nat) a6,ds[j]?=some a6->w.cell? (B.add j)=some a6)/\B6 g (DN m J n v) (if J then .agg ds.toArray else ds.headD undef):=by
 obtain⟨b,off,x,rfl,e,s⟩:=e7 q;obtain⟨l,t,_,rfl⟩:=p.Io;obtain⟨ds,a,k,u,D⟩:=h.cells e t s;refine⟨_,ds,rfl,k,u,?_⟩;simp only[DN];cases J
 ·have y:n=1:=(by simpa using r);subst y;obtain⟨d,rfl⟩:=NZ k;simp only[EI,if_false,List.headD_cons];have o:=a.1;simp only[Df,Jx]at o;obtain⟨a6,c⟩:=NZ o;rw[c]at a⊢;exact a.2 0 a6 d rfl rfl
 ·refine a.agg λa6 c=> ?_;obtain⟨E,F,G,z,H⟩:=h.G2 b x e;simp only[CW,e]at c;obtain⟨i,A,C⟩:=EC (RH (K2 c));exact(z i a6 (by rw[AS A,C])).1
theorem aFb(h:o.op= .load t x)(i:I0 P t=some J)(j:FQ P t=some n)(d:An x=true)(e:Cw g I A a)(c:BA aJ g m w)
 (b:(K.E4 J n x).ok A m=true):Ix P o (.E4 J n x) a aJ g A m w id:=by
 simp only[K.ok,AB,N0,Ba]at b;obtain⟨B,ds,k,l,p,f⟩:=ly c (e.O d) b.1 b.2;refine⟨_,w,g,.inl ?_,CZ.refl g,λ_ _=>rfl,f,c,Below.refl _ _⟩
 grind [execOp,Instr.loadAt,Instr.sureAddr,Sem.run_bind,Sem.run_pure,Result.andThen_ok,lJ]
theorem a2F{k d p:Option Operand}{z:Nat}(B:o.op= .slice t x k d p)(h:P.underlying t=some (.array n e))(C:FQ P e=some z)
 (D:An x=true) (E:k=none) (F:d=none) (G:p=none) (H:Cw g I A a) (q:BA aJ g m w) (f:(K.Nt z n x).ok A m=true):Ix P o (.Nt z n x) a aJ g A m w id:=by
 subst E F G;simp only[K.ok,AB,Ba]at f;obtain⟨f,M⟩:=f;obtain⟨b,off,y,r,J,N⟩:=e7 f;have s:=H.O D;rw[r]at s;obtain⟨l,i,_,L⟩:=s.Io;obtain⟨u,d,rfl⟩:=Kg C;obtain⟨Q,v,R,S,T⟩:=q.G2 b y J;rw[i]at v;cases v;refine⟨_,w,g,a37 B h d L,CZ.refl g,λ_ _=>rfl,?_,q,Below.refl _ _⟩;simp only[K.val,r,Ue];by_cases j:n=0
 ·rw[if_pos j];subst j;exact .slice i (.inl ⟨rfl,rfl⟩) (Ao _) (by omega)
 ·rw[if_neg j];have h:(⟨l.c,l.o+off,none⟩:Addr).add (0*u.size)=⟨l.c,l.o+off,none⟩:=by
   unfold Addr.add;simp
  rw[h];exact .slice i (.inr ⟨rfl,by simp only[Nat.sub_zero];omega⟩) (Ao _) (by omega)
theorem a3Y{v:Operand}(V:o.op= .store t x v)(F:FQ P t=some n)(J:An x=true)(r:An v=true)(h:Cw g I A a)(s:BA aJ g m w)
 (z:(K.store n x v).ok A m=true):Ix P o (.store n x v) a aJ g A m w id:=by
 simp only[K.ok,AB,Ba]at z;obtain⟨⟨⟨L,M⟩,N⟩,W⟩:=z;have Q:=iT (h.O r) N;obtain⟨b,off,y,k,d,X⟩:=e7 L;have B:=h.O J;rw[k]at B;obtain⟨l,C,_,Y⟩:=B.Io;have e:y.own=true:=by simpa[k,GN,d]using M
 have f:=fj (h.O r);obtain⟨u,Z,rfl⟩:=Kg F;have A0:(a.eval v).cells.size=u.size:=by have:=f.1;simp at this;omega
 obtain⟨A1,D,A2,A3,p⟩:=s.G2 b y d;rw[C]at D;cases D;have R: ∀a6∈(a.eval v).cells.toList,a6.oneCell'=true:=by
  intro a6 S;obtain⟨i,E,T⟩:=EC S;have U:i<(H (O A v)).length:=(by rw[f.1];exact E);have:=(f.2 i _ a6 (AS U) (by rw[AS E,T])).G;rw[hz,this]
  simp_all
 refine⟨undef,w.setCells l.c (l.o+off) (a.eval v).cells.toList,g,.inr ⟨?_,rfl⟩,CZ.refl g,λ_ _=>rfl,B6.undef g,?_,WQ (p e).1 _ _ _⟩
 ·have A4:=run_storeCells_cells (P:=P) l.c (l.o+off) (a.eval v).cells.toList 0 w (λj q=>by
   have:=((p e).2 (off+j) (by simp at q;omega)).1
   rwa [<-JN]at this) (λj q=>by
   have:=((p e).2 (off+j) (by simp at q;omega)).2
   rwa [<-JN]at this) R
  simp_all [execOp,Instr.storeAt,Instr.sureAddr,storeVar,sizeOf,typeInfo]
 ·simp only[K.Cl,k,FJ,d];exact s.store d e C f Q (by omega)
theorem mc(b:0<z.length): ∀(n i:Nat),i<n*z.length->((List.replicate n z).flatten)[i]?=z[i%z.length]?
 |0,i,h=>by omega
 | n+1,i,h=>by
   rw[Rv,HM,MY];split
   ·rename_i a;rw[Nat.mod_eq_of_lt a]
   ·rename_i a;have c:i-z.length<n*z.length:=(by rw[Hl]at h;omega);rw[mc b n _ c,Nat.mod_eq_sub_mod (by omega:z.length<=i)]
theorem QW(z:List Value)(n:Nat):((List.replicate n z).flatten).length=n*z.length:=by simp[List.length_flatten]
theorem lV{z:Array Value}(a:0<z.size)(n:Nat):(madeCells z (n*z.size)).toList=(List.replicate n z.toList).flatten:=by
 apply N1
 grind [mc,madeCells,QW]
theorem ZZ(p:Value->Prop)(h: ∀v∈z,p v)(n:Nat): ∀v∈(List.replicate n z).flatten,p v:=by
 simp_all
variable {P:Program} {w:World} {o:Oper} {a:Act} {g:Ren} {I:Nat} {A:A6} {m:V} {aJ id:Nat}
theorem aDn(H:o.op= .buildSlice t n ps)(J:P.underlying t=some (.slice e))(L:IC P e=some z)
 (d:Qa z.length ps.toList=some D) (M:0<z.length) (A7:n*z.length<=16777216) (N:Cw g I A a) (O:BA aJ g m w) (r:aJ<=w.heap.size) (Q:id<m.next) (s:g id=none)
 (y:(K.HG z.length n (List.replicate n z).flatten D).ok A m=true):Ix P o (.HG z.length n (List.replicate n z).flatten D) a aJ g A m w id:=by
 obtain⟨u,b,B,R,C,S,f⟩:=OR L;obtain⟨T,U⟩:=jj _ _ d;have E:b.cells.size=u.size:=by rw[<-f,<-C];simp
 have V:(madeCells b.cells (n*b.cells.size)).toList=(List.replicate n z).flatten:=by rw[lV (by omega),C]
 have F: ∀v∈(List.replicate n z).flatten,BB v=true:=ZZ (λv=>BB v=true) (λv h=>BF.1 S v h) n;simp only[K.ok]at y;obtain⟨ds,c,G,W⟩:=fM N (λi=>some (i*u.size,u.size)) ps.toList D (List.replicate n z).flatten (madeCells b.cells (n*b.cells.size)) ⟨T,λi p q X d=>by obtain⟨Y,Z,A0,A1⟩:=U i p q X d;exact⟨Y,Z,by rw[A0,A1,f]⟩⟩ (by rw[V];exact Al.BT g (BF.2 F)) (λv h=>No (F v h)) y;have A8:(G5 (List.replicate n z).flatten A D).length=ds.size:=by have:=G.1;simpa using this
 have A9:(G5 (List.replicate n z).flatten A D).length=n*z.length:=by
  have key: ∀(D:List (Nat×Nat×Operand)) (cs:List Value),(G5 cs A D).length=cs.length:=by
   intro D;induction D with
   |nil=>intro cs;rfl
   |cons q D A2=>intro cs;obtain⟨AB,AD,AE⟩:=q;simp only[G5];rw[A2,VP]
  rw[key,QW]
 refine⟨.slice (some ⟨w.heap.size,0,none⟩) n n,w.alloc (.cells ds e),DU g id ⟨w.heap.size,0,ds.size⟩,.inl ?_,Kt s,NQ,?_,?_,Mf rfl rfl rfl rfl r _⟩
 ·have A3:(ps.map λp=>(p.1,a.eval p.2)).toList=ps.toList.map λp=>(p.1,a.eval p.2):=by simp
  have A4:(zeroValue e).run P w= .ok b w:=(by simp[zeroValue,typeInfo,B,R]);have A5: ¬(2^24<n*u.size):=(by rw[<-f];omega);rw[<-A3]at c;simp only[execOp,H,Instr.buildSlice,Sem.run_bind,run_underlying J,sizeOf,typeInfo,run_program,B,Sem.run_pure,Result.andThen_ok,gt_iff_lt,A5,if_false,Sem.run_ite];by_cases j:n*u.size=0
  ·have k:madeCells b.cells (n*b.cells.size)= #[]:=(by rw[E,j];simp[madeCells]);rw[k]at c;simp only[j,if_true];have A6:Array.map (λx=>(#[]:Array Value)[x%(#[]:Array Value).size]!) (Array.range 0)= #[]:=(by simp);rw[A6,c];simp only[newRow,Sem.run_bind];rfl
  ·have k:Array.map (λx=>b.cells[x%b.cells.size]!) (Array.range (n*u.size))=madeCells b.cells (n*b.cells.size):=(by unfold madeCells;rw[E]);simp only[j,if_false,A4,Result.andThen_ok,k,c];simp only[newRow,Sem.run_bind];rfl
 ·exact .slice (off:=0) (l:=⟨w.heap.size,0,ds.size⟩) (by simp[DU]) (.inr ⟨rfl,by show 0+n*z.length<=ds.size;omega⟩) (Ao _) (by have:n*1<=n*z.length:=Nat.mul_le_mul_left _ M;unfold maxLen;omega)
 ·simp only[K.Cl];exact O.T5 rfl r Q s (by omega) (Ao _) (ht G W) (λi _=>by simp)
theorem aAc{l c:Operand}(E:o.op= .makeSlice t l c)(F:P.underlying t=some (.slice e))(G:IC P e=some z)(f:P.info? e=some u)(H:An l=true)(J:An c=true)
 (h:Cw g I A a) (M:BA aJ g m w) (j:aJ<=w.heap.size) (N:id<m.next) (k:g id=none)
 (n:(K.IA z.length u.bytes z l c).ok A m=true):Ix P o (.IA z.length u.bytes z l c) a aJ g A m w id:=by
 obtain⟨A2,p,q,Q,R,S,r⟩:=OR G;rw[f]at q;cases q;have A3:p.cells.size=u.size:=by rw[<-r,<-R];simp
 simp only[K.ok,AB,Ba]at n;obtain⟨⟨⟨⟨⟨⟨T,U⟩,s⟩,x⟩,V⟩,y⟩,A4⟩:=n;obtain⟨W,X,L,d⟩:=Jk (h.O H) T;obtain⟨Y,Z,C,B⟩:=Jk (h.O J) U;simp only[d,B,Bh]at s x V y;have A0:=run_make (P:=P) w t e u p F f Q X Z L C s x (by rw[Int.mul_comm];omega) y;have D: ∀v∈(List.replicate L.toNat z).flatten,BB v=true:=ZZ (λv=>BB v=true) (λv b=>BF.1 S v b) _;have A1:L.toNat*z.length<=C.toNat*z.length:=IF _ (by omega);refine⟨_,_,DU g id ⟨w.heap.size,0,C.toNat*z.length⟩,.inl (by simp only[execOp,E,W,Y,d,B,Sem.run_bind,A0,Result.andThen_ok];rfl),Kt k,NQ,?_,?_,Mf rfl rfl rfl rfl j _⟩
 ·simp only[K.val,d,Bh];exact .slice (off:=0) (l:=⟨w.heap.size,0,C.toNat*z.length⟩) (by simp[DU]) (.inr ⟨by simp,by simp⟩) (by omega) (by unfold maxLen;omega)
 ·simp only[K.Cl,d,Bh];refine M.T5 rfl j N k (by rw[QW];exact A1) (by rw[size_madeCells,r];exact Ao _) (λi v b=> ?_) (λi _=>by simp);have A5:i<L.toNat*z.length:=(by have:=(AX.1 b).1;rwa [QW]at this);refine⟨No (D v (B9 b)),v,?_,.BT (D v (B9 b))⟩
  grind [madeCells,mc]
theorem xZ: ∀(a:List Int) (b:ByteArray),a.foldl (λr n=>r.push (UInt8.ofNat n.toNat)) b=b++⟨(a.map λn=>UInt8.ofNat n.toNat).toArray⟩
 | [],b=>by simp only[List.foldl_nil,List.map_nil];apply ByteArray.ext;simp
 | n::a,b=>by simp only[IJ,E1];rw[xZ a];apply ByteArray.ext;simp[ByteArray.push]
theorem a5m{s d:TypeId}(R:o.op= .convert s d x)(S:P.underlying s=some (.slice e))(T:P.underlying d=some .string)(U:P.underlying e=some (.int .u8))(V:An x=true)
 (W:Cw g I A a) (G:BA aJ g m w) (H:(K.M6 x).ok A m=true):Ix P o (.M6 x) a aJ g A m w id:=by
 simp only[K.ok,AB]at H;obtain⟨f,J⟩:=H;have C:=W.O V;have conv: ∀v,a.eval x=v->(∃p l c,v= .slice p l c)-> ∀b:ByteArray,(Conv.bytesToString v).run P w= .ok (.string b) w->EJ P o a w (.string b) w:=by intro v u ⟨p,l,c,D⟩ b hb;subst D;refine .inl ?_;cases p<;>simp[execOp,R,u,convert,underlying,S,T,U,hb]
 cases z:O A x<;>simp only[z,Bp]at f<;>try cases f
 rename_i p len c;rw[z]at C;refine⟨.string (toBytes (C7 m 1 (O A x))),w,g,?_,CZ.refl g,λ_ _=>rfl,.BT rfl,G,Below.refl _ _⟩;cases p with
 | none=>have u:=C.DH (by simpa[BB]using f);refine conv _ u ⟨_,_,_,rfl⟩ _ ?_;simp only[Conv.bytesToString,z,C7,toBytes];rfl
 | some B=>
   simp only[AB,beq_iff_eq]at f;obtain⟨⟨AE,AF⟩,f⟩:=f;split at f
   ·rename_i y X;simp only[Nat.mul_one,Ba]at f;obtain⟨l,Y,cap,Z,_,u,L,AG,AH⟩:=C.Fk;refine conv _ u ⟨_,_,_,rfl⟩ _ ?_;simp only[z,C7,Nat.mul_one]at J⊢;obtain⟨ds,A0,E,A1,AJ⟩:=G.cells X Z f;have A2: ∃j:List Int,ds=j.map (Value.int .u8)/\CW m B.block B.off len=j.map (Value.int .u8):=by
     have A3: ∀(t r:List Value),t.all QX=true->Al g t r-> ∃j:List Int,r=j.map (Value.int .u8)/\t=j.map (Value.int .u8):=by
      intro t;induction t with
      |nil=>intro r _ h;have:=h.1;simp at this;exact⟨[],by simp[Gy.1 this.symm],rfl⟩
      | cons a6 t A4=>
        intro r F h;cases r with
        |nil=>have:=h.1;simp at this
        | cons v r=>simp only[Fz,AB]at F;obtain⟨j,A5,A6⟩:=A4 r F.2 ⟨by simpa using h.1,λi p q D A7=>h.2 (i+1) p q (by simpa using D) (by simpa using A7)⟩;have A8:=h.2 0 a6 v rfl rfl;have M:=F.1;cases a6<;>simp[QX]at M;rename_i k n;cases k<;>simp at M;exact⟨n::j,by simp[A5,A8.Hd],by simp[A6]⟩
     exact A3 _ _ J A0
    obtain⟨j,A9,N⟩:=A2;subst A9;rcases L with⟨rfl,rfl⟩|⟨rfl,L⟩
    ·have AD:j=[]:=(by simp at E;exact E);subst AD;have:=run_bytesToString (P:=P) w Y 0 0 [] (by simp[loadCells,loadCellsFrom]);rw[this,N];rfl
    ·have Q:=run_loadCells_list (P:=P) w ⟨l.c,l.o+B.off,none⟩ _ A1;rw[E]at Q;rw[run_bytesToString w _ len cap j (by rw[Q]),xZ,N]
     simp_all [toBytes,byteOf]
   ·cases f
end Go.DI
