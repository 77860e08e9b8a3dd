/- A part of the proof. -/
import Derived.Test.YtmmkkggfmigppaaGreatZdb
set_option linter.all false
set_option maxRecDepth 20000
set_option maxHeartbeats 16000000
namespace Go.DI
open Go Go.RowKit
def M.pure:M->Bool
 | .It _| .Ja _| .Hg _ _ _ _| .EO _ _ _| .NH _ _ _| .store _ _ _| .Lr _| .Mz _| .IZ _ _ _ _ _| .app _ _ _ _| .KZ _ _ _ _ _| .Ca _ _| .Kg _ _| .JV _ _| .JN _ _ _| .Kz| .LS _ _ _ _ _| .Ki _ _ _ _=>false
 |_=>true
variable {P:Program} {w:World} {o:Oper} {a:Act} {g:Ren} {I:Nat} {A:A2} {m:X}
theorem Sc(b:Cr g I A a): ∀(xs:List Operand),xs.all Ay=true->Aw g (xs.map (U A)) (xs.map a.eval)
 |xs,h=>Aw.SI _ _ xs λx c=>b.U (BR.1 h x c)
variable{v aY:Value}{K:List Iu}{op:BinOp}{t e:TypeId}{x:Operand}{k:M}{l:Pj}{b n off:Nat}{cs z:List Value}{b9:World}{ds:Array Value}{J:Bool}{B:Addr}{D:List (Nat×Nat×Operand)}{ps:Array (Nat×Operand)}{u:TypeInfo}
theorem tN(h:Bp v=true):BJ v=true:=by cases v<;>simp[Bp]at h<;>rfl
theorem Jp(h:BD g aY v)(a:Bp aY=true):v=aY/\ ∃k n,aY= .int k n:=by cases aY<;>simp[Bp]at a;exact⟨h.Hp,_,_,rfl⟩
theorem gA(c:Bool)(f:Cr g I A a): ∀(xs:List Operand) (b:Value),xs.all Ay=true->(xs.all λy=>Bp (U A y))=true->
 xs.foldl (λb y=>if c then Ha b (a.eval y)else Hf b (a.eval y)) b=xs.foldl (λb y=>if c then Ha b (U A y)else Hf b (U A y)) b
 |[],_,_,_=>rfl
 | x::xs,b,d,e=>by simp only[F3,AF]at d e;have:=(Jp (f.U d.1) e.1).1;simp only[GO,this];exact gA c f xs _ d.2 e.2
theorem lC(b:Bool): ∀(xs:List Operand) (a:Value),Bp a=true->(xs.all λy=>Bp (U A y))=true->
 Bp (xs.foldl (λa y=>if b then Ha a (U A y)else Hf a (U A y)) a)=true
 |[],_,h,_=>h
 | x::xs,a,d,c=>by simp only[F3,AF]at c;simp only[GO];refine lC b xs _ ?_ c.2;cases a<;>simp[Bp]at d;have e:=c.1;cases f:U A x<;>simp[f,Bp]at e;cases b<;>simp[Ha,Hf,Bp]
theorem o7: ∀(K:List Iu) (xs ys a b:List Value),Dn K xs ys=true->Aw g xs a->Aw g ys b->a=xs/\b=ys
 | [],[],[],a,b,_,c,d=>by
   have j:=c.1;have l:=d.1
   grind
 |[],[],_::_,_,_,h,_,_=>by simp[Dn]at h
 |[],_::_,_,_,_,h,_,_=>by simp[Dn]at h
 |_::_,[],_,_,_,h,_,_=>by simp[Dn]at h
 |_::_,_::_,[],_,_,h,_,_=>by simp[Dn]at h
 |_::_,_::_,_::_,[],_,_,h,_=>by simp[Aw]at h
 |_::_,_::_,_::_,_::_,[],_,_,h=>by simp[Aw]at h
 | k::K,x::xs,y::ys,aY::a,v::b,h,c,d=>by simp only[Dn,AF]at h;obtain⟨j,l⟩:=o7 K xs ys a b h.2 ⟨by simpa using c.1,λi p q e f=>c.2 (i+1) p q (by simpa using e) (by simpa using f)⟩ ⟨by simpa using d.1,λi p q e f=>d.2 (i+1) p q (by simpa using e) (by simpa using f)⟩;have n:=c.2 0 x aY rfl rfl;have o:=d.2 0 y v rfl rfl;have r:=h.1;have m:BJ x=true/\BJ y=true:=(by cases k<;>cases x<;>cases y<;>simp[Og]at r<;>exact⟨rfl,rfl⟩);exact⟨by rw[j,n.DF m.1],by rw[l,o.DF m.2]⟩
theorem x5{p:TypeId}{y:Operand}(b:Bool)(q:o.op= .binOp op t x y p)(r:op=if b then .neq else .eql)(s:M8 P 8 t=some K)
 (u:P.eqGuardType P.depth t=false) (v:IN P t= .agg) (f:Cr g I A a) (z:Ay x=true) (B:Ay y=true) (h:(M.Oy b K x y).ok A m=true) (id:Nat):
 ∃i,EP P o a w i w/\BD g ((M.Oy b K x y).val id A m) i:=by
 simp only[M.ok,AF]at h;obtain⟨⟨j,k⟩,c⟩:=h;have l:=f.U z;have n:=f.U B;simp only[M.val];cases d:U A x<;>simp only[d,KA]at j<;>try cases j
 cases e:U A y<;>simp only[e,KA]at k<;>try cases k
 rename_i xs ys;rw[d]at l;rw[e]at n;obtain⟨O,C,D⟩:=l.Ka;obtain⟨Q,E,F⟩:=n.Ka;simp only[d,e,H]at c;obtain⟨G,J⟩:=o7 K _ _ _ _ c D F;have L:=Array.toList_inj.1 G;have N:=Array.toList_inj.1 J;subst L;subst N;exact⟨_,a1v b q r s u v C E c,.BP rfl⟩
theorem Yu(h:BD g aY v)(a:Fp aY=true):v=aY/\ ∃s,aY= .string s:=by cases aY<;>simp[Fp]at a;exact⟨h.O5,_,rfl⟩
theorem yk(j:Ok P o=some k)(Z:k.pure=true)(E:Cr g I A a)(r:k.ok A m=true)(id:Nat):
 ∃Ap,EP P o a w Ap w/\BD g (k.val id A m) Ap:=by
 rcases YK j with j|rfl
 rotate_left
 ·rw[si]at r;cases r
 unfold T0 at j;split at j
 ·
  rename_i x G;split at j<;>cases j;rename_i C;exact⟨_,a4h G,E.U C⟩
 ·rename_i x G;split at j<;>cases j;rename_i C;exact⟨_,a4K G,E.U C⟩
 ·
  rename_i c x y G;split at j<;>cases j;rename_i C;simp only[AF]at C;have J:=E.U C.1.1;simp only[M.ok]at r;cases F:U A c<;>simp[F,LL]at r;rw[F]at J;refine⟨_,a1G G J.Jk,?_⟩;simp only[M.val,F,Mw];split
  ·exact E.U C.1.2
  ·exact E.U C.2
 ·
  rename_i x G;split at j<;>cases j;rename_i C;have H:=E.U C;simp only[M.ok]at r;refine⟨_,a2X G ?_,H⟩;generalize U A x=aY at H r;generalize a.eval x=v at H;cases H<;>simp_all [OQ]
  grind
 ·split at j<;>cases j;simp[M.pure]at Z
 ·split at j<;>cases j;simp[M.pure]at Z
 ·
  rename_i t ps G;split at j
  ·rename_i fs z Q A0;split at j
   ·rename_i D AQ;split at j<;>cases j;rename_i B4;obtain⟨u,AR,S,AS,AT,AD,B5⟩:=P0 A0;obtain⟨AU,AV⟩:=nK _ _ AQ;simp only[M.ok]at r
    let AW:Nat->Option (Nat×Nat):= λi=>(fs[i]?).bind λ(f:Field)=>(P.info? f.type).map λu=>(f.offset,u.size)
    obtain⟨ds,N,R,AX⟩:=bP E AW ps.toList D z AR.cells ⟨AU,λi p q AY AZ=>by obtain⟨A4,A2,f,BY,Aa,Ab,B6,B7⟩:=AV i p q AY AZ;exact⟨A4,A2,by simp[AW,Aa,Ab,B6,B7]⟩⟩ (by rw[AT];exact Aw.BP g AD) (λv F=>OF (BR.1 AD v F)) r;refine⟨_,a2O (cells:=ds) G S AS Q B4 (λB8 B9=>by have:B8=AW:=funext B9;rw[this];exact N),?_⟩;have:=R.agg AX;simp only[KX]at this;exact this
   ·cases j
  ·rename_i n e z Q A0;split at j
   ·rename_i BZ Aq;split at j<;>cases j;rename_i D AQ;obtain⟨u,AR,S,AS,AT,AD,B5⟩:=P0 A0;obtain⟨Ar,AL,rfl⟩:=Km Aq;obtain⟨AU,AV⟩:=kl _ _ AQ;simp only[M.ok]at r;obtain⟨ds,N,R,AX⟩:=bP E (λi=>some (i*Ar.size,Ar.size)) ps.toList D z AR.cells ⟨AU,λi p q AY AZ=>by
     obtain⟨A4,A2,Aa,Ab⟩:=AV i p q AY AZ;exact⟨A4,A2,by simp[Aa,Ab]⟩⟩ (by rw[AT];exact Aw.BP g AD) (λv F=>OF (BR.1 AD v F)) r
    refine⟨_,a8P (cells:=ds) G S AS Q AL N,?_⟩;have:=R.agg AX;simp only[KX]at this;exact this
   ·cases j
  ·cases j
 ·repeat (split at j<;>try cases j)
  simp[M.pure]at Z
 ·repeat (split at j<;>try cases j)
  simp[M.pure]at Z
 ·repeat (split at j<;>try cases j)
  simp[M.pure]at Z
 ·
  rename_i op t x y Ba G;split at j
  ·rename_i C;simp only[AF]at C;split at j
   ·rename_i A7;split at j
    ·rename_i K A8;split at j<;>cases j;rename_i Ac;exact x5 false G rfl A8 (by simpa using Ac) A7 E C.1 C.2 r id
    ·rename_i K A8;split at j<;>cases j;rename_i Ac;exact x5 true G rfl A8 (by simpa using Ac) A7 E C.1 C.2 r id
    ·cases j
   ·cases j;exact a1y G (E.U C.1) (E.U C.2) r
  ·cases j
 ·
  rename_i op t x G;split at j<;>cases j;rename_i C;simp only[M.ok]at r;have H:=E.U C;have AL:a.eval x=U A x:=by cases O:U A x<;>cases op<;>simp[O,NZ]at r<;>rw[O]at H<;>first|exact H.Hp|exact H.Jk
  refine⟨_,yO G (by rw[AL];exact r),?_⟩;simp only[M.val,AL];exact .BP (by cases O:U A x<;>cases op<;>simp[O,NZ]at r<;>simp[QU,BJ])
 ·
  rename_i s d x G;split at j
  ·rename_i Bb k Ae Af;split at j<;>cases j;rename_i C;simp only[M.ok]at r;obtain⟨e,Bc,n,F⟩:=Jp (E.U C) r;refine⟨_,a5E G Ae Af (by rw[e,F]),?_⟩;simp only[M.val,F,Bk];exact .BP rfl
  ·rename_i Ae Af;split at j<;>cases j;rename_i C;simp only[M.ok]at r;obtain⟨e,b,F⟩:=Yu (E.U C) r;refine⟨_,a1z G Ae Af (by rw[e,F]),?_⟩;simp only[M.val,F];exact .BP rfl
  ·repeat (split at j<;>try cases j)
   simp[M.pure]at Z
  ·grind
  ·cases j
 ·repeat (split at j<;>try cases j)
  simp[M.pure]at Z
 ·
  rename_i t x A3 S As G;split at j
  ·rename_i Q;split at j<;>cases j;rename_i J;simp only[AF,S2]at J;obtain⟨⟨⟨C,A9⟩,AA⟩,rfl⟩:=J;simp only[M.ok,AF,BW]at r;obtain⟨⟨⟨⟨⟨N,R⟩,T⟩,X⟩,AE⟩,AI⟩:=r;obtain⟨e,b,F⟩:=Yu (E.U C) N;simp only[F,DS]at AE AI;refine⟨_,zt G Q (by rw[e,F]) (Qb E A9 R 0 (by simpa using X)) (Qb E AA T b.size (by omega)) (by simp;omega) (by omega),?_⟩;simp only[M.val,F,M9,DS];exact .BP rfl
  ·rename_i e Q;split at j
   ·rename_i z A0;split at j
    ·split at j<;>cases j;rename_i J;simp only[AF]at J;obtain⟨⟨C,A9⟩,AA⟩:=J;simp only[M.ok,AF,BW]at r;obtain⟨⟨⟨⟨⟨N,R⟩,T⟩,X⟩,AE⟩,AI⟩:=r;obtain⟨u,AJ,rfl⟩:=Km A0;have H:=E.U C;simp only[M.val];cases O:U A x<;>simp only[O,G9]at N<;>try cases N
     rename_i p len c;rw[O]at H;simp only[O,DS]at AE AI;cases p with
     | none=>simp only[AF,beq_iff_eq]at N;obtain⟨rfl,rfl⟩:=N;have F:=H.DF rfl;refine⟨_,y7 G Q AJ F (Qb E A9 R 0 (by simpa using X)) (Qb E AA T 0 (by omega)) (by simp;omega) (by omega),?_⟩;have Ag:(Cm A A3 (0:Nat)).toNat=0:=(by simp;omega);have A4:(Cm A S (0:Nat)).toNat=0:=(by simp;omega);rw[Ag,A4];simp only[Io,M5,ite_self];exact .BP rfl
     | some B=>
       simp only[beq_iff_eq]at N;obtain⟨l,At,cap,W,AM,F,V,Au,Av⟩:=H.Fl;obtain rfl:=N;refine⟨_,y7 G Q AJ F (Qb E A9 R 0 (by simpa using X)) (Qb E AA T len (by omega)) (by simp;omega) (by omega),?_⟩;simp only[DS];have Ah:Cm A A3 ((0:Nat):Int)=Cm A A3 0:=rfl;rw[Ah];generalize Ai:(Cm A A3 0).toNat=L;generalize Aj:(Cm A S (len:Int)).toNat=A6;have BA:L<=A6:=(by omega);have Bd:A6<=len:=(by omega);obtain⟨Ak,Ax,BB⟩: ∃Ak:Option Nat,(∀k,Ak=some k->k<=cap-L)/\(if(A3.isNone&&Kp S)=true then M5 (.slice (some B) len u.size)else Io (.slice (some B) len u.size) u.size L A6)= .slice (some ⟨B.block,B.off+L*u.size,Ak⟩) (A6-L) u.size:=by
        by_cases A0:(A3.isNone&&Kp S)=true
        ·obtain⟨BC,BE⟩:=a72 (A:=A) (d:=(len:Int)) A0;rw[BC]at Ai;rw[BE]at Aj;have BF:L=0:=(by rw[<-Ai];rfl);have BG:A6=0:=(by rw[<-Aj];rfl);refine⟨some len,λk j=>by cases j;omega,?_⟩;rw[if_pos A0,BF,BG,Nat.zero_mul];rfl
        ·refine⟨none,?_,?_⟩
         ·intro k j;cases j
         ·rw[if_neg A0];rfl
       rw[BB];by_cases AK:cap=L
       ·rw[if_pos AK];exact .slice W (.inl ⟨by omega,by omega⟩) (by omega) (by omega) λk j=>by have:=Ax k j;omega
       ·rw[if_neg AK];rcases V with⟨rfl,rfl⟩|⟨rfl,V⟩
        ·omega
        ·have A1:(⟨l.c,l.o+B.off,none⟩:Addr).add (L*u.size)=⟨l.c,l.o+(B.off+L*u.size),none⟩:=by
          unfold Addr.add
          grind
         simp only[Option.map_some,A1];refine .slice W (.inr ⟨rfl,?_⟩) (by omega) (by omega) λk j=>by have:=Ax k j;omega
         have:L*u.size+(cap-L)*u.size=cap*u.size:=(by rw[<-IQ];congr 1;omega);omega
    ·rename_i BH;split at j
     ·rename_i BI;split at j<;>cases j;rename_i J;simp only[AF]at J;obtain⟨⟨⟨C,A9⟩,AA⟩,BK⟩:=J;simp only[M.ok,AF,BW]at r;obtain⟨⟨⟨⟨⟨⟨⟨N,R⟩,T⟩,X⟩,AE⟩,AI⟩,BL⟩,Ay⟩:=r;obtain⟨u,AJ,rfl⟩:=Km A0;have H:=E.U C;simp only[M.val];obtain⟨BM,BN,AN,Az⟩:=Jp (E.U AA) T;obtain⟨em,BO,AO,B0⟩:=Jp (E.U BK) X;simp only[Az,B0,Bk]at AI BL Ay⊢;cases O:U A x<;>simp only[O,G9]at N<;>try cases N
      rename_i p len c;rw[O]at H;simp only[O,DS]at Ay;have Al:=Qb E A9 R 0 (by simpa using AE);have Ah:Cm A A3 ((0:Nat):Int)=Cm A A3 0:=rfl;rw[Ah]at Al;have B1: ∃(k:IntKind) (i:Int),a.eval BI= .int k i/\0<=i/\i.toNat=AN.toNat:=⟨BN,AN,by rw[BM,Az],by omega,rfl⟩;have B2: ∃(k:IntKind) (i:Int),a.eval BH= .int k i/\0<=i/\i.toNat=AO.toNat:=⟨BO,AO,by rw[em,B0],by omega,rfl⟩;cases p with
      | none=>simp only[AF,beq_iff_eq]at N;obtain⟨rfl,rfl⟩:=N;have F:=H.DF rfl;refine⟨_,qG G Q AJ F Al B1 B2 (by omega) (by omega) (by omega),?_⟩;have Ag:(Cm A A3 0).toNat=0:=(by omega);have A4:AN.toNat=0:=(by omega);have A2:AO.toNat=0:=(by omega);rw[Ag,A4,A2];simp only[Io];exact .BP rfl
      | some B=>
        simp only[beq_iff_eq]at N;obtain⟨l,At,cap,W,AM,F,V,Au,Av⟩:=H.Fl;obtain rfl:=N;refine⟨_,qG G Q AJ F Al B1 B2 (by omega) (by omega) (by omega),?_⟩;simp only[Io];generalize Ai:(Cm A A3 0).toNat=L;generalize Aj:AN.toNat=A6;generalize Be:AO.toNat=AB;have BA:L<=A6:=(by omega);have Bf:A6<=AB:=(by omega);have Bg:AB<=len:=(by omega);by_cases AK:AB=L
        ·rw[if_pos AK];exact .slice W (.inl ⟨by omega,by omega⟩) (by omega) (by omega)
        ·rw[if_neg AK];rcases V with⟨rfl,rfl⟩|⟨rfl,V⟩
         ·omega
         ·have A1:(⟨l.c,l.o+B.off,none⟩:Addr).add (L*u.size)=⟨l.c,l.o+(B.off+L*u.size),none⟩:=by
           unfold Addr.add
           grind
          simp only[Option.map_some,A1];refine .slice W (.inr ⟨rfl,?_⟩) (by omega) (by omega);have Bh:L*u.size+(AB-L)*u.size=AB*u.size:=(by rw[<-IQ];congr 1;omega);have Bi:AB*u.size<=cap*u.size:=KI _ (by omega);omega
     ·cases j
   ·cases j
  ·(repeat' split at j)<;>cases j
   simp[M.pure]at Z
  ·cases j
 ·
  rename_i s x i G;split at j
  ·rename_i fs Q;split at j
   ·rename_i f A8;split at j
    ·rename_i n V;split at j<;>cases j;rename_i J;simp only[AF,BW]at J;obtain⟨u,S,rfl⟩:=Km V;simp only[M.ok]at r;have H:=E.U J.1;simp only[M.val];cases O:U A x<;>simp only[O,JG]at r<;>try cases r
     rename_i p;rw[O]at H;cases p with
     |none=>cases r
     | some B=>obtain⟨l,W,AM,F⟩:=H.JW;refine⟨_,a15 G Q A8 S J.2 F,?_⟩;simp only[MS,Jr];exact .AG W
    ·cases j
   ·cases j
  ·cases j
 ·
  rename_i t x i G;split at j
  ·rename_i fs Q;split at j
   ·rename_i f A8;split at j
    ·rename_i b n hb V;split at j<;>cases j;rename_i C;obtain⟨u,S,rfl⟩:=Km V;simp only[M.ok,AF,My,BW]at r;have H:=E.U C;simp only[M.val];cases O:U A x<;>simp only[O,U1]at r<;>try cases r.1
     rename_i xs;rw[O]at H;obtain⟨ys,F,W⟩:=H.Ka;have Aq:ys.size=xs.size:=(by have:=W.1;simp at this;exact this.symm);have Bj:f.offset+u.size<=xs.size:=(by simpa using r.1);refine⟨_,a52 G Q A8 S hb F (by omega) r.2,?_⟩;simp only[Xt];cases b
     ·simp only[E3,if_false];have N:u.size=1:=(by simpa using r.2);have BQ:f.offset<xs.toList.length:=(by simp;omega);obtain⟨y,A5,BS⟩:=W.Y (AP BQ)
      grind
     ·simp only[if_true];exact((W.drop _).take _).agg λx C=>H.a2U x (QM (MY C))
    ·cases j
   ·cases j
  ·cases j
 ·
  rename_i t x i G;split at j
  ·rename_i e Q;split at j
   ·rename_i z A0;split at j<;>cases j;rename_i J;simp only[AF]at J;obtain⟨u,S,rfl⟩:=Km A0;simp only[M.ok,AF,BW]at r;obtain⟨⟨⟨N,R⟩,T⟩,X⟩:=r;obtain⟨A2,k,n,V⟩:=Jp (E.U J.2) R;have H:=E.U J.1;simp only[M.val];cases O:U A x<;>simp only[O,G9]at N<;>try cases N
    rename_i p len c;rw[O]at H;simp only[V,Bk]at T X⊢;simp only[O,DS]at X;cases p with
    | none=>
      grind
    | some B=>
      simp only[beq_iff_eq]at N;obtain⟨l,At,cap,W,AM,F,B3,Au,Av⟩:=H.Fl;rcases B3 with⟨rfl,rfl⟩|⟨rfl,B3⟩
      ·omega
      ·refine⟨_,a2i G Q S F (by rw[A2,V]) T X,?_⟩;simp only[PE,Jr];exact .AG W
   ·cases j
  ·rename_i len e Q;split at j
   ·rename_i z A0;split at j<;>cases j;rename_i J;simp only[AF]at J;obtain⟨u,S,rfl⟩:=Km A0;simp only[M.ok,AF,BW]at r;obtain⟨⟨⟨N,R⟩,T⟩,X⟩:=r;obtain⟨A2,k,n,V⟩:=Jp (E.U J.2) R;have H:=E.U J.1;simp only[M.val];cases O:U A x<;>simp only[O,JG]at N<;>try cases N
    rename_i p;rw[O]at H;simp only[V,Bk]at T X⊢;cases p with
    |none=>cases N
    | some B=>obtain⟨l,W,AM,F⟩:=H.JW;refine⟨_,a3o G Q S F (by rw[A2,V]) T X,?_⟩;simp only[MS,Jr];exact .AG W
   ·cases j
  ·cases j
 ·
  rename_i t x i G;split at j
  ·rename_i Q;split at j<;>cases j;rename_i J;simp only[AF]at J;simp only[M.ok,AF,BW]at r;obtain⟨⟨⟨N,R⟩,T⟩,X⟩:=r;obtain⟨A4,b,F⟩:=Yu (E.U J.1) N;obtain⟨A2,k,n,V⟩:=Jp (E.U J.2) R;simp only[V,Bk]at T X;simp only[F,DS]at X;refine⟨_,a0R G Q (by rw[A4,F]) (by rw[A2,V]) T X,?_⟩;simp only[M.val,F,V,M9,Bk];exact .BP rfl
  ·cases j
 ·
  rename_i x i G;split at j<;>cases j;rename_i C;have H:=E.U C;simp only[M.ok]at r;simp only[M.val];cases O:U A x<;>simp only[O,SK]at r<;>try cases r
  rename_i xs;rw[O]at H;obtain⟨ys,F,W⟩:=H.Q9;have S:i<xs.toList.length:=(by simpa using r);obtain⟨y,A5,BS⟩:=W.Y (AP S);have BT:i<ys.size:=(by have:=W.1;simp at this S;omega);refine⟨_,aBT G F BT,?_⟩;rw[F];simp only[RH]
  simp_all
 ·
  rename_i t x G;split at j
  ·cases j
  ·rename_i d Am An;split at j<;>cases j;rename_i C;refine⟨.iface t (a.eval x),.inl ?_,.iface (E.U C)⟩;cases d<;>first|exact absurd rfl (Am _)|simp[execOp,G,Instr.makeInterface,underlying,An]
  ·cases j
 ·
  rename_i x t0 t ok G;split at j
  ·cases j
  ·rename_i d Am An;split at j<;>cases j;rename_i C;simp only[AF,JQ]at C;obtain⟨C,rfl⟩:=C;have H:=E.U C;simp only[M.ok]at r;simp only[M.val];cases O:U A x<;>simp only[O,VF]at r<;>try cases r
   rename_i Bl v;have:=of_decide_eq_true r;subst this;rw[O]at H;obtain⟨y,F,A5⟩:=H.UA;refine⟨y,.inl ?_,A5⟩;cases d<;>first|exact absurd rfl (Am _)|simp[execOp,G,Instr.typeAssert,underlying,An,F]
  ·cases j
 ·repeat (split at j<;>try cases j)
  simp[M.pure]at Z
 ·repeat (split at j<;>try cases j)
  simp[M.pure]at Z
 ·repeat (split at j<;>try cases j)
  simp[M.pure]at Z
 ·
  rename_i fn x y G;split at j<;>cases j;rename_i J;simp only[AF]at J;refine⟨_,aDE G,?_⟩;simp only[M.val];have BU:=Sc E _ J.1;have BV:=Sc E _ J.2;exact .func (by simp) (by simpa using BU.2) (by simp) (by simpa using BV.2)
 ·
  rename_i c G;unfold VU at j;split at j
  ·split at j<;>cases j;simp[M.pure]at Z
  ·repeat (split at j<;>try cases j)
   simp[M.pure]at Z
  ·repeat (split at j<;>try cases j)
   simp[M.pure]at Z
  ·rename_i J;split at j
   ·rename_i x t A1 A7;split at j
    ·rename_i Q;split at j<;>cases j;rename_i C;simp only[M.ok]at r;obtain⟨e,b,F⟩:=Yu (E.U C) r;refine⟨_,a3h G J A1 A7 Q (by rw[e,F]),?_⟩;simp only[M.val,F,DS];exact .BP rfl
    ·rename_i e Q;split at j<;>cases j;rename_i C;simp only[M.ok]at r;have H:=E.U C;simp only[M.val];cases O:U A x<;>simp only[O,KP]at r<;>try cases r
     rename_i p len c;rw[O]at H;have F: ∃q cap,a.eval x= .slice q len cap:=by
      cases p with
      | none=>
        refine⟨none,c,?_⟩;generalize a.eval x=v at H;cases H with
        |BP h=>rfl
      |some B=>obtain⟨_,_,_,_,_,h,_⟩:=H.Fl;exact⟨_,_,h⟩
     obtain⟨q,cap,F⟩:=F;exact⟨_,a54 G J A1 A7 Q F,.BP rfl⟩
    ·cases j
   ·cases j
  ·(repeat' split at j)<;>cases j<;>simp[M.pure]at Z
  ·rename_i J;split at j
   ·rename_i x xs A1;split at j<;>cases j;rename_i C;simp only[AF]at C;simp only[M.ok,AF]at r;have N:=Jp (E.U C.1) r.1;have R: ∀y∈xs,Bp (a.eval y)=true:= λy A5=>by
     have:=BR.1 r.2 y A5;rw[(Jp (E.U (BR.1 C.2 y A5)) this).1];exact this
    refine⟨_,y0 (gE:=false) G (by simpa using J) A1 (by rw[N.1];exact r.1) R,?_⟩;rw[gA false E xs _ C.2 r.2,N.1];simp only[M.val];have T:=lC (A:=A) false xs (U A x) r.1 r.2;exact .BP (tN T)
   ·cases j
  ·rename_i J;split at j
   ·rename_i x xs A1;split at j<;>cases j;rename_i C;simp only[AF]at C;simp only[M.ok,AF]at r;have N:=Jp (E.U C.1) r.1;have R: ∀y∈xs,Bp (a.eval y)=true:= λy A5=>by
     have:=BR.1 r.2 y A5;rw[(Jp (E.U (BR.1 C.2 y A5)) this).1];exact this
    refine⟨_,y0 (gE:=true) G (by simpa using J) A1 (by rw[N.1];exact r.1) R,?_⟩;rw[gA true E xs _ C.2 r.2,N.1];simp only[M.val];have T:=lC (A:=A) true xs (U A x) r.1 r.2;exact .BP (tN T)
   ·cases j
  ·
   rename_i J;split at j
   ·rename_i x t A1 A7;split at j
    ·rename_i e Q;split at j<;>cases j;rename_i C;have H:=E.U C;simp only[M.ok]at r;have O:U A x= .slice none 0 0:=cO r;rw[O]at H;exact⟨_,a3l G J A1 A7 Q (H.DF rfl),.BP rfl⟩
    ·cases j
   ·cases j
  ·(repeat' split at j)<;>cases j<;>simp[M.pure]at Z
  ·cases j
 ·cases j
theorem kD(v:Value):v.oneCell'=F v:=by cases v<;>rfl
variable {P:Program} {w G:World} {g:Ren} {m:X} {aH:Nat}
def DN(g:Ren)(id:Nat)(l:Pj):Ren:= λb=>if b=id then some l else g b
theorem LM{id:Nat}(h:g id=none):CY g (DN g id l):=by
 intro b a hb
 grind [DN]
theorem ll(c o j:Nat):(⟨c,o,none⟩:Addr).add j=⟨c,o+j,none⟩:=by unfold Addr.add;split<;>simp_all
theorem BF.cells(k:BF aH g m w){x:CC}(d:m.Y b=some x)(p:g b=some l)(h:off+n<=x.cells.length):
 ∃ds:List Value,Aw g (C3 m b off n) ds/\ds.length=n/\(∀j aY,ds[j]?=some aY->w.cell? ((⟨l.c,l.o+off,none⟩:Addr).add j)=some aY)/\(∀aY∈ds,aY.oneCell'=true):=by
 obtain⟨y,e,z,q,_⟩:=k.GK b x d;rw[p]at e;cases e;have key: ∀j,j<n-> ∃v a,x.cells[off+j]?=some v/\F v=true/\w.cell? ⟨l.c,l.o+(off+j),none⟩=some a/\BD g v a:=by
  intro j f;have r:off+j<x.cells.length:=(by omega);obtain⟨A,a,B,C⟩:=q (off+j) _ (AP r)
  simp_all
 refine⟨(List.range n).map λj=>(w.cell? ⟨l.c,l.o+(off+j),none⟩).getD undef,⟨?_,?_⟩,by simp,?_,?_⟩
 ·simp[C3,d];omega
 ·grind [C3]
 ·grind [ll]
 ·intro aY i;simp only[CG,G3]at i;obtain⟨j,f,rfl⟩:=i;obtain⟨D,E,G,s,t,u⟩:=key j f;rw[t];simp only[Jb,kD];rw[u.F];exact s
theorem BF.wK(d:BF aH g m w){id C o:Nat}(M:id<m.ac)(K:g id=none)
 (s: ∀b x l,m.Y b=some x->g b=some l->l.c≠C) (N:w.heap.size<=G.heap.size) (O:C<G.heap.size) (P:aH<=C)
 (Q: ∀a:Addr,a.block<w.heap.size->a.block≠C->G.cell? a=w.cell? a/\G.frozen? a=w.frozen? a)
 (L: ∀k,k<w.heap.size->k≠C->G.heap[k]?=w.heap[k]?)
 (R:cs.length<=n) (S: ∀i v,cs[i]?=some v->F v=true/\ ∃p,G.cell? ⟨C,o+i,none⟩=some p/\BD g v p)
 (T: ∀i,i<n->(G.cell? ⟨C,o+i,none⟩).isSome=true/\G.frozen? ⟨C,o+i,none⟩=false) (AB:Iq G C):
 BF aH (DN g id ⟨C,o,n⟩) (m.A1 id (some ⟨cs,true⟩)) G:=by
 have q:=LM (l:=⟨C,o,n⟩) K;refine⟨λb l hb=> ?_,λb l hb=> ?_,λb x f=> ?_,λb x U V l W t Z u A0 y z=> ?_,λb es hb=> ?_,λb es hb=> ?_,λb x l f A h=> ?_⟩
 ·unfold DN at hb;split at hb
  ·rename_i e;rw[e];exact M
  ·exact d.Gc b l hb
 ·unfold DN at hb;split at hb
  ·cases hb;exact O
  ·exact GV (d.Gh b l hb) N
 ·rw[X.GJ]at f;split at f
  ·rename_i e;cases f;exact⟨⟨C,o,n⟩,by simp[DN,e],R,λi v B=>by obtain⟨D,p,E,H⟩:=S i v B;exact⟨D,p,E,H.AD q⟩,λ_=>⟨P,T⟩⟩
  ·obtain⟨l,j,r,A2,A3⟩:=d.GK b x f;have A4:=d.Gh b l j;have I:=s b x l f j;refine⟨l,q _ _ j,r,λi v B=> ?_,λA=>⟨(A3 A).1,λi AE=> ?_⟩⟩
   ·obtain⟨D,p,E,H⟩:=A2 i v B;exact⟨D,p,by rw[(Q _ A4 I).1];exact E,H.AD q⟩
   ·simp_all
 ·rw[X.GJ]at t u;unfold DN at y z;split at t
  ·grind
  ·rename_i e;rw[if_neg e]at y;split at u
   ·grind
   ·rename_i A5;rw[if_neg A5]at z;exact d.LQ b x U V l W t Z u A0 y z
 ·obtain⟨l,h⟩:=d.NO b es hb;exact⟨l,q _ _ h⟩
 ·obtain⟨j,r⟩:=X.MK hb;have I:b≠id:= λe=>by
   subst e;obtain⟨l,h⟩:=d.NO b es r;rw[K]at h;cases h
  rw[X.GJ,if_neg I]at j;obtain⟨l,A6,A7,J,A8,A9,AA⟩:=d.maps b es (X.Ec j r);exact⟨l,A6,A7,q _ _ J,A8,by rw[L l.c (d.Gh b l J) (s b _ l j J)];exact A9,AA.AD q⟩
 ·rw[X.GJ]at f;unfold DN at h;split at f
  ·grind
  ·rename_i e;rw[if_neg e]at h;exact(d.Nw b x l f A h).TM (L l.c (d.Gh b l h) (s b x l f h))
theorem BF.EC(c:BF aH g m w)(b:Nat):BF aH g (m.A1 b none) w:=by
 have d: ∀a x,(m.A1 b none).Y a=some x->a≠b/\m.Y a=some x:=by
  grind [X.GJ]
 exact⟨c.Gc,c.Gh,λa x j=>c.GK a x (d a x j).2,λe f k l h n i o p=>c.LQ e f k l h n (d _ _ i).2 o (d _ _ p).2,c.NO,λa es hb=>by obtain⟨q,r⟩:=X.MK hb;exact c.maps a es (X.Ec (d _ _ q).2 r),λe f h i=>c.Nw e f h (d _ _ i).2⟩
theorem fl(b k:Nat)(c:k≠b): ∀(a:List Value) (o:Nat) (w:World),(w.setCells b o a).heap[k]?=w.heap[k]?
 |[],_,_=>rfl
 |v::a,o,w=>by rw[World.setCells,fl b k c a];simp[World.setCell,Array.getElem?_modify,Ne.symm c]
theorem Z0(b:Nat): ∀(a:List Value) (o:Nat) (w:World),(w.setCells b o a).heap.size=w.heap.size
 |[],_,_=>rfl
 |v::a,o,w=>by rw[World.setCells,Z0 b a];simp[World.setCell]
theorem VK{aH:Nat}(hb:aH<=b): ∀(a:List Value) (o:Nat) (w:World),Below aH w (w.setCells b o a)
 |[],_,_=>Below.refl _ _
 |v::a,o,w=>((Below.refl aH w).setCell (p:=⟨b,o,none⟩) hb v).trans (VK hb a _ _)
theorem wC: ∀(a:List Value) (off:Nat) (cs:List Value) (i:Nat),off+a.length<=cs.length->(CV cs off a)[i]?=if off<=i/\i<off+a.length then a[i-off]? else cs[i]?
 |[],off,cs,i,_=>by simp[CV];intro b c;omega
 | v::a,off,cs,i,h=>by
   simp only[CV];simp only[DZ]at h;rw[wC a (off+1) (cs.set off v) i (by simp;omega),Ih]
   grind
theorem BF.store(p:BF aH g m w){x:CC}(t:m.Y b=some x)(r:x.own=true)(D:g b=some l){n:List Value}(T:Aw g cs n)(A6: ∀v∈cs,F v=true)
 (h:off+cs.length<=x.cells.length):BF aH g (m.A1 b (some ⟨CV x.cells off cs,x.own⟩)) (w.setCells l.c (l.o+off) n):=by
 have hb:=X.E t;have A7:=T.1;obtain⟨q,u,A8,A9,J⟩:=p.GK b x t;rw[D]at u;cases u;have U: ∀a f K,m.Y a=some f->a≠b->g a=some K->K.c≠l.c:= λa f K N O P=>Ne.symm (p.LQ b x a f l K t r N (Ne.symm O) D P);refine⟨p.Gc,λa q AA=>by rw[Z0];exact p.Gh a q AA,λa f d=> ?_,λV AB W AD AE z N O P AF AI AJ=> ?_,p.NO,λa es AK=> ?_,λa f q d AL u=> ?_⟩
 ·rw[X.GJ]at d;split at d
  ·rename_i e;cases d;subst e;refine⟨l,D,by rw[W2];exact A8,λi v s=> ?_,λ_=>⟨(J r).1,λi G=> ?_⟩⟩
   ·rw[wC _ _ _ _ h]at s;split at s
    ·rename_i G;obtain⟨aY,L,AM⟩:=T.Y s;refine⟨A6 v (B5 s),aY,?_,AM⟩;have Z:i-off<n.length:=(by omega);have:=World.cell?_setCells_in l.c n (l.o+off) w (λj AN=>by
      have:=((J r).2 (off+j) (by omega)).1
      rwa [<-Jr]at this) (i-off) Z
     rw[show l.o+off+(i-off)=l.o+i by omega]at this;rw[this];rw[AP Z]at L;exact L
    ·rename_i G;obtain⟨k,AO,A,Q⟩:=A9 i v s;refine⟨k,AO,?_,Q⟩;rw[World.cell?_setCells_out l.c n (l.o+off) w _ (λ_ _=>by show l.o+i<l.o+off\/l.o+off+n.length<=l.o+i;omega)];exact A
   ·have A0:=(J r).2 i G;refine⟨?_,by rw[World.frozen?_setCells];exact A0.2⟩;by_cases AU:off<=i/\i<off+n.length
    ·have:=World.cell?_setCells_in l.c n (l.o+off) w (λj AN=>by
      have:=((J r).2 (off+j) (by omega)).1
      rwa [<-Jr]at this) (i-off) (by omega)
     rw[show l.o+off+(i-off)=l.o+i by omega]at this;rw[this];rfl
    ·rw[World.cell?_setCells_out l.c n (l.o+off) w _ (λ_ _=>by show l.o+i<l.o+off\/l.o+off+n.length<=l.o+i;omega)];exact A0.1
  ·rename_i e;obtain⟨q,k,A,Q,A2⟩:=p.GK a f d;have AQ:=U a f q d e k;have B: ∀i,(w.setCells l.c (l.o+off) n).cell? ⟨q.c,q.o+i,none⟩=w.cell? ⟨q.c,q.o+i,none⟩:= λi=>World.cell?_setCells_out _ _ _ _ _ (λAR _=>absurd AR AQ);refine⟨q,k,A,λi v s=>by rw[B];exact Q i v s,λA3=>⟨(A2 A3).1,λi G=>by rw[B,World.frozen?_setCells];exact(A2 A3).2 i G⟩⟩
 ·have A4: ∀a f,(m.A1 b (some ⟨CV x.cells off cs,x.own⟩)).Y a=some f-> ∃A5,m.Y a=some A5/\A5.own=f.own:=by
   intro a f d;rw[X.GJ]at d;split at d
   ·rename_i e;cases d;exact⟨x,by rw[e];exact t,rfl⟩
   ·exact⟨f,d,rfl⟩
  obtain⟨AS,C,H⟩:=A4 V AB N;obtain⟨AT,I,M⟩:=A4 W AD P;exact p.LQ V AS W AT AE z C (by rw[H];exact O) I AF AI AJ
 ·obtain⟨k,A⟩:=X.MK AK;rw[X.GJ]at k;by_cases e:a=b
  ·subst e;rw[if_pos rfl,if_pos hb]at k;injection k with k;have B:x.cells=[]:=by
    have:=congrArg (λy=>y.cells.length) k;simp only[W2,KC]at this;exact Ii.1 this
   have L:n=[]:=(by rw[B]at h;simp at h;exact Ii.1 (by rw[<-A7,h.2];rfl));subst L;have d:x=⟨[],true⟩:=(by cases x;simp at B r;rw[B,r]);obtain⟨z,R,S,C,H,I,M⟩:=p.maps a es (X.Ec (by rw[t,d]) A);exact⟨z,R,S,C,H,I,M⟩
  ·rw[if_neg e]at k;obtain⟨z,R,S,C,H,I,M⟩:=p.maps a es (X.Ec k A);exact⟨z,R,S,C,H,by rw[fl _ _ (U a _ z k e C)];exact I,M⟩
 ·rw[X.GJ]at d;split at d
  ·rename_i e;subst e;rw[D]at u;cases u;exact(p.Nw a x l t r D).setCells _ _ _
  ·exact(p.Nw a f q d AL u).setCells _ _ _
def J2(P:Program)(o:Oper)(k:M)(a:Act)(aH:Nat)(g:Ren)(A:A2)(m:X)(w:World)(id:Nat):Prop:=
 ∃d G c,EP P o a w d G/\CY g c/\(∀b,b≠id->c b=g b)/\BD c (k.val id A m) d/\BF aH c (k.Cj id A m) G/\Below aH w G
variable {P:Program} {w:World} {o:Oper} {a:Act} {g:Ren} {I:Nat} {A:A2} {m:X} {aH id:Nat}
theorem NY: ∀b,b≠id->DN g id l b=g b:= λb h=>by simp[DN,h]
theorem BF.Rc(d:BF aH g m w)(c:b9.heap=w.heap)(h:aH<=w.heap.size)(j:id<m.ac)(o:g id=none){a:Nat×Nat}
 (p:cs.length<=n) (u:n<=ds.size) (y: ∀(i:Nat) v,cs[i]?=some v->F v=true/\ ∃f,ds[i]?=some f/\BD g v f) (z: ∀i,i<n-> ¬(a.1<=i/\i<a.2)) (q: ¬(a.1<=ds.size/\ds.size<a.2):=by simp):
 BF aH (DN g id ⟨w.heap.size,0,n⟩) (m.A1 id (some ⟨cs,true⟩)) (b9.alloc (.cells ds e a)):=by
 have A:(b9.alloc (.cells ds e a)).heap.size=w.heap.size+1:=by show(b9.heap.push _).size=_;rw[Array.size_push,c]
 have r:(b9.alloc (.cells ds e a)).heap[w.heap.size]?=some (.cells ds e a):=by show(b9.heap.push _)[_]?=_;rw[c];simp
 refine d.wK j o (λb x l C s=>by have:=d.Gh b l s;omega) (by omega) (by omega) h (λB t D=> ?_) (λk t _=>by show(b9.heap.push _)[k]?=_;rw[c,Array.getElem?_push,if_neg (by omega)]) p (λi v E=> ?_) (λi G=> ?_) (Iq.zW r q)
 ·have:(b9.alloc (.cells ds e a)).heap[B.block]?=w.heap[B.block]?:=by
   show(b9.heap.push _)[_]?=_
   grind
  grind [World.cell?_of_block,World.frozen?_of_block]
 ·grind [World.cell?]
 ·grind [World.cell?,World.frozen?]
theorem N4(a:b9.heap=w.heap)(b:b9.os=w.os)(c:b9.tape=w.tape)(d:b9.output=w.output)(e:aH<=w.heap.size)(x:Obj):Below aH w (b9.alloc x):=by have:Below aH w b9:=⟨b,c,d,by rw[a];exact Aj _,λk _=>by rw[a]⟩;exact this.alloc (by rw[a];exact e) x
theorem lO(h:Aw g cs ds.toList)(c: ∀v∈cs,F v=true): ∀(i:Nat) v,cs[i]?=some v->F v=true/\ ∃a,ds[i]?=some a/\BD g v a:=by
 intro i v b;obtain⟨y,d,e⟩:=h.Y b
 grind
theorem zI(q:o.op= .alloc e)(h:Iv P e=some z)(j:BF aH g m w)(b:aH<=w.heap.size)(k:id<m.ac)(c:g id=none):J2 P o (.It z) a aH g A m w id:=by
 obtain⟨u,n,r,s,d,f,t⟩:=P0 h;refine⟨.pointer (some ⟨w.heap.size,0,none⟩),w.alloc (.cells n.cells e),DN g id ⟨w.heap.size,0,z.length⟩,.inl ?_,LM c,NY,?_,?_,N4 rfl rfl rfl rfl b _⟩
 ·simp_all [execOp,Instr.alloc,zeroValue,typeInfo,newVar,newRow]
 ·exact .AG (off:=0) (l:=⟨w.heap.size,0,z.length⟩) (by simp[DN])
 ·refine j.Rc rfl b k c (Aj _) (by rw[<-d];simp) (lO (by rw[d];exact Aw.BP g f) λv p=>OF (BR.1 f v p)) (λi _=>by simp)
theorem a84(q:o.op= .box e x)(b:Ay x=true)(c:Cr g I A a)(j:(M.Ja x).ok A m=true)(k:BF aH g m w)(d:aH<=w.heap.size)(n:id<m.ac)(f:g id=none):J2 P o (.Ja x) a aH g A m w id:=by
 have h:=fR (c.U b);have p:=lL (c.U b) j;have r:(a.eval x).cells.size=(H (U A x)).length:=by have:=h.1;simp at this;exact this.symm
 refine⟨.pointer (some ⟨w.heap.size,0,none⟩),w.alloc (.cells (a.eval x).cells e),DN g id ⟨w.heap.size,0,(H (U A x)).length⟩,.inl ?_,LM f,NY,?_,?_,N4 rfl rfl rfl rfl d _⟩
 ·simp_all [execOp,Instr.box,newVar,newRow]
 ·exact .AG (off:=0) (l:=⟨w.heap.size,0,(H (U A x)).length⟩) (by simp[DN])
 ·exact k.Rc rfl d n f (Aj _) (by omega) (lO h p) (λi _=>by simp)
theorem bV(h:Bj m v n=true): ∃b off x,v= .pointer (some ⟨b,off,none⟩)/\m.Y b=some x/\off+n<=x.cells.length:=by
 unfold Bj at h;split at h
 ·rename_i B;simp only[AF,S2]at h;obtain⟨a,h⟩:=h;split at h
  ·rename_i x c;obtain⟨b,off,d⟩:=B;simp only at a c h;subst a
   grind
  ·cases h
 ·cases h
theorem lA{ds:List Value}(c:IP P t=some J)(e:FZ P t=some n)(f:J=true\/n=1)(a:ds.length=n)(b: ∀(j:Nat) aY,ds[j]?=some aY->w.cell? (B.add j)=some aY):
 (loadVar t B).run P w= .ok (if J then .agg ds.toArray else ds.headD undef) w:=by
 obtain⟨u,g,rfl⟩:=Km e;simp only[loadVar,Sem.run_bind,dj c,Result.andThen_ok];cases J
 ·have h:u.size=1:=(by simpa using f);rw[h]at a;obtain⟨d,rfl⟩:=NI a;have i:=b 0 d rfl
  grind [Addr.add,Go.load,Sem.run]
 ·simp only[if_true,Sem.run_bind,sizeOf,typeInfo,run_program,g,Sem.run_pure,Result.andThen_ok];have:=run_loadCells_list (P:=P) w B ds b
  simp_all
theorem ix{f:Value}(h:BF aH g m w)(p:BD g v f)(q:Bj m v n=true)(r:J=true\/n=1):
 ∃(B:Addr) (ds:List Value),f= .pointer (some B)/\ds.length=n/\(∀(j:Nat) aY,ds[j]?=some aY->w.cell? (B.add j)=some aY)/\BD g (Co m J n v) (if J then .agg ds.toArray else ds.headD undef):=by
 obtain⟨b,off,x,rfl,e,s⟩:=bV q;obtain⟨l,t,_,rfl⟩:=p.JW;obtain⟨ds,a,k,u,D⟩:=h.cells e t s;refine⟨_,ds,rfl,k,u,?_⟩;simp only[Co];cases J
 ·have y:n=1:=(by simpa using r);subst y;obtain⟨d,rfl⟩:=NI k;simp only[E3,if_false,List.headD_cons];have o:=a.1;simp only[DZ,KC]at o;obtain⟨aY,c⟩:=NI o;rw[c]at a⊢;exact a.2 0 aY d rfl rfl
 ·refine a.agg λaY c=> ?_;obtain⟨E,F,G,z,H⟩:=h.GK b x e;simp only[C3,e]at c;obtain⟨i,A,C⟩:=E5 (QM (MY c));exact(z i aY (by rw[AP A,C])).1
theorem aAF(h:o.op= .load t x)(i:IP P t=some J)(j:FZ P t=some n)(d:Ay x=true)(e:Cr g I A a)(c:BF aH g m w)
 (b:(M.EO J n x).ok A m=true):J2 P o (.EO J n x) a aH g A m w id:=by
 simp only[M.ok,AF,My,BW]at b;obtain⟨B,ds,k,l,p,f⟩:=ix c (e.U d) b.1 b.2;refine⟨_,w,g,.inl ?_,CY.refl g,λ_ _=>rfl,f,c,Below.refl _ _⟩
 grind [execOp,Instr.loadAt,Instr.sureAddr,Sem.run_bind,Sem.run_pure,Result.andThen_ok,lA]
theorem a66{k d p:Option Operand}{z:Nat}(B:o.op= .slice t x k d p)(h:P.underlying t=some (.array n e))(C:FZ P e=some z)
 (D:Ay x=true) (E:k=none) (F:d=none) (G:p=none) (H:Cr g I A a) (q:BF aH g m w) (f:(M.NH z n x).ok A m=true):J2 P o (.NH z n x) a aH g A m w id:=by
 subst E F G;simp only[M.ok,AF,BW]at f;obtain⟨f,L⟩:=f;obtain⟨b,off,y,r,J,N⟩:=bV f;have s:=H.U D;rw[r]at s;obtain⟨l,i,_,K⟩:=s.JW;obtain⟨u,d,rfl⟩:=Km C;obtain⟨O,v,Q,R,S⟩:=q.GK b y J;rw[i]at v;cases v;refine⟨_,w,g,aBu B h d K,CY.refl g,λ_ _=>rfl,?_,q,Below.refl _ _⟩;simp only[M.val,r,We];by_cases j:n=0
 ·rw[if_pos j];subst j;exact .slice i (.inl ⟨rfl,rfl⟩) (Aj _) (by omega)
 ·rw[if_neg j];have h:(⟨l.c,l.o+off,none⟩:Addr).add (0*u.size)=⟨l.c,l.o+off,none⟩:=by
   unfold Addr.add;simp
  rw[h];exact .slice i (.inr ⟨rfl,by simp only[Nat.sub_zero];omega⟩) (Aj _) (by omega)
theorem a71{v:Operand}(V:o.op= .store t x v)(G:FZ P t=some n)(J:Ay x=true)(r:Ay v=true)(h:Cr g I A a)(s:BF aH g m w)
 (z:(M.store n x v).ok A m=true):J2 P o (.store n x v) a aH g A m w id:=by
 simp only[M.ok,AF,BW]at z;obtain⟨⟨⟨K,L⟩,N⟩,W⟩:=z;have O:=lL (h.U r) N;obtain⟨b,off,y,k,d,X⟩:=bV K;have B:=h.U J;rw[k]at B;obtain⟨l,C,_,Y⟩:=B.JW;have e:y.own=true:=by simpa[k,Gi,d]using L
 have f:=fR (h.U r);obtain⟨u,Z,rfl⟩:=Km G;have A0:(a.eval v).cells.size=u.size:=by have:=f.1;simp at this;omega
 obtain⟨A1,D,A2,A3,p⟩:=s.GK b y d;rw[C]at D;cases D;have Q: ∀aY∈(a.eval v).cells.toList,aY.oneCell'=true:=by
  intro aY R;obtain⟨i,E,S⟩:=E5 R;have T:i<(H (U A v)).length:=(by rw[f.1];exact E);have:=(f.2 i _ aY (AP T) (by rw[AP E,S])).F;rw[kD,this]
  simp_all
 refine⟨undef,w.setCells l.c (l.o+off) (a.eval v).cells.toList,g,.inr ⟨?_,rfl⟩,CY.refl g,λ_ _=>rfl,BD.undef g,?_,VK (p e).1 _ _ _⟩
 ·have A4:=run_storeCells_cells (P:=P) l.c (l.o+off) (a.eval v).cells.toList 0 w (λj q=>by
   have:=((p e).2 (off+j) (by simp at q;omega)).1
   rwa [<-Jr]at this) (λj q=>by
   have:=((p e).2 (off+j) (by simp at q;omega)).2
   rwa [<-Jr]at this) Q
  simp_all [execOp,Instr.storeAt,Instr.sureAddr,storeVar,sizeOf,typeInfo]
 ·simp only[M.Cj,k,Fj,d];exact s.store d e C f O (by omega)
theorem jX(b:0<z.length): ∀(n i:Nat),i<n*z.length->((List.replicate n z).flatten)[i]?=z[i%z.length]?
 |0,i,h=>by omega
 | n+1,i,h=>by
   rw[QY,I2,Mk];split
   ·rename_i a;rw[Nat.mod_eq_of_lt a]
   ·rename_i a;have c:i-z.length<n*z.length:=(by rw[IQ]at h;omega);rw[jX b n _ c,Nat.mod_eq_sub_mod (by omega:z.length<=i)]
theorem RN(z:List Value)(n:Nat):((List.replicate n z).flatten).length=n*z.length:=by simp[List.length_flatten]
theorem dd{z:Array Value}(a:0<z.size)(n:Nat):(madeCells z (n*z.size)).toList=(List.replicate n z.toList).flatten:=by
 apply Mi
 grind [jX,madeCells,RN]
theorem Zt(p:Value->Prop)(h: ∀v∈z,p v)(n:Nat): ∀v∈(List.replicate n z).flatten,p v:=by
 simp_all
variable {P:Program} {w:World} {o:Oper} {a:Act} {g:Ren} {I:Nat} {A:A2} {m:X} {aH id:Nat}
theorem a3Q(H:o.op= .buildSlice t n ps)(J:P.underlying t=some (.slice e))(K:Iv P e=some z)
 (d:R4 z.length ps.toList=some D) (L:0<z.length) (A7:n*z.length<=16777216) (N:Cr g I A a) (O:BF aH g m w) (r:aH<=w.heap.size) (Q:id<m.ac) (s:g id=none)
 (y:(M.Hg z.length n (List.replicate n z).flatten D).ok A m=true):J2 P o (.Hg z.length n (List.replicate n z).flatten D) a aH g A m w id:=by
 obtain⟨u,b,B,R,C,S,f⟩:=P0 K;obtain⟨T,U⟩:=kl _ _ d;have E:b.cells.size=u.size:=by rw[<-f,<-C];simp
 have V:(madeCells b.cells (n*b.cells.size)).toList=(List.replicate n z).flatten:=by rw[dd (by omega),C]
 have F: ∀v∈(List.replicate n z).flatten,BJ v=true:=Zt (λv=>BJ v=true) (λv h=>BR.1 S v h) n;simp only[M.ok]at y;obtain⟨ds,c,G,W⟩:=bP N (λi=>some (i*u.size,u.size)) ps.toList D (List.replicate n z).flatten (madeCells b.cells (n*b.cells.size)) ⟨T,λi p q X d=>by obtain⟨Y,Z,A0,A1⟩:=U i p q X d;exact⟨Y,Z,by rw[A0,A1,f]⟩⟩ (by rw[V];exact Aw.BP g (BR.2 F)) (λv h=>OF (F v h)) y;have A8:(GS (List.replicate n z).flatten A D).length=ds.size:=by have:=G.1;simpa using this
 have A9:(GS (List.replicate n z).flatten A D).length=n*z.length:=by
  have key: ∀(D:List (Nat×Nat×Operand)) (cs:List Value),(GS cs A D).length=cs.length:=by
   intro D;induction D with
   |nil=>intro cs;rfl
   |cons q D A2=>intro cs;obtain⟨AA,AB,AD⟩:=q;simp only[GS];rw[A2,W2]
  rw[key,RN]
 refine⟨.slice (some ⟨w.heap.size,0,none⟩) n n,w.alloc (.cells ds e),DN g id ⟨w.heap.size,0,ds.size⟩,.inl ?_,LM s,NY,?_,?_,N4 rfl rfl rfl rfl r _⟩
 ·have A3:(ps.map λp=>(p.1,a.eval p.2)).toList=ps.toList.map λp=>(p.1,a.eval p.2):=by simp
  have A4:(zeroValue e).run P w= .ok b w:=(by simp[zeroValue,typeInfo,B,R]);have A5: ¬(2^24<n*u.size):=(by rw[<-f];omega);rw[<-A3]at c;simp only[execOp,H,Instr.buildSlice,Sem.run_bind,run_underlying J,sizeOf,typeInfo,run_program,B,Sem.run_pure,Result.andThen_ok,gt_iff_lt,A5,if_false,Sem.run_ite];by_cases j:n*u.size=0
  ·have k:madeCells b.cells (n*b.cells.size)= #[]:=(by rw[E,j];simp[madeCells]);rw[k]at c;simp only[j,if_true];have A6:Array.map (λx=>(#[]:Array Value)[x%(#[]:Array Value).size]!) (Array.range 0)= #[]:=(by simp);rw[A6,c];simp only[newRow,Sem.run_bind];rfl
  ·have k:Array.map (λx=>b.cells[x%b.cells.size]!) (Array.range (n*u.size))=madeCells b.cells (n*b.cells.size):=(by unfold madeCells;rw[E]);simp only[j,if_false,A4,Result.andThen_ok,k,c];simp only[newRow,Sem.run_bind];rfl
 ·exact .slice (off:=0) (l:=⟨w.heap.size,0,ds.size⟩) (by simp[DN]) (.inr ⟨rfl,by show 0+n*z.length<=ds.size;omega⟩) (Aj _) (by have:n*1<=n*z.length:=Nat.mul_le_mul_left _ L;unfold maxLen;omega)
 ·simp only[M.Cj];exact O.Rc rfl r Q s (by omega) (Aj _) (lO G W) (λi _=>by simp)
theorem a7J{l c:Operand}(E:o.op= .makeSlice t l c)(F:P.underlying t=some (.slice e))(G:Iv P e=some z)(f:P.info? e=some u)(H:Ay l=true)(J:Ay c=true)
 (h:Cr g I A a) (K:BF aH g m w) (j:aH<=w.heap.size) (N:id<m.ac) (k:g id=none)
 (n:(M.IZ z.length u.bytes z l c).ok A m=true):J2 P o (.IZ z.length u.bytes z l c) a aH g A m w id:=by
 obtain⟨A2,p,q,O,Q,R,r⟩:=P0 G;rw[f]at q;cases q;have A3:p.cells.size=u.size:=by rw[<-r,<-Q];simp
 simp only[M.ok,AF,BW]at n;obtain⟨⟨⟨⟨⟨⟨S,T⟩,s⟩,x⟩,V⟩,y⟩,A4⟩:=n;obtain⟨W,X,L,d⟩:=Jp (h.U H) S;obtain⟨Y,Z,C,B⟩:=Jp (h.U J) T;simp only[d,B,Bk]at s x V y;have A0:=run_make (P:=P) w t e u p F f O X Z L C s x (by rw[Int.mul_comm];omega) y;have D: ∀v∈(List.replicate L.toNat z).flatten,BJ v=true:=Zt (λv=>BJ v=true) (λv b=>BR.1 R v b) _;have A1:L.toNat*z.length<=C.toNat*z.length:=KI _ (by omega);refine⟨_,_,DN g id ⟨w.heap.size,0,C.toNat*z.length⟩,.inl (by simp only[execOp,E,W,Y,d,B,Sem.run_bind,A0,Result.andThen_ok];rfl),LM k,NY,?_,?_,N4 rfl rfl rfl rfl j _⟩
 ·simp only[M.val,d,Bk];exact .slice (off:=0) (l:=⟨w.heap.size,0,C.toNat*z.length⟩) (by simp[DN]) (.inr ⟨by simp,by simp⟩) (by omega) (by unfold maxLen;omega)
 ·simp only[M.Cj,d,Bk];refine K.Rc rfl j N k (by rw[RN];exact A1) (by rw[size_madeCells,r];exact Aj _) (λi v b=> ?_) (λi _=>by simp);have A5:i<L.toNat*z.length:=(by have:=(Ae.1 b).1;rwa [RN]at this);refine⟨OF (D v (B5 b)),v,?_,.BP (D v (B5 b))⟩
  grind [madeCells,jX]
theorem sv: ∀(a:List Int) (b:ByteArray),a.foldl (λr n=>r.push (UInt8.ofNat n.toNat)) b=b++⟨(a.map λn=>UInt8.ofNat n.toNat).toArray⟩
 | [],b=>by simp only[List.foldl_nil,List.map_nil];apply ByteArray.ext;simp
 | n::a,b=>by simp only[GO,Dl];rw[sv a];apply ByteArray.ext;simp[ByteArray.push]
theorem aAq{s d e:TypeId}{x:Operand}(Q:o.op= .convert s d x)(R:P.underlying s=some (.slice e))(S:P.underlying d=some .string)(T:P.underlying e=some (.int .u8))(V:Ay x=true)
 (W:Cr g I A a) (G:BF aH g m w) (H:(M.Lr x).ok A m=true):J2 P o (.Lr x) a aH g A m w id:=by
 simp only[M.ok,AF]at H;obtain⟨f,J⟩:=H;have C:=W.U V;have conv: ∀v,a.eval x=v->(∃p l c,v= .slice p l c)-> ∀b:ByteArray,(Conv.bytesToString v).run P w= .ok (.string b) w->EP P o a w (.string b) w:=by intro v u ⟨p,l,c,D⟩ b hb;subst D;refine .inl ?_;cases p<;>simp[execOp,Q,u,convert,underlying,R,S,T,hb]
 cases z:U A x<;>simp only[z,Br]at f<;>try cases f
 rename_i p len c;rw[z]at C;refine⟨.string (toBytes (C5 m 1 (U A x))),w,g,?_,CY.refl g,λ_ _=>rfl,.BP rfl,G,Below.refl _ _⟩;cases p with
 | none=>have u:=C.DF (by simpa[BJ]using f);refine conv _ u ⟨_,_,_,rfl⟩ _ ?_;simp only[Conv.bytesToString,z,C5,toBytes];rfl
 | some B=>
   simp only[AF,beq_iff_eq]at f;obtain⟨⟨AB,AD⟩,f⟩:=f;split at f
   ·rename_i y X;simp only[Nat.mul_one,BW]at f;obtain⟨l,Y,cap,Z,_,u,K,AE,AI⟩:=C.Fl;refine conv _ u ⟨_,_,_,rfl⟩ _ ?_;simp only[z,C5,Nat.mul_one]at J⊢;obtain⟨ds,A0,E,A1,AJ⟩:=G.cells X Z f;have A2: ∃j:List Int,ds=j.map (Value.int .u8)/\C3 m B.block B.off len=j.map (Value.int .u8):=by
     have A3: ∀(t r:List Value),t.all R3=true->Aw g t r-> ∃j:List Int,r=j.map (Value.int .u8)/\t=j.map (Value.int .u8):=by
      intro t;induction t with
      |nil=>intro r _ h;have:=h.1;simp at this;exact⟨[],by simp[Ii.1 this.symm],rfl⟩
      | cons aY t A4=>
        intro r F h;cases r with
        |nil=>have:=h.1;simp at this
        | cons v r=>simp only[F3,AF]at F;obtain⟨j,A5,A6⟩:=A4 r F.2 ⟨by simpa using h.1,λi p q D A7=>h.2 (i+1) p q (by simpa using D) (by simpa using A7)⟩;have A8:=h.2 0 aY v rfl rfl;have L:=F.1;cases aY<;>simp[R3]at L;rename_i k n;cases k<;>simp at L;exact⟨n::j,by simp[A5,A8.Hp],by simp[A6]⟩
     exact A3 _ _ J A0
    obtain⟨j,A9,N⟩:=A2;subst A9;rcases K with⟨rfl,rfl⟩|⟨rfl,K⟩
    ·have AA:j=[]:=(by simp at E;exact E);subst AA;have:=run_bytesToString (P:=P) w Y 0 0 [] (by simp[loadCells,loadCellsFrom]);rw[this,N];rfl
    ·have O:=run_loadCells_list (P:=P) w ⟨l.c,l.o+B.off,none⟩ _ A1;rw[E]at O;rw[run_bytesToString w _ len cap j (by rw[O]),sv,N]
     simp_all [toBytes,byteOf]
   ·cases f
end Go.DI
