/-
  A part of the proof, shortened by tools of ours.
-/
import Derived.Lib.AppendZeros
import Derived.MapKept
import Derived.WideKeyRuns
import Derived.Test.YtmmkkggfmigppaaGreatZcc
set_option linter.all false
set_option maxRecDepth 8000
set_option maxHeartbeats 16000000
namespace Go.DI
open Go Go.RowKit
variable {P:Program} {w:World} {o:Oper} {a:Act} {u:Ren} {J:Nat} {A:A6} {m:V} {aJ id:Nat}
theorem a5x(t d e:TypeId)(i:TypeInfo)(f:P.underlying t=some (.slice e))(g:P.info? e=some i)(base q:Option Addr)(a b c:Nat)(h:a<=b):
 (Builtin.append_ #[t,t] d #[.slice base a b,.slice q 0 c]).run P w= .ok (.slice base a b) w:=by
 have j:(Builtin.firstCells i.size 0 (.slice q 0 c)).run P w= .ok #[] w:=by cases q<;>simp[Builtin.firstCells,loadCells,loadCellsFrom]
 cases base<;>simp[Builtin.append_,run_underlying f,sizeOf,typeInfo,g,Builtin.lenOf,h,j,storeCells]
theorem uc(t h e:TypeId)(i:TypeInfo)(k:P.underlying t=some (.slice e))(l:P.info? e=some i)(c o b d:Nat)(H:Addr)(n f:Nat)(a:List Value)(m:a.length=n*i.size)
 (p: ∀(j:Nat) a6,a[j]?=some a6->w.cell? (H.add j)=some a6) (q: ∀a6∈a,a6.oneCell'=true) (r:b+n<=d)
 (s: ∀j,j<a.length->(w.cell? ⟨c,o+b*i.size+j,none⟩).isSome=true) (u: ∀j,j<a.length->w.frozen? ⟨c,o+b*i.size+j,none⟩=false):
 (Builtin.append_ #[t,t] h #[.slice (some ⟨c,o,none⟩) b d,.slice (some H) n f]).run P w= .ok (.slice (some ⟨c,o,none⟩) (b+n) d) (w.setCells c (o+b*i.size) a):=by
 have v:=run_firstCells_some (P:=P) w i.size n H n f a m p;have g:=run_storeCells_cells (P:=P) c (o+b*i.size) a 0 w (by simpa using s) (by simpa using u) q;simp only[Nq]at g;simp[Builtin.append_,run_underlying k,sizeOf,typeInfo,l,Builtin.lenOf,r,v,ky,g]
variable{a6 v:Value}{c:Call}{I:World}{t e:TypeId}{x y:Operand}{H:Addr}{n b off N bp f:Nat}{B:TypeInfo}{z ds:List Value}{Q q:IntKind}{xs args:Array Value}{es fs:List (Value×Value)}{M D:Array MapEntry}{l:Ou}{name:String}{r:TypeId×Nat×Option (Bool×Nat)}{A1:Array TypeId}{L:Bool}
theorem Rf{s:TypeId}{r:Value}(e:o.op= .call c)(f:c.callee= .builtin .append)(b:c.args.toList=[x,y])(d:c.argTypes.toList=[t,s])
 (g:a.eval x=a6) (i:a.eval y=v) (h:(Builtin.append_ #[t,s] o.type #[a6,v]).run P w= .ok r I):EJ P o a w r I:=by
 refine .inl ?_;have j:c.args= #[x,y]:=by rw[<-K7 (xs:=c.args),b]
 have k:c.argTypes= #[t,s]:=by rw[<-K7 (xs:=c.argTypes),d]
 simp_all [execOp,resolve,invoke,builtin]
theorem P7{z:Nat}(h:Bp m z v=true):v= .slice none 0 0\/ ∃b off len x a,v= .slice (some ⟨b,off,a⟩) len z/\m.W b=some x/\off+len*z<=x.cells.length:=by
 unfold Bp at h;split at h
 ·simp_all
 ·rename_i H l c;simp only[AB,beq_iff_eq]at h;obtain⟨rfl,h⟩:=h;split at h
  ·rename_i x d;obtain⟨b,off,a⟩:=H
   grind
  ·cases h
 ·cases h
def qq(P:Program)(o:Oper)(z bytes:Nat)(x y:Operand)(a:Act)(aJ:Nat)(u:Ren)(A:A6)(m:V)(w:World)(id:Nat):Prop:=
 ∃ e I d,EJ P o a w e I/\CZ u d/\(∀b,b≠id->d b=u b)/\B6 d ((K.app z bytes x y).val id A m) e/\BA aJ d ((K.app z bytes x y).Cl id A m) I/\Below aJ w I/\
   (H6 z m (O A x)=true-> ∀b a6 l,m.W b=some a6->u b=some l-> ∀i,i<a6.cells.length->I.cell? ⟨l.c,l.o+i,none⟩=w.cell? ⟨l.c,l.o+i,none⟩)
theorem nu{w:World}(h:Below n w I)(a:H.block<n):I.cell? H=w.cell? H:=by simp only[World.cell?,h.block _ a]
theorem y2(AO:o.op= .call c)(A9:c.callee= .builtin .append)(AP:c.args.toList=[x,y])(AQ:c.argTypes.toList=[t,t])
 (AJ:P.underlying t=some (.slice e)) (AD:P.info? e=some B) (BW:IC P e=some z) (BX:An x=true) (BY:An y=true)
 (B7:Cw u J A a) (C:BA aJ u m w) (Ap:aJ<=w.heap.size) (Aq:id<m.next) (AR:u id=none)
 (B8:(K.app B.size B.bytes x y).ok A m=true):qq P o B.size B.bytes x y a aJ u A m w id:=by
 obtain⟨Bw,AT,AE,BB,BZ,Bx,Bb⟩:=OR BW;rw[AD]at AE;cases AE;have Bc:AT.cells.size=B.size:=by rw[<-Bb,<-BZ];simp
 simp only[K.ok,AB,Ba]at B8;obtain⟨⟨⟨⟨⟨Ar,BC⟩,BD⟩,Bd⟩,Ad⟩,As⟩:=B8;have T:=B7.O BX;have AK:=B7.O BY

 have A3: ∃q BE,a.eval y= .slice q (CQ (O A y)) BE:=by
  rcases P7 BD with E|⟨b,off,len,AU,Be,E,_,_⟩
  ·rw[E]at AK;exact⟨none,0,by rw[E];exact AK.DH rfl⟩
  ·rw[E]at AK;obtain⟨_,_,_,_,_,g,_⟩:=AK.Fk;exact⟨_,_,by rw[E];exact g⟩
 obtain⟨q,BE,A3⟩:=A3;have U: ∃p At,a.eval x= .slice p (CQ (O A x)) At/\CQ (O A x)<=At:=by
  rcases P7 Ar with E|⟨b,off,len,AU,Be,E,_,_⟩
  ·rw[E]at T;exact⟨none,0,by rw[E];exact T.DH rfl,by rw[E];exact Ao _⟩
  ·rw[E]at T;obtain⟨_,_,_,_,_,g,_,AV,_⟩:=T.Fk;exact⟨_,_,by rw[E];exact g,by rw[E];exact AV⟩
 by_cases Z:CQ (O A y)=0
 ·obtain⟨p,At,U,Bf⟩:=U;rw[Z]at A3;refine⟨a.eval x,w,u,?_,CZ.refl u,λ_ _=>rfl,by simpa only[K.val,Z,if_true]using T,by simpa only[K.Cl,Z,if_true]using C,Below.refl _ _,λ_ _ _ _ _ _ _ _=>rfl⟩;rw[U];exact Rf AO A9 AP AQ U A3 (a5x t _ e B AJ AD _ _ _ _ _ Bf)
 ·
  rcases P7 BD with E|⟨M,F,d,AU,Bz,Au,AL,Bg⟩
  ·rw[E]at Z;exact absurd rfl Z
  rw[Au]at AK;obtain⟨R,Bh,AM,Av,_,A3,Aw,C0,_⟩:=AK.Fk
  replace Av:u M=some R:=Av
  replace Aw:(AM=0/\d=0)\/(Bh=⟨R.c,R.o+F,none⟩/\F+AM*B.size<=R.n):=Aw
  have AW:CQ (O A y)=d:=(by rw[Au];rfl);have BF:C7 m B.size (O A y)=CW m M F (d*B.size):=(by rw[Au];rfl);rw[AW]at Z Ad As;obtain⟨r,Ae,N,Af,BG⟩:=C.cells AL Av Bg;rcases Aw with⟨_,BH⟩|⟨rfl,_⟩
  ·omega
  by_cases A4:Dn m B.size (O A x) d=true
  ·
   rcases P7 Ar with s|⟨b,off,len,A1,Ax,s,I,BI⟩
   ·rw[s]at A4;simp[Dn]at A4
   rw[s]at T;obtain⟨l,AY,cap,D,AF,U,A2,Bi,AZ⟩:=T.Fk
   replace D:u b=some l:=D
   replace A2:(cap=0/\len=0)\/(AY=⟨l.c,l.o+off,none⟩/\off+cap*B.size<=l.n):=A2
   replace AF: ∀c,Ax=some c->c<=cap:=AF
   cases Ax with
   |none=>rw[s]at A4;simp[Dn]at A4
   |some BJ=>
   have A6:=AF BJ rfl;have Ag:=A4;rw[s]at Ag;have BK:=Ag;simp only[Dn,I,AB,Ba]at Ag;obtain⟨C1,C2⟩:=Ag;have L:A1.own=true:=(by simpa[s,Dl,I]using BC);obtain⟨A5,Q,BL,Ay,X⟩:=C.G2 b A1 I;rw[D]at Q;cases Q;have AN:len+d<=cap:=(by omega);rcases A2 with⟨BH,_⟩|⟨rfl,A2⟩
   ·omega
   have BM:(len+d)*B.size=len*B.size+d*B.size:=Hl _ _ _
   have AG:=uc (P:=P) (w:=w) t o.type e B AJ AD l.c (l.o+off) len cap ⟨R.c,R.o+F,none⟩ d AM r N Af BG AN
    (λj f=>by
     have:=((X L).2 (off+len*B.size+j) (by rw[N]at f;omega)).1
     grind)
    (λj f=>by
     have:=((X L).2 (off+len*B.size+j) (by rw[N]at f;omega)).2
     grind)
   have Az:(K.app B.size B.bytes x y).val id A m= .slice (some ⟨b,off,some BJ⟩) (len+d) B.size:=(by simp only[K.val,AW,Z,if_false,s,BK,if_true,SI]);have B0:(K.app B.size B.bytes x y).Cl id A m=m.A0 b (some ⟨C3 A1.cells (off+len*B.size) (CW m M F (d*B.size)),A1.own⟩):=(by simp only[K.Cl,AW,Z,if_false,BF,s,BK,if_true,GA,I]);have Bj: ∀v∈CW m M F (d*B.size),G v=true:=(by intro v h;obtain⟨A5,Q,Bk,B1,Bl⟩:=C.G2 M AU AL;simp only[CW,AL]at h;obtain⟨j,f,Aa⟩:=EC (RH (K2 h));exact(B1 j v (by rw[AS f,Aa])).1);have Bm:w.setCells l.c (l.o+off+len*B.size) r=w.setCells l.c (l.o+(off+len*B.size)) r:=(by rw[JN]);refine⟨_,_,u,Rf AO A9 AP AQ U A3 AG,CZ.refl u,λ_ _=>rfl,?_,?_,WQ (X L).1 _ _ _,λBN Ab a6 A5 A7 Q i AE=> ?_⟩
   ·rw[Az];exact .slice D (.inr ⟨rfl,A2⟩) AN AZ λc A9=>by cases A9;exact A6
   ·rw[B0,Bm];exact C.store I L D Ae Bj (by rw[Ae.1,N];omega)
   ·exfalso;rw[s]at BN;simp only[H6,I,Ba]at BN;have:0<d*B.size:=Nat.mul_pos (by omega) Bd;omega
  have A4:Dn m B.size (O A x) d=false:=(by simpa using A4);have Az:(K.app B.size B.bytes x y).val id A m= .slice (some ⟨id,0,none⟩) (CQ (O A x)+d) B.size:=(by simp only[K.val,AW,Z,if_false,A4,EI]);have B0:(K.app B.size B.bytes x y).Cl id A m=(Dx m (O A x)).A0 id (some ⟨C7 m B.size (O A x)++CW m M F (d*B.size),true⟩):=by simp only[K.Cl,AW,Z,if_false,A4,EI,BF]

  have BO: ∀(S:Nat) (Y:List Value) (Ah:V),BA aJ u Ah w->id<Ah.next->Al u (C7 m B.size (O A x)) Y->(∀v∈C7 m B.size (O A x),G v=true)->Y.length=CQ (O A x)*B.size->
   S<CQ (O A x)+d->
   B6 (DU u id ⟨w.heap.size,0,grownCap w (CQ (O A x)+d) S e*B.size⟩) (.slice (some ⟨id,0,none⟩) (CQ (O A x)+d) B.size) (.slice (some ⟨w.heap.size,0,none⟩) (CQ (O A x)+d) (grownCap w (CQ (O A x)+d) S e))/\
   BA aJ (DU u id ⟨w.heap.size,0,grownCap w (CQ (O A x)+d) S e*B.size⟩) (Ah.A0 id (some ⟨C7 m B.size (O A x)++CW m M F (d*B.size),true⟩))
    (w.drew.alloc (.cells (Y.toArray++r.toArray++Builtin.zeroCells AT.cells (grownCap w (CQ (O A x)+d) S e-(CQ (O A x)+d))) e)):=by
   intro S Y Ah Bn Bo Bp Bq BP C4;have Br:=grownCap_ge w (CQ (O A x)+d) S e;have AZ:grownCap w (CQ (O A x)+d) S e<=maxLen:=grownCap_le_maxLen w _ S e (by unfold maxLen;omega);refine⟨.slice (off:=0) (l:=⟨w.heap.size,0,grownCap w (CQ (O A x)+d) S e*B.size⟩) (by simp[DU]) (.inr ⟨by simp,by simp⟩) Br AZ,?_⟩;have Bs:(Y.toArray++r.toArray++Builtin.zeroCells AT.cells (grownCap w (CQ (O A x)+d) S e-(CQ (O A x)+d))).size=grownCap w (CQ (O A x)+d) S e*B.size:=by simp only[Array.size_append,List.size_toArray,size_zeroCells,Bc,BP,N,<-Hl];congr 1;omega
   have Ac:Al u (C7 m B.size (O A x)++CW m M F (d*B.size)) (Y++r):=Bp.Iu Ae;refine Bn.T5 (cm:=w.drew) rfl Ap Bo AR ?_ (by rw[Bs];exact Ao _) (λi v A8=> ?_) (λi _=>by simp)
   ·rw[Ac.1,Ds,BP,N,<-Hl]
    grind
   ·obtain⟨a6,A7,B2⟩:=Ac.W A8;refine⟨?_,a6,?_,B2⟩
    ·have:v∈C7 m B.size (O A x)++CW m M F (d*B.size):=B9 A8;rcases Cg.1 this with h|h
     ·exact Bq v h
     ·obtain⟨A5,Q,BL,Ay,X⟩:=C.G2 M AU AL
      grind [CW]
    ·grind
  rcases P7 Ar with s|⟨b,off,len,A1,Ax,s,I,BI⟩
  ·
   rw[s]at T;have U:=T.DH rfl;have AH:CQ (O A x)=0:=(by rw[s];rfl);have A6:C7 m B.size (O A x)=[]:=(by rw[s];rfl);obtain⟨B3,AV⟩:=BO 0 [] m C Aq (by rw[A6];exact Al.nil u) (by rw[A6];simp) (by rw[AH];simp) (by omega);simp only[AH,Nat.zero_add]at B3 AV Ad As;have AG:=run_append_nil (P:=P) w t o.type e B AT AJ AD BB ⟨R.c,R.o+F,none⟩ d AM r N Af (by omega) (by omega) (by omega);refine⟨_,_,DU u id ⟨w.heap.size,0,grownCap w d 0 e*B.size⟩,Rf AO A9 AP AQ U A3 AG,Kt AR,NQ,?_,?_,Mf (w:=w) (cm:=w.drew) rfl rfl rfl rfl Ap _,λ_ b a6 l _ D i _=>nu (Mf (w:=w) (cm:=w.drew) rfl rfl rfl rfl (Ao _) _) (C.G9 b l D)⟩
   ·grind
   ·grind [Dx]
  ·
   rw[s]at T;obtain⟨l,AY,cap,D,_,U,A2,Bi,AZ⟩:=T.Fk
   replace D:u b=some l:=D
   replace A2:(cap=0/\len=0)\/(AY=⟨l.c,l.o+off,none⟩/\off+cap*B.size<=l.n):=A2
   have AH:CQ (O A x)=len:=(by rw[s];rfl);have A6:C7 m B.size (O A x)=CW m b off (len*B.size):=(by rw[s];rfl);have L:A1.own=true:=(by simpa[s,Dl,I]using BC);obtain⟨A5,Q,BL,Ay,X⟩:=C.G2 b A1 I;rw[D]at Q;cases Q;obtain⟨Y,BQ,Am,C5,C6⟩:=C.cells I D BI;have BS: ∀v∈CW m b off (len*B.size),G v=true:=(by intro v A8;simp only[CW,I]at A8;obtain⟨j,f,Aa⟩:=EC (RH (K2 A8));exact(Ay j v (by rw[AS f,Aa])).1);have AF:Dx m (O A x)=m.A0 b none:=(by rw[s];rfl);rw[AH]at Ad As;by_cases AN:len+d<=cap
   ·
    rcases A2 with⟨BH,_⟩|⟨rfl,A2⟩
    ·omega
    have BM:(len+d)*B.size<=cap*B.size:=IF _ AN;rw[Hl]at BM
    have AG:=uc (P:=P) (w:=w) t o.type e B AJ AD l.c (l.o+off) len cap ⟨R.c,R.o+F,none⟩ d AM r N Af BG AN
     (λj f=>by
      have:=((X L).2 (off+len*B.size+j) (by rw[N]at f;omega)).1
      grind)
     (λj f=>by
      have:=((X L).2 (off+len*B.size+j) (by rw[N]at f;omega)).2
      grind)
    refine⟨_,_,DU u id ⟨l.c,l.o+off,l.n-off⟩,Rf AO A9 AP AQ U A3 AG,Kt AR,NQ,?_,?_,WQ (X L).1 _ _ _,λAJ Ab a6 A5 A7 Q i AD=>World.cell?_setCells_out _ _ _ _ _ (λh _=> ?_)⟩
    ·rw[Az,AH];exact .slice (off:=0) (l:=⟨l.c,l.o+off,l.n-off⟩) (by simp[DU]) (.inr ⟨by simp,by show 0+cap*B.size<=l.n-off;omega⟩) AN AZ
    ·rw[B0,AF,A6];have Ac:Al u (CW m b off (len*B.size)++CW m M F (d*B.size)) (Y++r):=BQ.Iu Ae;have BU: ∀j (f:j<r.length),(w.setCells l.c (l.o+off+len*B.size) r).cell? ⟨l.c,l.o+off+len*B.size+j,none⟩=some r[j]:= λj f=>
      World.cell?_setCells_in l.c r (l.o+off+len*B.size) w (λi AE=>by
       have:=((X L).2 (off+len*B.size+i) (by rw[N]at AE;omega)).1
       rwa [show l.o+(off+len*B.size+i)=l.o+off+len*B.size+i by omega]at this) j f
     have C8: ∀i,i<len*B.size\/len*B.size+r.length<=i->(w.setCells l.c (l.o+off+len*B.size) r).cell? ⟨l.c,l.o+off+i,none⟩=w.cell? ⟨l.c,l.o+off+i,none⟩:= λi AE=>
      World.cell?_setCells_out _ _ _ _ _ (λ_ _=>by show l.o+off+i<_\/_<=l.o+off+i;omega)
     refine(C.Dx b).uw (by rw[V.sg];exact Aq) AR (λAb Bt A5 B4 Q=> ?_) (by rw[Xm];exact Ao _) (by rw[Xm];exact C.G9 b l D) (X L).1 (λH _ B5=>⟨World.cell?_setCells_out _ _ _ _ _ (λh _=>absurd h B5),World.frozen?_setCells _ _ _ _ _⟩) (λk _ AF=>kM _ _ AF _ _ _) ?_ (λi v A8=> ?_) (λi AE=> ?_) ((C.NU b A1 l I L D).setCells _ _ _)
     ·rw[V.G1]at B4;split at B4
      ·grind
      ·rename_i B5;exact Ne.symm (C.MD b A1 Ab Bt l A5 I L B4 (Ne.symm B5) D Q)
     ·rw[Ac.1,Ds,Am,N];omega
     ·obtain⟨a6,A7,B2⟩:=Ac.W A8;have Bu:v∈CW m b off (len*B.size)++CW m M F (d*B.size):=B9 A8;refine⟨?_,a6,?_,B2⟩
      ·rcases Cg.1 Bu with h|h
       ·exact BS v h
       ·obtain⟨A5,Q,Bk,B1,Bl⟩:=C.G2 M AU AL;simp only[CW,AL]at h;obtain⟨j,f,Aa⟩:=EC (RH (K2 h));exact(B1 j v (by rw[AS f,Aa])).1
      ·rw[MY]at A7;split at A7
       ·grind [ky]
       ·rename_i Bv;rw[Am]at Bv A7;have f:i-len*B.size<r.length:=(AX.1 A7).1;have:=BU _ f
        grind
     ·have BV:=(X L).2 (off+i) (by omega);rw[<-JN]at BV;refine⟨?_,by rw[World.frozen?_setCells];exact BV.2⟩;by_cases C9:i<len*B.size\/len*B.size+r.length<=i
      ·grind
      ·have f:i-len*B.size<r.length:=(by omega);have:=BU _ f
       grind
    ·left;by_cases e:Ab=b
     ·grind [H6]
     ·exact absurd h (Ne.symm (C.MD b A1 Ab a6 l A5 I L A7 (Ne.symm e) D Q))
   ·
    obtain⟨B3,AV⟩:=BO cap Y (m.A0 b none) (C.Dx b) (by rw[V.sg];exact Aq) (by rw[A6];exact BQ) (by rw[A6];exact BS) (by rw[AH];exact Am) (by omega);rw[AH]at B3 AV;have holds: ∀(j:Nat) v,Y[j]?=some v->w.cell? (AY.add j)=some v:=by
     grind
    have AG:=run_append_grow (P:=P) w t o.type e B AT AJ AD BB AY len cap Y Am holds ⟨R.c,R.o+F,none⟩ d AM r N Af (by omega) (by omega) (growslice_fits (by omega) Ad);refine⟨_,_,DU u id ⟨w.heap.size,0,grownCap w (len+d) cap e*B.size⟩,Rf AO A9 AP AQ U A3 AG,Kt AR,NQ,?_,?_,Mf (w:=w) (cm:=w.drew) rfl rfl rfl rfl Ap _,λ_ b a6 l _ D i _=>nu (Mf (w:=w) (cm:=w.drew) rfl rfl rfl rfl (Ao _) _) (C.G9 b l D)⟩
    ·grind
    ·grind
theorem a8l(b:o.op= .call c)(d:c.callee= .builtin .append)(f:c.args.toList=[x,y])(g:c.argTypes.toList=[t,t])
 (h:P.underlying t=some (.slice e)) (i:P.info? e=some B) (j:IC P e=some z) (k:An x=true) (l:An y=true)
 (n:Cw u J A a) (p:BA aJ u m w) (q:aJ<=w.heap.size) (r:id<m.next) (s:u id=none)
 (v:(K.app B.size B.bytes x y).ok A m=true):Ix P o (.app B.size B.bytes x y) a aJ u A m w id:=by
 obtain⟨C,I,D,E,F,G,H,L,M,_⟩:=y2 b d f g h i j k l n p q r s v;exact⟨C,I,D,E,F,G,H,L,M⟩
theorem aF3{a6:TypeId}(M:o.op= .call c)(N:c.callee= .builtin .append)(R:c.args.toList=[x,y])(S:c.argTypes.toList=[t,a6])
 (T:P.underlying t=some (.slice e)) (U:P.underlying a6=some (.int Q)) (p:P.info? e=some B) (V:IC P e=some z) (W:An x=true) (X:An y=true)
 (q:Cw u J A a) (Y:BA aJ u m w) (r:aJ<=w.heap.size) (Z:id<m.next) (s:u id=none)
 (C:(K.KD z.length B.bytes z x y).ok A m=true):Ix P o (.KD z.length B.bytes z x y) a aJ u A m w id:=by
 obtain⟨AG,b,D,A0,E,A1,h⟩:=OR V;rw[p]at D;cases D;have A2:b.cells.size=B.size:=by rw[<-h,<-E];simp
 simp only[K.ok,AB,Ba]at C;obtain⟨⟨⟨⟨⟨A3,A4⟩,A5⟩,A6⟩,A7⟩,AH⟩:=C;have F:=q.O W;rw[aa A3]at F;have A8:=F.DH rfl;obtain⟨A9,k,G,f⟩:=Jk (q.O X) A4;simp only[f,Bh]at A5 A6 A7;obtain⟨n,rfl⟩: ∃n:Nat,G=n:=⟨G.toNat,by omega⟩;have AD:n*B.bytes<=281474976710656:=by omega
 have H:=Lib.run_append_nil_zeros (P:=P) w t a6 o.type e B b k Q T U p A0 n (by omega) (by omega) (by omega) AD;have j:=grownCap_ge w n 0 e;have I:grownCap w n 0 e<=maxLen:=grownCap_le_maxLen w _ 0 e (by unfold maxLen;omega);generalize grownCap w n 0 e=g at H j I;have AE:(Builtin.zeroCells b.cells n++Builtin.zeroCells b.cells (g-n)).size=g*B.size:=by simp only[Array.size_append,size_zeroCells,A2,<-Hl];congr 1;omega
 have L: ∀v∈(List.replicate n z).flatten,BB v=true:=ZZ (λv=>BB v=true) (λv d=>BF.1 A1 v d) _;refine⟨_,_,DU u id ⟨w.heap.size,0,g*B.size⟩,Rf M N R S A8 (A9.trans f) H,Kt s,NQ,?_,?_,Mf (w:=w) (cm:=w.drew) rfl rfl rfl rfl r _⟩
 ·simp only[K.val,f,Bh,EE];exact .slice (off:=0) (l:=⟨w.heap.size,0,g*B.size⟩) (by simp[DU]) (.inr ⟨by simp,by rw[h];simp⟩) j I
 ·simp only[K.Cl,f,Bh,EE];refine Y.T5 (cm:=w.drew) rfl r Z s (by rw[QW,h];exact IF _ j) (by rw[AE];exact Ao _) (λi v d=> ?_) (λi _=>by simp);have AJ:i<n*z.length:=(by have:=(AX.1 d).1;rwa [QW]at this);refine⟨No (L v (B9 d)),v,?_,.BT (L v (B9 d))⟩;have AK:(Builtin.zeroCells b.cells n).toList=(List.replicate n z).flatten:=by rw[<-E];exact lV (by omega) n
  grind
theorem h2{r:Value}(e:o.op= .call c)(f:c.callee= .builtin .clear)(b:c.args.toList=[x])(d:c.argTypes.toList=[t])
 (g:a.eval x=a6) (h:(Builtin.clear_ #[t] o.type #[a6]).run P w= .ok r I):EJ P o a w r I:=by
 refine .inl ?_;have i:c.args= #[x]:=by rw[<-K7 (xs:=c.args),b]
 have j:c.argTypes= #[t]:=by rw[<-K7 (xs:=c.argTypes),d]
 simp_all [execOp,resolve,invoke,builtin]
theorem r7{y:Bw}(h:m.W b=some y):m.A0 b (some y)=m:=by
 have a:m.C1 b=some y:=by
  grind [V.W]
 unfold V.A0;cases m with
 | mk n c mp=>
   grind [V.mk.injEq]
theorem a1m(s:o.op= .call c)(y:c.callee= .builtin .clear)(C:c.args.toList=[x])(D:c.argTypes.toList=[t])
 (E:P.underlying t=some (.slice e)) (W:IC P e=some z) (X:An x=true) (Y:Cw u J A a) (h:BA aJ u m w)
 (Q:(K.Cm z x).ok A m=true):Ix P o (.Cm z x) a aJ u A m w id:=by
 obtain⟨B,F,Z,A1,R,A2,A3⟩:=OR W;have AF:F.cells.size=B.size:=by rw[<-A3,<-R];simp
 simp only[K.ok,AB,Ba]at Q;obtain⟨⟨A4,A5⟩,AG⟩:=Q;have i:=Y.O X;rcases P7 A4 with d|⟨b,off,len,f,AH,d,g,A6⟩
 ·rw[d]at i;have p:=i.DH rfl;refine⟨undef,w,u,h2 s y C D p (by simp[Builtin.clear_,run_underlying E,undef]),CZ.refl u,λ_ _=>rfl,B6.undef u,?_,Below.refl _ _⟩;simp only[K.Cl,d,Gj];exact h
 ·rw[d]at i;obtain⟨l,A7,cap,q,_,p,G,AJ,_⟩:=i.Fk
  replace q:u b=some l:=q
  replace G:(cap=0/\len=0)\/(A7=⟨l.c,l.o+off,none⟩/\off+cap*z.length<=l.n):=G
  have r:f.own=true:=(by simpa[d,Dl,g]using A5);obtain⟨AK,S,AL,AM,H⟩:=h.G2 b f g;rw[q]at S;cases S;have T:(K.Cm z x).Cl id A m=m.A0 b (some ⟨C3 f.cells off (List.replicate len z).flatten,f.own⟩):=(by simp only[K.Cl,d,Gj,g]);by_cases U:len=0
  ·subst U;refine⟨undef,w,u,h2 s y C D p (by simp[Builtin.clear_,run_underlying E,undef]),CZ.refl u,λ_ _=>rfl,B6.undef u,?_,Below.refl _ _⟩;rw[T];have:m.A0 b (some ⟨C3 f.cells off (List.replicate 0 z).flatten,f.own⟩)=m:=r7 g;rw[this];exact h
  ·rcases G with⟨_,A8⟩|⟨rfl,AN⟩
   ·exact absurd A8 U
   have A9:(Builtin.zeroCells F.cells len).toList=(List.replicate len z).flatten:=(by rw[<-R];exact lV (by omega) len);have I: ∀v∈(List.replicate len z).flatten,BB v=true:=ZZ (λv=>BB v=true) (λv L=>BF.1 A2 v L) _;have M:(List.replicate len z).flatten.length=len*z.length:=QW z len;have V:=run_storeCells_cells (P:=P) l.c (l.o+off) (List.replicate len z).flatten 0 w (λj N=>by
    have:=((H r).2 (off+j) (by simp only[M]at N;omega)).1
    rwa [<-JN]at this) (λj N=>by
    have:=((H r).2 (off+j) (by simp only[M]at N;omega)).2
    rwa [<-JN]at this) (λa6 AD=>by rw[hz];exact No (I a6 AD))
   simp only[Nq]at V;refine⟨undef,w.setCells l.c (l.o+off) (List.replicate len z).flatten,u,h2 s y C D p ?_,CZ.refl u,λ_ _=>rfl,B6.undef u,?_,WQ (H r).1 _ _ _⟩
   ·have AE: ∀w:World,(zeroValue e).run P w= .ok F w:= λw=>by simp[zeroValue,typeInfo,Z,A1]
    obtain⟨k,rfl⟩: ∃k,len=k+1:=⟨len-1,by omega⟩;simp[Builtin.clear_,run_underlying E,AE,A9,V,undef]
   ·rw[T];exact h.store g r q (Al.BT u (BF.2 I)) (λv L=>No (I v L)) (by rw[M];exact A6)
variable {P:Program} {w:World} {o:Oper} {a:Act} {u:Ren} {J:Nat} {A:A6} {m:V} {aJ id:Nat}
def Qu(P:Program)(E:TypeId):Hj->Prop
 | .int k=>P.underlying E=some (.int k)
 | .str=>P.underlying E=some .string
 | .EF k=> ∃e i,P.underlying E=some (.array 2 e)/\P.underlying e=some (.int k)/\P.info? e=some i/\P.cellsOf e=1
def QP:Hj->TypeDesc
 | .int q=> .int q
 |_=> .string
theorem NT{k:IntKind}(h:DT (.EF k) v=true): ∃a b,v= .agg #[.int k a,.int k b]:=by
 cases v with
 | agg xs=>
   obtain⟨l⟩:=xs;rcases l with _|⟨x,_|⟨y,_|⟨z,l⟩⟩⟩
   ·simp[DT]at h
   ·simp[DT]at h
   ·cases x<;>cases y<;>simp[DT]at h;obtain⟨rfl,rfl⟩:=h;exact⟨_,_,rfl⟩
   ·simp[DT]at h
 |_=>simp[DT]at h
theorem q9{C:Hj}(h:DT C v=true):Fp v=true:=by
 cases C with
 |int k=>cases v<;>simp_all [DT,Fp,BB]
 |str=>cases v<;>simp_all [DT,Fp,BB]
 |EF k=>obtain⟨a,b,rfl⟩:=NT h;rfl
theorem yF{u:Ren}{C:Hj}{d:Value}(c:B6 u v d)(h:DT C v=true):d=v:=by
 cases C with
 |int k=>exact c.DH (by cases v<;>simp_all [DT,BB])
 |str=>exact c.DH (by cases v<;>simp_all [DT,BB])
 | EF k=>
   obtain⟨a,b,rfl⟩:=NT h;cases c with
   |BT h=>rfl
   | agg e h m=>
     rename_i ys;obtain⟨l⟩:=ys
     match l,e with
     | [f,g],_=>have i:=(h 0 _ f rfl rfl).Hd;have j:=(h 1 _ g rfl rfl).Hd;rw[i,j]
theorem a3G{C:Hj}{a b:Value}(c:DT C a=true)(hb:DT C b=true):G0 a b=true↔a=b:=by
 cases C with
 |int k=>cases a<;>cases b<;>simp_all [DT,G0,Hq]
 |str=>cases a<;>cases b<;>simp_all [DT,G0,Hq]
 | EF k=>obtain⟨a0,d,rfl⟩:=NT c;obtain⟨e,f,rfl⟩:=NT hb;simp[G0,Ev,Hq]
theorem qI{P:Program}{C:Hj}(h:ZP P t=some C):Qu P t C:=by
 unfold ZP at h;split at h
 ·rename_i k a;cases h;exact a
 ·rename_i a;cases h;exact a
 ·rename_i n e c;split at h
  ·rename_i k i d f;split at h<;>cases h;rename_i b;obtain⟨rfl,b⟩:=b;exact⟨e,i,c,d,f,b⟩
  ·cases h
 ·cases h
variable {P:Program} {w:World} {E:TypeId} {C:Hj} {k fC:Value}
theorem cc(a:P.underlying e=some (.int q))(b:xs[off]?=some v):(part e xs off).run P w= .ok v w:=
 run_part_plain w (by simp[Program.plainKey,a]) b
theorem tc(d:Qu P E C)(g:DT C k=true)(em:Bool)(n:Nat):(Instr.checkKey em (n+2) E k).run P w= .ok () w:=by
 cases C with
 | int q=>have d:P.underlying E=some (.int q):=d;exact MapKept.run_checkKey d (by cases k<;>simp_all [DT,MapKept.IsKey]) em _
 | str=>have d:P.underlying E=some .string:=d;exact MapKept.run_checkKey d (by cases k<;>simp_all [DT,MapKept.IsKey]) em _
 | EF q=>obtain⟨e,i,h,f,j,l⟩:=d;obtain⟨a,b,rfl⟩:=NT g;have c: ∀x:Int,(Instr.checkKey em (n+1) e (.int q x)).run P w= .ok () w:= λx=>MapKept.run_checkKey f (by simp[MapKept.IsKey]) em n;have m:(part e #[.int q a,.int q b] 0).run P w= .ok (.int q a) w:=cc f rfl;have o:(part e #[.int q a,.int q b] 1).run P w= .ok (.int q b) w:=cc f rfl;rw[Instr.checkKey];simp only[Sem.run_bind,run_underlying h,Result.andThen_ok];simp[run_sizeOf w j,l,m,o,c,Std.Legacy.Range.forIn_eq_forIn_range',List.range',Result.andThen]
theorem aE1(l:Qu P E (.EF q))(m:DT (.EF q) k=true)(n:DT (.EF q) fC=true):(Op.equal E k fC).run P w= .ok (G0 k fC) w:=by
 obtain⟨e,i,o,d,p,r⟩:=l;obtain⟨a,b,rfl⟩:=NT m;obtain⟨s,t,rfl⟩:=NT n;have v:P.plainKey e=true:=by simp[Program.plainKey,d]
 have c: ∀x y:Int,(Op.equalIn (Op.maxDepth-1) e (.int q x) (.int q y)).run P w= .ok (x==y) w:= λx y=>by have:Op.maxDepth-1=(Op.maxDepth-2)+1:=(by decide);rw[this];simp[Op.equalIn,run_underlying d,Result.andThen]
 have f: ∀x y:Int,(part e #[.int q x,.int q y] 0).run P w= .ok (.int q x) w:= λx y=>cc d rfl;have g: ∀x y:Int,(part e #[.int q x,.int q y] 1).run P w= .ok (.int q y) w:= λx y=>cc d rfl;unfold Op.equal;have u:Op.maxDepth=(Op.maxDepth-1)+1:=by decide
 rw[u,run_equalIn_array w _ _ _ o p,r];simp only[List.range_succ_eq_map,List.range_zero,List.map_nil,E1];simp only[G0,Ev,Hq,Bool.and_true];by_cases h:a=s
 ·subst h;by_cases j:b=t
  ·subst j;simp[Op.eqItems,f,g,c,Result.andThen]
  ·simp[Op.eqItems,f,g,c,j,Result.andThen]
 ·simp[Op.eqItems,f,c,h,Result.andThen]
theorem a7q(c: ∀q,C≠ .EF q)(a:DT C k=true)(b:DT C fC=true):Instr.sameNow (QP C) k fC=some (G0 k fC):=by
 cases C with
 | int q=>
   cases k<;>simp[DT]at a;cases fC<;>simp[DT]at b
   grind [Instr.sameNow,G0,Hq,QP]
 | str=>
   cases k<;>simp[DT]at a;cases fC<;>simp[DT]at b
   grind [MapKept.bytes_beq,Instr.sameNow,G0,Hq,QP]
 |EF q=>exact absurd rfl (c q)
theorem aCK(c:DT C k=true):(Instr.keyThatStays k k).run P w= .ok k w:=by
 cases C with
 |int q=>exact MapKept.run_keyThatStays (d:= .int q) (by cases k<;>simp_all [DT,MapKept.IsKey])
 |str=>exact MapKept.run_keyThatStays (d:= .string) (by cases k<;>simp_all [DT,MapKept.IsKey])
 | EF q=>obtain⟨a,b,rfl⟩:=NT c;simp[Instr.keyThatStays,Instr.sameBits]
theorem pE{u:Ren}(t:Qu P E C)(o:DT C k=true): ∀(es:List (Value×Value)) (D:List MapEntry) (i:Nat),O2 u es D->(es.all λe=>DT C e.1)=true->
 (CT k es=none/\((∀q,C≠ .EF q)->Instr.findNow (QP C) k D i=some none)/\((∃q,C= .EF q)->(Instr.findAsking E k D i).run P w= .ok none w)/\ ∀v,DM k v es=es++[(k,v)])\/
 (∃j e d,es[j]?=some e/\D[j]?=some d/\d.key=k/\CT k es=some e.2/\((∀q,C≠ .EF q)->Instr.findNow (QP C) k D i=some (some (i+j,d.val)))/\((∃q,C= .EF q)->(Instr.findAsking E k D i).run P w= .ok (some (i+j,d.val)) w)/\ ∀v,DM k v es=es.set j (k,v))
 | [],D,i,h,_=>by have:D=[]:=Gy.1 h.1.symm;subst this;exact .inl ⟨rfl,λ_=>rfl,λ_=>by simp[Instr.findAsking],λ_=>rfl⟩
 | e::es,D,i,h,g=>by
   cases D with
   |nil=>have:=h.1;simp at this
   | cons d D=>
     simp only[Fz,AB]at g;obtain⟨y,l,J,K⟩:=h.2 0 e d rfl rfl;have z:O2 u es D:=⟨by simpa using h.1,λj a b y l=>h.2 (j+1) a b (by simpa using y) (by simpa using l)⟩;have m:(∀q,C≠ .EF q)->Instr.sameNow (QP C) k d.key=some (G0 k e.1):= λc=>by rw[l];exact a7q c o g.1
     have n:(∃q,C= .EF q)->(Op.equal E k d.key).run P w= .ok (G0 k e.1) w:= λ⟨q,c⟩=>by subst c;rw[l];exact aE1 t o g.1
     cases f:G0 k e.1
     ·rw[f]at m n;rcases pE t o es D (i+1) z g.2 with⟨p,r,A,s⟩|⟨j,x,B,p,r,s,F,G,H,I⟩
      ·refine .inl ⟨by simp[CT,f,p],λc=> ?_,λc=> ?_,λv=>by simp[DM,f,s]⟩
       ·simp only[Instr.findNow,m c,r c]
       ·simp only[Instr.findAsking,Sem.run_bind,n c,Result.andThen_ok,EI,if_false,A c]
      ·refine .inr ⟨j+1,x,B,by simpa using p,by simpa using r,s,by simp[CT,f,F],λc=> ?_,λc=> ?_,λv=>by simp[DM,f,I]⟩
       ·simp only[Instr.findNow,m c,G c];congr 3;omega
       ·simp only[Instr.findAsking,Sem.run_bind,n c,Result.andThen_ok,EI,if_false,H c];congr 3;omega
     ·rw[f]at m n;refine .inr ⟨0,e,d,rfl,rfl,by rw[l];exact((a3G o g.1).1 f).symm,by simp[CT,f],λc=> ?_,λc=> ?_,λv=>by simp[DM,f]⟩
      ·simp only[Instr.findNow,m c];rfl
      ·simp only[Instr.findAsking,Sem.run_bind,n c,Result.andThen_ok,if_true];rfl
theorem oV{u:Ren}(c:Qu P E C)(m:DT C k=true){D:List MapEntry}(h:O2 u es D)(n:(es.all λe=>DT C e.1)=true):
 (CT k es=none/\(Instr.findKey E k D).run P w= .ok none w/\ ∀v,DM k v es=es++[(k,v)])\/
 (∃j e f,es[j]?=some e/\D[j]?=some f/\f.key=k/\CT k es=some e.2/\(Instr.findKey E k D).run P w= .ok (some (j,f.val)) w/\ ∀v,DM k v es=es.set j (k,v)):=by
 have l: ∀r,((∀q,C≠ .EF q)->Instr.findNow (QP C) k D 0=some r)->((∃q,C= .EF q)->(Instr.findAsking E k D 0).run P w= .ok r w)->(Instr.findKey E k D).run P w= .ok r w:= λr a b=>by
  cases C with
  |int q=>exact MapKept.run_findKey (d:= .int q) c (a λ_ h=>by cases h)
  |str=>exact MapKept.run_findKey (d:= .string) c (a λ_ h=>by cases h)
  | EF q=>obtain⟨e,i,o,_⟩:=c;rw[run_findKey_eq w (by rw[o])];exact b ⟨q,rfl⟩
 rcases pE (P:=P) (w:=w) c m es D 0 h n with⟨a,b,p,g⟩|⟨j,x,s,a,b,g,t,y,z,A⟩
 ·exact .inl ⟨a,l _ b p,g⟩
 ·exact .inr ⟨j,x,s,a,b,g,t,l _ (by simpa using y) (by simpa using z),A⟩
variable {P:Program} {w:World} {o:Oper} {a:Act} {u:Ren} {J:Nat} {A:A6} {m:V} {aJ id:Nat}
theorem a1n{z:Value}(a:YV P e=some z):(zeroValue e).run P w= .ok z w/\BB z=true:=by
 unfold YV at a;split at a
 ·rename_i i b;split at a
  ·rename_i c d;split at a<;>cases a
   simp_all [zeroValue,typeInfo]
  ·cases a
 ·cases a
theorem BA.a3Q(a:BA aJ u m w)(K:aJ<=w.heap.size)(L:id<m.next)(M:u id=none):BA aJ (DU u id ⟨w.heap.size,0,0⟩) (m.Cf id []) (w.alloc (.map #[] 0)):=by
 have n:=Kt (l:=⟨w.heap.size,0,0⟩) M;have N:(w.alloc (.map #[] 0)).heap.size=w.heap.size+1:=by show(w.heap.push _).size=_;rw[Array.size_push]
 have q: ∀k,k<w.heap.size->(w.alloc (.map #[] 0)).heap[k]?=w.heap[k]?:= λk A4=>by show(w.heap.push _)[k]?=_;rw[Array.getElem?_push,if_neg (by omega)]
 have r: ∀b,(m.Cf id []).W b=if b=id then some ⟨[],true⟩else m.W b:= λb=>by
  unfold V.W V.Cf
  grind
 have f: ∀b l,DU u id ⟨w.heap.size,0,0⟩ b=some l->(b=id/\l=⟨w.heap.size,0,0⟩)\/(b≠id/\u b=some l):= λb l h=>by
  grind [DU]
 refine⟨λb l hb=> ?_,λb l hb=> ?_,λb x d=> ?_,λb x s O l t B P C F y g=> ?_,λb es hb=> ?_,λb es hb=> ?_,λb x l d z E=>(by
  rcases f b l E with⟨_,rfl⟩|⟨e,h⟩
  ·exact IE.rI (es:= #[]) (bp:=0) (by show(w.heap.push _)[w.heap.size]?=_;simp)
  ·rw[r,if_neg e]at d;exact(a.NU b x l d z h).Rb (q _ (a.G9 b l h)))⟩
 ·rcases f b l hb with⟨rfl,_⟩|⟨_,h⟩
  ·exact L
  ·exact a.Fq b l h
 ·rcases f b l hb with⟨_,rfl⟩|⟨_,h⟩
  ·simp_all
  ·rw[N];have:=a.G9 b l h;omega
 ·rw[r]at d;split at d
  ·rename_i e;cases d
   simp_all [DU]
  ·obtain⟨l,p,A,Q,G⟩:=a.G2 b x d;have H:=a.G9 b l p;have I: ∀i,(w.alloc (.map #[] 0)).cell? ⟨l.c,l.o+i,none⟩=w.cell? ⟨l.c,l.o+i,none⟩:= λi=>World.cell?_of_block (w:=w) (q l.c H);have R: ∀i,(w.alloc (.map #[] 0)).frozen? ⟨l.c,l.o+i,none⟩=w.frozen? ⟨l.c,l.o+i,none⟩:= λi=>World.frozen?_of_block (w:=w) (q l.c H);exact⟨l,n _ _ p,A,λi v S=>by obtain⟨T,U,X,Y⟩:=Q i v S;exact⟨T,U,by rw[I];exact X,Y.AG n⟩,λz=>⟨(G z).1,λi Z=>by rw[I,R];exact(G z).2 i Z⟩⟩
 ·rw[r]at B C;rcases f b l y with⟨rfl,rfl⟩|⟨e,y⟩
  ·rcases f s t g with⟨j,_⟩|⟨j,g⟩
   ·exact absurd j.symm F
   ·have:=a.G9 s t g;simp only;omega
  ·rcases f s t g with⟨j,rfl⟩|⟨j,g⟩
   ·have:=a.G9 b l y;simp only;omega
   ·rw[if_neg e]at B;rw[if_neg j]at C;exact a.MD b x s O l t B P C F y g
 ·by_cases e:b=id
  ·exact⟨⟨w.heap.size,0,0⟩,by simp[DU,e]⟩
  ·have:m.mp b=some es:=(by simpa[V.Cf,e]using hb);obtain⟨l,E⟩:=a.NC b es this;exact⟨l,n _ _ E⟩
 ·obtain⟨p,A⟩:=V.Hp hb;by_cases e:b=id
  ·subst e;have:es=[]:=(by simpa[V.Cf]using A.symm);subst this;exact⟨⟨w.heap.size,0,0⟩,#[],0,by simp[DU],K,by show(w.heap.push _)[w.heap.size]?=_;simp,⟨rfl,λi e j h=>by simp at h⟩⟩
  ·rw[r,if_neg e]at p;have A0:m.mp b=some es:=(by simpa[V.Cf,e]using A);obtain⟨l,D,bp,J,A1,A2,A3⟩:=a.maps b es (V.E7 p A0);exact⟨l,D,bp,n _ _ J,A1,by rw[q _ (a.G9 b l J)];exact A2,A3.AG n⟩
theorem a3n(f:o.op= .makeMap t none)(d:BA aJ u m w)(b:aJ<=w.heap.size)(e:id<m.next)(c:u id=none):Ix P o .LB a aJ u A m w id:=by
 refine⟨.map (some w.heap.size),w.alloc (.map #[] 0),DU u id ⟨w.heap.size,0,0⟩,.inl ?_,Kt c,NQ,?_,d.a3Q b e c,Mf rfl rfl rfl rfl b _⟩
 ·simp_all [execOp,Instr.makeMap]
 ·exact .map (l:=⟨w.heap.size,0,0⟩) (by simp[DU])
theorem BA.qT(d:BA aJ u m w)(q:m.BL b=some es)(r:u b=some l)(T:aJ<=l.c)(s:w.heap[l.c]?=some (.map D bp))
 (U:O2 u fs M.toList):BA aJ u (m.Cf b fs) {w with heap:=w.heap.setIfInBounds l.c (.map M N)}:=by
 obtain⟨p,X⟩:=V.Hp q;have hb:=V.F p;obtain⟨t,v⟩:=MapKept.heap_set (o':= .map M N) s;have f: ∀a,(m.Cf b fs).W a=m.W a:= λa=>by
  by_cases h:a=b
  ·simp_all [V.W,V.Cf]
  ·unfold V.W V.Cf;simp[h]
 have y: ∀H:Addr,World.cell? {w with heap:=w.heap.setIfInBounds l.c (.map M N)} H=w.cell? H:= λH=>by
  grind [World.cell?]
 have z: ∀H:Addr,World.frozen? {w with heap:=w.heap.setIfInBounds l.c (.map M N)} H=w.frozen? H:= λH=>by
  grind [World.frozen?]
 refine⟨d.Fq,λa g A=>by show g.c<(w.heap.setIfInBounds _ _).size;rw[Array.size_setIfInBounds];exact d.G9 a g A,λa x i=> ?_,λB C E G I j J K L=>d.MD B C E G I j (by rw[<-f];exact J) K (by rw[<-f];exact L),λa k n=> ?_,λa k n=> ?_,λa x g i O P=>(by
  by_cases e:g.c=l.c
  ·rw[e];exact IE.rI t
  ·exact(d.NU a x g (by rw[<-f];exact i) O P).Rb (v _ e))⟩
 ·rw[f]at i;simpa only[y,z]using d.G2 a x i
 ·by_cases e:a=b
  ·simp_all
  ·exact d.NC a k (by simpa[V.Cf,e]using n)
 ·obtain⟨o,Q⟩:=V.Hp n;rw[f]at o;by_cases e:a=b
  ·grind [V.Cf]
  ·have R:m.mp a=some k:=(by simpa[V.Cf,e]using Q);obtain⟨j,Y,Z,S,A0,A1,A2⟩:=d.maps a k (V.E7 o R);have A3:j.c≠l.c:=d.MD a _ b _ j l o rfl p e S r
   simp_all
theorem aDa{E:TypeId}{C:Hj}{k v:Operand}(L:o.op= .mapUpdate t x k v)(M:P.underlying t=some (.map E e))(N:Qu P E C)(Z:An x=true)(Q:An k=true)(A0:An v=true)
 (s:Cw u J A a) (y:BA aJ u m w) (f:(K.Kn C x k v).ok A m=true):Ix P o (.Kn C x k v) a aJ u A m w id:=by
 simp only[K.ok]at f;have R:=s.O Z;cases z:O A x<;>simp only[z]at f<;>try cases f
 rename_i p;cases p with
 |none=>simp at f
 | some b=>
   simp only at f;rw[z]at R;obtain⟨l,B,S⟩:=R.UI;cases h:m.BL b with
   |none=>simp[h]at f
   | some es=>
     simp only[h,DX,AB]at f;obtain⟨⟨r,A1⟩,A8⟩:=f;obtain⟨A9,D,bp,T,U,n,q⟩:=y.maps b es h;rw[B]at T;cases T;have V:a.eval k=O A k:=yF (s.O Q) r;have AD:=s.O A0;have W:(K.Kn C x k v).Cl id A m=m.Cf b (DM (O A k) (O A v) es):=(by simp only[K.Cl,z,Mx,h,L2]);have X:(Instr.checkKey false 10000 E (O A k)).run P w= .ok () w:=tc N r false 9998;have Y: ∀o',Below aJ w {w with heap:=w.heap.setIfInBounds l.c o'}:= λo'=>⟨rfl,rfl,rfl,by show _<=(w.heap.setIfInBounds _ _).size;rw[Array.size_setIfInBounds];exact Ao _,λk Q=>by
      grind⟩
     rcases oV (P:=P) (w:=w) N r q A1 with⟨_,F,G⟩|⟨j,AE,A2,AF,F,G,_,A3,A4⟩
     ·have H:(Instr.mapUpdate t (a.eval x) (a.eval k) (a.eval v)).run P w= .ok () {w with heap:=w.heap.setIfInBounds l.c (.map (D.push {key:=O A k,val:=a.eval v,born:=bp}) (bp+1))}:=by
       simp[Instr.mapUpdate,S,V,run_underlying M,MapKept.run_getObj_map n,X,F,MapKept.run_setObj_map _ n]
      refine⟨undef,_,u,.inr ⟨by simp only[execOp,L,H,Sem.run_bind,Result.andThen_ok];rfl,rfl⟩,CZ.refl u,λ_ _=>rfl,B6.undef u,?_,Y _⟩;rw[W,G];refine y.qT h B U n ⟨by simp[q.1],λi e I g d=> ?_⟩;simp only[Array.toList_push]at d;rw[MY]at g d;rw[<-q.1]at d;split at g
      ·rename_i A5;rw[if_pos A5]at d;exact q.2 i e I g d
      ·grind [q9]
     ·have A6:D[j]?=some A2:=(by simpa using F);have H:(Instr.mapUpdate t (a.eval x) (a.eval k) (a.eval v)).run P w= .ok () {w with heap:=w.heap.setIfInBounds l.c (.map (D.modify j λe=>{e with key:=O A k,val:=a.eval v}) bp)}:=by
       simp[Instr.mapUpdate,S,V,run_underlying M,MapKept.run_getObj_map n,X,A3,A6,G,aCK r,MapKept.run_setObj_map _ n]
      refine⟨undef,_,u,.inr ⟨by simp only[execOp,L,H,Sem.run_bind,Result.andThen_ok];rfl,rfl⟩,CZ.refl u,λ_ _=>rfl,B6.undef u,?_,Y _⟩;rw[W,A4];refine y.qT h B U n ⟨by simpa using q.1,λi e I g d=> ?_⟩;simp only[Array.getElem?_toList,Array.getElem?_modify]at d;rw[Ig]at g;by_cases A7:j=i
      ·grind [q9]
      ·rw[if_neg A7]at g d;exact q.2 i e I g (by simpa using d)
theorem aAk{E:TypeId}{C:Hj}{z:Value}{ok:Bool}{k:Operand}(Z:o.op= .lookup t x k ok)(G:P.underlying t=some (.map E e))(H:Qu P E C)(A0:YV P e=some z)(A1:An x=true)(A2:An k=true)
 (I:Cw u J A a) (L:BA aJ u m w) (d:(K.Ll C z ok x k).ok A m=true):Ix P o (.Ll C z ok x k) a aJ u A m w id:=by
 obtain⟨A3,A4⟩:=a1n (w:=w) A0;simp only[K.ok]at d;have A5: ∃(es:List (Value×Value)) (D:Array MapEntry),Et m (O A x)=some es/\O2 u es D.toList/\((a.eval x= .map none/\D= #[])\/ ∃r bp,a.eval x= .map (some r)/\w.heap[r]?=some (.map D bp)):=by
  have f:=I.O A1;cases g:O A x<;>simp only[g,Et]at d<;>try cases d
  rename_i p;cases p with
  | none=>rw[g]at f;exact⟨[],#[],rfl,⟨rfl,λi e AM h=>by simp at h⟩,.inl ⟨f.DH rfl,rfl⟩⟩
  | some b=>
    rw[g]at f;obtain⟨l,A6,A7⟩:=f.UI;cases n:m.BL b with
    |none=>simp[n]at d
    | some es=>obtain⟨AN,D,bp,M,AO,A8,A9⟩:=L.maps b es n;rw[A6]at M;cases M;exact⟨es,D,n,A9,.inr ⟨l.c,bp,A7,A8⟩⟩
 obtain⟨es,D,N,Q,AD⟩:=A5;rw[N]at d;simp only[DX,AB]at d;obtain⟨q,AE⟩:=d;have R:a.eval k=O A k:=yF (I.O A2) q;have AF:=oV (P:=P) (w:=w) H q Q AE;have AG: ∃(v:Value) (a6:Nat×Value) (b:Bool),(Instr.findKey E (O A k) D.toList).run P w= .ok (if b then some (a6.1,a6.2)else none:Option (Nat×Value)) w/\(CT (O A k) es).isSome=b/\(b=true->CT (O A k) es=some v/\B6 u v a6.2):=by
  rcases AF with⟨s,y,_⟩|⟨j,S,T,s,y,AP,U,AH,_⟩
  ·exact⟨.nilIface,(0,.nilIface),false,by simpa using y,by rw[s];rfl,λh=>by cases h⟩
  ·obtain⟨_,_,_,AJ⟩:=Q.2 j S T s y;exact⟨S.2,(j,T.val),true,by rw[AH];rfl,by rw[U];rfl,λ_=>⟨U,AJ⟩⟩
 obtain⟨v,a6,b,V,W,AQ⟩:=AG;have AK:(K.Ll C z ok x k).val id A m=if ok then .tuple #[(CT (O A k) es).getD z,.bool (CT (O A k) es).isSome]else(CT (O A k) es).getD z:=by simp only[K.val,N,Option.bind_some]
 have AL:(Instr.lookup t (a.eval x) (a.eval k) ok).run P w= .ok (if ok then .tuple #[if b then a6.2 else z,.bool b]else if b then a6.2 else z) w:=by
  have X: ∀e,(Instr.checkKey e 10000 E (O A k)).run P w= .ok () w:= λe=>tc H q e 9998;rcases AD with⟨B,F⟩|⟨r,bp,B,F⟩
  ·simp_all [Instr.lookup,run_underlying]
  ·cases b
   ·simp[Instr.lookup,B,R,run_underlying G,MapKept.run_getObj_map F,X,V,A3]
   ·simp[Instr.lookup,B,R,run_underlying G,MapKept.run_getObj_map F,X,V]
 refine⟨_,w,u,.inl (by simp only[execOp,Z,AL,Sem.run_bind,Result.andThen_ok];rfl),CZ.refl u,λ_ _=>rfl,?_,L,Below.refl _ _⟩;rw[AK];have Y:B6 u ((CT (O A k) es).getD z) (if b then a6.2 else z):=by
  cases b
  ·have:CT (O A k) es=none:=(by simpa using W);rw[this];exact .BT A4
  ·simp_all
 cases ok
 ·exact Y
 ·simp only[if_true];rw[W];exact Al.tuple (xs:=[_,_]) (ys:=[_,_]) (Al.cons Y (Al.cons (.BT rfl) (Al.nil u)))
variable {P:Program} {w:World} {o:Oper} {a:Act} {u:Ren} {J:Nat} {A:A6} {m:V} {aJ id:Nat}
theorem a6F{k:K}(h:k.pure=true):k.Cl id A m=m:=by cases k<;>first|rfl|(simp[K.pure]at h)
theorem aBt{k:K}(b:PU P o=some k)(O:k.F0=false)(E:Cw u J A a)(j:BA aJ u m w)(q:aJ<=w.heap.size)(v:k.Bt=true->id<m.next)(C:k.Bt=true->u id=none)(p:k.ok A m=true):Ix P o k a aJ u A m w id:=by
 by_cases f:k.pure=true
 ·obtain⟨R,G,H⟩:=a7L (w:=w) (m:=m) b f E p id;exact⟨R,w,u,G,CZ.refl u,λ_ _=>rfl,H,by rw[a6F f];exact j,Below.refl _ _⟩
 ·rcases aL b with b|rfl
  rotate_left
  ·rw[sd]at p;cases p
  unfold So at b;split at b
  ·split at b<;>cases b;exact absurd rfl f
  ·split at b<;>cases b;exact absurd rfl f
  ·split at b<;>cases b;exact absurd rfl f
  ·split at b<;>cases b;exact absurd rfl f
  ·
   rename_i e g;split at b<;>cases b;rename_i z i;exact a2M g i j q (v rfl) (C rfl)
  ·
   rename_i e x g;split at b<;>cases b;rename_i h;exact aFh g h E p j q (v rfl) (C rfl)
  ·(repeat' split at b)<;>cases b<;>exact absurd rfl f
  ·
   rename_i t n ps g;split at b
   ·rename_i e D;split at b
    ·rename_i z i;split at b
     ·rename_i W S;split at b<;>cases b;rename_i I;simp only[AB,Ba]at I;exact aDn g D i S I.1 I.2 E j q (v rfl) (C rfl) p
     ·cases b
    ·cases b
   ·cases b
  ·grind [aFb]
  ·grind [a3Y]
  ·(repeat' split at b)<;>cases b<;>exact absurd rfl f
  ·(repeat' split at b)<;>cases b<;>exact absurd rfl f
  ·
   rename_i s d x g;split at b
   ·split at b<;>cases b;exact absurd rfl f
   ·split at b<;>cases b;exact absurd rfl f
   ·grind [a5m]
   ·grind
   ·cases b
  ·
   rename_i t l c g;split at b
   ·rename_i e D;split at b
    ·rename_i z B i F;split at b<;>cases b;rename_i h;simp only[AB]at h;exact aAc g D i F h.1 h.2 E j q (v rfl) (C rfl) p
    ·cases b
   ·cases b
  ·
   rename_i t x X F Y g;split at b
   ·split at b<;>cases b;exact absurd rfl f
   ·(repeat' split at b)<;>cases b<;>exact absurd rfl f
   ·grind [Option.isNone_iff_eq_none,a2F]
   ·cases b
  ·(repeat' split at b)<;>cases b<;>exact absurd rfl f
  ·(repeat' split at b)<;>cases b<;>exact absurd rfl f
  ·(repeat' split at b)<;>cases b<;>exact absurd rfl f
  ·(repeat' split at b)<;>cases b<;>exact absurd rfl f
  ·(repeat' split at b)<;>cases b<;>exact absurd rfl f
  ·(repeat' split at b)<;>cases b<;>exact absurd rfl f
  ·(repeat' split at b)<;>cases b<;>exact absurd rfl f
  ·
   rename_i t r g;split at b
   ·rename_i k e D;cases b;exact a3n g j q (v rfl) (C rfl)
   ·cases b
  ·grind [aAk,qI]
  ·grind [aDa,qI]
  ·(repeat' split at b)<;>cases b<;>exact absurd rfl f
  ·
   rename_i c g;unfold Vi at b;split at b
   ·split at b<;>cases b;simp[K.F0]at O
   ·grind [K.F0]
   ·grind [K.F0]
   ·(repeat' split at b)<;>cases b<;>exact absurd rfl f
   ·rename_i L;split at b
    ·rename_i x y t a6 M N;split at b
     ·rename_i e D;split at b
      ·rename_i B F;split at b
       ·rename_i T;subst T;split at b<;>cases b;rename_i h;simp only[AB]at h;obtain⟨⟨G,H⟩,U⟩:=h;obtain⟨z,i⟩:=ax.1 U;exact a8l g L M N D F i G H E j q (v rfl) (C rfl) p
       ·split at b
        ·rename_i Q Z V i;split at b<;>cases b;rename_i h;simp only[AB]at h;exact aF3 g L M N D V F i h.1 h.2 E j q (v rfl) (C rfl) p
        ·cases b
      ·cases b
     ·cases b
    ·cases b
   ·(repeat' split at b)<;>cases b<;>exact absurd rfl f
   ·(repeat' split at b)<;>cases b<;>exact absurd rfl f
   ·(repeat' split at b)<;>cases b<;>exact absurd rfl f
   ·grind [a1m]
   ·cases b
  ·cases b
theorem a70{z bytes:Nat}(b:PU P o=some (.app z bytes x y))(e:Cw u J A a)(f:BA aJ u m w)(g:aJ<=w.heap.size)(h:id<m.next)(i:u id=none)(j:(K.app z bytes x y).ok A m=true):
 qq P o z bytes x y a aJ u A m w id:=by
 rcases aL b with b|d
 rotate_left
 ·cases d
 unfold So at b;split at b
 case h_27 c k=>
  unfold Vi at b;split at b
  case h_5 l=>
   grind [Option.isSome_iff_exists,y2]
  all_goals((repeat' split at b)<;>cases b)
 all_goals((repeat' split at b)<;>cases b)
def SS(P:Program)(f:Nat):Prop:= ∃fn,P.funcs[f]?=some fn∧fn.body.isSome=true∧(fn.name== "runtime.NumGoroutine")=false
theorem wK(h:r∈mJ P name):QK P name r.1=some r/\r.1<P.types.size:=by
 unfold mJ at h;obtain⟨t,b,a⟩:=RD.1 h;have:r.1=t:=by
  unfold QK at a
  (repeat' split at a)<;>cases a<;>rfl
 simp_all
theorem a0j{t:Nat}(h:QK P name t=some (t,f,none)/\t<P.types.size):
 (method (P.types.size+Made.depth) t v name).run P w= .ok (f,v) w:=by
 obtain⟨h,a⟩:=h;unfold QK at h
 (repeat' split at h)<;>cases h
 rename_i b _ c d e _ _ _ g i j;obtain⟨n,k⟩: ∃n,P.types.size+Made.depth=n+1:=⟨P.types.size+Made.depth-1,by omega⟩
 simp_all [method,typeInfo,follow,receiverAt,underlying,Place.get]
theorem lD(h:SS P f):(callFunc f args).run P w= .ok (.enter f args) w:=by
 obtain⟨fn,b,a,c⟩:=h;have d:fn.body≠none:=by intro hb;simp[hb]at a
 simp_all [callFunc]
theorem aG3{x y:String}:Builtin.ssaWrapNilChk_ A1 t #[.pointer (some H),strVal x,strVal y]=pure (.pointer (some H)):=rfl
theorem a57{t:Nat}(h:QK P name t=some (t,f,some (L,n))/\t<P.types.size)
 (a:L=true\/n=1) (b:ds.length=n) (c: ∀(j:Nat) a6,ds[j]?=some a6->w.cell? (H.add j)=some a6):
 (method (P.types.size+Made.depth) t (.pointer (some H)) name).run P w= .ok (f,if L then .agg ds.toArray else ds.headD undef) w:=by
 obtain⟨h,k⟩:=h;unfold QK at h
 (repeat' split at h)<;>cases h
 rename_i l _ d m e _ _ _ o p _ _ q g i;obtain⟨n,r⟩: ∃n,P.types.size+Made.depth=n+1:=⟨P.types.size+Made.depth-1,by omega⟩;have s:d.path.toList=[]:=by simpa using e
 have u:=lJ (P:=P) (w:=w) g i a b c
 simp_all [method,typeInfo,follow,receiverAt,underlying,Place.get,aG3,asAddr]
theorem pI{t:Nat}{a:Value}(b:(method (P.types.size+Made.depth) t v name).run P w= .ok (f,a) w)(c:SS P f):
 (invoke (.fn (.method name) #[]) (#[.iface t v]++args)).run P w= .ok (.enter f (#[a]++args)) w:=by
 simp_all [Array.getElem?_append_left,invoke,callMethod,lD]
def Ie(P:Program)(aJ:Nat)(d:Callee):Prop:= ∀f args m r a,d f args m=some (r,a)->SS P f/\m.next<=a.next/\(∀b,b<m.next->m.W b=none->a.W b=none)/\
 (∀id x,id<m.next->m.W id=none->d f args (m.A0 id x)=some (r,a.A0 id x))/\
 ∀ u w (g:Array Value),Al u args g.toList->BA aJ u m w->aJ<=w.heap.size->
   Calls P f g w λe I=> ∃v c,e= .returned v/\CZ u c/\(∀b,b<m.next->c b=u b)/\B6 c r v/\BA aJ c a I/\Below aJ w I
theorem aA3{k:K}(d:PU P o=some k)(h:Cw u J A a)(G:BA aJ u m w){args:List Value}(b:k.C2 A m=some (f,args))(N:SS P f):
 ∃z:Array Value,(execOp a.eval o).run P w= .ok (.enter f z) w/\Al u args z.toList:=by
 rcases aL d with d|rfl
 rotate_left
 ·cases b
 unfold So at d;split at d
 case h_27 c Q=>
  unfold Vi at d;split at d
  ·
   rename_i t name B;split at d<;>cases d;rename_i e;simp only[K.C2]at b;have i:=h.O (x:= .tmp t) rfl;split at b
   ·rename_i C v p;rw[p]at i;obtain⟨D,R,E⟩:=i.V8;split at b
    ·rename_i q g j;simp only[GY,JM]at b;obtain⟨rfl,rfl⟩:=b;have r:q=C:=(by have:=List.find?_some j;simpa using this);subst r;refine⟨#[D]++c.args.map a.eval,?_,by simpa using Al.cons E (RO h _ e)⟩;have I:=a0j (w:=w) (v:=D) (wK (List.mem_of_find?_eq_some j))
     grind [execOp,resolve,pI]
    ·rename_i q g L n j;split at b
     ·rename_i l;simp only[GY,JM]at b;obtain⟨rfl,rfl⟩:=b;have r:q=C:=(by have:=List.find?_some j;simpa using this);subst r;simp only[AB,N0,Ba]at l;obtain⟨H,ds,F,s,y,M⟩:=ly G E l.1 l.2;refine⟨#[if L then .agg ds.toArray else ds.headD undef]++c.args.map a.eval,?_,by simpa using Al.cons M (RO h _ e)⟩;have I:=a57 (w:=w) (wK (List.mem_of_find?_eq_some j)) l.2 s y
      grind [execOp,resolve,pI]
     ·cases b
    ·cases b
   ·cases b
  ·
   rename_i g B;split at d
   ·rename_i fn S;split at d<;>cases d;rename_i e;simp only[AB]at e;simp only[K.C2,GY,JM]at b;obtain⟨rfl,rfl⟩:=b;refine⟨c.args.map a.eval,?_,by simpa using RO h _ e.2⟩;have F:a.eval (.func g)= .func (.func g) #[] #[]:=rfl
    grind [execOp,resolve,Deferred.ofValue,invoke,lD]
   ·cases d
  ·
   rename_i t B;split at d<;>cases d;rename_i e;simp only[K.C2]at b;have i:=h.O (x:= .tmp t) rfl;split at b
   ·rename_i g first T p
    simp only[GY,JM]at b;obtain⟨rfl,rfl⟩:=b;rw[p]at i;obtain⟨ys,ds,F,s,y⟩:=i.QU;refine⟨ys++c.args.map a.eval++ds,?_,by simpa using(s.Iu (RO h _ e)).Iu y⟩
    grind [execOp,resolve,Deferred.ofValue,invoke,lD]
   ·cases b
  all_goals((repeat' split at d)<;>cases d<;>simp[K.C2]at b)
 all_goals((repeat' split at d)<;>cases d<;>simp[K.C2]at b)
end Go.DI
