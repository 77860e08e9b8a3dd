/- A part of the proof. -/
import Derived.Lib.AppendZeros
import Derived.MapKept
import Derived.WideKeyRuns
import Derived.Test.YtmmkkggfmigppaaGreatZdc
set_option linter.all false
set_option maxRecDepth 20000
set_option maxHeartbeats 16000000
namespace Go.DI
open Go Go.RowKit
variable {P:Program} {w:World} {o:Oper} {a:Act} {u:Ren} {J:Nat} {A:A2} {m:X} {aH id:Nat}
theorem a7q(t d e:TypeId)(i:TypeInfo)(f:P.underlying t=some (.slice e))(g:P.info? e=some i)(base q:Option Addr)(a b c:Nat)(h:a<=b):
 (Builtin.append_ #[t,t] d #[.slice base a b,.slice q 0 c]).run P w= .ok (.slice base a b) w:=by
 have j:(Builtin.firstCells i.size 0 (.slice q 0 c)).run P w= .ok #[] w:=by cases q<;>simp[Builtin.firstCells,loadCells,loadCellsFrom]
 cases base<;>simp[Builtin.append_,run_underlying f,sizeOf,typeInfo,g,Builtin.lenOf,h,j,storeCells]
theorem pP(t h e:TypeId)(i:TypeInfo)(k:P.underlying t=some (.slice e))(l:P.info? e=some i)(c o b d:Nat)(H:Addr)(n f:Nat)(a:List Value)(m:a.length=n*i.size)
 (p: ∀(j:Nat) aY,a[j]?=some aY->w.cell? (H.add j)=some aY) (q: ∀aY∈a,aY.oneCell'=true) (r:b+n<=d)
 (s: ∀j,j<a.length->(w.cell? ⟨c,o+b*i.size+j,none⟩).isSome=true) (u: ∀j,j<a.length->w.frozen? ⟨c,o+b*i.size+j,none⟩=false):
 (Builtin.append_ #[t,t] h #[.slice (some ⟨c,o,none⟩) b d,.slice (some H) n f]).run P w= .ok (.slice (some ⟨c,o,none⟩) (b+n) d) (w.setCells c (o+b*i.size) a):=by
 have v:=run_firstCells_some (P:=P) w i.size n H n f a m p;have g:=run_storeCells_cells (P:=P) c (o+b*i.size) a 0 w (by simpa using s) (by simpa using u) q;simp only[MG]at g;simp[Builtin.append_,run_underlying k,sizeOf,typeInfo,l,Builtin.lenOf,r,v,ll,g]
variable{aY v:Value}{c:Call}{I:World}{t e:TypeId}{x y:Operand}{H:Addr}{n b off N bx f:Nat}{B:TypeInfo}{z ds:List Value}{O q:IntKind}{xs args:Array Value}{es fs:List (Value×Value)}{K D:Array MapEntry}{l:Pj}{name:String}{r:TypeId×Nat×Option (Bool×Nat)}{A0:Array TypeId}{L:Bool}
theorem Sf{s:TypeId}{r:Value}(e:o.op= .call c)(f:c.callee= .builtin .append)(b:c.args.toList=[x,y])(d:c.argTypes.toList=[t,s])
 (g:a.eval x=aY) (i:a.eval y=v) (h:(Builtin.append_ #[t,s] o.type #[aY,v]).run P w= .ok r I):EP P o a w r I:=by
 refine .inl ?_;have j:c.args= #[x,y]:=by rw[<-KX (xs:=c.args),b]
 have k:c.argTypes= #[t,s]:=by rw[<-KX (xs:=c.argTypes),d]
 simp_all [execOp,resolve,invoke,builtin]
theorem PQ{z:Nat}(h:Br m z v=true):v= .slice none 0 0\/ ∃b off len x a,v= .slice (some ⟨b,off,a⟩) len z/\m.Y b=some x/\off+len*z<=x.cells.length:=by
 unfold Br at h;split at h
 ·simp_all
 ·rename_i H l c;simp only[AF,beq_iff_eq]at h;obtain⟨rfl,h⟩:=h;split at h
  ·rename_i x d;obtain⟨b,off,a⟩:=H
   grind
  ·cases h
 ·cases h
def se(P:Program)(o:Oper)(z bytes:Nat)(x y:Operand)(a:Act)(aH:Nat)(u:Ren)(A:A2)(m:X)(w:World)(id:Nat):Prop:=
 ∃ e I d,EP P o a w e I/\CY u d/\(∀b,b≠id->d b=u b)/\BD d ((M.app z bytes x y).val id A m) e/\BF aH d ((M.app z bytes x y).Cj id A m) I/\Below aH w I/\
   (HK z m (U A x)=true-> ∀b aY l,m.Y b=some aY->u b=some l-> ∀i,i<aY.cells.length->I.cell? ⟨l.c,l.o+i,none⟩=w.cell? ⟨l.c,l.o+i,none⟩)
theorem xL{w:World}(h:Below n w I)(a:H.block<n):I.cell? H=w.cell? H:=by simp only[World.cell?,h.block _ a]
theorem qi(AO:o.op= .call c)(A9:c.callee= .builtin .append)(AQ:c.args.toList=[x,y])(AR:c.argTypes.toList=[t,t])
 (AJ:P.underlying t=some (.slice e)) (AA:P.info? e=some B) (BV:Iv P e=some z) (BY:Ay x=true) (BZ:Ay y=true)
 (B7:Cr u J A a) (C:BF aH u m w) (Am:aH<=w.heap.size) (An:id<m.ac) (AS:u id=none)
 (B8:(M.app B.size B.bytes x y).ok A m=true):se P o B.size B.bytes x y a aH u A m w id:=by
 obtain⟨Bw,AT,AB,B9,Ba,Bx,Bb⟩:=P0 BV;rw[AA]at AB;cases AB;have Bc:AT.cells.size=B.size:=by rw[<-Bb,<-Ba];simp
 simp only[M.ok,AF,BW]at B8;obtain⟨⟨⟨⟨⟨Ap,BA⟩,BB⟩,Bd⟩,Ac⟩,Aq⟩:=B8;have S:=B7.U BY;have AK:=B7.U BZ

 have A3: ∃q BC,a.eval y= .slice q (CO (U A y)) BC:=by
  rcases PQ BB with E|⟨b,off,len,AU,Be,E,_,_⟩
  ·rw[E]at AK;exact⟨none,0,by rw[E];exact AK.DF rfl⟩
  ·rw[E]at AK;obtain⟨_,_,_,_,_,g,_⟩:=AK.Fl;exact⟨_,_,by rw[E];exact g⟩
 obtain⟨q,BC,A3⟩:=A3;have T: ∃p Ar,a.eval x= .slice p (CO (U A x)) Ar/\CO (U A x)<=Ar:=by
  rcases PQ Ap with E|⟨b,off,len,AU,Be,E,_,_⟩
  ·rw[E]at S;exact⟨none,0,by rw[E];exact S.DF rfl,by rw[E];exact Aj _⟩
  ·rw[E]at S;obtain⟨_,_,_,_,_,g,_,AV,_⟩:=S.Fl;exact⟨_,_,by rw[E];exact g,by rw[E];exact AV⟩
 by_cases Z:CO (U A y)=0
 ·obtain⟨p,Ar,T,Bf⟩:=T;rw[Z]at A3;refine⟨a.eval x,w,u,?_,CY.refl u,λ_ _=>rfl,by simpa only[M.val,Z,if_true]using S,by simpa only[M.Cj,Z,if_true]using C,Below.refl _ _,λ_ _ _ _ _ _ _ _=>rfl⟩;rw[T];exact Sf AO A9 AQ AR T A3 (a7q t _ e B AJ AA _ _ _ _ _ Bf)
 ·
  rcases PQ BB with E|⟨L,G,d,AU,By,As,AL,Bg⟩
  ·rw[E]at Z;exact absurd rfl Z
  rw[As]at AK;obtain⟨Q,Bh,AM,At,_,A3,Au,Bz,_⟩:=AK.Fl
  replace At:u L=some Q:=At
  replace Au:(AM=0/\d=0)\/(Bh=⟨Q.c,Q.o+G,none⟩/\G+AM*B.size<=Q.n):=Au
  have AW:CO (U A y)=d:=(by rw[As];rfl);have BE:C5 m B.size (U A y)=C3 m L G (d*B.size):=(by rw[As];rfl);rw[AW]at Z Ac Aq;obtain⟨r,Af,N,Ag,BG⟩:=C.cells AL At Bg;rcases Au with⟨_,BH⟩|⟨rfl,_⟩
  ·omega
  by_cases A4:Dj m B.size (U A x) d=true
  ·
   rcases PQ Ap with s|⟨b,off,len,A0,Av,s,I,BI⟩
   ·rw[s]at A4;simp[Dj]at A4
   rw[s]at S;obtain⟨l,AX,cap,D,AD,T,A2,Bi,AY⟩:=S.Fl
   replace D:u b=some l:=D
   replace A2:(cap=0/\len=0)\/(AX=⟨l.c,l.o+off,none⟩/\off+cap*B.size<=l.n):=A2
   replace AD: ∀c,Av=some c->c<=cap:=AD
   cases Av with
   |none=>rw[s]at A4;simp[Dj]at A4
   |some BJ=>
   have A6:=AD BJ rfl;have Ah:=A4;rw[s]at Ah;have BK:=Ah;simp only[Dj,I,AF,BW]at Ah;obtain⟨C0,C1⟩:=Ah;have K:A0.own=true:=(by simpa[s,Dm,I]using BA);obtain⟨A5,O,BL,Ax,V⟩:=C.GK b A0 I;rw[D]at O;cases O;have AN:len+d<=cap:=(by omega);rcases A2 with⟨BH,_⟩|⟨rfl,A2⟩
   ·omega
   have BM:(len+d)*B.size=len*B.size+d*B.size:=IQ _ _ _
   have AE:=pP (P:=P) (w:=w) t o.type e B AJ AA l.c (l.o+off) len cap ⟨Q.c,Q.o+G,none⟩ d AM r N Ag BG AN
    (λj f=>by
     have:=((V K).2 (off+len*B.size+j) (by rw[N]at f;omega)).1
     grind)
    (λj f=>by
     have:=((V K).2 (off+len*B.size+j) (by rw[N]at f;omega)).2
     grind)
   have Az:(M.app B.size B.bytes x y).val id A m= .slice (some ⟨b,off,some BJ⟩) (len+d) B.size:=(by simp only[M.val,AW,Z,if_false,s,BK,if_true,Sj]);have B0:(M.app B.size B.bytes x y).Cj id A m=m.A1 b (some ⟨CV A0.cells (off+len*B.size) (C3 m L G (d*B.size)),A0.own⟩):=(by simp only[M.Cj,AW,Z,if_false,BE,s,BK,if_true,Ga,I]);have Bj: ∀v∈C3 m L G (d*B.size),F v=true:=(by intro v h;obtain⟨A5,O,Bk,B1,Bl⟩:=C.GK L AU AL;simp only[C3,AL]at h;obtain⟨j,f,AZ⟩:=E5 (QM (MY h));exact(B1 j v (by rw[AP f,AZ])).1);have Bm:w.setCells l.c (l.o+off+len*B.size) r=w.setCells l.c (l.o+(off+len*B.size)) r:=(by rw[Jr]);refine⟨_,_,u,Sf AO A9 AQ AR T A3 AE,CY.refl u,λ_ _=>rfl,?_,?_,VK (V K).1 _ _ _,λBN Aa aY A5 A7 O i AB=> ?_⟩
   ·rw[Az];exact .slice D (.inr ⟨rfl,A2⟩) AN AY λc A9=>by cases A9;exact A6
   ·rw[B0,Bm];exact C.store I K D Af Bj (by rw[Af.1,N];omega)
   ·exfalso;rw[s]at BN;simp only[HK,I,BW]at BN;have:0<d*B.size:=Nat.mul_pos (by omega) Bd;omega
  have A4:Dj m B.size (U A x) d=false:=(by simpa using A4);have Az:(M.app B.size B.bytes x y).val id A m= .slice (some ⟨id,0,none⟩) (CO (U A x)+d) B.size:=(by simp only[M.val,AW,Z,if_false,A4,E3]);have B0:(M.app B.size B.bytes x y).Cj id A m=(EC m (U A x)).A1 id (some ⟨C5 m B.size (U A x)++C3 m L G (d*B.size),true⟩):=by simp only[M.Cj,AW,Z,if_false,A4,E3,BE]

  have BO: ∀(R:Nat) (W:List Value) (Ai:X),BF aH u Ai w->id<Ai.ac->Aw u (C5 m B.size (U A x)) W->(∀v∈C5 m B.size (U A x),F v=true)->W.length=CO (U A x)*B.size->
   R<CO (U A x)+d->
   BD (DN u id ⟨w.heap.size,0,grownCap w (CO (U A x)+d) R e*B.size⟩) (.slice (some ⟨id,0,none⟩) (CO (U A x)+d) B.size) (.slice (some ⟨w.heap.size,0,none⟩) (CO (U A x)+d) (grownCap w (CO (U A x)+d) R e))/\
   BF aH (DN u id ⟨w.heap.size,0,grownCap w (CO (U A x)+d) R e*B.size⟩) (Ai.A1 id (some ⟨C5 m B.size (U A x)++C3 m L G (d*B.size),true⟩))
    (w.drew.alloc (.cells (W.toArray++r.toArray++Builtin.zeroCells AT.cells (grownCap w (CO (U A x)+d) R e-(CO (U A x)+d))) e)):=by
   intro R W Ai Bn Bo Bp Bq BQ C2;have Br:=grownCap_ge w (CO (U A x)+d) R e;have AY:grownCap w (CO (U A x)+d) R e<=maxLen:=grownCap_le_maxLen w _ R e (by unfold maxLen;omega);refine⟨.slice (off:=0) (l:=⟨w.heap.size,0,grownCap w (CO (U A x)+d) R e*B.size⟩) (by simp[DN]) (.inr ⟨by simp,by simp⟩) Br AY,?_⟩;have Bs:(W.toArray++r.toArray++Builtin.zeroCells AT.cells (grownCap w (CO (U A x)+d) R e-(CO (U A x)+d))).size=grownCap w (CO (U A x)+d) R e*B.size:=by simp only[Array.size_append,List.size_toArray,size_zeroCells,Bc,BQ,N,<-IQ];congr 1;omega
   have Ab:Aw u (C5 m B.size (U A x)++C3 m L G (d*B.size)) (W++r):=Bp.JU Af;refine Bn.Rc (b9:=w.drew) rfl Am Bo AS ?_ (by rw[Bs];exact Aj _) (λi v A8=> ?_) (λi _=>by simp)
   ·rw[Ab.1,En,BQ,N,<-IQ]
    grind
   ·obtain⟨aY,A7,B2⟩:=Ab.Y A8;refine⟨?_,aY,?_,B2⟩
    ·have:v∈C5 m B.size (U A x)++C3 m L G (d*B.size):=B5 A8;rcases D2.1 this with h|h
     ·exact Bq v h
     ·obtain⟨A5,O,BL,Ax,V⟩:=C.GK L AU AL
      grind [C3]
    ·grind
  rcases PQ Ap with s|⟨b,off,len,A0,Av,s,I,BI⟩
  ·
   rw[s]at S;have T:=S.DF rfl;have AI:CO (U A x)=0:=(by rw[s];rfl);have A6:C5 m B.size (U A x)=[]:=(by rw[s];rfl);obtain⟨B3,AV⟩:=BO 0 [] m C An (by rw[A6];exact Aw.nil u) (by rw[A6];simp) (by rw[AI];simp) (by omega);simp only[AI,Nat.zero_add]at B3 AV Ac Aq;have AE:=run_append_nil (P:=P) w t o.type e B AT AJ AA B9 ⟨Q.c,Q.o+G,none⟩ d AM r N Ag (by omega) (by omega) (by omega);refine⟨_,_,DN u id ⟨w.heap.size,0,grownCap w d 0 e*B.size⟩,Sf AO A9 AQ AR T A3 AE,LM AS,NY,?_,?_,N4 (w:=w) (b9:=w.drew) rfl rfl rfl rfl Am _,λ_ b aY l _ D i _=>xL (N4 (w:=w) (b9:=w.drew) rfl rfl rfl rfl (Aj _) _) (C.Gh b l D)⟩
   ·grind
   ·grind [EC]
  ·
   rw[s]at S;obtain⟨l,AX,cap,D,_,T,A2,Bi,AY⟩:=S.Fl
   replace D:u b=some l:=D
   replace A2:(cap=0/\len=0)\/(AX=⟨l.c,l.o+off,none⟩/\off+cap*B.size<=l.n):=A2
   have AI:CO (U A x)=len:=(by rw[s];rfl);have A6:C5 m B.size (U A x)=C3 m b off (len*B.size):=(by rw[s];rfl);have K:A0.own=true:=(by simpa[s,Dm,I]using BA);obtain⟨A5,O,BL,Ax,V⟩:=C.GK b A0 I;rw[D]at O;cases O;obtain⟨W,BR,Al,C4,C6⟩:=C.cells I D BI;have BS: ∀v∈C3 m b off (len*B.size),F v=true:=(by intro v A8;simp only[C3,I]at A8;obtain⟨j,f,AZ⟩:=E5 (QM (MY A8));exact(Ax j v (by rw[AP f,AZ])).1);have AD:EC m (U A x)=m.A1 b none:=(by rw[s];rfl);rw[AI]at Ac Aq;by_cases AN:len+d<=cap
   ·
    rcases A2 with⟨BH,_⟩|⟨rfl,A2⟩
    ·omega
    have BM:(len+d)*B.size<=cap*B.size:=KI _ AN;rw[IQ]at BM
    have AE:=pP (P:=P) (w:=w) t o.type e B AJ AA l.c (l.o+off) len cap ⟨Q.c,Q.o+G,none⟩ d AM r N Ag BG AN
     (λj f=>by
      have:=((V K).2 (off+len*B.size+j) (by rw[N]at f;omega)).1
      grind)
     (λj f=>by
      have:=((V K).2 (off+len*B.size+j) (by rw[N]at f;omega)).2
      grind)
    refine⟨_,_,DN u id ⟨l.c,l.o+off,l.n-off⟩,Sf AO A9 AQ AR T A3 AE,LM AS,NY,?_,?_,VK (V K).1 _ _ _,λAJ Aa aY A5 A7 O i AA=>World.cell?_setCells_out _ _ _ _ _ (λh _=> ?_)⟩
    ·rw[Az,AI];exact .slice (off:=0) (l:=⟨l.c,l.o+off,l.n-off⟩) (by simp[DN]) (.inr ⟨by simp,by show 0+cap*B.size<=l.n-off;omega⟩) AN AY
    ·rw[B0,AD,A6];have Ab:Aw u (C3 m b off (len*B.size)++C3 m L G (d*B.size)) (W++r):=BR.JU Af;have BT: ∀j (f:j<r.length),(w.setCells l.c (l.o+off+len*B.size) r).cell? ⟨l.c,l.o+off+len*B.size+j,none⟩=some r[j]:= λj f=>
      World.cell?_setCells_in l.c r (l.o+off+len*B.size) w (λi AB=>by
       have:=((V K).2 (off+len*B.size+i) (by rw[N]at AB;omega)).1
       rwa [show l.o+(off+len*B.size+i)=l.o+off+len*B.size+i by omega]at this) j f
     have C7: ∀i,i<len*B.size\/len*B.size+r.length<=i->(w.setCells l.c (l.o+off+len*B.size) r).cell? ⟨l.c,l.o+off+i,none⟩=w.cell? ⟨l.c,l.o+off+i,none⟩:= λi AB=>
      World.cell?_setCells_out _ _ _ _ _ (λ_ _=>by show l.o+off+i<_\/_<=l.o+off+i;omega)
     refine(C.EC b).wK (by rw[X.vV];exact An) AS (λAa Bt A5 B4 O=> ?_) (by rw[Z0];exact Aj _) (by rw[Z0];exact C.Gh b l D) (V K).1 (λH _ B6=>⟨World.cell?_setCells_out _ _ _ _ _ (λh _=>absurd h B6),World.frozen?_setCells _ _ _ _ _⟩) (λk _ AD=>fl _ _ AD _ _ _) ?_ (λi v A8=> ?_) (λi AB=> ?_) ((C.Nw b A0 l I K D).setCells _ _ _)
     ·rw[X.GJ]at B4;split at B4
      ·grind
      ·rename_i B6;exact Ne.symm (C.LQ b A0 Aa Bt l A5 I K B4 (Ne.symm B6) D O)
     ·rw[Ab.1,En,Al,N];omega
     ·obtain⟨aY,A7,B2⟩:=Ab.Y A8;have Bu:v∈C3 m b off (len*B.size)++C3 m L G (d*B.size):=B5 A8;refine⟨?_,aY,?_,B2⟩
      ·rcases D2.1 Bu with h|h
       ·exact BS v h
       ·obtain⟨A5,O,Bk,B1,Bl⟩:=C.GK L AU AL;simp only[C3,AL]at h;obtain⟨j,f,AZ⟩:=E5 (QM (MY h));exact(B1 j v (by rw[AP f,AZ])).1
      ·rw[Mk]at A7;split at A7
       ·grind [ll]
       ·rename_i Bv;rw[Al]at Bv A7;have f:i-len*B.size<r.length:=(Ae.1 A7).1;have:=BT _ f
        grind
     ·have BU:=(V K).2 (off+i) (by omega);rw[<-Jr]at BU;refine⟨?_,by rw[World.frozen?_setCells];exact BU.2⟩;by_cases C8:i<len*B.size\/len*B.size+r.length<=i
      ·grind
      ·have f:i-len*B.size<r.length:=(by omega);have:=BT _ f
       grind
    ·left;by_cases e:Aa=b
     ·grind [HK]
     ·exact absurd h (Ne.symm (C.LQ b A0 Aa aY l A5 I K A7 (Ne.symm e) D O))
   ·
    obtain⟨B3,AV⟩:=BO cap W (m.A1 b none) (C.EC b) (by rw[X.vV];exact An) (by rw[A6];exact BR) (by rw[A6];exact BS) (by rw[AI];exact Al) (by omega);rw[AI]at B3 AV;have holds: ∀(j:Nat) v,W[j]?=some v->w.cell? (AX.add j)=some v:=by
     grind
    have AE:=run_append_grow (P:=P) w t o.type e B AT AJ AA B9 AX len cap W Al holds ⟨Q.c,Q.o+G,none⟩ d AM r N Ag (by omega) (by omega) (growslice_fits (by omega) Ac);refine⟨_,_,DN u id ⟨w.heap.size,0,grownCap w (len+d) cap e*B.size⟩,Sf AO A9 AQ AR T A3 AE,LM AS,NY,?_,?_,N4 (w:=w) (b9:=w.drew) rfl rfl rfl rfl Am _,λ_ b aY l _ D i _=>xL (N4 (w:=w) (b9:=w.drew) rfl rfl rfl rfl (Aj _) _) (C.Gh b l D)⟩
    ·grind
    ·grind
theorem a1C(b:o.op= .call c)(d:c.callee= .builtin .append)(f:c.args.toList=[x,y])(g:c.argTypes.toList=[t,t])
 (h:P.underlying t=some (.slice e)) (i:P.info? e=some B) (j:Iv P e=some z) (k:Ay x=true) (l:Ay y=true)
 (n:Cr u J A a) (p:BF aH u m w) (q:aH<=w.heap.size) (r:id<m.ac) (s:u id=none)
 (v:(M.app B.size B.bytes x y).ok A m=true):J2 P o (.app B.size B.bytes x y) a aH u A m w id:=by
 obtain⟨C,I,D,E,F,G,H,K,L,_⟩:=qi b d f g h i j k l n p q r s v;exact⟨C,I,D,E,F,G,H,K,L⟩
theorem a5G{aY:TypeId}(L:o.op= .call c)(N:c.callee= .builtin .append)(Q:c.args.toList=[x,y])(R:c.argTypes.toList=[t,aY])
 (S:P.underlying t=some (.slice e)) (T:P.underlying aY=some (.int O)) (p:P.info? e=some B) (V:Iv P e=some z) (W:Ay x=true) (X:Ay y=true)
 (q:Cr u J A a) (Y:BF aH u m w) (r:aH<=w.heap.size) (Z:id<m.ac) (s:u id=none)
 (C:(M.KZ z.length B.bytes z x y).ok A m=true):J2 P o (.KZ z.length B.bytes z x y) a aH u A m w id:=by
 obtain⟨AE,b,D,A0,E,A1,h⟩:=P0 V;rw[p]at D;cases D;have A2:b.cells.size=B.size:=by rw[<-h,<-E];simp
 simp only[M.ok,AF,BW]at C;obtain⟨⟨⟨⟨⟨A3,A4⟩,A5⟩,A6⟩,A7⟩,AI⟩:=C;have F:=q.U W;rw[cO A3]at F;have A8:=F.DF rfl;obtain⟨A9,k,G,f⟩:=Jp (q.U X) A4;simp only[f,Bk]at A5 A6 A7;obtain⟨n,rfl⟩: ∃n:Nat,G=n:=⟨G.toNat,by omega⟩;have AA:n*B.bytes<=281474976710656:=by omega
 have H:=Lib.run_append_nil_zeros (P:=P) w t aY o.type e B b k O S T p A0 n (by omega) (by omega) (by omega) AA;have j:=grownCap_ge w n 0 e;have I:grownCap w n 0 e<=maxLen:=grownCap_le_maxLen w _ 0 e (by unfold maxLen;omega);generalize grownCap w n 0 e=g at H j I;have AB:(Builtin.zeroCells b.cells n++Builtin.zeroCells b.cells (g-n)).size=g*B.size:=by simp only[Array.size_append,size_zeroCells,A2,<-IQ];congr 1;omega
 have K: ∀v∈(List.replicate n z).flatten,BJ v=true:=Zt (λv=>BJ v=true) (λv d=>BR.1 A1 v d) _;refine⟨_,_,DN u id ⟨w.heap.size,0,g*B.size⟩,Sf L N Q R A8 (A9.trans f) H,LM s,NY,?_,?_,N4 (w:=w) (b9:=w.drew) rfl rfl rfl rfl r _⟩
 ·simp only[M.val,f,Bk,Dx];exact .slice (off:=0) (l:=⟨w.heap.size,0,g*B.size⟩) (by simp[DN]) (.inr ⟨by simp,by rw[h];simp⟩) j I
 ·simp only[M.Cj,f,Bk,Dx];refine Y.Rc (b9:=w.drew) rfl r Z s (by rw[RN,h];exact KI _ j) (by rw[AB];exact Aj _) (λi v d=> ?_) (λi _=>by simp);have AJ:i<n*z.length:=(by have:=(Ae.1 d).1;rwa [RN]at this);refine⟨OF (K v (B5 d)),v,?_,.BP (K v (B5 d))⟩;have AK:(Builtin.zeroCells b.cells n).toList=(List.replicate n z).flatten:=by rw[<-E];exact dd (by omega) n
  grind
theorem jN{r:Value}(e:o.op= .call c)(f:c.callee= .builtin .clear)(b:c.args.toList=[x])(d:c.argTypes.toList=[t])
 (g:a.eval x=aY) (h:(Builtin.clear_ #[t] o.type #[aY]).run P w= .ok r I):EP P o a w r I:=by
 refine .inl ?_;have i:c.args= #[x]:=by rw[<-KX (xs:=c.args),b]
 have j:c.argTypes= #[t]:=by rw[<-KX (xs:=c.argTypes),d]
 simp_all [execOp,resolve,invoke,builtin]
theorem vw{y:CC}(h:m.Y b=some y):m.A1 b (some y)=m:=by
 have a:m.BY b=some y:=by
  grind [X.Y]
 unfold X.A1;cases m with
 | mk n c mp=>
   grind [X.mk.injEq]
theorem a2M(s:o.op= .call c)(y:c.callee= .builtin .clear)(C:c.args.toList=[x])(D:c.argTypes.toList=[t])
 (E:P.underlying t=some (.slice e)) (W:Iv P e=some z) (X:Ay x=true) (Y:Cr u J A a) (h:BF aH u m w)
 (O:(M.Ca z x).ok A m=true):J2 P o (.Ca z x) a aH u A m w id:=by
 obtain⟨B,F,Z,A0,Q,A2,A3⟩:=P0 W;have AD:F.cells.size=B.size:=by rw[<-A3,<-Q];simp
 simp only[M.ok,AF,BW]at O;obtain⟨⟨A4,A5⟩,AE⟩:=O;have i:=Y.U X;rcases PQ A4 with d|⟨b,off,len,f,AI,d,g,A6⟩
 ·rw[d]at i;have p:=i.DF rfl;refine⟨undef,w,u,jN s y C D p (by simp[Builtin.clear_,run_underlying E,undef]),CY.refl u,λ_ _=>rfl,BD.undef u,?_,Below.refl _ _⟩;simp only[M.Cj,d,H5];exact h
 ·rw[d]at i;obtain⟨l,A7,cap,q,_,p,G,AJ,_⟩:=i.Fl
  replace q:u b=some l:=q
  replace G:(cap=0/\len=0)\/(A7=⟨l.c,l.o+off,none⟩/\off+cap*z.length<=l.n):=G
  have r:f.own=true:=(by simpa[d,Dm,g]using A5);obtain⟨AK,R,AL,AM,H⟩:=h.GK b f g;rw[q]at R;cases R;have S:(M.Ca z x).Cj id A m=m.A1 b (some ⟨CV f.cells off (List.replicate len z).flatten,f.own⟩):=(by simp only[M.Cj,d,H5,g]);by_cases T:len=0
  ·subst T;refine⟨undef,w,u,jN s y C D p (by simp[Builtin.clear_,run_underlying E,undef]),CY.refl u,λ_ _=>rfl,BD.undef u,?_,Below.refl _ _⟩;rw[S];have:m.A1 b (some ⟨CV f.cells off (List.replicate 0 z).flatten,f.own⟩)=m:=vw g;rw[this];exact h
  ·rcases G with⟨_,A8⟩|⟨rfl,AN⟩
   ·exact absurd A8 T
   have A9:(Builtin.zeroCells F.cells len).toList=(List.replicate len z).flatten:=(by rw[<-Q];exact dd (by omega) len);have I: ∀v∈(List.replicate len z).flatten,BJ v=true:=Zt (λv=>BJ v=true) (λv K=>BR.1 A2 v K) _;have L:(List.replicate len z).flatten.length=len*z.length:=RN z len;have V:=run_storeCells_cells (P:=P) l.c (l.o+off) (List.replicate len z).flatten 0 w (λj N=>by
    have:=((H r).2 (off+j) (by simp only[L]at N;omega)).1
    rwa [<-Jr]at this) (λj N=>by
    have:=((H r).2 (off+j) (by simp only[L]at N;omega)).2
    rwa [<-Jr]at this) (λaY AA=>by rw[kD];exact OF (I aY AA))
   simp only[MG]at V;refine⟨undef,w.setCells l.c (l.o+off) (List.replicate len z).flatten,u,jN s y C D p ?_,CY.refl u,λ_ _=>rfl,BD.undef u,?_,VK (H r).1 _ _ _⟩
   ·have AB: ∀w:World,(zeroValue e).run P w= .ok F w:= λw=>by simp[zeroValue,typeInfo,Z,A0]
    obtain⟨k,rfl⟩: ∃k,len=k+1:=⟨len-1,by omega⟩;simp[Builtin.clear_,run_underlying E,AB,A9,V,undef]
   ·rw[S];exact h.store g r q (Aw.BP u (BR.2 I)) (λv K=>OF (I v K)) (by rw[L];exact A6)
variable {P:Program} {w:World} {o:Oper} {a:Act} {u:Ren} {J:Nat} {A:A2} {m:X} {aH id:Nat}
def Qx(P:Program)(G:TypeId):GU->Prop
 | .int k=>P.underlying G=some (.int k)
 | .str=>P.underlying G=some .string
 | .Eb k=> ∃e i,P.underlying G=some (.array 2 e)/\P.underlying e=some (.int k)/\P.info? e=some i/\P.cellsOf e=1
def Qi:GU->TypeDesc
 | .int q=> .int q
 |_=> .string
theorem NX{k:IntKind}{v:Value}(h:DX (.Eb k) v=true): ∃a b,v= .agg #[.int k a,.int k b]:=by
 cases v with
 | agg xs=>
   obtain⟨l⟩:=xs;rcases l with _|⟨x,_|⟨y,_|⟨z,l⟩⟩⟩
   ·simp[DX]at h
   ·simp[DX]at h
   ·cases x<;>cases y<;>simp[DX]at h;obtain⟨rfl,rfl⟩:=h;exact⟨_,_,rfl⟩
   ·simp[DX]at h
 |_=>simp[DX]at h
theorem xm{C:GU}{v:Value}(h:DX C v=true):G4 v=true:=by
 cases C with
 |int k=>cases v<;>simp_all [DX,G4,BJ]
 |str=>cases v<;>simp_all [DX,G4,BJ]
 |Eb k=>obtain⟨a,b,rfl⟩:=NX h;rfl
theorem rC{u:Ren}{C:GU}{v d:Value}(c:BD u v d)(h:DX C v=true):d=v:=by
 cases C with
 |int k=>exact c.DF (by cases v<;>simp_all [DX,BJ])
 |str=>exact c.DF (by cases v<;>simp_all [DX,BJ])
 | Eb k=>
   obtain⟨a,b,rfl⟩:=NX h;cases c with
   |BP h=>rfl
   | agg e h m=>
     rename_i ys;obtain⟨l⟩:=ys
     match l,e with
     | [f,g],_=>have i:=(h 0 _ f rfl rfl).Hp;have j:=(h 1 _ g rfl rfl).Hp;rw[i,j]
theorem aA3{C:GU}{a b:Value}(c:DX C a=true)(hb:DX C b=true):Hz a b=true↔a=b:=by
 cases C with
 |int k=>cases a<;>cases b<;>simp_all [DX,Hz,K6]
 |str=>cases a<;>cases b<;>simp_all [DX,Hz,K6]
 | Eb k=>obtain⟨a0,d,rfl⟩:=NX c;obtain⟨e,f,rfl⟩:=NX hb;simp[Hz,Fz,K6]
theorem n5{P:Program}{C:GU}(h:Zg P t=some C):Qx P t C:=by
 unfold Zg at h;split at h
 ·rename_i k a;cases h;exact a
 ·rename_i a;cases h;exact a
 ·rename_i n e c;split at h
  ·rename_i k i d f;split at h<;>cases h;rename_i b;obtain⟨rfl,b⟩:=b;exact⟨e,i,c,d,f,b⟩
  ·cases h
 ·cases h
variable {P:Program} {w:World} {G:TypeId} {C:GU} {k fv:Value}
theorem Z2(a:P.underlying e=some (.int q))(b:xs[off]?=some v):(part e xs off).run P w= .ok v w:=
 run_part_plain w (by simp[Program.plainKey,a]) b
theorem n1(d:Qx P G C)(g:DX C k=true)(em:Bool)(n:Nat):(Instr.checkKey em (n+2) G k).run P w= .ok () w:=by
 cases C with
 | int q=>have d:P.underlying G=some (.int q):=d;exact MapKept.run_checkKey d (by cases k<;>simp_all [DX,MapKept.IsKey]) em _
 | str=>have d:P.underlying G=some .string:=d;exact MapKept.run_checkKey d (by cases k<;>simp_all [DX,MapKept.IsKey]) em _
 | Eb q=>obtain⟨e,i,h,f,j,l⟩:=d;obtain⟨a,b,rfl⟩:=NX g;have c: ∀x:Int,(Instr.checkKey em (n+1) e (.int q x)).run P w= .ok () w:= λx=>MapKept.run_checkKey f (by simp[MapKept.IsKey]) em n;have m:(part e #[.int q a,.int q b] 0).run P w= .ok (.int q a) w:=Z2 f rfl;have o:(part e #[.int q a,.int q b] 1).run P w= .ok (.int q b) w:=Z2 f rfl;rw[Instr.checkKey];simp only[Sem.run_bind,run_underlying h,Result.andThen_ok];simp[run_sizeOf w j,l,m,o,c,Std.Legacy.Range.forIn_eq_forIn_range',List.range',Result.andThen]
theorem a3M(l:Qx P G (.Eb q))(m:DX (.Eb q) k=true)(n:DX (.Eb q) fv=true):(Op.equal G k fv).run P w= .ok (Hz k fv) w:=by
 obtain⟨e,i,o,d,p,r⟩:=l;obtain⟨a,b,rfl⟩:=NX m;obtain⟨s,t,rfl⟩:=NX n;have v:P.plainKey e=true:=by simp[Program.plainKey,d]
 have c: ∀x y:Int,(Op.equalIn (Op.maxDepth-1) e (.int q x) (.int q y)).run P w= .ok (x==y) w:= λx y=>by have:Op.maxDepth-1=(Op.maxDepth-2)+1:=(by decide);rw[this];simp[Op.equalIn,run_underlying d,Result.andThen]
 have f: ∀x y:Int,(part e #[.int q x,.int q y] 0).run P w= .ok (.int q x) w:= λx y=>Z2 d rfl;have g: ∀x y:Int,(part e #[.int q x,.int q y] 1).run P w= .ok (.int q y) w:= λx y=>Z2 d rfl;unfold Op.equal;have u:Op.maxDepth=(Op.maxDepth-1)+1:=by decide
 rw[u,run_equalIn_array w _ _ _ o p,r];simp only[List.range_succ_eq_map,List.range_zero,List.map_nil,Dl];simp only[Hz,Fz,K6,Bool.and_true];by_cases h:a=s
 ·subst h;by_cases j:b=t
  ·subst j;simp[Op.eqItems,f,g,c,Result.andThen]
  ·simp[Op.eqItems,f,g,c,j,Result.andThen]
 ·simp[Op.eqItems,f,c,h,Result.andThen]
theorem a5i(c: ∀q,C≠ .Eb q)(a:DX C k=true)(b:DX C fv=true):Instr.sameNow (Qi C) k fv=some (Hz k fv):=by
 cases C with
 | int q=>
   cases k<;>simp[DX]at a;cases fv<;>simp[DX]at b
   grind [Instr.sameNow,Hz,K6,Qi]
 | str=>
   cases k<;>simp[DX]at a;cases fv<;>simp[DX]at b
   grind [MapKept.bytes_beq,Instr.sameNow,Hz,K6,Qi]
 |Eb q=>exact absurd rfl (c q)
theorem yo(c:DX C k=true):(Instr.keyThatStays k k).run P w= .ok k w:=by
 cases C with
 |int q=>exact MapKept.run_keyThatStays (d:= .int q) (by cases k<;>simp_all [DX,MapKept.IsKey])
 |str=>exact MapKept.run_keyThatStays (d:= .string) (by cases k<;>simp_all [DX,MapKept.IsKey])
 | Eb q=>obtain⟨a,b,rfl⟩:=NX c;simp[Instr.keyThatStays,Instr.sameBits]
theorem xo{u:Ren}(t:Qx P G C)(o:DX C k=true): ∀(es:List (Value×Value)) (D:List MapEntry) (i:Nat),NL u es D->(es.all λe=>DX C e.1)=true->
 (Cy k es=none/\((∀q,C≠ .Eb q)->Instr.findNow (Qi C) k D i=some none)/\((∃q,C= .Eb q)->(Instr.findAsking G k D i).run P w= .ok none w)/\ ∀v,Dy k v es=es++[(k,v)])\/
 (∃j e d,es[j]?=some e/\D[j]?=some d/\d.key=k/\Cy k es=some e.2/\((∀q,C≠ .Eb q)->Instr.findNow (Qi C) k D i=some (some (i+j,d.val)))/\((∃q,C= .Eb q)->(Instr.findAsking G k D i).run P w= .ok (some (i+j,d.val)) w)/\ ∀v,Dy k v es=es.set j (k,v))
 | [],D,i,h,_=>by have:D=[]:=Ii.1 h.1.symm;subst this;exact .inl ⟨rfl,λ_=>rfl,λ_=>by simp[Instr.findAsking],λ_=>rfl⟩
 | e::es,D,i,h,g=>by
   cases D with
   |nil=>have:=h.1;simp at this
   | cons d D=>
     simp only[F3,AF]at g;obtain⟨y,l,J,K⟩:=h.2 0 e d rfl rfl;have z:NL u es D:=⟨by simpa using h.1,λj a b y l=>h.2 (j+1) a b (by simpa using y) (by simpa using l)⟩;have m:(∀q,C≠ .Eb q)->Instr.sameNow (Qi C) k d.key=some (Hz k e.1):= λc=>by rw[l];exact a5i c o g.1
     have n:(∃q,C= .Eb q)->(Op.equal G k d.key).run P w= .ok (Hz k e.1) w:= λ⟨q,c⟩=>by subst c;rw[l];exact a3M t o g.1
     cases f:Hz k e.1
     ·rw[f]at m n;rcases xo t o es D (i+1) z g.2 with⟨p,r,A,s⟩|⟨j,x,B,p,r,s,E,F,H,I⟩
      ·refine .inl ⟨by simp[Cy,f,p],λc=> ?_,λc=> ?_,λv=>by simp[Dy,f,s]⟩
       ·simp only[Instr.findNow,m c,r c]
       ·simp only[Instr.findAsking,Sem.run_bind,n c,Result.andThen_ok,E3,if_false,A c]
      ·refine .inr ⟨j+1,x,B,by simpa using p,by simpa using r,s,by simp[Cy,f,E],λc=> ?_,λc=> ?_,λv=>by simp[Dy,f,I]⟩
       ·simp only[Instr.findNow,m c,F c];congr 3;omega
       ·simp only[Instr.findAsking,Sem.run_bind,n c,Result.andThen_ok,E3,if_false,H c];congr 3;omega
     ·rw[f]at m n;refine .inr ⟨0,e,d,rfl,rfl,by rw[l];exact((aA3 o g.1).1 f).symm,by simp[Cy,f],λc=> ?_,λc=> ?_,λv=>by simp[Dy,f]⟩
      ·simp only[Instr.findNow,m c];rfl
      ·simp only[Instr.findAsking,Sem.run_bind,n c,Result.andThen_ok,if_true];rfl
theorem qP{u:Ren}(c:Qx P G C)(m:DX C k=true){D:List MapEntry}(h:NL u es D)(n:(es.all λe=>DX C e.1)=true):
 (Cy k es=none/\(Instr.findKey G k D).run P w= .ok none w/\ ∀v,Dy k v es=es++[(k,v)])\/
 (∃j e f,es[j]?=some e/\D[j]?=some f/\f.key=k/\Cy k es=some e.2/\(Instr.findKey G k D).run P w= .ok (some (j,f.val)) w/\ ∀v,Dy k v es=es.set j (k,v)):=by
 have l: ∀r,((∀q,C≠ .Eb q)->Instr.findNow (Qi C) k D 0=some r)->((∃q,C= .Eb q)->(Instr.findAsking G k D 0).run P w= .ok r w)->(Instr.findKey G k D).run P w= .ok r w:= λr a b=>by
  cases C with
  |int q=>exact MapKept.run_findKey (d:= .int q) c (a λ_ h=>by cases h)
  |str=>exact MapKept.run_findKey (d:= .string) c (a λ_ h=>by cases h)
  | Eb q=>obtain⟨e,i,o,_⟩:=c;rw[run_findKey_eq w (by rw[o])];exact b ⟨q,rfl⟩
 rcases xo (P:=P) (w:=w) c m es D 0 h n with⟨a,b,p,g⟩|⟨j,x,s,a,b,g,t,y,z,A⟩
 ·exact .inl ⟨a,l _ b p,g⟩
 ·exact .inr ⟨j,x,s,a,b,g,t,l _ (by simpa using y) (by simpa using z),A⟩
variable {P:Program} {w:World} {o:Oper} {a:Act} {u:Ren} {J:Nat} {A:A2} {m:X} {aH id:Nat}
theorem a5F{z:Value}(a:cl P e=some z):(zeroValue e).run P w= .ok z w/\BJ z=true:=by
 unfold cl at a;split at a
 ·rename_i i b;split at a
  ·rename_i c d;split at a<;>cases a
   simp_all [zeroValue,typeInfo]
  ·cases a
 ·cases a
theorem BF.a3u(a:BF aH u m w)(K:aH<=w.heap.size)(L:id<m.ac)(M:u id=none):BF aH (DN u id ⟨w.heap.size,0,0⟩) (m.Cw id []) (w.alloc (.map #[] 0)):=by
 have n:=LM (l:=⟨w.heap.size,0,0⟩) M;have N:(w.alloc (.map #[] 0)).heap.size=w.heap.size+1:=by show(w.heap.push _).size=_;rw[Array.size_push]
 have q: ∀k,k<w.heap.size->(w.alloc (.map #[] 0)).heap[k]?=w.heap[k]?:= λk A4=>by show(w.heap.push _)[k]?=_;rw[Array.getElem?_push,if_neg (by omega)]
 have r: ∀b,(m.Cw id []).Y b=if b=id then some ⟨[],true⟩else m.Y b:= λb=>by
  unfold X.Y X.Cw
  grind
 have f: ∀b l,DN u id ⟨w.heap.size,0,0⟩ b=some l->(b=id/\l=⟨w.heap.size,0,0⟩)\/(b≠id/\u b=some l):= λb l h=>by
  grind [DN]
 refine⟨λb l hb=> ?_,λb l hb=> ?_,λb x d=> ?_,λb x s O l t B P C F y g=> ?_,λb es hb=> ?_,λb es hb=> ?_,λb x l d z E=>(by
  rcases f b l E with⟨_,rfl⟩|⟨e,h⟩
  ·exact Iq.vr (es:= #[]) (bx:=0) (by show(w.heap.push _)[w.heap.size]?=_;simp)
  ·rw[r,if_neg e]at d;exact(a.Nw b x l d z h).TM (q _ (a.Gh b l h)))⟩
 ·rcases f b l hb with⟨rfl,_⟩|⟨_,h⟩
  ·exact L
  ·exact a.Gc b l h
 ·rcases f b l hb with⟨_,rfl⟩|⟨_,h⟩
  ·simp_all
  ·rw[N];have:=a.Gh b l h;omega
 ·rw[r]at d;split at d
  ·rename_i e;cases d
   simp_all [DN]
  ·obtain⟨l,p,A,Q,G⟩:=a.GK b x d;have H:=a.Gh b l p;have I: ∀i,(w.alloc (.map #[] 0)).cell? ⟨l.c,l.o+i,none⟩=w.cell? ⟨l.c,l.o+i,none⟩:= λi=>World.cell?_of_block (w:=w) (q l.c H);have R: ∀i,(w.alloc (.map #[] 0)).frozen? ⟨l.c,l.o+i,none⟩=w.frozen? ⟨l.c,l.o+i,none⟩:= λi=>World.frozen?_of_block (w:=w) (q l.c H);exact⟨l,n _ _ p,A,λi v S=>by obtain⟨T,U,V,W⟩:=Q i v S;exact⟨T,U,by rw[I];exact V,W.AD n⟩,λz=>⟨(G z).1,λi Z=>by rw[I,R];exact(G z).2 i Z⟩⟩
 ·rw[r]at B C;rcases f b l y with⟨rfl,rfl⟩|⟨e,y⟩
  ·rcases f s t g with⟨j,_⟩|⟨j,g⟩
   ·exact absurd j.symm F
   ·have:=a.Gh s t g;simp only;omega
  ·rcases f s t g with⟨j,rfl⟩|⟨j,g⟩
   ·have:=a.Gh b l y;simp only;omega
   ·rw[if_neg e]at B;rw[if_neg j]at C;exact a.LQ b x s O l t B P C F y g
 ·by_cases e:b=id
  ·exact⟨⟨w.heap.size,0,0⟩,by simp[DN,e]⟩
  ·have:m.mp b=some es:=(by simpa[X.Cw,e]using hb);obtain⟨l,E⟩:=a.NO b es this;exact⟨l,n _ _ E⟩
 ·obtain⟨p,A⟩:=X.MK hb;by_cases e:b=id
  ·subst e;have:es=[]:=(by simpa[X.Cw]using A.symm);subst this;exact⟨⟨w.heap.size,0,0⟩,#[],0,by simp[DN],K,by show(w.heap.push _)[w.heap.size]?=_;simp,⟨rfl,λi e j h=>by simp at h⟩⟩
  ·rw[r,if_neg e]at p;have A0:m.mp b=some es:=(by simpa[X.Cw,e]using A);obtain⟨l,D,bx,J,A1,A2,A3⟩:=a.maps b es (X.Ec p A0);exact⟨l,D,bx,n _ _ J,A1,by rw[q _ (a.Gh b l J)];exact A2,A3.AD n⟩
theorem a13(f:o.op= .makeMap t none)(d:BF aH u m w)(b:aH<=w.heap.size)(e:id<m.ac)(c:u id=none):J2 P o .Kz a aH u A m w id:=by
 refine⟨.map (some w.heap.size),w.alloc (.map #[] 0),DN u id ⟨w.heap.size,0,0⟩,.inl ?_,LM c,NY,?_,d.a3u b e c,N4 rfl rfl rfl rfl b _⟩
 ·simp_all [execOp,Instr.makeMap]
 ·exact .map (l:=⟨w.heap.size,0,0⟩) (by simp[DN])
theorem BF.wM(d:BF aH u m w)(q:m.Bs b=some es)(r:u b=some l)(T:aH<=l.c)(s:w.heap[l.c]?=some (.map D bx))
 (U:NL u fs K.toList):BF aH u (m.Cw b fs) {w with heap:=w.heap.setIfInBounds l.c (.map K N)}:=by
 obtain⟨p,V⟩:=X.MK q;have hb:=X.E p;obtain⟨t,v⟩:=MapKept.heap_set (o':= .map K N) s;have f: ∀a,(m.Cw b fs).Y a=m.Y a:= λa=>by
  by_cases h:a=b
  ·simp_all [X.Y,X.Cw]
  ·unfold X.Y X.Cw;simp[h]
 have y: ∀H:Addr,World.cell? {w with heap:=w.heap.setIfInBounds l.c (.map K N)} H=w.cell? H:= λH=>by
  grind [World.cell?]
 have z: ∀H:Addr,World.frozen? {w with heap:=w.heap.setIfInBounds l.c (.map K N)} H=w.frozen? H:= λH=>by
  grind [World.frozen?]
 refine⟨d.Gc,λa g A=>by show g.c<(w.heap.setIfInBounds _ _).size;rw[Array.size_setIfInBounds];exact d.Gh a g A,λa x i=> ?_,λB C F G I j J L M=>d.LQ B C F G I j (by rw[<-f];exact J) L (by rw[<-f];exact M),λa k n=> ?_,λa k n=> ?_,λa x g i O P=>(by
  by_cases e:g.c=l.c
  ·rw[e];exact Iq.vr t
  ·exact(d.Nw a x g (by rw[<-f];exact i) O P).TM (v _ e))⟩
 ·rw[f]at i;simpa only[y,z]using d.GK a x i
 ·by_cases e:a=b
  ·simp_all
  ·exact d.NO a k (by simpa[X.Cw,e]using n)
 ·obtain⟨o,Q⟩:=X.MK n;rw[f]at o;by_cases e:a=b
  ·grind [X.Cw]
  ·have R:m.mp a=some k:=(by simpa[X.Cw,e]using Q);obtain⟨j,W,Z,S,A0,A1,A2⟩:=d.maps a k (X.Ec o R);have A3:j.c≠l.c:=d.LQ a _ b _ j l o rfl p e S r
   simp_all
theorem yV{t G e:TypeId}{C:GU}{x k v:Operand}(K:o.op= .mapUpdate t x k v)(L:P.underlying t=some (.map G e))(N:Qx P G C)(Z:Ay x=true)(O:Ay k=true)(A0:Ay v=true)
 (s:Cr u J A a) (y:BF aH u m w) (f:(M.Ki C x k v).ok A m=true):J2 P o (.Ki C x k v) a aH u A m w id:=by
 simp only[M.ok]at f;have Q:=s.U Z;cases z:U A x<;>simp only[z]at f<;>try cases f
 rename_i p;cases p with
 |none=>simp at f
 | some b=>
   simp only at f;rw[z]at Q;obtain⟨l,B,R⟩:=Q.Te;cases h:m.Bs b with
   |none=>simp[h]at f
   | some es=>
     simp only[h,ET,AF]at f;obtain⟨⟨r,A1⟩,A8⟩:=f;obtain⟨A9,D,bx,S,T,n,q⟩:=y.maps b es h;rw[B]at S;cases S;have V:a.eval k=U A k:=rC (s.U O) r;have AA:=s.U A0;have W:(M.Ki C x k v).Cj id A m=m.Cw b (Dy (U A k) (U A v) es):=(by simp only[M.Cj,z,MX,h,Jb]);have X:(Instr.checkKey false 10000 G (U A k)).run P w= .ok () w:=n1 N r false 9998;have Y: ∀o',Below aH w {w with heap:=w.heap.setIfInBounds l.c o'}:= λo'=>⟨rfl,rfl,rfl,by show _<=(w.heap.setIfInBounds _ _).size;rw[Array.size_setIfInBounds];exact Aj _,λk O=>by
      grind⟩
     rcases qP (P:=P) (w:=w) N r q A1 with⟨_,E,F⟩|⟨j,AB,A2,AD,E,F,_,A3,A4⟩
     ·have H:(Instr.mapUpdate t (a.eval x) (a.eval k) (a.eval v)).run P w= .ok () {w with heap:=w.heap.setIfInBounds l.c (.map (D.push {key:=U A k,val:=a.eval v,born:=bx}) (bx+1))}:=by
       simp[Instr.mapUpdate,R,V,run_underlying L,MapKept.run_getObj_map n,X,E,MapKept.run_setObj_map _ n]
      refine⟨undef,_,u,.inr ⟨by simp only[execOp,K,H,Sem.run_bind,Result.andThen_ok];rfl,rfl⟩,CY.refl u,λ_ _=>rfl,BD.undef u,?_,Y _⟩;rw[W,F];refine y.wM h B T n ⟨by simp[q.1],λi e I g d=> ?_⟩;simp only[Array.toList_push]at d;rw[Mk]at g d;rw[<-q.1]at d;split at g
      ·rename_i A5;rw[if_pos A5]at d;exact q.2 i e I g d
      ·grind [xm]
     ·have A6:D[j]?=some A2:=(by simpa using E);have H:(Instr.mapUpdate t (a.eval x) (a.eval k) (a.eval v)).run P w= .ok () {w with heap:=w.heap.setIfInBounds l.c (.map (D.modify j λe=>{e with key:=U A k,val:=a.eval v}) bx)}:=by
       simp[Instr.mapUpdate,R,V,run_underlying L,MapKept.run_getObj_map n,X,A3,A6,F,yo r,MapKept.run_setObj_map _ n]
      refine⟨undef,_,u,.inr ⟨by simp only[execOp,K,H,Sem.run_bind,Result.andThen_ok];rfl,rfl⟩,CY.refl u,λ_ _=>rfl,BD.undef u,?_,Y _⟩;rw[W,A4];refine y.wM h B T n ⟨by simpa using q.1,λi e I g d=> ?_⟩;simp only[Array.getElem?_toList,Array.getElem?_modify]at d;rw[Ih]at g;by_cases A7:j=i
      ·grind [xm]
      ·rw[if_neg A7]at g d;exact q.2 i e I g (by simpa using d)
theorem a6g{t G e:TypeId}{C:GU}{z:Value}{ok:Bool}{x k:Operand}(Z:o.op= .lookup t x k ok)(F:P.underlying t=some (.map G e))(H:Qx P G C)(A0:cl P e=some z)(A1:Ay x=true)(A2:Ay k=true)
 (I:Cr u J A a) (K:BF aH u m w) (d:(M.LS C z ok x k).ok A m=true):J2 P o (.LS C z ok x k) a aH u A m w id:=by
 obtain⟨A3,A4⟩:=a5F (w:=w) A0;simp only[M.ok]at d;have A5: ∃(es:List (Value×Value)) (D:Array MapEntry),FC m (U A x)=some es/\NL u es D.toList/\((a.eval x= .map none/\D= #[])\/ ∃r bx,a.eval x= .map (some r)/\w.heap[r]?=some (.map D bx)):=by
  have f:=I.U A1;cases g:U A x<;>simp only[g,FC]at d<;>try cases d
  rename_i p;cases p with
  | none=>rw[g]at f;exact⟨[],#[],rfl,⟨rfl,λi e AM h=>by simp at h⟩,.inl ⟨f.DF rfl,rfl⟩⟩
  | some b=>
    rw[g]at f;obtain⟨l,A6,A7⟩:=f.Te;cases n:m.Bs b with
    |none=>simp[n]at d
    | some es=>obtain⟨AN,D,bx,L,AO,A8,A9⟩:=K.maps b es n;rw[A6]at L;cases L;exact⟨es,D,n,A9,.inr ⟨l.c,bx,A7,A8⟩⟩
 obtain⟨es,D,N,O,AA⟩:=A5;rw[N]at d;simp only[ET,AF]at d;obtain⟨q,AB⟩:=d;have Q:a.eval k=U A k:=rC (I.U A2) q;have AD:=qP (P:=P) (w:=w) H q O AB;have AE: ∃(v:Value) (aY:Nat×Value) (b:Bool),(Instr.findKey G (U A k) D.toList).run P w= .ok (if b then some (aY.1,aY.2)else none:Option (Nat×Value)) w/\(Cy (U A k) es).isSome=b/\(b=true->Cy (U A k) es=some v/\BD u v aY.2):=by
  rcases AD with⟨s,y,_⟩|⟨j,R,S,s,y,AP,T,AI,_⟩
  ·exact⟨.nilIface,(0,.nilIface),false,by simpa using y,by rw[s];rfl,λh=>by cases h⟩
  ·obtain⟨_,_,_,AJ⟩:=O.2 j R S s y;exact⟨R.2,(j,S.val),true,by rw[AI];rfl,by rw[T];rfl,λ_=>⟨T,AJ⟩⟩
 obtain⟨v,aY,b,V,W,AQ⟩:=AE;have AK:(M.LS C z ok x k).val id A m=if ok then .tuple #[(Cy (U A k) es).getD z,.bool (Cy (U A k) es).isSome]else(Cy (U A k) es).getD z:=by simp only[M.val,N,Option.bind_some]
 have AL:(Instr.lookup t (a.eval x) (a.eval k) ok).run P w= .ok (if ok then .tuple #[if b then aY.2 else z,.bool b]else if b then aY.2 else z) w:=by
  have X: ∀e,(Instr.checkKey e 10000 G (U A k)).run P w= .ok () w:= λe=>n1 H q e 9998;rcases AA with⟨B,E⟩|⟨r,bx,B,E⟩
  ·simp_all [Instr.lookup,run_underlying]
  ·cases b
   ·simp[Instr.lookup,B,Q,run_underlying F,MapKept.run_getObj_map E,X,V,A3]
   ·simp[Instr.lookup,B,Q,run_underlying F,MapKept.run_getObj_map E,X,V]
 refine⟨_,w,u,.inl (by simp only[execOp,Z,AL,Sem.run_bind,Result.andThen_ok];rfl),CY.refl u,λ_ _=>rfl,?_,K,Below.refl _ _⟩;rw[AK];have Y:BD u ((Cy (U A k) es).getD z) (if b then aY.2 else z):=by
  cases b
  ·have:Cy (U A k) es=none:=(by simpa using W);rw[this];exact .BP A4
  ·simp_all
 cases ok
 ·exact Y
 ·simp only[if_true];rw[W];exact Aw.tuple (xs:=[_,_]) (ys:=[_,_]) (Aw.cons Y (Aw.cons (.BP rfl) (Aw.nil u)))
variable {P:Program} {w:World} {o:Oper} {a:Act} {u:Ren} {J:Nat} {A:A2} {m:X} {aH id:Nat}
theorem zf{k:M}(h:k.pure=true):k.Cj id A m=m:=by cases k<;>first|rfl|(simp[M.pure]at h)
theorem a0b{k:M}(b:Ok P o=some k)(Q:k.FD=false)(E:Cr u J A a)(j:BF aH u m w)(q:aH<=w.heap.size)(v:k.Bv=true->id<m.ac)(C:k.Bv=true->u id=none)(p:k.ok A m=true):J2 P o k a aH u A m w id:=by
 by_cases f:k.pure=true
 ·obtain⟨R,G,H⟩:=yk (w:=w) (m:=m) b f E p id;exact⟨R,w,u,G,CY.refl u,λ_ _=>rfl,H,by rw[zf f];exact j,Below.refl _ _⟩
 ·rcases YK b with b|rfl
  rotate_left
  ·rw[si]at p;cases p
  unfold T0 at b;split at b
  ·split at b<;>cases b;exact absurd rfl f
  ·split at b<;>cases b;exact absurd rfl f
  ·split at b<;>cases b;exact absurd rfl f
  ·split at b<;>cases b;exact absurd rfl f
  ·
   rename_i e g;split at b<;>cases b;rename_i z i;exact zI g i j q (v rfl) (C rfl)
  ·
   rename_i e x g;split at b<;>cases b;rename_i h;exact a84 g h E p j q (v rfl) (C rfl)
  ·(repeat' split at b)<;>cases b<;>exact absurd rfl f
  ·
   rename_i t n ps g;split at b
   ·rename_i e D;split at b
    ·rename_i z i;split at b
     ·rename_i W S;split at b<;>cases b;rename_i I;simp only[AF,BW]at I;exact a3Q g D i S I.1 I.2 E j q (v rfl) (C rfl) p
     ·cases b
    ·cases b
   ·cases b
  ·grind [aAF]
  ·grind [a71]
  ·(repeat' split at b)<;>cases b<;>exact absurd rfl f
  ·(repeat' split at b)<;>cases b<;>exact absurd rfl f
  ·
   rename_i s d x g;split at b
   ·split at b<;>cases b;exact absurd rfl f
   ·split at b<;>cases b;exact absurd rfl f
   ·grind [aAq]
   ·grind
   ·cases b
  ·
   rename_i t l c g;split at b
   ·rename_i e D;split at b
    ·rename_i z B i F;split at b<;>cases b;rename_i h;simp only[AF]at h;exact a7J g D i F h.1 h.2 E j q (v rfl) (C rfl) p
    ·cases b
   ·cases b
  ·
   rename_i t x X F Y g;split at b
   ·split at b<;>cases b;exact absurd rfl f
   ·(repeat' split at b)<;>cases b<;>exact absurd rfl f
   ·grind [Option.isNone_iff_eq_none,a66]
   ·cases b
  ·(repeat' split at b)<;>cases b<;>exact absurd rfl f
  ·(repeat' split at b)<;>cases b<;>exact absurd rfl f
  ·(repeat' split at b)<;>cases b<;>exact absurd rfl f
  ·(repeat' split at b)<;>cases b<;>exact absurd rfl f
  ·(repeat' split at b)<;>cases b<;>exact absurd rfl f
  ·(repeat' split at b)<;>cases b<;>exact absurd rfl f
  ·(repeat' split at b)<;>cases b<;>exact absurd rfl f
  ·
   rename_i t r g;split at b
   ·rename_i k e D;cases b;exact a13 g j q (v rfl) (C rfl)
   ·cases b
  ·grind [a6g,n5]
  ·grind [yV,n5]
  ·(repeat' split at b)<;>cases b<;>exact absurd rfl f
  ·
   rename_i c g;unfold VU at b;split at b
   ·split at b<;>cases b;simp[M.FD]at Q
   ·grind [M.FD]
   ·grind [M.FD]
   ·(repeat' split at b)<;>cases b<;>exact absurd rfl f
   ·rename_i K;split at b
    ·rename_i x y t aY L N;split at b
     ·rename_i e D;split at b
      ·rename_i B F;split at b
       ·rename_i T;subst T;split at b<;>cases b;rename_i h;simp only[AF]at h;obtain⟨⟨G,H⟩,U⟩:=h;obtain⟨z,i⟩:=dH.1 U;exact a1C g K L N D F i G H E j q (v rfl) (C rfl) p
       ·split at b
        ·rename_i O Z V i;split at b<;>cases b;rename_i h;simp only[AF]at h;exact a5G g K L N D V F i h.1 h.2 E j q (v rfl) (C rfl) p
        ·cases b
      ·cases b
     ·cases b
    ·cases b
   ·(repeat' split at b)<;>cases b<;>exact absurd rfl f
   ·(repeat' split at b)<;>cases b<;>exact absurd rfl f
   ·(repeat' split at b)<;>cases b<;>exact absurd rfl f
   ·grind [a2M]
   ·cases b
  ·cases b
theorem aBG{z bytes:Nat}(b:Ok P o=some (.app z bytes x y))(e:Cr u J A a)(f:BF aH u m w)(g:aH<=w.heap.size)(h:id<m.ac)(i:u id=none)(j:(M.app z bytes x y).ok A m=true):
 se P o z bytes x y a aH u A m w id:=by
 rcases YK b with b|d
 rotate_left
 ·cases d
 unfold T0 at b;split at b
 case h_27 c k=>
  unfold VU at b;split at b
  case h_5 l=>
   grind [Option.isSome_iff_exists,qi]
  all_goals((repeat' split at b)<;>cases b)
 all_goals((repeat' split at b)<;>cases b)
def T7(P:Program)(f:Nat):Prop:= ∃fn,P.funcs[f]?=some fn∧fn.body.isSome=true∧(fn.name== "runtime.NumGoroutine")=false
theorem mZ(h:r∈en P name):Qr P name r.1=some r/\r.1<P.types.size:=by
 unfold en at h;obtain⟨t,b,a⟩:=R0.1 h;have:r.1=t:=by
  unfold Qr at a
  (repeat' split at a)<;>cases a<;>rfl
 simp_all
theorem aCi{t:Nat}(h:Qr P name t=some (t,f,none)/\t<P.types.size):
 (method (P.types.size+Made.depth) t v name).run P w= .ok (f,v) w:=by
 obtain⟨h,a⟩:=h;unfold Qr at h
 (repeat' split at h)<;>cases h
 rename_i b _ c d e _ _ _ g i j;obtain⟨n,k⟩: ∃n,P.types.size+Made.depth=n+1:=⟨P.types.size+Made.depth-1,by omega⟩
 simp_all [method,typeInfo,follow,receiverAt,underlying,Place.get]
theorem jS(h:T7 P f):(callFunc f args).run P w= .ok (.enter f args) w:=by
 obtain⟨fn,b,a,c⟩:=h;have d:fn.body≠none:=by intro hb;simp[hb]at a
 simp_all [callFunc]
theorem a3r{x y:String}:Builtin.ssaWrapNilChk_ A0 t #[.pointer (some H),strVal x,strVal y]=pure (.pointer (some H)):=rfl
theorem yp{t:Nat}(h:Qr P name t=some (t,f,some (L,n))/\t<P.types.size)
 (a:L=true\/n=1) (b:ds.length=n) (c: ∀(j:Nat) aY,ds[j]?=some aY->w.cell? (H.add j)=some aY):
 (method (P.types.size+Made.depth) t (.pointer (some H)) name).run P w= .ok (f,if L then .agg ds.toArray else ds.headD undef) w:=by
 obtain⟨h,k⟩:=h;unfold Qr at h
 (repeat' split at h)<;>cases h
 rename_i l _ d m e _ _ _ o p _ _ q g i;obtain⟨n,r⟩: ∃n,P.types.size+Made.depth=n+1:=⟨P.types.size+Made.depth-1,by omega⟩;have s:d.path.toList=[]:=by simpa using e
 have u:=lA (P:=P) (w:=w) g i a b c
 simp_all [method,typeInfo,follow,receiverAt,underlying,Place.get,a3r,asAddr]
theorem xF{t:Nat}{a:Value}(b:(method (P.types.size+Made.depth) t v name).run P w= .ok (f,a) w)(c:T7 P f):
 (invoke (.fn (.method name) #[]) (#[.iface t v]++args)).run P w= .ok (.enter f (#[a]++args)) w:=by
 simp_all [Array.getElem?_append_left,invoke,callMethod,jS]
def Iy(P:Program)(aH:Nat)(d:Callee):Prop:= ∀f args m r a,d f args m=some (r,a)->T7 P f/\m.ac<=a.ac/\(∀b,b<m.ac->m.Y b=none->a.Y b=none)/\
 (∀id x,id<m.ac->m.Y id=none->d f args (m.A1 id x)=some (r,a.A1 id x))/\
 ∀ u w (g:Array Value),Aw u args g.toList->BF aH u m w->aH<=w.heap.size->
   Calls P f g w λe I=> ∃v c,e= .returned v/\CY u c/\(∀b,b<m.ac->c b=u b)/\BD c r v/\BF aH c a I/\Below aH w I
theorem a37{k:M}(d:Ok P o=some k)(h:Cr u J A a)(G:BF aH u m w){args:List Value}(b:k.By A m=some (f,args))(N:T7 P f):
 ∃z:Array Value,(execOp a.eval o).run P w= .ok (.enter f z) w/\Aw u args z.toList:=by
 rcases YK d with d|rfl
 rotate_left
 ·cases b
 unfold T0 at d;split at d
 case h_27 c O=>
  unfold VU at d;split at d
  ·
   rename_i t name B;split at d<;>cases d;rename_i e;simp only[M.By]at b;have i:=h.U (x:= .tmp t) rfl;split at b
   ·rename_i C v p;rw[p]at i;obtain⟨D,Q,E⟩:=i.UA;split at b
    ·rename_i q g j;simp only[Fx,Ni]at b;obtain⟨rfl,rfl⟩:=b;have r:q=C:=(by have:=List.find?_some j;simpa using this);subst r;refine⟨#[D]++c.args.map a.eval,?_,by simpa using Aw.cons E (Sc h _ e)⟩;have I:=aCi (w:=w) (v:=D) (mZ (List.mem_of_find?_eq_some j))
     grind [execOp,resolve,xF]
    ·rename_i q g L n j;split at b
     ·rename_i l;simp only[Fx,Ni]at b;obtain⟨rfl,rfl⟩:=b;have r:q=C:=(by have:=List.find?_some j;simpa using this);subst r;simp only[AF,My,BW]at l;obtain⟨H,ds,F,s,y,K⟩:=ix G E l.1 l.2;refine⟨#[if L then .agg ds.toArray else ds.headD undef]++c.args.map a.eval,?_,by simpa using Aw.cons K (Sc h _ e)⟩;have I:=yp (w:=w) (mZ (List.mem_of_find?_eq_some j)) l.2 s y
      grind [execOp,resolve,xF]
     ·cases b
    ·cases b
   ·cases b
  ·
   rename_i g B;split at d
   ·rename_i fn R;split at d<;>cases d;rename_i e;simp only[AF]at e;simp only[M.By,Fx,Ni]at b;obtain⟨rfl,rfl⟩:=b;refine⟨c.args.map a.eval,?_,by simpa using Sc h _ e.2⟩;have F:a.eval (.func g)= .func (.func g) #[] #[]:=rfl
    grind [execOp,resolve,Deferred.ofValue,invoke,jS]
   ·cases d
  ·
   rename_i t B;split at d<;>cases d;rename_i e;simp only[M.By]at b;have i:=h.U (x:= .tmp t) rfl;split at b
   ·rename_i g first S p
    simp only[Fx,Ni]at b;obtain⟨rfl,rfl⟩:=b;rw[p]at i;obtain⟨ys,ds,F,s,y⟩:=i.Py;refine⟨ys++c.args.map a.eval++ds,?_,by simpa using(s.JU (Sc h _ e)).JU y⟩
    grind [execOp,resolve,Deferred.ofValue,invoke,jS]
   ·cases b
  all_goals((repeat' split at d)<;>cases d<;>simp[M.By]at b)
 all_goals((repeat' split at d)<;>cases d<;>simp[M.By]at b)
end Go.DI
