/- A part of the proof. -/
import Derived.Test.YtmmkkggfmigppaaGreatZdi
set_option linter.all false
set_option maxRecDepth 20000
set_option maxHeartbeats 16000000
namespace Go.DI
open Go Go.RowKit
def CL(K:Be)(id mid:Nat):Be:= λo=>if o=id then some mid else K o
variable {u:C0} {K:Be} {A J:A2} {t m:X} {v ca:Value} {id mid h7 iQ:Nat}
theorem CA.set(h:K id=none):CA K (CL K id mid):= λo b hb=>by
 grind [CL]
structure KE(K:Be)(u:C0)(t m:X)(id mid:Nat):Prop where
 e:K id=none
 b: ∀o,K o≠some mid
 f:u mid=none
 MN:id<t.ac
 L0:mid<m.ac
variable{b o z f:Nat}{es B:List (Value×Value)}{cs o8 C:List Value}{y:Option CC}{w:Bool}{x:CC}{bx:List (Operand×Operand)}{G:Type}{r:Value}{a7:Value->X->Prop}
theorem KE.D6(a:KE K u t m id mid)(h:K o=some b):b≠mid:= λe=>by subst e;exact a.b o h
theorem BN.D6(a:BN K u t m){p c:Nat}(h:K p=some c)(d:K o=some b)(f:p≠o):c≠b:= λe=>by subst e;exact f (a.inj p o c h d)
theorem DO{m:X}(h:m.Bs b=some es):m.Y b=some ⟨[],true⟩/\m.mp b=some es:=by
 grind [X.Bs]
theorem Ec{m:X}(h:m.Y b=some ⟨[],true⟩)(a:m.mp b=some es):m.Bs b=some es:=by unfold X.Bs;rw[h];exact a
theorem YW(i:BN K u t m)(c:KE K u t m id mid)(q:AJ u K cs o8):BN (CL K id mid) u (t.A1 id (some ⟨cs,true⟩)) (m.A1 mid (some ⟨o8,true⟩)) where
 Ee o x l:=by
  by_cases d:o=id
  ·subst d;rw[AR c.MN]at l;cases l;exact .inl ⟨mid,o8,true,by simp[CL],AR c.L0,λ_=>rfl,q.AD (Ce.refl _) (CA.set c.e)⟩
  ·rw[A6 d]at l;rcases i.Ee o x l with⟨b,ds,w,g,j,n,r⟩|⟨g,j⟩
   ·exact .inl ⟨b,ds,w,by simp[CL,d,g],by rw[A6 (c.D6 g),j],n,r.AD (Ce.refl _) (CA.set c.e)⟩
   ·exact .inr ⟨by simp[CL,d,g],j⟩
 maps o es p:=by
  by_cases d:o=id
  ·subst d;have:=(DO p).2;rw[show(t.A1 o (some ⟨cs,true⟩)).mp=t.mp from rfl,i.Ek o c.e]at this;cases this
  ·rw[Kr d]at p;obtain⟨b,B,g,j,n⟩:=i.maps o es p;exact⟨b,B,by simp[CL,d,g],by rw[Kr (c.D6 g),j],n.AD (Ce.refl _) (CA.set c.e)⟩
 Ek o h:=by
  simp only[CL]at h;split at h
  ·cases h
  ·exact i.Ek o h
 inj o o' b h k:=by
  simp only[CL]at h k;split at h
  ·cases h;split at k
   ·next a b=>rw[a,b]
   ·exact absurd k (c.b o')
  ·split at k
   ·cases k;exact absurd h (c.b o)
   ·exact i.inj o o' b h k
 B0 o b h:=by
  simp only[CL]at h;split at h
  ·next e=>cases h;subst e;exact⟨c.MN,c.L0⟩
  ·exact i.B0 o b h
 AZ b ds h:=by
  have hb:b≠mid:= λe=>by subst e;rw[c.f]at h;cases h
  obtain⟨⟨w,g⟩,j⟩:=i.AZ b ds h
  grind [A6,CL]
theorem n2(d:KE K u t m id mid)(i:h7<=id)(j:iQ<=mid){x:Option CC}:Bi h7 iQ K u t m (CL K id mid) u (t.A1 id x) (m.A1 mid y) where
 e:=CA.set d.e
 f:=Ce.refl _
 LX o b h:=by
  grind [CL]
 fn b cs h:= .inl h
 HB:=Aj _
 HL:=Aj _
 DL b hb _:=A6 (by omega)
 Vd b hb:= λ⟨o,y,h,a,g⟩=>by
  simp only[CL]at h;split at h
  ·cases h;omega
  ·next c=>exact⟨o,y,h,by rw[A6 c]at a;exact a,g⟩
 TO b hb:= λ⟨o,y,h,a⟩=>by
  simp only[CL]at h;split at h
  ·cases h;omega
  ·next c=>exact⟨o,y,h,by rw[A6 c]at a;exact a⟩
theorem z8(g:BN K u t m)(a:KE K u t m id mid)(n:J4 u K es B):BN (CL K id mid) u (t.Cw id es) (m.Cw mid B) where
 Ee o x j:=by
  by_cases c:o=id
  ·subst c;rw[dI a.MN]at j;cases j;exact .inl ⟨mid,[],true,by simp[CL],dI a.L0,λ_=>rfl,AJ.nil⟩
  ·rw[Hs c]at j;rcases g.Ee o x j with⟨b,ds,w,d,i,l,p⟩|⟨d,i⟩
   ·exact .inl ⟨b,ds,w,by simp[CL,c,d],by rw[Hs (a.D6 d),i],l,p.AD (Ce.refl _) (CA.set a.e)⟩
   ·exact .inr ⟨by simp[CL,c,d],i⟩
 maps o fs k:=by
  by_cases c:o=id
  ·subst c;rw[ZC a.MN]at k;cases k;exact⟨mid,B,by simp[CL],ZC a.L0,n.AD (Ce.refl _) (CA.set a.e)⟩
  ·rw[Ua c]at k;obtain⟨b,B,d,i,l⟩:=g.maps o fs k;exact⟨b,B,by simp[CL,c,d],by rw[Ua (a.D6 d),i],l.AD (Ce.refl _) (CA.set a.e)⟩
 Ek o h:=by
  simp only[CL]at h;split at h
  ·cases h
  ·next q=>show(if o=id then some es else t.mp o)=none;rw[if_neg q];exact g.Ek o h
 inj:=(YW g a (cs:=[]) (o8:=[]) AJ.nil).inj
 B0:=(YW g a (cs:=[]) (o8:=[]) AJ.nil).B0
 AZ b ds h:=by
  have hb:b≠mid:= λe=>by subst e;rw[a.f]at h;cases h
  obtain⟨⟨w,d⟩,i⟩:=g.AZ b ds h
  grind [Hs,CL]
theorem a08(d:KE K u t m id mid)(i:h7<=id)(j:iQ<=mid):Bi h7 iQ K u t m (CL K id mid) u (t.Cw id es) (m.Cw mid B) where
 e:=CA.set d.e
 f:=Ce.refl _
 LX o b h:=by
  grind [CL]
 fn b cs h:= .inl h
 HB:=Aj _
 HL:=Aj _
 DL b hb _:=Hs (by omega)
 Vd b hb:= λ⟨o,y,h,a,g⟩=>by
  simp only[CL]at h;split at h
  ·cases h;omega
  ·next c=>exact⟨o,y,h,by rw[Hs c]at a;exact a,g⟩
 TO b hb:= λ⟨o,y,h,a⟩=>by
  simp only[CL]at h;split at h
  ·cases h;omega
  ·next c=>exact⟨o,y,h,by rw[Hs c]at a;exact a⟩
theorem jR(d:BN K u t m)(f:K o=some b)(z:t.Y o=some x)(q:x.own=true)(hb:m.Y b=some ⟨o8,w⟩)
 {ds j:List Value} (A:ds.length=x.cells.length) (C:AJ u K ds j) (D:w=true):BN K u (t.A1 o (some ⟨ds,true⟩)) (m.A1 b (some ⟨j,w⟩)) where
 Ee p y r:=by
  have k:=d.B0 o b f;by_cases g:p=o
  ·grind [AR]
  ·rw[A6 g]at r;rcases d.Ee p y r with⟨c,ds,w,e,i,l,E⟩|e
   ·exact .inl ⟨c,ds,w,e,by rw[A6 (d.D6 e f g),i],l,E⟩
   ·exact .inr e
 maps p es n:=by
  have k:=d.B0 o b f;by_cases g:p=o
  ·subst g;obtain⟨e,i⟩:=DO n;rw[AR k.1]at e;have F:ds=[]:=(by simpa using e);subst F;have s:x.cells=[]:=M0 A.symm;have:t.Bs p=some es:=Ec (by rw[z];obtain⟨a,b⟩:=x;simp at s q;simp[s,q]) i;obtain⟨J,B,v,G,H⟩:=d.maps p es this;rw[f]at v;cases v;have I:j=[]:=M0 (by rw[<-C.1];rfl);refine⟨b,B,f,?_,H⟩;subst I;subst D;exact Ec (AR k.2) (DO G).2
  ·rw[Kr g]at n;obtain⟨c,B,e,i,l⟩:=d.maps p es n;exact⟨c,B,e,by rw[Kr (d.D6 e f g),i],l⟩
 Ek:=d.Ek
 inj:=d.inj
 B0:=d.B0
 AZ c es h:=by
  obtain⟨⟨L,e⟩,i⟩:=d.AZ c es h
  grind [A6]
theorem UW(r:BN K u t m)(a:K o=some b)(i:t.Y o=some x)(k:x.own=true){z:Option CC}:Bi h7 iQ K u t m K u (t.A1 o y) (m.A1 b z) where
 e:=CA.refl _
 f:=Ce.refl _
 LX o b h:= .inl h
 fn b cs h:= .inl h
 HB:=Aj _
 HL:=Aj _
 DL c l n:=A6 (λe=>n (by subst e;exact⟨o,x,a,i,k⟩))
 Vd c l:= λ⟨p,j,h,d,q⟩=>by
  by_cases g:p=o
  ·subst g;rw[a]at h;cases h;exact⟨p,x,a,i,k⟩
  ·rw[A6 g]at d;exact⟨p,j,h,d,q⟩
 TO c l:= λ⟨p,j,h,d⟩=>by
  by_cases g:p=o
  ·subst g;rw[a]at h;cases h;exact⟨p,x,a,i⟩
  ·rw[A6 g]at d;exact⟨p,j,h,d⟩
theorem vm(d:BN K u t m):BN K u (t.A1 o none) m where
 Ee p y a:=by
  by_cases b:p=o
  ·subst b;by_cases g:p<t.ac
   ·simp_all
   ·have e:(t.A1 p none).Y p=none:=UP (by simp;omega);rw[e]at a;cases a
  ·rw[A6 b]at a;exact d.Ee p y a
 maps p es f:=by
  by_cases b:p=o
  ·subst b;have:=(DO f).1;by_cases g:p<t.ac
   ·simp_all
   ·have e:(t.A1 p none).Y p=none:=UP (by simp;omega)
    simp_all
  ·rw[Kr b]at f;exact d.maps p es f
 Ek:=d.Ek
 inj:=d.inj
 B0:=d.B0
 AZ c es h:=by
  obtain⟨e,i⟩:=d.AZ c es h;refine⟨e,λp y j a=> ?_⟩;by_cases b:p=o
  ·subst b;by_cases g:p<t.ac
   ·simp_all
   ·have e:(t.A1 p none).Y p=none:=UP (by simp;omega);rw[e]at a;cases a
  ·rw[A6 b]at a;exact i p y j a
theorem ly:Bi h7 iQ K u t m K u (t.A1 o none) m where
 e:=CA.refl _
 f:=Ce.refl _
 LX o b h:= .inl h
 fn b cs h:= .inl h
 HB:=Aj _
 HL:=Aj _
 DL c j n:=rfl
 Vd c j:= λ⟨p,g,h,a,k⟩=>by
  by_cases d:p=o
  ·subst d;by_cases l:p<t.ac
   ·simp_all
   ·have i:(t.A1 p none).Y p=none:=UP (by simp;omega);rw[i]at a;cases a
  ·rw[A6 d]at a;exact⟨p,g,h,a,k⟩
 TO c j:= λ⟨p,g,h,a⟩=>by
  by_cases d:p=o
  ·subst d;by_cases l:p<t.ac
   ·simp_all
   ·have i:(t.A1 p none).Y p=none:=UP (by simp;omega);rw[i]at a;cases a
  ·rw[A6 d]at a;exact⟨p,g,h,a⟩
theorem w7(a:BN K u t m)(f:K o=some b)(q:t.Y o=some x)(r:x.own=true):BN K u (t.A1 o none) (m.A1 b none) where
 Ee p y j:=by
  have l:=a.B0 o b f;by_cases e:p=o
  ·simp_all
  ·rw[A6 e]at j;rcases a.Ee p y j with⟨c,ds,w,d,g,i,n⟩|d
   ·exact .inl ⟨c,ds,w,d,by rw[A6 (a.D6 d f e),g],i,n⟩
   ·exact .inr d
 maps p es k:=by
  have l:=a.B0 o b f;by_cases e:p=o
  ·grind [DO,AR]
  ·rw[Kr e]at k;obtain⟨c,B,d,g,i⟩:=a.maps p es k;exact⟨c,B,d,by rw[Kr (a.D6 d f e),g],i⟩
 Ek:=a.Ek
 inj:=a.inj
 B0:=a.B0
 AZ c es h:=by
  obtain⟨⟨s,d⟩,g⟩:=a.AZ c es h
  grind [A6]
theorem a7j(s:ByteArray):AJ u K (TL s) (TL s):=AJ.BP (by simp only[TL,List.all_map,BR];intro b _;rfl)
structure IY(h7 iQ id mid:Nat)(K:Be)(u:C0)(t m b c:X)(v ca:Value)(a:Be):Prop where
 uj:BN a u b c
 val:AY u a v ca
 AZ:Bi h7 iQ K u t m a u b c
 bb: ∀o,o≠id->a o=K o
 self:a id=K id\/a id=some mid
theorem IY.new(b:BN K u t m)(a:KE K u t m id mid)(c:h7<=id)(d:iQ<=mid)(e:AJ u K cs o8){v ca:Value}(f:AY u (CL K id mid) v ca):
 ∃g,IY h7 iQ id mid K u t m (t.A1 id (some ⟨cs,true⟩)) (m.A1 mid (some ⟨o8,true⟩)) v ca g:=
 ⟨CL K id mid,YW b a e,f,n2 a c d,λo h=>by simp[CL,h],.inr (by simp[CL])⟩
theorem IY.Lg(a:BN K u t m){v ca:Value}(b:AY u K v ca): ∃c,IY h7 iQ id mid K u t m t m v ca c:=⟨K,a,b,Bi.refl,λ_ _=>rfl,.inl rfl⟩
theorem mb(g:BN K u t m)(Q:D5 u K A J){k:M}(AU:k.FD=false)(AD:Ns k=true)(E:k.Di A t=true)(A0:k.Bv=true->KE K u t m id mid)(R:h7<=id)(V:iQ<=mid):
 k.ok J m=true/\ ∃AV,IY h7 iQ id mid K u t m (k.H8 id A t) (k.Cj mid J m) (k.EE id A t) (k.val mid J m) AV:=by
 by_cases AW:k.gb=true
 ·obtain⟨a,b⟩:=aCB g Q AW AD E id mid;obtain⟨r,N⟩:=a7z (A:=A) (J:=J) (t:=t) (m:=m) AW (id:=id) (lQ:=mid);refine⟨a,?_⟩;rw[r,N];exact IY.Lg g b
 ·simp only[Ns,AF]at AD;obtain⟨L,AE⟩:=AD;have Z:CL K id mid id=some mid:=(by simp[CL]);cases k with
  |It z=>exact⟨rfl,IY.new g (A0 rfl) R V (AJ.BP AE) (.AG Z)⟩
  | Ja x=>simp[M.D9]at L;exact⟨(Q.U L).D E,IY.new g (A0 rfl) R V (Q.U L).H (.AG Z)⟩
  | Hg a n z ps=>have Ah: ∀p∈ps,Ay p.2.2=true:= λp S=>BR.1 L _ (by simp only[M.D9];exact List.mem_map_of_mem S);exact⟨p6 Q rfl Ah E,IY.new g (A0 rfl) R V (l4 Q (AJ.BP AE) Ah) (.slice Z)⟩
  | Mz x=>simp[M.D9]at L;simp only[M.Di,M.ok,AF]at E;have e:=TY (Q.U L) E.1;simp only[M.ok,M.EE,M.val,M.H8,M.Cj,e,AF];exact⟨E,IY.new g (A0 rfl) R V (a7j _) (.slice Z)⟩
  | IZ z bytes zero l c=>simp[M.D9]at L;have BC:=E;simp only[M.Di,M.ok,AF]at E;have r:=Jh (Q.U L.1) E.1.1.1.1.1.1;have N:=Jh (Q.U L.2) E.1.1.1.1.1.2;simp only[M.ok,M.EE,M.val,M.H8,M.Cj,r,N,AF];exact⟨E,IY.new g (A0 rfl) R V (AJ.flatten (AJ.BP AE)) (.slice Z)⟩
  | KZ z bytes zero x n=>simp[M.D9]at L;simp only[M.Di,M.ok,AF]at E;have r:=Jh (Q.U L.2) E.1.1.1.1.2;have s:=Q.U L.1;have AQ:=cO E.1.1.1.1.1;rw[AQ]at s;have N:=(s.DF rfl).trans AQ.symm;simp only[M.ok,M.EE,M.val,M.H8,M.Cj,r,N,AF];exact⟨E,IY.new g (A0 rfl) R V (AJ.flatten (AJ.BP AE)) (.slice Z)⟩
  | Ca zero x=>
    simp[M.D9]at L;have s:=Q.U L;simp only[M.Di,M.ok,AF,BW]at E;obtain⟨⟨C,I⟩,A5⟩:=E;have A3:DK (U A x)=false:=by cases G:U A x<;>simp[G,Br]at C<;>rfl
    have A6:=Tt g s (z:=zero.length) (by rw[Fb,A3];exact C);have AX:=vf g s I;simp only[M.ok,M.EE,M.val,M.H8,M.Cj,AF,BW];refine⟨⟨⟨A6,AX⟩,A5⟩,?_⟩;cases G:U A x with
    | slice p l c=>
      rw[G]at s C I;cases p with
      | none=>have AQ:=s.DF (by simpa[Br,BJ]using C);rw[AQ];exact IY.Lg g AY.undef
      | some Aq=>
        obtain⟨W,A7,AI⟩:=Aq;cases j:t.Y W with
        |none=>simp[Br,j]at C
        | some y=>
          have AR:y.own=true:=(by simpa[Dm,j]using I);have Ai:H5 t zero (.slice (some ⟨W,A7,AI⟩) l c)=t.A1 W (some ⟨CV y.cells A7 (List.replicate l zero).flatten,y.own⟩):=(by simp only[H5,j]);rcases s.Fl with⟨b,r,N,O⟩|⟨r,N,O,A8⟩
          ·simp only at r O;obtain⟨cs,w,P,A2,X⟩:=g.HF r j;have A4:=A2 AR;subst A4;rw[Ai,O];simp only[H5,P,AR];refine⟨K,?_,AY.undef,UW g r j AR,λ_ _=>rfl,.inl rfl⟩;exact jR g r j AR P (by
            have: ∀(T:List Value) (cs:List Value) (o:Nat),(CV cs o T).length=cs.length:=by
             intro T;induction T with
             |nil=>intro cs o;rfl
             |cons v T AK=>intro cs o;simp only[CV,AK,Ma]
            exact this _ _ _) (X.CV _ (AJ.flatten (AJ.BP AE))) rfl
          ·simp only at r N O;subst O;have Ar:t.A1 W (some ⟨CV y.cells A7 (List.replicate 0 zero).flatten,y.own⟩)=t:=vw j;rw[Ai,Ar,A8];exact IY.Lg g AY.undef
    |_=>simp[G,Br]at C
  | Kz=>have:=A0 rfl;exact⟨rfl,CL K id mid,z8 g this ⟨rfl,λi e BD a=>by simp at a⟩,.map Z,a08 this R V,λo AD=>by simp[CL,AD],.inr Z⟩
  | store n x v=>
    simp[M.D9]at L;have s:=Q.U L.1;have A9:=Q.U L.2;simp only[M.Di,M.ok,AF,BW]at E;obtain⟨⟨⟨C,I⟩,A5⟩,Aa⟩:=E;have A3:Gp (U A x)=false:=by cases G:U A x<;>simp[G,Bj]at C<;>rfl
    have A6:=WV g s (n:=n) (by rw[JP,A3];exact C);simp only[M.ok,M.EE,M.val,M.H8,M.Cj,AF,BW];cases G:U A x with
    | pointer p=>
      cases p with
      |none=>simp[G,Bj]at C
      | some a=>
        rw[G]at s C I;obtain⟨b,r,N,O⟩:=s.JW;obtain⟨W,A7,AI⟩:=a;simp only at r N O;subst N;cases j:t.Y W with
        |none=>simp[j]at C
        | some y=>
          simp only[aCf,j,BW]at C;simp only[wq,j]at I;obtain⟨cs,w,P,A2,X⟩:=g.HF r j;have A4:=A2 I;subst A4;rw[O]at A6⊢;simp only[a85,j,P,wq,I];refine⟨⟨⟨⟨A6,trivial⟩,A9.D A5⟩,by rw[<-A9.H.1];exact Aa⟩,K,?_,AY.undef,UW g r j I,λ_ _=>rfl,.inl rfl⟩;exact jR g r j I P (by
           have: ∀(T:List Value) (cs:List Value) (o:Nat),(CV cs o T).length=cs.length:=by
            intro T;induction T with
            |nil=>intro cs o;rfl
            |cons v T AK=>intro cs o;simp only[CV,AK,Ma]
           exact this _ _ _) (X.CV _ A9.H) rfl
    |_=>simp[G,Bj]at C
  | app z bytes x y=>
    simp[M.D9]at L;have s:=Q.U L.1;have AA:=Q.U L.2;simp only[M.Di,AF,BW]at E;obtain⟨⟨⟨⟨⟨C,I⟩,A5⟩,Aa⟩,As⟩,At⟩:=E;have A3:DK (U A x)=false:=by cases G:U A x<;>simp[G,Br]at C<;>rfl
    have Ak:Fb t z (U A x)=true:=(by rw[Fb,A3];exact C);have A6:=Tt g s Ak;have AX:=vf g s I;have Au:=Tt g AA A5;have Ab:=Yn AA;have Ac:CO (U A x)=CO (U J x):=(by rw[<-Yn s,ED,A3];rfl);have Av:AJ u K (C5 t z (U A x)) (C5 m z (U J x)):=(by have:=aK g s Ak;rw[FL,A3]at this;exact this);have Al:=aK g AA A5;simp only[M.ok,M.EE,M.val,M.H8,M.Cj,AF,BW];refine⟨⟨⟨⟨⟨⟨A6,AX⟩,Au⟩,Aa⟩,by rw[<-Ac,<-Ab];exact As⟩,by rw[<-Ac,<-Ab];exact At⟩,?_⟩;rw[<-Ab,<-Ac];split
    ·exact IY.Lg g s
    ·next BE=>
     have AL:=A0 rfl;have Aw:Dj t z (U A x) (ED (U A y))=Dj m z (U J x) (ED (U A y)):=by
      unfold Br at C;split at C
      ·next G=>rw[G]at s⊢;have:U J x=_:=s.DF (by simpa[BJ]using C);rw[this];rfl
      ·next a l c G=>
       rw[G]at s⊢;obtain⟨W,A7,AI⟩:=a;rcases s.Fl with⟨b,r,N,O⟩|⟨r,N,O,A8⟩
       ·rw[O];cases AI with
        |none=>rfl
        | some k=>
          simp only[AF]at C;cases j:t.Y W with
          |none=>simp[j]at C
          | some y=>obtain⟨cs,w,P,A2,X⟩:=g.HF r j;simp only[Dj,j,P,X.1]
       ·rw[A8];simp only at N O;subst O;rcases N with rfl|rfl
        ·rfl
        ·simp only[Dj,Bool.and_eq_false_iff,OB];left;omega
      ·cases C
     rw[<-Aw];split
     ·next AM=>
      unfold Br at C;split at C
      ·next G=>rw[G]at AM;simp[Dj]at AM
      ·next a l c G=>
       rw[G]at s I AM⊢;obtain⟨W,A7,AI⟩:=a;rcases s.Fl with⟨b,r,N,O⟩|⟨r,N,O,A8⟩
       ·rw[O];cases j:t.Y W with
        |none=>simp[Dm,j]at I
        | some y=>
          simp only[Dm,j]at I;obtain⟨cs,w,P,A2,X⟩:=g.HF r j;have A4:=A2 I;subst A4;simp only[Sj,Ga,j,P];refine⟨K,?_,.slice r,UW g r j I,λ_ _=>rfl,.inl rfl⟩;rw[I];exact jR g r j I P (by
           have: ∀(T:List Value) (cs:List Value) (o:Nat),(CV cs o T).length=cs.length:=by
            intro T;induction T with
            |nil=>intro cs o;rfl
            |cons v T AK=>intro cs o;simp only[CV,AK,Ma]
           exact this _ _ _) (X.CV _ Al) rfl
       ·simp only at N O;subst O;rcases N with rfl|rfl
        ·simp[Dj]at AM
        ·simp only[Dj,AF,BW]at AM;omega
      ·cases C
     have key: ∃bH AB,EC t (U A x)=bH/\EC m (U J x)=AB/\BN K u bH AB/\Bi h7 iQ K u t m K u bH AB/\bH.ac=t.ac/\AB.ac=m.ac:=by
      refine⟨_,_,rfl,rfl,?_⟩;unfold Br at C;split at C
      ·next G=>rw[G]at s⊢;have:U J x=_:=s.DF (by simpa[BJ]using C);rw[this];exact⟨g,Bi.refl,rfl,rfl⟩
      ·next a l c G=>
       rw[G]at s I⊢;rcases s.Fl with⟨b,r,N,O⟩|⟨r,N,O,A8⟩
       ·rw[O];cases j:t.Y a.block with
        |none=>simp[Dm,j]at I
        | some y=>simp only[Dm,j]at I;exact⟨w7 g r j I,UW g r j I,rfl,rfl⟩
       ·rw[A8];exact⟨vm g,ly,rfl,rfl⟩
      ·cases C
     obtain⟨bH,AB,r,N,Ax,Az,B1,B2⟩:=key;rw[r,N];have B3:KE K u bH AB id mid:=⟨AL.e,AL.b,AL.f,by rw[B1];exact AL.MN,by rw[B2];exact AL.L0⟩;obtain⟨AV,q⟩:=IY.new (h7:=h7) (iQ:=iQ) Ax B3 R V (Av.JU Al) (v:= .slice (some ⟨id,0,none⟩) (CO (U A x)+ED (U A y)) z) (ca:= .slice (some ⟨mid,0,none⟩) (CO (U A x)+ED (U A y)) z) (.slice Z);exact⟨AV,q.uj,q.val,Az.trans q.AZ,q.bb,q.self⟩
  | Ki bx x Am v=>
    simp[M.D9]at L;have s:=Q.U L.1;have Ae:=Q.U L.2.1;have A9:=Q.U L.2.2;simp only[M.Di,M.ok]at E;split at E
    ·next b G=>
     cases AN:t.Bs b with
     |none=>simp[AN]at E
     | some es=>
       simp only[AN,AF]at E;obtain⟨c,B,P,A2,X⟩:=g.maps b es AN;rw[G]at s;obtain⟨AS,An,B4⟩:=s.Te;rw[P]at An;cases An;obtain⟨B5,Ap,B6⟩:=ue X Ae E.1;simp only[M.ok,M.EE,M.val,M.H8,M.Cj,G,B4,MX,AN,A2,Jb,AF];refine⟨⟨B5,A9.F E.2⟩,K,?_,AY.undef,?_,λ_ _=>rfl,.inl rfl⟩
       ·rw[Ap];have B7:AY u K (U A Am) (U A Am):=(by rw[Ap]at Ae;exact Ae);have BF:=wQ B7 A9 X B6;have BG:=g.B0 b c P;refine⟨λp y AA=> ?_,λp fs S=> ?_,λp S=> ?_,g.inj,g.B0,λd ds AT=> ?_⟩
        ·by_cases AO:p=b
         ·grind [dI,AJ.nil]
         ·rw[Hs AO]at AA;rcases g.Ee p y AA with⟨AS,ds,w,R,V,Af,B8⟩|R
          ·exact .inl ⟨AS,ds,w,R,by rw[Hs (g.D6 R P AO),V],Af,B8⟩
          ·exact .inr R
        ·by_cases AO:p=b
         ·grind [ZC]
         ·rw[Ua AO]at S;obtain⟨AS,B,R,V,Af⟩:=g.maps p fs S;exact⟨AS,B,R,by rw[Ua (g.D6 R P AO),V],Af⟩
        ·have B9:p≠b:= λe=>by subst e;rw[P]at S;cases S
         show(if p=b then _ else t.mp p)=none;rw[if_neg B9];exact g.Ek p S
        ·obtain⟨⟨BH,C⟩,I⟩:=g.AZ d ds AT
         grind [DO,Hs]
       ·have j:=(DO AN).1;refine⟨CA.refl _,Ce.refl _,λ_ _ h=> .inl h,λ_ _ h=> .inl h,Aj _,Aj _,λd AT A4=> ?_,λd AT=> λ⟨p,Ag,h,AP,BA⟩=> ?_,λd AT=> λ⟨p,Ag,h,AP⟩=> ?_⟩
        ·exact Hs (λe=>A4 (by subst e;exact⟨b,_,P,j,rfl⟩))
        ·by_cases S:p=b
         ·subst S;rw[P]at h;cases h;exact⟨p,_,P,j,rfl⟩
         ·rw[Hs S]at AP;exact⟨p,Ag,h,AP,BA⟩
        ·by_cases S:p=b
         ·subst S;rw[P]at h;cases h;exact⟨p,_,P,j⟩
         ·rw[Hs S]at AP;exact⟨p,Ag,h,AP⟩
    ·cases E
  |Kg=>cases AU
  |JV=>cases AU
  |JN=>cases AU
  |_=>exact absurd rfl AW
theorem vK(w:BN K u t m)(z:D5 u K A J)(l:bx.all (λp=>Ay p.1&&Ay p.2)=true)(h:Dv A t bx=true):Cq J bx=true:=by
 simp only[Cq,Dv,BR]at h l⊢;intro p B;have i:=h p B;have q:=l p B;obtain⟨x,y⟩:=p;simp only[AF]at q;simp only at i⊢;have r:=z.U q.1;have g:=z.U q.2;generalize U A x=a at r i;generalize U J x=j at r;generalize U A y=b at g i;generalize U J y=D at g;have P: ∀{a j:Value},AY u K a j->F4 a=true-> ∀c,I j=some c-> ∃cs,u c=some cs:= λl g c f=>by
  cases l with
  |BP h=>have:=(LA h).2.2;rw[this]at g;cases g
  |QI e n=>simp[I]at f;subst f;exact⟨_,n⟩
  |OW=>simp[I]at f
  |BX e n=>simp[I]at f;subst f;exact⟨_,n⟩
  |_=>simp[F4]at g
 have C: ∀{a j:Value},AY u K a j->F4 a=false-> ∀c,I j=some c-> ∃o,I a=some o/\K o=some c:= λl g c f=>by
  cases l with
  | BP h=>rename_i a;unfold I at f;split at f<;>simp[BJ]at h f
  |AG k=>simp[I]at f;subst f;exact⟨_,rfl,k⟩
  |slice k=>simp[I]at f;subst f;exact⟨_,rfl,k⟩
  |map k=>simp[I]at f;subst f;exact⟨_,rfl,k⟩
  |QI e=>subst e;simp at g
  |OW e=>subst e;simp at g
  |BX e=>subst e;simp at g
  |_=>simp[I]at f
 have Q: ∀{c:Nat} {cs:List Value} {b:Value} {o:Nat},u c=some cs->I b=some o->VQ t b=true->K o=some c->False:= λ{c cs b o} n hb s k=>by
  simp only[VQ,hb,P4]at s;cases v:t.Y o with
  |none=>simp[v]at s
  | some x=>
    simp only[v]at s;have:=(w.AZ c cs n).2 o x k v
    simp_all
 cases E:I j with
 |none=>rfl
 | some c=>
   cases F:I D with
   |none=>rfl
   | some d=>
     simp only;unfold bF at i;split at i
     ·grind
     ·next G=>
      split at i
      ·grind
      ·next H=>obtain⟨o,L,M⟩:=C r (by simpa using G) c E;obtain⟨o',N,O⟩:=C g (by simpa using H) d F;rw[L,N]at i;simp only[bne_iff_ne,ne_eq]at i⊢;intro e;subst e;exact i (w.inj o o' c M O)
def C6{a:Type}(f:G->Option a):List G->Option (List a)
 |[]=>some []
 | x::xs=>match f x with
   | some y=>(match C6 f xs with
     |some ys=>some (y::ys)
     |none=>none)
   |none=>none
theorem Q0{G b:Type}{f:G->Option b}: ∀{l:List G} {a:List b},C6 f l=some a->a.length=l.length/\ ∀(i:Nat) (y:b),a[i]?=some y-> ∃x,l[i]?=some x/\f x=some y
 |[],a,h=>by cases h;exact⟨rfl,λi y h=>by simp at h⟩
 | x::xs,a,h=>by
   simp only[C6]at h;cases c:f x with
   |none=>simp[c]at h
   | some y=>
     cases d:C6 f xs with
     |none=>simp[c,d]at h
     | some ys=>
       simp only[c,d,Fx]at h;subst h;obtain⟨e,g⟩:=Q0 d
       grind
theorem Xg{f:G->Option G}: ∀{l:List G},(∀x∈l,f x=some x)->C6 f l=some l
 |[],_=>rfl
 | x::xs,h=>by have a:C6 f xs=some xs:=Xg λy b=>h y (Pc _ b);simp only[C6,h x (by simp),a]
def Fc(z:Nat):Nat->List Value->List (List Value)
 |0,_=>[]
 |n+1,cs=>cs.take z::Fc z n (cs.drop z)
theorem mP(z:Nat): ∀(n:Nat) (cs:List Value),(Fc z n cs).length=n
 |0,_=>rfl
 |n+1,cs=>by simp[Fc,mP z n]
theorem p2: ∀{n:Nat} {cs:List Value} {i:Nat} {r:List Value},(Fc z n cs)[i]?=some r->i<n/\r=(cs.drop (i*z)).take z
 |0,cs,i,r,h=>by simp[Fc]at h
 | n+1,cs,i,r,h=>by
   cases i with
   |zero=>simp[Fc]at h;subst h;simp
   | succ i=>
     simp only[Fc,MO]at h;obtain⟨a,b⟩:=p2 h
     grind [List.drop_drop]
theorem aQ: ∀{cb:List (List Value)},(∀r∈cb,r.length=z)->Fc z cb.length cb.flatten=cb
 |[],_=>rfl
 | r::cb,h=>by
   simp_all [Fc,aQ]
def DA(v:Value):Bool:=BJ v||F4 v
def B3:Nat->X->Value->Option Value
 |0,_,v=>if DA v then some v else none
 | n+1,t,v=>if DA v then some v else match v with
   | .slice (some a) l z=>match t.Y a.block with
     | some x=>if a.spot.isNone&&decide (a.off+l*z<=x.cells.length)then
      (match C6 (C6 (B3 n t)) (Fc z l (x.cells.drop a.off))with
       |some b=>some (O b z)
       |none=>none)else none
     |none=>none
   | .pointer (some a)=>match t.Y a.block with
     | some x=>if a.spot.isNone then
      (match C6 (B3 n t) x.cells with
       |some c=>some (BX c a.off)
       |none=>none)else none
     |none=>none
   | .agg cs=>match C6 (B3 n t) cs.toList with
     |some l=>some (.agg l.toArray)
     |none=>none
   | .tuple cs=>match C6 (B3 n t) cs.toList with
     |some l=>some (.tuple l.toArray)
     |none=>none
   | .func (.func f) xs cs=>match C6 (B3 n t) xs.toList,C6 (B3 n t) cs.toList with
     |some l,some k=>some (.func (.func f) l.toArray k.toArray)
     |_,_=>none
   |_=>none
def BL:Nat->X->Value->List Nat
 |0,_,_=>[]
 | n+1,t,v=>if DA v then[]else match v with
   | .slice (some a) _ _=>a.block::(match t.Y a.block with
     |some x=>x.cells.flatMap (BL n t)
     |none=>[])
   | .pointer (some a)=>a.block::(match t.Y a.block with
     |some x=>x.cells.flatMap (BL n t)
     |none=>[])
   | .agg cs=>cs.toList.flatMap (BL n t)
   | .tuple cs=>cs.toList.flatMap (BL n t)
   | .func _ xs cs=>xs.toList.flatMap (BL n t)++cs.toList.flatMap (BL n t)
   |_=>[]
theorem bC{u l:C0}{K:Be}(d:Ce u l){v ca:Value}(m:AY u K v ca)(n:DA v=true):AY l Ea v ca:=by
 cases m with
 |BP h=>exact .BP h
 |QI e f g k o=>exact .QI e (d _ _ f) g k λi j r x y a b c=>(o i j r x y a b c).AD d (CA.refl _)
 |OW e=>exact .OW e
 |BX e f g k=>exact .BX e (d _ _ f) g λj x y a b=>(k j x y a b).AD d (CA.refl _)
 |_=>simp[DA,BJ,F4]at n
theorem RS{u q:C0}{K:Be}{t m:X}(G:BN K u t m)(N:Ce u q): ∀(n:Nat) {v ca r:Value},AY u K v ca->B3 n t v=some r->(∀o∈BL n t v,(t.Y o).isSome=true-> ∀b cs w,K o=some b->m.Y b=some ⟨cs,w⟩->q b=some cs)->AY q Ea r ca
 | 0,v,ca,r,p,h,_=>by
   grind [B3,bC]
 | n+1,v,ca,r,p,h,d=>by
   simp only[B3]at h;simp only[BL]at d;split at h
   ·next O=>cases h;exact bC N p O
   ·next O=>
    rw[if_neg O]at d;have B: ∀{xs ys Z:List Value},AJ u K xs ys->C6 (B3 n t) xs=some Z->(∀o∈xs.flatMap (BL n t),(t.Y o).isSome=true-> ∀b cs w,K o=some b->m.Y b=some ⟨cs,w⟩->q b=some cs)->AJ q Ea Z ys:= λe c A5=>by obtain⟨H,I⟩:=Q0 c;refine⟨by rw[H,e.1],λi x y A6 C=> ?_⟩;obtain⟨A0,A1,A7⟩:=I i x A6;exact RS G N n (e.2 i A0 y A1 C) A7 λo c=>A5 o (M6.2 ⟨A0,B5 A1,c⟩)
    split at h
    ·next a l z=>
     cases g:t.Y a.block with
     |none=>simp[g]at h
     | some x=>
       simp only[g]at h d;split at h
       ·next hb=>
        simp only[AF,BW]at hb;cases P:C6 (C6 (B3 n t)) (Fc z l (x.cells.drop a.off))with
        |none=>simp[P]at h
        | some A2=>
          simp only[P,Fx]at h;subst h;obtain⟨J,A8⟩:=Q0 P;rw[mP]at J;rcases p.Fl with⟨b,s,A3,rfl⟩|⟨s,A3,A9,rfl⟩
          ·obtain⟨cs,w,Q,AA,L⟩:=G.HF s g;have R:=d a.block (by simp) (by rw[g];rfl) b cs w s Q;have AB:a.spot=none:=(by simpa using hb.1);rw[<-J,AB];have A: ∀(i:Nat) r,A2[i]?=some r->i<l/\ ∃D,D=(x.cells.drop (a.off+i*z)).take z/\C6 (B3 n t) D=some r:= λi r E=>by
            obtain⟨D,AD,AL⟩:=A8 i r E;obtain⟨S,M⟩:=p2 AD
            simp_all
           refine .QI rfl R (by rw[J,<-L.1];exact hb.2) (λi r E=> ?_) λi j r T y E U C=> ?_
           ·obtain⟨S,D,M,V⟩:=A i r E;rw[(Q0 V).1,M];simp;have:(i+1)*z<=l*z:=KI _ S
            grind
           ·obtain⟨S,D,M,V⟩:=A i r E;obtain⟨AE,F,AI⟩:=(Q0 V).2 j T U;rw[M,PU]at F;split at F
            ·rw[RL]at F;refine RS G N n (L.2 _ AE y F C) AI λo c=>d o ?_
             grind
            ·cases F
          ·subst A9;have:A2=[]:=M0 J;subst this;exact .OW rfl
       ·cases h
    ·next a=>
     cases g:t.Y a.block with
     |none=>simp[g]at h
     | some x=>
       simp only[g]at h d;split at h
       ·cases A:C6 (B3 n t) x.cells with
        |none=>simp[A]at h
        | some A4=>simp only[A,Fx]at h;subst h;obtain⟨b,s,A3,rfl⟩:=p.JW;obtain⟨cs,w,Q,AA,L⟩:=G.HF s g;have R:=d a.block (by simp) (by rw[g];rfl) b cs w s Q;have e:=B L A λo c=>d o (Pc _ c);have:=AY.BX (u:=q) (K:=Ea) (off:=0) (k:=a.off) (a2:=A4) rfl R (by rw[e.1];omega) λj T y U C=>e.2 j T y U (by simpa using C);simpa using this
       ·cases h
    ·next cs=>
     cases c:C6 (B3 n t) cs.toList with
     |none=>simp[c]at h
     | some l=>simp only[c,Fx]at h;subst h;obtain⟨ys,rfl,e⟩:=p.Ka;have:=(B e c d).agg;simpa using this
    ·next cs=>
     cases c:C6 (B3 n t) cs.toList with
     |none=>simp[c]at h
     | some l=>simp only[c,Fx]at h;subst h;obtain⟨ys,rfl,e⟩:=p.Q9;have:=(B e c d).tuple;simpa using this
    ·next f xs cs=>
     cases c:C6 (B3 n t) xs.toList with
     |none=>simp[c]at h
     | some l=>
       cases W:C6 (B3 n t) cs.toList with
       |none=>simp[c,W]at h
       | some k=>simp only[c,W,Fx]at h;subst h;obtain⟨ys,ds,rfl,e,AK⟩:=p.Py;have H:=B e c λo h=>d o (D2.2 (.inl h));have I:=B AK W λo h=>d o (D2.2 (.inr h));exact .func (by simpa using H.1) (by simpa using H.2) (by simpa using I.1) (by simpa using I.2)
    ·cases h
def Ms(n:Nat)(t:X)(args:List Value):Option (List Value):=C6 (B3 n t) args
def Jc(t:X):List Nat->X
 |[]=>t
 |o::l=>Jc (match t.Y o with|some x=>t.A1 o (some ⟨x.cells,false⟩)|none=>t) l
def Ca(t:X)(l:List Nat):X:=⟨t.ac,t.BY,λo=>if o∈l then none else t.mp o⟩
@[simp] theorem a65(t:X):Ca t []=t:=by simp[Ca]
@[simp] theorem nQ(t:X)(l:List Nat)(o:Nat):(Ca t l).Y o=t.Y o:=rfl
@[simp] theorem aEt(t:X)(l:List Nat):(Ca t l).ac=t.ac:=rfl
theorem AB:(∀(m:X) (b:Nat) (x:Option CC),(m.A1 b x).ac=m.ac)/\(∀(m:X) (k:Nat),(m.AE k).ac=m.ac+k)/\(∀(m:X) (b:Nat) (es:List (Value×Value)),(m.Cw b es).ac=m.ac)/\ ∀(t:X) (l:List Nat),(Ca t l).ac=t.ac:=⟨λ_ _ _=>rfl,λ_ _=>rfl,λ_ _ _=>rfl,λ_ _=>rfl⟩
@[simp] theorem aF9(t:X):Jc t []=t:=rfl
@[simp] theorem Zw(t:X)(o:Nat)(l:List Nat):Jc t (o::l)=Jc (match t.Y o with|some x=>t.A1 o (some ⟨x.cells,false⟩)|none=>t) l:=rfl
theorem hA: ∀(l:List Nat) (t:X),(Jc t l).ac=t.ac
 |[],t=>rfl
 | o::l,t=>by rw[Zw,hA l];split<;>rfl
theorem TF: ∀(l:List Nat) (t:X) (p:Nat) (x:CC),(Jc t l).Y p=some x-> ∃y,t.Y p=some y/\x.cells=y.cells/\(x.own=true->y.own=true)/\(p∈l->x.own=false)
 |[],t,p,x,h=>⟨x,h,rfl,λh=>h,λh=>by simp at h⟩
 | o::l,t,p,x,h=>by
   rw[Zw]at h;obtain⟨y,a,b,c,d⟩:=TF l _ p x h
   grind [AR,E,A6]
theorem jA: ∀(l:List Nat) (t:X),(Jc t l).mp=t.mp
 |[],t=>rfl
 | o::l,t=>by rw[Zw,jA l];split<;>rfl
section
variable (P:Program)
def Ir(u:C0)(m:X):Prop:= ∀b cs,u b=some cs-> ∃w,m.Y b=some ⟨cs,w⟩
def AO(f:Nat)(args:List Value)(r:Value):Prop:= ∀(u:C0) (m:X) (C:List Value),Ir u m->AJ u Ea args C->
 At P f C m λd a=>m.ac<=a.ac/\(∀b,b<m.ac->a.Y b=m.Y b)/\ ∃c,Ce u c/\Ir c a/\AY c Ea r d
def Bh(f:Nat)(args:List Value)(t:X)(a7:Value->X->Prop):Prop:= ∀(K:Be) (u:C0) (C:List Value) (m:X),BN K u t m->AJ u K args C->
 At P f C m λe d=> ∃a b r c,a7 r c/\BN a b c d/\AY b a r e/\Bi t.ac m.ac K u t m a b c d
def Bc(c:CF)(A:A2)(t:X)(Q:BM->A2->X->Prop):Prop:=HI c=true-> ∀(K:Be) (u:C0) (J:A2) (m:X),BN K u t m->D5 u K A J->
 Az P c J m λe h f=> ∃a b g d,Q e g d/\BN a b d f/\D5 b a g h/\Bi t.ac m.ac K u t m a b d f
structure AN where
 f:Nat
 fn:List Value->Option Value
 ok: ∀args r,fn args=some r->AO P f args r
structure Cp where
 f:Nat
 fn:List Value->X->Option (Value×X)
 ok: ∀args t r a,fn args t=some (r,a)-> ∀a7:Value->X->Prop,a7 r a->Bh P f args t a7
structure HC where
 p:List (AN P)
 i:List (Cp P)
variable {P}
def PL:List (Cp P)->Nat->Bool
 |[],_=>false
 |s::l,f=>s.f==f||PL l f
def Ku:List (Cp P)->Nat->List Value->X->(Value->X->Prop)->Prop
 |[],_,_,_,_=>False
 | s::l,f,args,t,a=>if s.f=f then(match s.fn args t with
   |some (r,b)=>a r b
   |none=>False)else Ku l f args t a
def RT:List (AN P)->Nat->Bool
 |[],_=>false
 |s::l,f=>s.f==f||RT l f
def NC:List (AN P)->Nat->List Value->(Value->Prop)->Prop
 |[],_,_,_=>False
 | s::l,f,args,a7=>if s.f=f then(match s.fn args with
   |some r=>a7 r
   |none=>False)else NC l f args a7
def O6(a:List (AN P))(f:Nat)(args:List Value)(t:X)(b:Value->X->Prop):Prop:=match Ms 9 t args with
 |some ts=>NC a f ts λr=>b r (if G4 r then Ca t (args.flatMap (BL 9 t))else Jc t (args.flatMap (BL 9 t)))
 |none=>False
def Yq(t:X)(o:Nat):Bool:=match t.Y o with|some x=> !x.cells.isEmpty|none=>false
def Ex(t:X)(l:List Nat):X:=⟨t.ac,λb=>if b∈l then none else t.BY b,t.mp⟩
def G2(t bH:X)(l:List Nat):X:=⟨bH.ac,λb=>if b∈l then t.BY b else bH.BY b,bH.mp⟩
def GD(A:A2)(t:X):List (Operand×Operand)->List Nat
 |[]=>[]
 | p::l=>match I (U A p.1)with
   |some o=>if P4 t o then o::GD A t l else GD A t l
   |none=>GD A t l
def OY(b:HC P)(f:Nat)(args:List Value)(t:X):List Nat->(Value->X->Prop)->Prop
 |[],a=>if PL b.i f then Ku b.i f args t a else Bh P f args t a
 |o::l,a=>(o::l).all (Yq t)=true/\if PL b.i f then Ku b.i f args (Ex t (o::l)) (λr bH=>a r (G2 t bH (o::l)))else Bh P f args (Ex t (o::l)) λr bH=>a r (G2 t bH (o::l))
def LR(a:HC P)(f:Nat)(args:List Value)(t:X)(L:List Nat)(b:Value->X->Prop):Prop:=
 if RT a.p f then O6 a.p f args t b else OY a f args t L b
def Tk(a:HC P)(v:Value)(args:List Value)(t:X)(L:List Nat)(b:Value->X->Prop):Prop:=match v with
 | .func (.func f) first c=>LR a f (first.toList++args++c.toList) t L b
 |_=>False
def EZ(c:HC P)(base:Nat)(o:Av)(A:A2)(t:X)(a:A2->X->Prop):Prop:=match o.k with
 | .Kg f C=>LR c f (C.map (U A)) t (GD A t o.Gr) λr b=>a (Ar A o.d r) b
 | .JV x C=>Tk c (U A x) (C.map (U A)) t (GD A t o.Gr) λr b=>a (Ar A o.d r) b
 | .JN _ _ _=>False
 |k=>k.Di A t=true/\Dv A t o.Gr=true/\a (Ar A o.d (k.EE (base+o.AQ) A t)) (k.H8 (base+o.AQ) A t)
def B6(b:HC P)(base:Nat):List Av->A2->X->(A2->X->Prop)->Prop
 |[],A,t,a=>a A t
 |o::c,A,t,a=>if Bl A o.g=true then EZ b base o A t (λA t=>B6 b base c A t a)else B6 b base c (Ar A o.d undef) t a
def ER(d:HC P):CF->A2->X->(BM->A2->X->Prop)->Prop
 | .skip,A,t,Q=>Q .CK A t
 | .FW ops,A,t,Q=>B6 d t.ac ops A (Cn ops t) (Q .CK)
 | .LN _ _ _,_,_,_=>False
 | .El a b,A,t,Q=>ER d a A t λe A t=>match e with
   | .CK=>ER d b A t Q
   |e=>Q e A t
 | .HP c a b,A,t,Q=>LL (U A c)=true/\if Mw (U A c)=true then ER d a A t Q else ER d b A t Q
 | .block id c,A,t,Q=>ER d c A t λe A t=>match e with
   | .Ao f=>if f=id then Q .CK A t else Q (.Ao f) A t
   |e=>Q e A t
 | .loop c,A,t,Q=>Bc P (.loop c) A t Q
 | .Ao id,A,t,Q=>Q (.Ao id) A t
 | .Cz,A,t,Q=>Q .Cz A t
end
variable {P:Program} {u:C0} {K:Be} {t m:X}
theorem xb{l:List (Cp P)}{f:Nat}{args:List Value}{t:X}{a:Value->X->Prop}(h:Ku l f args t a):Bh P f args t a:=by
 induction l with
 |nil=>exact h.elim
 | cons s l c=>
   simp only[Ku]at h;split at h
   ·next e=>
    cases b:s.fn args t with
    |none=>rw[b]at h;exact h.elim
    |some d=>obtain⟨r,g⟩:=d;rw[b]at h;have:=s.ok args t r g b a h;rw[e]at this;exact this
   ·exact c h
theorem AO.jt{ts:List Value}(h:AO P f ts r)(k:Ir u m)(y:AJ u Ea ts C):At P f C m λl e=>m.ac<=e.ac/\(∀b,b<m.ac->e.Y b=m.Y b/\(u b=none->e.mp b=m.mp b))/\
 ∃c,Ce u c/\Ir c e/\(∀b cs,c b=some cs->u b=some cs\/m.ac<=b)/\AY c Ea r l:=by
 obtain⟨p,i⟩: ∃p:X,p=⟨m.ac,λb=>if(u b).isSome then m.BY b else none,m.mp⟩:=⟨_,rfl⟩;have j:p.ac=m.ac:=by rw[i]
 have z:p.mp=m.mp:=by rw[i]
 have n: ∀b,p.Y b=if(u b).isSome then m.Y b else none:= λb=>by
  rw[i];simp only[X.Y]
  grind
 have part:Pk p m:=⟨j,z,λb x G=>by
  simp_all⟩
 have A:Ir u p:= λb cs hb=>by
  obtain⟨w,a⟩:=k b cs hb
  simp_all
 refine(At.frame part (h u p C A y)).AD λl e B=> ?_;obtain⟨H,⟨I,o,c,D,q,E⟩,d⟩:=B;refine⟨d.ac,λb hb=>⟨?_,λF=>(d.Dk b hb (by rw[n,F];rfl)).2.2⟩,c,D,λb cs hb=> ?_,λb cs hb=> ?_,E⟩
 ·cases g:p.Y b with
  |none=>exact(d.Dk b hb g).1
  |some x=>rw[part.Y b x g];exact d.part.Y b x (by rw[o b (by rw[j];exact hb),g])
 ·obtain⟨w,a⟩:=q b cs hb;exact⟨w,d.part.Y b _ a⟩
 ·by_cases s:b<m.ac
  ·left;obtain⟨w,a⟩:=q b cs hb;cases g:p.Y b with
   |none=>rw[(d.Dk b s g).2.1]at a;cases a
   | some x=>
     rw[o b (by rw[j];exact s)]at a;rw[n]at a;split at a
     ·next t=>
      cases v:u b with
      |none=>rw[v]at t;cases t
      | some o8=>
        obtain⟨J,K⟩:=k b o8 v
        grind
     ·cases a
  ·exact .inr (by omega)
theorem a4N{v ca:Value}(h:AY u K v ca)(a:G4 v=true):ca=v:=by
 unfold G4 at a;split at a
 ·obtain⟨ys,rfl,b⟩:=h.Ka;rename_i cs;have:ys.toList=cs.toList:=by
   apply Lu
   ·exact b.1.symm
   ·intro i d c;exact(b.2 i _ _ (AP c) (AP d)).DF (BR.1 a _ (Dq c))
  simp_all
 ·obtain⟨ys,rfl,b⟩:=h.Q9;rename_i cs;have:ys.toList=cs.toList:=by
   apply Lu
   ·exact b.1.symm
   ·intro i d c;exact(b.2 i _ _ (AP c) (AP d)).DF (BR.1 a _ (Dq c))
  simp_all
 ·exact h.DF a
open Classical in
theorem eF(d:BN K u t m){W:List (AN P)}{f:Nat}{args C:List Value}(A8:AJ u K args C){Z:Value->X->Prop}(h:O6 W f args t Z):
 At P f C m λA9 O=>(∀b,b<m.ac->O.Y b=m.Y b)/\ ∃I r A0,Z r A0/\BN K I A0 O/\AY I K r A9/\Bi t.ac m.ac K u t m K I A0 O:=by
 unfold O6 at h;cases Q:Ms 9 t args with
 |none=>rw[Q]at h;exact h.elim
 | some ts=>
   rw[Q]at h;simp only at h;obtain⟨l,A1⟩: ∃l,l=args.flatMap (BL 9 t):=⟨_,rfl⟩;rw[<-A1]at h;have AL: ∃r,AO P f ts r/\Z r (if G4 r then Ca t l else Jc t l):=by
    clear Q A1;induction W with
    |nil=>exact h.elim
    | cons s W AM=>
      simp only[NC]at h;split at h
      ·next e=>
       cases A2:s.fn ts with
       |none=>rw[A2]at h;exact h.elim
       |some r=>rw[A2]at h;exact⟨r,by have:=s.ok ts r A2;rw[e]at this;exact this,h⟩
      ·exact AM h
   obtain⟨r,AP,R⟩:=AL;obtain⟨j,S⟩: ∃j:C0,j= λb=>match u b with
    |some cs=>some cs
    |none=>if∃o,o∈l/\K o=some b/\(t.Y o).isSome=true then(m.Y b).map (·.cells)else none:=⟨_,rfl⟩
   have AA:Ce u j:= λb cs hb=>by rw[S];simp[hb]
   have A3: ∀b cs,j b=some cs->u b=some cs\/(∃o,o∈l/\K o=some b):= λb cs hb=>by
    grind
   have Ah: ∀b cs,j b=some cs->u b=some cs\/Tj K t b:= λb cs hb=>by
    rw[S]at hb;simp only at hb;split at hb
    ·simp_all
    ·split at hb
     ·next c=>obtain⟨o,_,AQ,AR⟩:=c;obtain⟨x,q⟩:=dH.1 AR;exact .inr ⟨o,x,AQ,q⟩
     ·cases hb
   have AS:Ir j m:= λb cs hb=>by
    rw[S]at hb;simp only at hb;split at hb
    ·next c=>cases hb;exact(d.AZ b _ c).1
    ·split at hb
     ·cases J:m.Y b with
      |none=>rw[J]at hb;cases hb
      |some x=>rw[J]at hb;cases hb;exact⟨x.own,rfl⟩
     ·cases hb
   have AT: ∀o∈l,(t.Y o).isSome=true-> ∀b cs w,K o=some b->m.Y b=some ⟨cs,w⟩->j b=some cs:= λo F AU b cs w L J=>by
    rw[S];simp only;cases A4:u b with
    |some ds=>obtain⟨⟨Ai,AB⟩,_⟩:=d.AZ b ds A4;rw[J]at AB;cases AB;rfl
    |none=>simp only;rw[if_pos ⟨o,F,L,AU⟩,J];rfl
   have AV:AJ j Ea ts C:=(by obtain⟨c,g⟩:=Q0 Q;refine⟨by rw[c,A8.1],λi x y q k=> ?_⟩;obtain⟨AE,AF,M⟩:=g i x q;exact RS d AA 9 (A8.2 i AE y AF k) M λo F=>AT o (by rw[A1];exact M6.2 ⟨AE,B5 AF,F⟩));refine(AP.jt AS AV).AD λA9 O AW=> ?_;obtain⟨T,H,I,AX,Aa,Ab,AI⟩:=AW;refine⟨λb hb=>(H b hb).1,?_⟩;by_cases U:G4 r=true
   ·rw[if_pos U]at R;refine⟨u,r,_,R,?_,by rw[a4N AI U];exact AY.G4 U,?_⟩
    ·refine⟨λo x q=> ?_,λo es M=> ?_,λo F=> ?_,d.inj,λo b h=>⟨(d.B0 o b h).1,GV (d.B0 o b h).2 T⟩,λb cs hb=> ?_⟩
     ·rcases d.Ee o x q with⟨b,cs,w,c,g,v,N⟩|c
      ·exact .inl ⟨b,cs,w,c,by rw[(H b (d.B0 o b c).2).1,g],v,N⟩
      ·exact .inr c
     ·obtain⟨z,p⟩:=DO M;have V:o∉l:= λA5=>by simp[Ca,A5]at p
      have A:t.mp o=some es:=(by simpa[Ca,V]using p);obtain⟨b,B,c,g,v⟩:=d.maps o es (Ec z A);refine⟨b,B,c,?_,v⟩;obtain⟨N,Ac⟩:=DO g;have hb:=(d.B0 o b c).2;have A4:j b=none:=by
       cases A6:j b with
       |none=>rfl
       | some cs=>
         rcases A3 b cs A6 with n|⟨o',n,D⟩
         ·have:=(d.AZ b cs n).2 o _ c z;cases this
         ·rw[d.inj o' o b D c]at n;exact absurd n V
      grind [Ec]
     ·show(if o∈l then none else t.mp o)=none;rw[d.Ek o F];simp
     ·obtain⟨⟨w,c⟩,g⟩:=d.AZ b cs hb;exact⟨⟨w,by rw[(H b (E c)).1,c]⟩,g⟩
    ·exact⟨CA.refl _,Ce.refl _,λ_ _ h=> .inl h,λ_ _ h=> .inl h,Aj _,T,λb hb _=>(H b hb).1,λb hb G=>G,λb hb G=>G⟩
   ·rw[if_neg U]at R;have A7:=AA.trans AX;refine⟨I,r,_,R,?_,AI.AD (Ce.refl _) (CA.nil _),?_⟩
    ·refine⟨λo x q=> ?_,λo es M=> ?_,λo F=> ?_,d.inj,λo b h=>⟨by rw[hA];exact(d.B0 o b h).1,GV (d.B0 o b h).2 T⟩,λb cs hb=> ?_⟩
     ·obtain⟨y,k,z,p,_⟩:=TF l t o x q;rcases d.Ee o y k with⟨b,cs,w,c,g,v,N⟩|⟨c,g⟩
      ·exact .inl ⟨b,cs,w,c,by rw[(H b (d.B0 o b c).2).1,g],λh=>v (p h),by rw[z];exact N.AD A7 (CA.refl _)⟩
      ·grind
     ·obtain⟨z,p⟩:=DO M;obtain⟨y,k,A,AK,Ae⟩:=TF l t o _ z;have V:o∉l:= λA5=>by have:=Ae A5;cases this
      have Af:y=⟨[],true⟩:=(by obtain⟨a,b⟩:=y;simp at A AK;simp[A,AK]);subst Af;rw[jA]at p;obtain⟨b,B,c,g,v⟩:=d.maps o es (Ec k p);refine⟨b,B,c,?_,v.AD A7 (CA.refl _)⟩;obtain⟨N,Ac⟩:=DO g;have hb:=(d.B0 o b c).2;have A4:j b=none:=by
       cases A6:j b with
       |none=>rfl
       | some cs=>
         rcases A3 b cs A6 with n|⟨o',n,D⟩
         ·have:=(d.AZ b cs n).2 o _ c k;cases this
         ·rw[d.inj o' o b D c]at n;exact absurd n V
      grind [Ec]
     ·rw[jA];exact d.Ek o F
     ·refine⟨Aa b cs hb,λo x L q=> ?_⟩;obtain⟨y,k,z,p,A⟩:=TF l t o x q;have Ak:=(d.B0 o b L).2;rcases Ab b cs hb with n|n
      ·rcases A3 b cs n with D|⟨o',D,Ag⟩
       ·have Al:=(d.AZ b cs D).2 o y L k
        grind
       ·rw[d.inj o' o b Ag L]at D;exact A D
      ·omega
    ·refine⟨CA.refl _,A7,λ_ _ h=> .inl h,λb cs hb=> ?_,by rw[hA];exact Aj _,T,λb hb _=>(H b hb).1,λb hb G=> ?_,λb hb G=> ?_⟩
     ·grind
     ·obtain⟨o,x,c,g,v⟩:=G;obtain⟨y,k,z,p,A⟩:=TF l t o x g;exact⟨o,y,c,k,p v⟩
     ·obtain⟨o,x,c,g⟩:=G;obtain⟨y,k,z,p,A⟩:=TF l t o x g;exact⟨o,y,c,k⟩
variable {t bH:X} {l:List Nat}
@[simp] theorem aFo:(Ex t l).ac=t.ac:=rfl
theorem xB(h:b∈l):(Ex t l).Y b=none:=by simp[Ex,X.Y,h]
theorem j9(h:b∉l):(Ex t l).Y b=t.Y b:=by simp[Ex,X.Y,h]
theorem QZ(h:(Ex t l).Y b=some x):b∉l/\t.Y b=some x:=by
 grind [xB,j9]
theorem a5W(h:b∉l):(Ex t l).Bs b=t.Bs b:=by have a:(Ex t l).Y b=t.Y b:=j9 h;unfold X.Bs;rw[a];rfl
theorem aCY(h:b∈l)(a:t.ac<=bH.ac)(hb:b<t.ac):(G2 t bH l).Y b=t.Y b:=by
 have:b<bH.ac:=by omega
 simp[G2,X.Y,h,hb,this]
theorem V0(h:b∉l):(G2 t bH l).Y b=bH.Y b:=by simp[G2,X.Y,h]
theorem a8b(h:b∉l):(G2 t bH l).Bs b=bH.Bs b:=by have a:(G2 t bH l).Y b=bH.Y b:=V0 h;unfold X.Bs;rw[a];rfl
variable {P:Program} {K:Be} {u:C0} {t m:X} {A J:A2}
theorem rf(c:BN K u t m)(o:D5 u K A J)(k:bx.all (λp=>Ay p.1&&Ay p.2)=true){l:X}(d: ∀b,b<m.ac->l.Y b=m.Y b):KF J bx m l:=by
 intro p q b hb;simp only[BR]at k;have n:=k p q;simp only[AF]at n;have g:=o.U n.1;generalize U A p.1=a at g;generalize U J p.1=r at g hb;cases g with
 | BP h=>unfold I at hb;split at hb<;>simp[BJ]at h hb
 |AG f=>simp[I]at hb;subst hb;exact d _ (c.B0 _ _ f).2
 |slice f=>simp[I]at hb;subst hb;exact d _ (c.B0 _ _ f).2
 |map f=>simp[I]at hb;subst hb;exact d _ (c.B0 _ _ f).2
 |QI e i=>simp[I]at hb;subst hb;obtain⟨⟨w,j⟩,_⟩:=c.AZ _ _ i;exact d _ (E j)
 |BX e i=>simp[I]at hb;subst hb;obtain⟨⟨w,j⟩,_⟩:=c.AZ _ _ i;exact d _ (E j)
 |_=>simp[I]at hb
theorem oA{args:List Value}{l:List Nat}(U: ∀o∈l,∃x,t.Y o=some x/\x.cells≠[])(h:Bh P f args (Ex t l) a7)(i:BN K u t m)(V:AJ u K args C):
 At P f C m λR D=>(∀o∈l,∀b,K o=some b->D.Y b=m.Y b)/\ ∃F G r bH,a7 r bH/\BN F G (G2 t bH l) D/\AY G F r R/\Bi t.ac m.ac K u t m F G (G2 t bH l) D:=by
 have W:BN K u (Ex t l) m:=⟨λo x c=>i.Ee o x (QZ c).2,λo es A=>by have hb:=(QZ (DO A).1).1;rw[a5W hb]at A;exact i.maps o es A,i.Ek,i.inj,i.B0,λb cs hb=>⟨(i.AZ b cs hb).1,λo x n c=>(i.AZ b cs hb).2 o x n (QZ c).2⟩⟩;refine(h K u C m W V).AD λR D X=> ?_;obtain⟨F,G,r,bH,Z,s,A0,d⟩:=X;have A1:t.ac<=bH.ac:=d.HB
 have H: ∀o∈l,∃x b cs w,t.Y o=some x/\x.cells≠[]/\K o=some b/\m.Y b=some ⟨cs,w⟩/\(x.own=true->w=true)/\AJ u K x.cells cs:= λo a=>by
  obtain⟨x,c,A2⟩:=U o a;rcases i.Ee o x c with⟨b,cs,w,B,v,a3,a4⟩|⟨_,v⟩
  ·grind
  ·exact absurd v A2
 have S: ∀o∈l,∀b,K o=some b-> ¬Tj K (Ex t l) b:= λo a b hb ⟨p,x,A3,c⟩=>by have:=i.inj p o b A3 hb;subst this;rw[xB a]at c;cases c
 have T: ∀o∈l,∀b,K o=some b->D.Y b=m.Y b:= λo a b n=>d.DL b (i.B0 o b n).2 λ⟨p,z,j,g,_⟩=>S o a b n ⟨p,z,j,g⟩;have A7: ∀o∈l,bH.Y o=none:= λo a=>by
  obtain⟨x,b,cs,w,B,v,a3,a4,M,N⟩:=H o a;cases A4:bH.Y o with
  |none=>rfl
  |some y=>exact absurd (d.TO b (i.B0 o b a3).2 ⟨o,y,d.e o b a3,A4⟩) (S o a b a3)
 have J: ∀o∈l,(G2 t bH l).Y o=t.Y o:= λo a=>by
  grind [aCY,E]
 refine⟨T,F,G,r,bH,Z,?_,A0,?_⟩
 ·refine⟨λo x c=> ?_,λo es A=> ?_,s.Ek,s.inj,s.B0,λb cs hb=>⟨(s.AZ b cs hb).1,λo x n c=> ?_⟩⟩
  ·by_cases a:o∈l
   ·rw[J o a]at c;obtain⟨y,b,cs,w,B,v,a3,a4,M,N⟩:=H o a;rw[B]at c;cases c;exact .inl ⟨b,cs,w,d.e o b a3,by rw[T o a b a3];exact a4,M,N.AD d.f d.e⟩
   ·rw[V0 a]at c;exact s.Ee o x c
  ·by_cases a:o∈l
   ·grind [DO]
   ·rw[a8b a]at A;exact s.maps o es A
  ·by_cases a:o∈l
   ·rw[J o a]at c;obtain⟨y,I,o8,w,B,v,a3,a4,M,N⟩:=H o a;have k:=d.e o I a3;rw[n]at k;cases k;rcases d.fn b cs hb with q|q|q
    ·exact(i.AZ b cs q).2 o x a3 c
    ·have:=(i.B0 o b a3).2;omega
    ·grind
   ·rw[V0 a]at c;exact(s.AZ b cs hb).2 o x n c
 ·refine⟨d.e,d.f,d.LX,λb cs hb=> ?_,A1,d.HL,λb hb A5=>d.DL b hb λ⟨p,z,j,g,L⟩=>A5 ⟨p,z,j,(QZ g).2,L⟩,λb hb ⟨o,x,j,g,L⟩=> ?_,λb hb ⟨o,x,j,g⟩=> ?_⟩
  ·rcases d.fn b cs hb with q|q|⟨p,z,j,g⟩
   ·exact .inl q
   ·exact .inr (.inl q)
   ·exact .inr (.inr ⟨p,z,j,(QZ g).2⟩)
  ·by_cases a:o∈l
   ·obtain⟨y,I,o8,w,B,v,a3,_⟩:=H o a;have k:=d.e o I a3;rw[j]at k;cases k;rw[J o a]at g;exact⟨o,x,a3,g,L⟩
   ·rw[V0 a]at g;obtain⟨p,z,O,Q,A6⟩:=d.Vd b hb ⟨o,x,j,g,L⟩;exact⟨p,z,O,(QZ Q).2,A6⟩
  ·by_cases a:o∈l
   ·obtain⟨y,I,o8,w,B,v,a3,_⟩:=H o a;have k:=d.e o I a3;rw[j]at k;cases k;rw[J o a]at g;exact⟨o,x,a3,g⟩
   ·rw[V0 a]at g;obtain⟨p,z,O,Q⟩:=d.TO b hb ⟨o,x,j,g⟩;exact⟨p,z,O,(QZ Q).2⟩
theorem XU(k:BN K u t m)(F:D5 u K A J){bx:List (Operand×Operand)}(n:bx.all (λp=>Ay p.1&&Ay p.2)=true){d:X}(v: ∀b,b<m.ac-> ¬b8 K t b->d.Y b=m.Y b)(y: ∀o∈GD A t bx,∀b,K o=some b->d.Y b=m.Y b):KF J bx m d:=by
 intro p z b hb;simp only[BR]at n;have r:=n p z;simp only[AF]at r;have g:=F.U r.1;have B: ∀o,I (U A p.1)=some o->P4 t o=true->o∈GD A t bx:=by
  clear y hb g r n;induction bx with
  |nil=>cases z
  | cons q l M=>
    grind [GD]
 generalize U A p.1=a at g B;generalize U J p.1=N at g hb;have key: ∀o,I a=some o->K o=some b->d.Y b=m.Y b:= λo G c=>by
  cases C:P4 t o with
  |true=>exact y o (B o G C) b c
  | false=>refine v b (k.B0 o b c).2 λ⟨o',x,s,i,j⟩=> ?_;rw[k.inj o' o b s c]at i;simp[P4,i,j]at C
 have D: ∀cs,u b=some cs->d.Y b=m.Y b:= λcs f=>by obtain⟨⟨w,H⟩,L⟩:=k.AZ b cs f;exact v b (E H) λ⟨o',x,s,i,j⟩=>by rw[L o' x s i]at j;cases j
 cases g with
 | BP h=>unfold I at hb;split at hb<;>simp[BJ]at h hb
 |AG c=>simp[I]at hb;subst hb;exact key _ rfl c
 |slice c=>simp[I]at hb;subst hb;exact key _ rfl c
 |map c=>simp[I]at hb;subst hb;exact key _ rfl c
 |QI e f=>simp[I]at hb;subst hb;exact D _ f
 |BX e f=>simp[I]at hb;subst hb;exact D _ f
 |_=>simp[I]at hb
end Go.DI
