/-
  A part of the proof, shortened by tools of ours.
-/
import Derived.Test.YtmmkkggfmigppaaGreatZcf
set_option linter.all false
set_option maxRecDepth 8000
set_option maxHeartbeats 16000000
namespace Go.DI
open Go Go.RowKit
def BM.Bg:BM->Exit
 | .Cx=> .normal
 | .Ai id=> .exit id
 | .DO=> .ret
variable {P:Program} {aJ:Nat} {b4:Callee} {M n:Nat}
theorem p9: ∀(l:List Nat),MK l=true->l.Nodup
 |[],_=>List.nodup_nil
 | x::l,h=>by simp only[MK,AB,Iz,UR,Nd]at h;exact K5.2 ⟨h.1,p9 l h.2⟩
variable{l:List Nat}{b j:Nat}{m C:V}{F:Ren}{w:World}{Q:Exit->Act->World->Prop}{ops:Array Oper}{A N:A6}{a:Act}{R:D}{Z o:Bool}{e:BM}{f:A6->V->Option (BM×A6×V)}{r:BM×A6×V}{aF:Act->World->Prop}{S:List Fy}{fn:Func}{u:AN}{args:List Value}{U:Array Value}{Y:Hj}{k z v:Value}{A2:Type}
theorem a6R(h:l0 n l=true):l.Nodup/\(∀i,i∈l↔i<n)/\l.length=n:=by
 simp only[l0,AB,Ba,BF,FX,List.contains_iff_mem]at h
 grind [p9]
theorem aCu(h:m.next<=b):m.W b=none:=by unfold V.W;rw[if_neg (by omega)]
theorem XL(L:List Ap)(m:V):m.next<=(Cu L m).next/\((∃o∈L,o.k.Bt=true)->(Cu L m).next=m.next+L.length):=by
 grind [Cu,V.M1]
theorem pn(L:List Ap)(m:V)(b:Nat):(Cu L m).W b=m.W b:=by
 grind [Cu,V.AU]
theorem BA.Cu(h:BA aJ F m w)(L:List Ap):BA aJ F (Go.DI.Cu L m) w:=by
 unfold Go.DI.Cu;split
 ·exact h.AE _
 ·exact h
theorem rD(l:rW ops=true)(m:xM (PF ops.toList []) ops.size=true): ∀(d k:Nat) (b:Array Bool) (a:Act) (w:World),k+d=ops.size->b.size=ops.size->
 (∀j,j<ops.size->(b.getD j false=true↔j<k))->wpOps P ops Q (List.range' k d) a w->wpAny P .any ops Q d b a w
 | 0,k,b,a,w,r,n,s,h=>by
   refine⟨?_,h⟩;apply List.eq_nil_iff_forall_not_mem.2
   grind [mem_ready]
 | d+1,k,b,a,w,r,n,s,h=>by
   have t:k<ops.size:=(by omega);have y: ∀j c,ops[j]?=some c-> ∀e∈c.after,Region.binds .any e=true->e.on<j:=by
    intro j c p e z hb;have f:j<ops.size:=(R1.1 p).1;have:=BF.1 l j (FX.2 f)
    grind
   have u: ∀j c,ops[j]?=some c->b.getD j false=true-> ∀e∈c.after,Region.binds .any e=true->b.getD e.on false=true:=by
    grind
   rw[List.range'_succ,wpOps_cons]at h;have step: ∀i∈Region.ready .any ops b,i=k:=by
    intro i g;obtain⟨A,v,q,x⟩:=mem_ready.1 g;have f:i<ops.size:=(R1.1 q).1;have B: ¬i<k:= λC=>by
     grind
    by_cases e:i=k
    ·exact e
    ·exfalso;have hb:((PF ops.toList []).getD i 0).testBit k=true:=by
      have:=BF.1 m i (FX.2 f)
      grind
     have:=iB (ops:=ops) (ki:= λj=>b.getD j false=true) u ops.toList [] (by simp) (by simp) i v q x k hb
     simp_all
   refine⟨λD=> ?_,λi g=> ?_⟩
   ·exfalso;obtain⟨o,E⟩: ∃o,ops[k]?=some o:=⟨ops[k],Array.getElem?_eq_getElem t⟩;have F:k∈Region.ready .any ops b:=by
     grind [mem_ready]
    simp_all
   ·have e:=step i g;subst e;refine wpOp_mono (λa w h=>rD l m d (i+1) _ a w (by omega) (by simp[n]) (λj p=> ?_) h) h
    grind [cM]
theorem te: ∀{L:List Ap} {r:List Ap×Ap×List Ap},Wl L=some r->L=r.1++r.2.1::r.2.2/\r.2.1.k.Bt=true
 |[],_,h=>by simp[Wl]at h
 | o::L,r,h=>by
   unfold Wl at h;split at h
   ·grind [K.Bt]
   ·simp only[Kz]at h;obtain⟨⟨a,b,c⟩,d,e⟩:=h;obtain⟨f,g⟩:=te d
    grind
theorem aC0(A2:P.follows .mixedOrders=true)(q: ∀aJ,Ie P aJ b4){id:Nat}(i:hy P M ops Z=some R)
 (h:Bb b4 n R A m=some (e,N,C)) (A3:Cw F M A a) (u:BA aJ F m w) (O:aJ<=w.heap.size)
 (A4: ∀S v r,CZ F r->(∀b,b<m.next->r b=F b)->Cw r M N S->BA aJ r C v->Below aJ w v->Q e.Bg S v):(Code.region id ops Z).wp P Q a w:=by
 have x: ∀b,m.next<=b->F b=none:=by
  intro b hb;cases A5:F b with
  |none=>rfl
  |some l=>have:=u.Fq b l A5;omega
 unfold hy at i;split at i
 ·rename_i y;split at i
  ·rename_i L A6;simp only[Kz]at i;obtain⟨⟨dj,f,bd⟩,A7,rfl⟩:=i;obtain⟨z,B⟩:=k7 _ _ A6;obtain⟨T,A8⟩:=te A7;simp only at T A8;subst T;have s:dj.length+(bd.length+1)=ops.size:=(by have:=congrArg List.length z;simpa using this);have o:((dj++f::bd).map (·.AO)).Nodup:=(by rw[z];exact List.nodup_range);have D: ∀c∈dj++f::bd,c.AO<ops.size:= λc d=>by
    have:c.AO∈(dj++f::bd).map (·.AO):=CP.2 ⟨c,d,rfl⟩
    simp_all
   rw[Ld,E1,Mz,K5]at o;simp only[Bb]at h;split at h
   ·rename_i U g W;split at h
    ·rename_i t;split at h
     ·rename_i AW X Y;cases h;have AX:m.next+ops.size<=g.next:=by have:=Tn (q aJ) _ _ _ _ W;rw[V.M1,s]at this;exact this
      have AY:(f.k.Cl (m.next+f.AO) U g).next=g.next:=by
       unfold H4 at t;simp only[AB]at t;have:=t.1.2;split at this
       ·rename_i E;rw[E];simp only[K.Cl];split
        ·rfl
        ·split
         ·unfold GA;split<;>try rfl
          split<;>rfl
         ·unfold Dx;split<;>rfl
       ·cases this
      have AZ:g.next<=X.next:=Tn (q aJ) _ _ _ _ Y
      have key: ∀p,BA aJ F m p->aJ<=p.heap.size->Below aJ w p->wpOps P ops Q (List.range ops.size) a p:=by
       intro p A9 G AD;rw[<-z,Ld,E1];refine mG (base:=m.next) (q aJ) dj A _ a p F U g (λc d=>B c (by simp[d])) o.1 A3 (A9.AE _) G (λc d _=>⟨by rw[V.M1,s];have:=D c (by simp[d]);omega,x _ (by omega)⟩) W λbA Aa Ab AF H AG AH I=> ?_;obtain⟨Ac,AJ⟩:=B f (by simp);have Ad:=D f (by simp);rw[wpOps_cons];refine a1i (base:=m.next) AJ AG AH (Dh G I.size) (by omega) ?_ t λbX J AK AL A0 AM Ae AN A1=> ?_
       ·rw[H _ (by rw[V.M1,s];omega) (λc d e=>o.2.2 c.AO (CP.2 ⟨c,d,rfl⟩) f.AO (by simp) (by omega))];exact x _ (by omega)
       ·refine sw (base:=m.next) (q J.heap.size) bd _ (HC g) bX J AK N X (λc d=>B c (by simp[d])) o.2.1.2 AM AN (Ao _) (λc d _=>⟨?_,?_⟩) Y λa3 AP AQ AR AS AT Af AU=> ?_
        ·show _<g.next
         grind
        ·have Ag:=D c (by simp[d]);have Ah:c.AO≠f.AO:= λe=>o.2.1.1 (CP.2 ⟨c,d,e⟩);rw[A0 _ (by omega),H _ (by rw[V.M1,s];omega) (λk E e=>o.2.2 k.AO (CP.2 ⟨k,E,rfl⟩) c.AO (by simp only[CM,CP];exact .inr ⟨c,d,rfl⟩) (by omega))];exact x _ (by omega)
        ·have AV:aJ<=J.heap.size:=Dh G (Dh I.size A1.size);refine A4 a3 AP AQ (AF.trans (AL.trans AR)) (λb hb=> ?_) AT ?_ (AD.trans (I.trans (A1.trans (AU.mono AV))))
         ·rw[AS b hb (by show b<g.next;omega),A0 b (by omega),H b (by rw[V.M1];omega) (λ_ _=>by omega)]
         ·grind [a2k]
      cases Z
      ·exact wp_region (key w u O (Below.refl _ _))
      ·simp only[Bool.not_true,Bool.false_or,AB]at y;refine wp_region_any A2 ?_;refine rD y.2.1 y.2.2 ops.size 0 _ a _ (by omega) (by simp) (λj Ak=>by rw[getD_replicate_false];simp) ?_;rw[<-List.range_eq_range'];exact key _ (u.xL rfl) O ⟨rfl,rfl,rfl,Ao _,λ_ _=>rfl⟩
     ·cases h
    ·cases h
   ·cases h
  ·cases i
 ·cases i
theorem aDb(T:P.follows .mixedOrders=true)(B:Ie P aJ b4){id:Nat}(c:dV P M ops Z=some R)
 (h:Bb b4 n R A m=some (e,N,C)) (D:Cw F M A a) (p:BA aJ F m w) (E:aJ<=w.heap.size)
 (G: ∀k i f,CZ F f->(∀b,b<m.next->f b=F b)->Cw f M N k->BA aJ f C i->Below aJ w i->Q e.Bg k i):(Code.region id ops Z).wp P Q a w:=by
 have H: ∀b,m.next<=b->F b=none:=by
  intro b hb;cases U:F b with
  |none=>rfl
  |some l=>have:=p.Fq b l U;omega
 cases Z
 ·simp only[dV]at c;split at c
  ·rename_i L q;cases c;obtain⟨g,r⟩:=k7 _ _ q;simp only[Bb]at h;split at h
   ·rename_i V W s;cases h;have I:L.length=ops.size:=(by have:=congrArg List.length g;simpa using this);refine wp_region ?_;rw[<-g];refine sw (base:=m.next) B L A _ a w F N C r (by rw[g];exact List.nodup_range) D (p.Cu L) E (λd o t=> ?_) s λk i f u v x y z=>G k i f u (λb hb=>v b hb (by have:=(XL L m).1;omega)) x y z;have:d.AO∈L.map (·.AO):=CP.2 ⟨d,o,rfl⟩;rw[g,FX]at this;exact⟨by rw[(XL L m).2 ⟨d,o,t⟩];omega,H _ (by omega)⟩
   ·cases h
  ·cases c
 ·simp only[dV]at c;split at c
  ·rename_i X;split at c
   ·rename_i L q;cases c;obtain⟨Y,A0,A1⟩:=a6R X;obtain⟨g,r,J,K⟩:=uk _ [] L q trivial;simp only[List.reverse_nil,Ni]at J K;simp only[Bb]at h;split at h
    ·rename_i V W s;cases h;have I:L.length=ops.size:=(by rw[<-A1,<-g];simp);have A2:BA aJ F (Cu L m) {w with drawn:=w.drawn+1}:=(p.Cu L).xL rfl;refine wp_region_any T ?_;refine pS (base:=m.next) (ZA:=m.next) B ops.size L _ A _ a _ F I (by simp) (λj A7=> ?_) (λj O _ S=>by rw[getD_replicate_false]at S;cases S) r (by rw[g];exact Y) J (λdj d post e O A3 A4 A5 hb=> .inr (K dj d post e O A3 A4 A5 hb)) D A2 E (Ao _) (λd o t=> ?_) (XL L m).1 s λk i f u v x y z=>G k i f u v x y (Below.trans (a:=w) (b:={w with drawn:=w.drawn+1}) ⟨rfl,rfl,rfl,Ao _,λ_ _=>rfl⟩ z)
     ·grind [getD_replicate_false]
     ·have:d.AO∈L.map (·.AO):=CP.2 ⟨d,o,rfl⟩;rw[g,A0]at this;exact⟨by rw[(XL L m).2 ⟨d,o,t⟩];omega,by rw[pn];exact aCu (by omega),H _ (by omega)⟩
    ·cases h
   ·cases c
  ·cases c
theorem Ui(h:Ed f (j+1) A m=some r):
 (∃a b,f A m=some (.Cx,a,b)/\Ed f j a b=some r)\/(f A m=some r/\r.1≠ .Cx):=by
 grind [Ed]
theorem Ko(a:Ie P aJ b4): ∀(c:D) (A:A6) (m:V) (e:BM) (N:A6) (C:V),Bb b4 n c A m=some (e,N,C)->m.next<=C.next/\ ∀b,b<m.next->m.W b=none->C.W b=none
 | .skip,A,m,e,N,C,h=>by simp[Bb]at h;obtain⟨_,_,rfl⟩:=h;exact⟨Ao _,λ_ _ h=>h⟩
 | .FI ops,A,m,e,N,C,h=>by
   simp only[Bb]at h;split at h
   ·rename_i f i s;cases h;have g:=Tn a ops A _ _ s;have p:=(XL ops m).1;exact⟨by simp only at g;omega,λb hb q=>jo a hb ops A _ _ p s (by rw[pn];exact q)⟩
   ·cases h
 | .Ky dj o bd,A,m,e,N,C,h=>by
   simp only[Bb]at h;split at h
   ·rename_i f i g;split at h
    ·rename_i l;split at h
     ·rename_i u v p;cases h;have r:=Tn a _ _ _ _ g;rw[V.M1]at r;have t:DK b4 m.next o f i=some (Af f o.d (o.k.val (m.next+o.AO) f i),o.k.Cl (m.next+o.AO) f i):=by
       unfold H4 at l;simp only[AB,Rl]at l;refine rl ?_ (Ks (Zz l.2)) l.2;rw[l.1.1];rfl
      have w:=Rj a t;rw[V.M1];refine⟨by simp only at r;omega,λb hb q=> ?_⟩;rw[V.AU];exact dG a t (by simp only at r;omega) (by omega) (jo a hb dj A _ _ (by rw[V.M1];omega) g (by rw[V.AU];exact q))
     ·cases h
    ·cases h
   ·cases h
 | .Ez c d,A,m,e,N,C,h=>by
   simp only[Bb]at h;split at h
   ·rename_i f i g;obtain⟨bA,bX⟩:=Ko a c A m _ f i g;obtain⟨y,z⟩:=Ko a d f i _ _ _ h
    grind
   ·exact Ko a c A m _ _ _ h
 | .Gh x c d,A,m,e,N,C,h=>by
   simp only[Bb]at h;split at h
   ·split at h
    ·exact Ko a c A m _ _ _ h
    ·exact Ko a d A m _ _ _ h
   ·cases h
 | .block id c,A,m,e,N,C,h=>by
   simp only[Bb]at h;split at h
   ·rename_i B f i g;have:=Ko a c A m _ f i g
    grind
   ·exact Ko a c A m _ _ _ h
 | .loop c,A,m,e,N,C,h=>by
   simp only[Bb]at h;have key: ∀(j:Nat) (A:A6) (m:V),Ed (Bb b4 n c) j A m=some (e,N,C)->m.next<=C.next/\ ∀b,b<m.next->m.W b=none->C.W b=none:=by
    intro j;induction j with
    |zero=>intro A m h;simp[Ed]at h
    | succ j E=>
      intro A m h;rcases Ui h with⟨f,i,g,p⟩|⟨g,_⟩
      ·obtain⟨bA,bX⟩:=Ko a c A m _ f i g
       grind
      ·exact Ko a c A m _ _ _ g
   exact key n A m h
 | .Ai id,A,m,e,N,C,h=>by simp[Bb]at h;obtain⟨_,_,rfl⟩:=h;exact⟨Ao _,λ_ _ h=>h⟩
 | .DO,A,m,e,N,C,h=>by simp[Bb]at h;obtain⟨_,_,rfl⟩:=h;exact⟨Ao _,λ_ _ h=>h⟩
theorem tA(h:e≠ .Cx):e.Bg≠ .normal:=by cases e<;>simp[BM.Bg]at h⊢
theorem uS{e:Exit}(h:e≠ .normal)(b:Q e a w):Exit.then aF Q e a w:=by cases e<;>first|exact b|exact absurd rfl h
theorem N3(E:P.follows .mixedOrders=true)(q: ∀aJ,Ie P aJ b4): ∀(c:Code) (R:D),JY P M c=some R-> ∀(A:A6) (m:V) (e:BM) (N:A6) (C:V),Bb b4 n R A m=some (e,N,C)->
 ∀(a:Act) (w:World) (F:Ren),Cw F M A a->BA aJ F m w->aJ<=w.heap.size-> ∀(Q:Exit->Act->World->Prop),
 (∀S L H,CZ F H->(∀b,b<m.next->H b=F b)->Cw H M N S->BA aJ H C L->Below aJ w L->Q e.Bg S L)->c.wp P Q a w
 | .skip,R,f,A,m,e,N,C,h,a,w,F,g,i,l,Q,k=>by cases f;simp[Bb]at h;obtain⟨rfl,rfl,rfl⟩:=h;exact wp_skip (k a w F (CZ.refl F) (λ_ _=>rfl) g i (Below.refl _ _))
 | .region id ops Z,R,f,A,m,e,N,C,h,a,w,F,g,i,l,Q,k=>by
   simp only[JY]at f;split at f
   ·grind [aC0]
   ·exact aDb E (q aJ) f h g i l k
 | .seq c d,R,f,A,m,e,N,C,h,a,w,F,g,i,l,Q,k=>by
   simp only[JY]at f;split at f
   ·rename_i x y G U;cases f;refine wp_seq ?_;simp only[Bb]at h;split at h
    ·rename_i I J K;refine N3 E q c x G A m _ I J K a w F g i l _ λbA o r s u v B p=> ?_;have A9:=(Ko (q aJ) x A m _ I J K).1;refine N3 E q d y U I J e N C h bA o r v B (Dh l p.size) Q λbX W X Y A0 A1 A2 A3=> ?_;exact k bX W X (s.trans Y) (λb hb=>(A0 b (by omega)).trans (u b hb)) A1 A2 (p.trans A3)
    ·rename_i A4;refine N3 E q c x G A m _ N C h a w F g i l _ λbA o r s u v B p=> ?_;refine uS (tA λT=> ?_) (k bA o r s u v B p)
     simp_all
   ·cases f
 | .cond x c d,R,f,A,m,e,N,C,h,a,w,F,g,i,l,Q,k=>by
   simp only[JY]at f;split at f
   ·rename_i y z U AB;split at f<;>cases f;rename_i G;simp only[Bb]at h;split at h
    ·rename_i hb;have A7:=g.O G;cases A8:O A x<;>simp[A8,Kv]at hb;rename_i t;rw[A8]at A7 h;refine wp_cond A7.Jv ?_;simp only[Me]at h;cases t
     ·exact N3 E q d z AB A m e N C h a w F g i l Q k
     ·exact N3 E q c y U A m e N C h a w F g i l Q k
    ·cases h
   ·cases f
 | .block id c,R,f,A,m,e,N,C,h,a,w,F,g,i,l,Q,k=>by
   simp only[JY]at f;split at f
   ·rename_i x G;cases f;refine wp_block ?_;simp only[Bb]at h;split at h
    ·rename_i A5 I J K;refine N3 E q c x G A m _ I J K a w F g i l _ λbA o r s u v B p=> ?_;show if A5=id then Q .normal bA o else Q (.exit A5) bA o
     split at h
     ·rename_i T;cases h;rw[if_pos T];exact k bA o r s u v B p
     ·rename_i T;cases h;rw[if_neg T];exact k bA o r s u v B p
    ·rename_i A4;refine N3 E q c x G A m _ N C h a w F g i l _ λbA o r s u v B p=> ?_;have:=k bA o r s u v B p;cases e with
     |Cx=>exact this
     |DO=>exact this
     |Ai A5=>exact absurd h (A4 _ _ _)
   ·cases f
 | .loop c,R,f,A,m,e,N,C,h,a,w,F,g,i,l,Q,k=>by
   simp only[JY]at f;split at f
   ·rename_i x G;cases f;simp only[Bb]at h;refine wp_loop_rounds n ?_
    have key: ∀(j:Nat) (A:A6) (m:V) (a:Act) (w:World) (F:Ren),Ed (Bb b4 n x) j A m=some (e,N,C)->Cw F M A a->BA aJ F m w->aJ<=w.heap.size->
     (∀S L H,CZ F H->(∀b,b<m.next->H b=F b)->Cw H M N S->BA aJ H C L->Below aJ w L->Q e.Bg S L)->Code.rounds P c Q j a w:=by
     intro j;induction j with
     |zero=>intro A m a w F h;simp[Ed]at h
     | succ j AD=>
       intro A m a w F h g i l k;rw[rounds_succ];rcases Ui h with⟨I,J,K,AE⟩|⟨K,A4⟩
       ·have A9:=(Ko (q aJ) x A m _ I J K).1;refine N3 E q c x G A m _ I J K a w F g i l _ λbA o r s u v B p=> ?_;exact AD I J bA o r AE v B (Dh l p.size) λbX W X Y A0 A1 A2 A3=>k bX W X (s.trans Y) (λb hb=>(A0 b (by omega)).trans (u b hb)) A1 A2 (p.trans A3)
       ·refine N3 E q c x G A m _ N C K a w F g i l _ λbA o r s u v B p=> ?_
        grind [uS,tA]
    grind
   ·cases f
 | .exit id,R,f,A,m,e,N,C,h,a,w,F,g,i,l,Q,k=>by cases f;simp[Bb]at h;obtain⟨rfl,rfl,rfl⟩:=h;exact wp_exit (k a w F (CZ.refl F) (λ_ _=>rfl) g i (Below.refl _ _))
 | .ret,R,f,A,m,e,N,C,h,a,w,F,g,i,l,Q,k=>by cases f;simp[Bb]at h;obtain⟨rfl,rfl,rfl⟩:=h;exact wp_ret (k a w F (CZ.refl F) (λ_ _=>rfl) g i (Below.refl _ _))
 | .rangeFunc _ _ _ _,_,f,_,_,_,_,_,_,_,_,_,_,_,_,_,_=>by cases f
 | .scope _,_,f,_,_,_,_,_,_,_,_,_,_,_,_,_,_=>by cases f
 | .label _,_,f,_,_,_,_,_,_,_,_,_,_,_,_,_,_=>by cases f
 | .goto _,_,f,_,_,_,_,_,_,_,_,_,_,_,_,_,_=>by cases f
 | .refuse _,_,f,_,_,_,_,_,_,_,_,_,_,_,_,_,_=>by cases f
def SV(a:Act):ResultVar->Sem Value
 | .tmp t=>Pure.pure (a.tmps.getD t undef)
 | .cell x t=>do loadVar t (<-asAddr (a.tmps.getD x undef))
theorem g9: ∀(l:List ResultVar) (S:List Fy),NO P M l=some S-> ∀{A:A6} {m:V} {a:Act} {w:World} {F:Ren},Cw F M A a->BA aJ F m w->FM m A S=true->
 ∃c:List Value,(l.mapM (m:=Sem) (SV a)).run P w= .ok c w/\Al F (S.map (Ik m A)) c
 | [],S,h,A,m,a,w,F,d,e,b=>by
   simp_all [NO,Al.nil]
 | .tmp t::r,S,h,A,m,a,w,F,d,e,b=>by
   simp only[NO]at h;split at h
   ·rename_i l f;split at h<;>cases h;simp only[FM,Fz,AB]at b;obtain⟨c,i,g⟩:=g9 r l f d e b.2;refine⟨a.tmps.getD t undef::c,?_,Al.cons (d.Gp t) g⟩
    grind [SV,Sem.run_bind,Result.andThen_ok,Sem.run_pure]
   ·cases h
 | .cell x t::r,S,h,A,m,a,w,F,d,e,b=>by
   simp only[NO]at h;split at h
   ·rename_i T n l k o f;split at h<;>cases h;simp only[FM,Fz,AB,IQ,N0,Ba]at b;obtain⟨c,i,g⟩:=g9 r l f d e b.2;obtain⟨p,ds,q,s,u,j⟩:=ly e (d.Gp x) b.1.1 b.1.2;refine⟨_::c,?_,Al.cons j g⟩;have v:(SV a (.cell x t)).run P w= .ok (if T then .agg ds.toArray else ds.headD undef) w:=by
     grind [SV,asAddr,lJ]
    simp_all
   ·cases h
theorem aED(h:NO P M fn.results.toList=some S)(e:Cw F M A a)(f:BA aJ F m w)(g:FM m A S=true):
 ∃v,(results fn a.tmps).run P w= .ok v w/\B6 F (Fg m A S) v:=by
 obtain⟨d,i,c⟩:=g9 _ _ h e f g;refine⟨if h:d.toArray.size=1 then d.toArray[0]else .tuple d.toArray,?_,?_⟩
 ·unfold results;simp only[Sem.run_bind];rw[Array.mapM_eq_mapM_toList];simp only[Sem.run_map];have j:(List.mapM (m:=Sem) (SV a) fn.results.toList).run P w= .ok d w:=i;change (((Sem.run P (List.mapM (m:=Sem) (SV a) fn.results.toList) w).andThen _).andThen _)=_;rw[j];rfl
 ·have k:=c.1
  match S,d,c,k with
  |[r],[v],c,_=>exact c.2 0 _ _ rfl rfl
  |[],[],c,_=>exact B6.undef F
  |[_],[],_,b=>simp at b
  |[_],_::_::_,_,b=>simp at b
  |[],_::_,_,b=>simp at b
  |_::_::_,[],_,b=>simp at b
  |_::_::_,[_],_,b=>simp at b
  | l::n::S,o::p::d,c,_=>simp only[Fg,List.size_toArray,Df];rw[dif_neg (by omega)];exact c.tuple
theorem a6G{f:Nat}(h:AR P f=some u): ∃fn c,P.funcs[f]?=some fn∧fn.body=some c∧(fn.name== "runtime.NumGoroutine")=false∧JY P fn.ntmps c=some u.body∧NO P fn.ntmps fn.results.toList=some u.N5∧u.c6=fn.ntmps:=by
 grind [AR]
theorem aEB(h:Al F args U.toList)(b:args.length<=M):Cw F M (Cp args) {tmps:=U++Array.replicate (M-U.size) undef,defers:=[]}:=by
 have c:U.size=args.length:=by have:=h.1;simp at this;exact this.symm
 refine⟨by simp;omega,rfl,λt=> ?_⟩;simp only[Cp];rw[Dv,Array.getD_eq_getD_getElem?];by_cases a:t<args.length
 ·obtain⟨y,d,e⟩:=h.W (AS a)
  grind
 ·grind [B6.undef]
theorem rS(s:P.follows .mixedOrders=true): ∀k aJ,Ie P aJ (El P k)
 |0,aJ,f,args,m,r,C,h=>by simp[El]at h
 | k+1,aJ,f,args,m,r,C,h=>by
   have t:=rS s k;have y: ∀id x,id<m.next->m.W id=none->El P (k+1) f args (m.A0 id x)=some (r,C.A0 id x):= λid x i j=>by obtain⟨cK,l,n⟩:=ld.UF (k+1) x f args m r C h (m.A0 id x) ⟨rfl,i,j⟩;rw[l,n.eq]
   simp only[El]at h;split at h
   ·rename_i u J;obtain⟨fn,c,i,j,K,L,M,O⟩:=a6G J;split at h
    ·rename_i z
     have A1: ∀(e:BM) (N:A6) (g:V),Bb (El P k) k u.body (Cp args) m=some (e,N,g)->(∀id,e≠ .Ai id)->FM g N u.N5=true->Fg g N u.N5=r->g=C->
      SS P f/\m.next<=C.next/\(∀b,b<m.next->m.W b=none->C.W b=none)/\
      (∀id x,id<m.next->m.W id=none->El P (k+1) f args (m.A0 id x)=some (r,C.A0 id x))/\
      ∀ F w (U:Array Value),Al F args U.toList->BA aJ F m w->aJ<=w.heap.size->
        Calls P f U w λe d=> ∃v a,e= .returned v/\CZ F a/\(∀b,b<m.next->a b=F b)/\B6 a r v/\BA aJ a C d/\Below aJ w d:=by
      intro e N g A Q R S T;subst S;subst T;have B:=Ko (t aJ) u.body _ _ _ _ _ A;refine⟨⟨fn,i,by rw[j];rfl,K⟩,B.1,B.2,y,λF w U o p q=> ?_⟩;refine calls_of_wp i j ?_;rw[O]at z;refine N3 s t c u.body L (Cp args) m e N g A _ w F (aEB o z) p q _ λD d a X Y E G Z=> ?_;obtain⟨v,l,n⟩:=aED M E G R
      have H:D.defers=[]/\ ∃v,(results fn D.tmps).run P d= .ok v d/\(λ(e:Ending) (d:World)=> ∃v a,e= .returned v/\CZ F a/\(∀b,b<m.next->a b=F b)/\B6 a (Fg g N u.N5) v/\BA aJ a g d/\Below aJ w d) (.returned v) d:=
       ⟨E.defers,v,l,v,a,rfl,X,Y,n,G,Z⟩
      cases e with
      |Cx=>exact H
      |DO=>exact H
      |Ai id=>exact absurd rfl (Q id)
     grind
    ·cases h
   ·split at h
    ·rename_i I;exact⟨I.1,a7D h,λb i j=>a55 h i j,y,λF w U o p q=>I.2 aJ args m r C h F w U o p q⟩
    ·cases h
section a
variable {b4 X:Callee}
def Yn(b4 X:Callee):Prop:= ∀f a m r,b4 f a m=some r->X f a m=some r
variable{A:A6}{base:Nat}{o:Ap}{r:A6×V}{f:A6->V->Option (BM×A6×V)}{P:Program}
theorem a4x(h:Yn b4 X){m:V}(a:DK b4 base o A m=some r):DK X base o A m=some r:=by
 unfold DK at a⊢;by_cases d:Bf A o.g=true
 ·rw[if_pos d]at a⊢;cases c:o.k.C2 A m with
  |none=>rw[c]at a;exact a
  | some e=>
    obtain⟨f,args⟩:=e;rw[c]at a;simp only at a⊢;cases b:b4 f args m with
    |none=>rw[b]at a;cases a
    |some i=>rw[b]at a;rw[h _ _ _ _ b];exact a
 ·simp_all
theorem TW(h:Yn b4 X): ∀{L:List Ap} {A:A6} {m:V} {r:A6×V},Ef b4 base L A m=some r->Ef X base L A m=some r
 |[],_,_,_,a=>a
 | _::_,_,_,_,a=>by obtain⟨e,f,b,c,d⟩:=Iq a;exact Ns (a4x h b) c (TW h d)
theorem cz{g:A6->V->Option (BM×A6×V)}(h: ∀A m r,f A m=some r->g A m=some r): ∀{n hq:Nat} {A:A6} {m:V} {r:BM×A6×V},n<=hq->Ed f n A m=some r->Ed g hq A m=some r
 |0,_,_,_,_,_,a=>by simp[Ed]at a
 |n+1,0,_,_,_,d,_=>by omega
 | n+1,hq+1,A,m,r,d,a=>by
   rcases Ui a with⟨e,i,b,c⟩|⟨b,c⟩
   ·simp only[Ed,h _ _ _ b];exact cz h (by omega) c
   ·grind [Ed]
theorem Mj(h:Yn b4 X){n hq:Nat}(e:n<=hq): ∀{c:D} {A:A6} {m:V} {r:BM×A6×V},Bb b4 n c A m=some r->Bb X hq c A m=some r
 | .skip,_,_,_,d=>d
 | .FI ops,A,m,r,d=>by
   grind [Bb,TW]
 | .Ky dj o bd,A,m,r,d=>by
   grind [Bb,TW]
 | .Ez a b,A,m,r,d=>by
   simp only[Bb]at d⊢;split at d
   ·rename_i f;rw[Mj h e f];exact Mj h e d
   ·rename_i i;rw[Mj h e d]
    simp_all
 | .Gh x a b,A,m,r,d=>by
   simp only[Bb]at d⊢;split at d
   ·rename_i f;rw[if_pos f];split at d
    ·rename_i g;rw[if_pos g];exact Mj h e d
    ·rename_i g;rw[if_neg g];exact Mj h e d
   ·cases d
 | .block id c,A,m,r,d=>by
   simp only[Bb]at d⊢;split at d
   ·rename_i f;rw[Mj h e f];exact d
   ·rename_i i;rw[Mj h e d]
    simp_all
 | .loop c,A,m,r,d=>by simp only[Bb]at d⊢;exact cz (λA m r f=>Mj h e f) e d
 | .Ai id,_,_,_,d=>d
 | .DO,_,_,_,d=>d
theorem P0: ∀{n hq:Nat},n<=hq->Yn (El P n) (El P hq)
 |0,_,_=> λf a m r h=>by simp[El]at h
 |n+1,0,b=>by omega
 | n+1,hq+1,b=> λf a m r h=>by
   simp only[El]at h⊢;split at h
   ·rename_i u g;split at h
    ·rename_i c;rw[if_pos c];split at h
     ·cases h
     ·rename_i e N C i d;rw[Mj (P0 (by omega:n<=hq)) (by omega:n<=hq) d]
      simp_all
     ·cases h
    ·cases h
   ·exact h
end a
section wp
variable (P:Program)
def Aq(f:Nat)(args:List Value)(m:V)(a7:Value->V->Prop):Prop:= ∃n r C,El P n f args m=some (r,C)/\a7 r C
def BS(c:D)(A:A6)(m:V)(Q:BM->A6->V->Prop):Prop:= ∃n e N C,Bb (El P n) n c A m=some (e,N,C)/\Q e N C
def Bm(base:Nat)(ops:List Ap)(A:A6)(m:V)(aF:A6->V->Prop):Prop:= ∃n N C,Ef (El P n) base ops A m=some (N,C)/\aF N C
def YK(b:D)(Q:BM->A6->V->Prop)(e:BM)(A:A6)(m:V):Prop:=match e with| .Cx=>BS P b A m Q|e=>Q e A m
def V6(id:Nat)(Q:BM->A6->V->Prop)(e:BM)(A:A6)(m:V):Prop:=match e with| .Ai a=>if a=id then Q .Cx A m else Q (.Ai a) A m|e=>Q e A m
def YX(c:D)(Q:BM->A6->V->Prop)(e:BM)(A:A6)(m:V):Prop:=match e with| .Cx=>BS P (.loop c) A m Q|e=>Q e A m
def EA(S:List Fy)(a7:Value->V->Prop)(e:BM)(A:A6)(m:V):Prop:=match e with| .Ai _=>False|_=>FM m A S=true/\a7 (Fg m A S) m
def M9(base:Nat)(d:Option Nat)(bp:List (Operand×Operand))(bd:List Ap)(A:A6)(m:V)(aF:A6->V->Prop)(r:Value)(C:V):Prop:=KO A bp m C/\Bm P base bd (Af A d r) C aF
variable {P} {A:A6} {m:V} {Q:BM->A6->V->Prop}
variable{b c a:D}{a7 A3:Value->V->Prop}{u:List Fy}{hq n f t:Nat}{ops dj L:List Ap}{o:Ap}{args:List Value}{C:V}{r:Value}{A4:BM->A6->V->Prop}{k:K}{A1:List Operand}{x:Operand}
theorem Wn:YK P b Q .Cx A m=BS P b A m Q:=rfl
theorem a4V{id:Nat}:YK P b Q (.Ai id) A m=Q (.Ai id) A m:=rfl
theorem aAU:YK P b Q .DO A m=Q .DO A m:=rfl
theorem a16{id:Nat}:V6 id Q .Cx A m=Q .Cx A m:=rfl
theorem ZD{id a:Nat}:V6 id Q (.Ai a) A m=if a=id then Q .Cx A m else Q (.Ai a) A m:=rfl
theorem a8n{id:Nat}:V6 id Q .DO A m=Q .DO A m:=rfl
theorem pv:YX P c Q .Cx A m=BS P (.loop c) A m Q:=rfl
theorem aCS{id:Nat}:YX P c Q (.Ai id) A m=Q (.Ai id) A m:=rfl
theorem aDQ:YX P c Q .DO A m=Q .DO A m:=rfl
theorem a1k:EA u a7 .Cx A m=(FM m A u=true/\a7 (Fg m A u) m):=rfl
theorem aEr:EA u a7 .DO A m=(FM m A u=true/\a7 (Fg m A u) m):=rfl
theorem Ws(h:n<=hq){r:BM×A6×V}(a:Bb (El P n) n c A m=some r):Bb (El P hq) hq c A m=some r:=Mj (P0 h) h a
theorem iZ:BS P .skip A m Q=Q .Cx A m:=by refine propext ⟨λ⟨n,e,N,C,h,q⟩=> ?_,λh=>⟨0,_,_,_,rfl,h⟩⟩;cases h;exact q
theorem hB{id:Nat}:BS P (.Ai id) A m Q=Q (.Ai id) A m:=by refine propext ⟨λ⟨n,e,N,C,h,q⟩=> ?_,λh=>⟨0,_,_,_,rfl,h⟩⟩;cases h;exact q
theorem ho:BS P .DO A m Q=Q .DO A m:=by refine propext ⟨λ⟨n,e,N,C,h,q⟩=> ?_,λh=>⟨0,_,_,_,rfl,h⟩⟩;cases h;exact q
theorem gN:BS P (.FI ops) A m Q=Bm P m.next ops A (Cu ops m) (Q .Cx):=by
 refine propext ⟨λ⟨n,e,N,C,h,q⟩=> ?_,λ⟨n,N,C,h,q⟩=>⟨n,.Cx,N,C,by simp only[Bb,h],q⟩⟩;simp only[Bb]at h;split at h
 ·rename_i a;cases h;exact⟨n,_,_,a,q⟩
 ·cases h
def Wk(o:Ap)(Q:BM->A6->V->Prop)(id:Nat)(b:A6)(a:V)(c:A6)(d:V):Prop:=Q .Cx c ((o.k.Cl id b a).AE (d.next-a.next))
theorem q0{bd:List Ap}:BS P (.Ky dj o bd) A m Q=Bm P m.next dj A (m.AE (dj.length+(bd.length+1))) λa b=>
 H4 o a b=true/\Bm P m.next bd (Af a o.d (o.k.val (m.next+o.AO) a b)) (HC b) (Wk o Q (m.next+o.AO) a b):=by
 refine propext ⟨λ⟨n,e,N,C,h,q⟩=> ?_,λ⟨n,a,b,h,c,f,i,j,g,q⟩=>⟨max n f,.Cx,i,_,by simp only[Bb,TW (P0 (Nat.le_max_left n f)) h,c,if_true,TW (P0 (Nat.le_max_right n f)) g],q⟩⟩;simp only[Bb]at h;split at h
 ·rename_i a b l;split at h
  ·rename_i c;split at h
   ·rename_i i j g;cases h;exact⟨n,a,b,l,c,n,_,j,g,q⟩
   ·cases h
  ·cases h
 ·cases h
theorem bW:BS P (.Ez a b) A m Q=BS P a A m (YK P b Q):=by
 refine propext ⟨λ⟨n,e,N,C,h,q⟩=> ?_,λ⟨n,e,N,C,h,q⟩=> ?_⟩
 ·simp only[Bb]at h;split at h
  ·rename_i c d f;exact⟨n,.Cx,c,d,f,n,e,N,C,h,q⟩
  ·rename_i g;refine⟨n,e,N,C,h,?_⟩;cases e with
   |Cx=>exact absurd h (g _ _)
   |Ai id=>exact q
   |DO=>exact q
 ·cases e with
  | Cx=>
    obtain⟨i,j,k,l,p,o⟩:=q;refine⟨max n i,j,k,l,?_,o⟩
    grind [Bb,Ws,Nat.le_max_right]
  |Ai id=>exact⟨n,_,N,C,by simp only[Bb,h],q⟩
  |DO=>exact⟨n,_,N,C,by simp only[Bb,h],q⟩
theorem dF{c:Operand}:BS P (.Gh c a b) A m Q=(Kv (O A c)=true/\if Me (O A c)=true then BS P a A m Q else BS P b A m Q):=by
 refine propext ⟨λ⟨n,e,N,C,h,q⟩=> ?_,λ⟨f,d⟩=> ?_⟩
 ·simp only[Bb]at h;split at h
  ·rename_i f;refine⟨f,?_⟩;split at h
   ·rename_i d;rw[if_pos d];exact⟨n,e,N,C,h,q⟩
   ·rename_i d;rw[if_neg d];exact⟨n,e,N,C,h,q⟩
  ·cases h
 ·split at d
  ·rename_i g;obtain⟨n,e,N,C,h,q⟩:=d;exact⟨n,e,N,C,by simp only[Bb,if_pos f,if_pos g,h],q⟩
  ·rename_i g;obtain⟨n,e,N,C,h,q⟩:=d;exact⟨n,e,N,C,by simp only[Bb,if_pos f,if_neg g,h],q⟩
theorem UG{id:Nat}:BS P (.block id c) A m Q=BS P c A m (V6 id Q):=by
 refine propext ⟨λ⟨n,e,N,C,h,q⟩=> ?_,λ⟨n,e,N,C,h,q⟩=> ?_⟩
 ·simp only[Bb]at h;split at h
  ·rename_i a d f g;refine⟨n,.Ai a,d,f,g,?_⟩
   grind [ZD]
  ·rename_i i;refine⟨n,e,N,C,h,?_⟩;cases e with
   |Cx=>exact q
   |Ai a=>exact absurd h (i _ _ _)
   |DO=>exact q
 ·cases e with
  |Cx=>exact⟨n,.Cx,N,C,by simp only[Bb,h],q⟩
  |DO=>exact⟨n,.DO,N,C,by simp only[Bb,h],q⟩
  | Ai a=>
    rw[ZD]at q;split at q
    ·rename_i b;exact⟨n,.Cx,N,C,by simp only[Bb,h,if_pos b],q⟩
    ·rename_i b;exact⟨n,.Ai a,N,C,by simp only[Bb,h,if_neg b],q⟩
theorem z7:BS P (.loop c) A m Q=BS P c A m (YX P c Q):=by
 refine propext ⟨λ⟨n,e,N,C,h,q⟩=> ?_,λ⟨n,e,N,C,h,q⟩=> ?_⟩
 ·simp only[Bb]at h;cases n with
  |zero=>simp[Ed]at h
  | succ n=>
    rcases Ui h with⟨f,g,b,a⟩|⟨b,a⟩
    ·refine⟨n+1,.Cx,f,g,b,n+1,e,N,C,?_,q⟩;simp only[Bb];exact cz (λ_ _ _ h=>h) (by omega) a
    ·refine⟨n+1,e,N,C,b,?_⟩;cases e with
     |Cx=>exact absurd rfl a
     |Ai id=>exact q
     |DO=>exact q
 ·cases e with
  | Cx=>obtain⟨d,i,j,k,a,l⟩:=q;refine⟨max n d+1,i,j,k,?_,l⟩;simp only[Bb]at a⊢;have b:Bb (El P (max n d+1)) (max n d+1) c A m=some (.Cx,N,C):=Ws (by omega) h;simp only[Ed,b];exact cz (λ_ _ _ h=>Ws (by omega) h) (by omega) a
  |Ai id=>exact⟨n+1,_,N,C,by simp only[Bb,Ed];rw[Ws (by omega:n<=n+1) h],q⟩
  |DO=>exact⟨n+1,_,N,C,by simp only[Bb,Ed];rw[Ws (by omega:n<=n+1) h],q⟩
theorem EG{u:AN}(a:AR P f=some u)(b:args.length<=u.c6):Aq P f args m a7=BS P u.body (Cp args) m (EA u.N5 a7):=by
 refine propext ⟨λ⟨n,r,C,h,q⟩=> ?_,λ⟨n,e,N,C,h,q⟩=> ?_⟩
 ·cases n with
  |zero=>simp[El]at h
  | succ n=>
    simp only[El,a,if_pos b]at h;split at h
    ·cases h
    ·rename_i e N i d g;split at h
     ·rename_i c;cases h;refine⟨n,e,N,C,g,?_⟩;cases e with
      |Cx=>exact⟨c,q⟩
      |DO=>exact⟨c,q⟩
      |Ai id=>exact absurd rfl (d id)
     ·cases h
    ·cases h
 ·cases e with
  |Cx=>exact⟨n+1,_,C,by simp only[El,a,if_pos b,h,q.1,if_true],q.2⟩
  |DO=>exact⟨n+1,_,C,by simp only[El,a,if_pos b,h,q.1,if_true],q.2⟩
  |Ai id=>exact q.elim
def H5(P:Program)(f:Nat)(args:List Value)(m:V)(r:Value)(C:V):Prop:= ∃n,El P n f args m=some (r,C)
theorem H5.wp(h:H5 P f args m r C):Aq P f args m a7=a7 r C:=by
 obtain⟨n,a⟩:=h;refine propext ⟨λ⟨hq,c,d,b,q⟩=> ?_,λq=>⟨n,r,C,a,q⟩⟩;have e:=P0 (Nat.le_max_left n hq) _ _ _ _ a;have g:=P0 (Nat.le_max_right n hq) _ _ _ _ b
 simp_all
theorem H5.JZ(h:Aq P f args m λa b=>a=r/\b=C):H5 P f args m r C:=by obtain⟨n,a,b,c,rfl,rfl⟩:=h;exact⟨n,c⟩
theorem Aq.AG(h:Aq P f args m a7)(a: ∀r C,a7 r C->A3 r C):Aq P f args m A3:=by obtain⟨n,r,C,b,q⟩:=h;exact⟨n,r,C,b,a _ _ q⟩
theorem BS.AG(h:BS P c A m Q)(a: ∀e N C,Q e N C->A4 e N C):BS P c A m A4:=by obtain⟨n,e,N,C,b,q⟩:=h;exact⟨n,e,N,C,b,a _ _ _ q⟩
variable {aF:A6->V->Prop} {base J:Nat} {bd:List Ap} {d:Option Nat} {g:Option (Nat×Bool)} {bp:List (Operand×Operand)}
theorem kt:Bm P base [] A m aF=aF A m:=by refine propext ⟨λ⟨n,N,C,h,q⟩=> ?_,λh=>⟨0,_,_,rfl,h⟩⟩;cases h;exact q
theorem aBV(h:n<=hq){r:A6×V}(a:Ef (El P n) base L A m=some r):Ef (El P hq) base L A m=some r:=TW (P0 h) a
theorem FR(i:k.F0=false):Bm P base (⟨J,d,none,k,bp⟩::bd) A m aF=(k.ok A m=true/\Dm A bp=true/\Bm P base bd (Af A d (k.val (base+J) A m)) (k.Cl (base+J) A m) aF):=by
 have a:k.C2 A m=none:=Ks i;refine propext ⟨λ⟨n,N,C,h,q⟩=> ?_,λ⟨b,f,n,N,C,c,q⟩=> ?_⟩
 ·obtain⟨l,p,b,f,c⟩:=Iq h;obtain⟨j,e⟩:=Z5 (o:=⟨J,d,none,k,bp⟩) rfl a b;cases e;have g:=f rfl;simp only[a]at g;exact⟨j,g,n,N,C,c,q⟩
 ·refine⟨n,N,C,Ns (rl (o:=⟨J,d,none,k,bp⟩) rfl a b) (λ_=> ?_) c,q⟩
  simp_all
theorem dQ{b:Bool}:Bm P base (⟨J,d,some (t,b),k,bp⟩::bd) A m aF=if Bf A (some (t,b))=true then Bm P base (⟨J,d,none,k,bp⟩::bd) A m aF else Bm P base bd (Af A d undef) m aF:=by
 split
 ·rename_i e;have g: ∀b4:Callee,DK b4 base ⟨J,d,some (t,b),k,bp⟩ A m=DK b4 base ⟨J,d,none,k,bp⟩ A m:= λb4=>by
   grind [DK,Bf]
  have i: ∀C,Hv ⟨J,d,some (t,b),k,bp⟩ A m C↔Hv ⟨J,d,none,k,bp⟩ A m C:= λC=>⟨λh _=>h e,λh _=>h rfl⟩;refine propext ⟨λ⟨n,N,C,h,q⟩=> ?_,λ⟨n,N,C,h,q⟩=> ?_⟩
  ·obtain⟨j,l,a,f,c⟩:=Iq h;exact⟨n,N,C,Ns (by rw[<-g];exact a) ((i _).1 f) c,q⟩
  ·obtain⟨j,l,a,f,c⟩:=Iq h;exact⟨n,N,C,Ns (by rw[g];exact a) ((i _).2 f) c,q⟩
 ·rename_i e;have p:Bf A (some (t,b))=false:=(by simpa using e);refine propext ⟨λ⟨n,N,C,h,q⟩=> ?_,λ⟨n,N,C,h,q⟩=> ?_⟩
  ·obtain⟨j,l,a,f,c⟩:=Iq h;rw[OY (o:=⟨J,d,some (t,b),k,bp⟩) p]at a;cases a;exact⟨n,N,C,c,q⟩
  ·exact⟨n,N,C,Ns (OY (o:=⟨J,d,some (t,b),k,bp⟩) p) (λh=>absurd h e) h,q⟩
theorem YB(a:k.C2 A m=some (f,args)):Bm P base (⟨J,d,none,k,bp⟩::bd) A m aF=Aq P f args m (M9 P base d bp bd A m aF):=by
 refine propext ⟨λ⟨n,N,C,h,q⟩=> ?_,λ⟨n,r,j,h,e,b,l,g,c,q⟩=> ?_⟩
 ·obtain⟨u,j,e,c,p⟩:=Iq h;obtain⟨v,g,s,t⟩:=Sg (o:=⟨J,d,none,k,bp⟩) rfl a e;cases t;have i:=c rfl;simp only[a]at i;exact⟨n,v,_,s,i,n,N,C,p,q⟩
 ·refine⟨max n b,l,g,Ns (WC (o:=⟨J,d,none,k,bp⟩) rfl a (P0 (Nat.le_max_left n b) _ _ _ _ h)) (λ_=> ?_) (aBV (Nat.le_max_right n b) c),q⟩
  simp_all
theorem ks:Bm P base (⟨J,d,none,.KC f A1,bp⟩::bd) A m aF=Aq P f (A1.map (O A)) m (M9 P base d bp bd A m aF):=YB rfl
theorem k8{first a:Array Value}(h:O A x= .func (.func f) first a):
 Bm P base (⟨J,d,none,.Iw x A1,bp⟩::bd) A m aF=Aq P f (first.toList++A1.map (O A)++a.toList) m (M9 P base d bp bd A m aF):=YB (by simp only[K.C2,h])
theorem Wu:M9 P base d [] bd A m aF r C=Bm P base bd (Af A d r) C aF:=by simp[M9,KO]
theorem aAH:Dm A []=true:=rfl
end wp
theorem BA.empty{aJ:Nat}:BA aJ (λ_=>none) ⟨0,λ_=>none,λ_=>none⟩ w where
 Fq:= λ_ _ h=>by cases h
 G9:= λ_ _ h=>by cases h
 G2:= λb x h=>by unfold V.W at h;split at h<;>cases h
 MD:= λb x a c l d h=>by unfold V.W at h;split at h<;>cases h
 NC:= λ_ _ h=>by cases h
 maps:= λb es h=>by simp only[V.BL,V.W,La,if_false]at h;cases h
 NU:= λb x l h=>by unfold V.W at h;split at h<;>cases h
open Go
def LL(s:ByteArray)(i:Nat):Int:=((s.data.toList.getD i 0).toNat:Nat)
def wV(Y:Hj)(m:V)(x k:Value):Bool:=match Et m x with
 |some es=>DX Y k es
 |none=>false
def v7(zero:Value)(o:Bool)(m:V)(x k:Value):Value:=
 if o then .tuple #[((Et m x).bind (CT k)).getD zero,.bool ((Et m x).bind (CT k)).isSome]else((Et m x).bind (CT k)).getD zero
def yb(Y:Hj)(m:V)(x k v:Value):Bool:=match x with
 | .map (some b)=>(match m.BL b with
   |some es=>DX Y k es&&G v
   |none=>false)
 |_=>false
def pD(m:V)(x k v:Value):V:=m.Cf (Mx x) (DM k v ((m.BL (Mx x)).getD []))
@[simp] theorem aIC:wV Y m (.map (some b)) k=(match m.BL b with|some es=>DX Y k es|none=>false):=rfl
@[simp] theorem aKV:v7 z o m (.map (some b)) k=if o then .tuple #[((m.BL b).bind (CT k)).getD z,.bool ((m.BL b).bind (CT k)).isSome]else((m.BL b).bind (CT k)).getD z:=rfl
@[simp] theorem aKd:yb Y m (.map (some b)) k v=(match m.BL b with|some es=>DX Y k es&&G v|none=>false):=rfl
@[simp] theorem aOD:pD m (.map (some b)) k v=m.Cf b (DM k v ((m.BL b).getD [])):=rfl
attribute [simp] iZ hB ho gN bW dF UG Wn a4V aAU a16 ZD a8n pv aCS aDQ a1k aEr
 kt dQ ks Wu aAH
section
variable {P:Program} {base J:Nat} {d:Option Nat} {bd:List Ap} {A:A6} {m:V} {aF:A6->V->Prop} {bp:List (Operand×Operand)}
@[simp] theorem aLh(x:Operand):Bm P base (⟨J,d,none,.F2 x,bp⟩::bd) A m aF=(Dm A bp=true/\Bm P base bd (Af A d (O A x)) (m) aF):=by rw[FR rfl];simp only[K.ok,true_and];try rfl
@[simp] theorem aIW(c a b:Operand):Bm P base (⟨J,d,none,.T0 c a b,bp⟩::bd) A m aF=(Kv (O A c)=true/\Dm A bp=true/\Bm P base bd (Af A d (if Me (O A c)=true then O A a else O A b)) (m) aF):=by rw[FR rfl];rfl
@[simp] theorem aOf(x:Operand):Bm P base (⟨J,d,none,.Lz x,bp⟩::bd) A m aF=(P5 (O A x)=true/\Dm A bp=true/\Bm P base bd (Af A d (O A x)) (m) aF):=by rw[FR rfl];rfl
@[simp] theorem aI3(z:List Value):Bm P base (⟨J,d,none,.IX z,bp⟩::bd) A m aF=(Dm A bp=true/\Bm P base bd (Af A d (.pointer (some ⟨base+J,0,none⟩))) (m.A0 (base+J) (some ⟨z,true⟩)) aF):=by rw[FR rfl];simp only[K.ok,true_and];try rfl
@[simp] theorem aPd(x:Operand):Bm P base (⟨J,d,none,.JP x,bp⟩::bd) A m aF=(E (O A x)=true/\Dm A bp=true/\Bm P base bd (Af A d (.pointer (some ⟨base+J,0,none⟩))) (m.A0 (base+J) (some ⟨H (O A x),true⟩)) aF):=by rw[FR rfl];rfl
@[simp] theorem aNo(z:List Value)(ps:List (Nat×Nat×Operand)):Bm P base (⟨J,d,none,.PR z ps,bp⟩::bd) A m aF=(I8 z A ps=true/\Dm A bp=true/\Bm P base bd (Af A d (.agg (G5 z A ps).toArray)) (m) aF):=by rw[FR rfl];rfl
@[simp] theorem aJl(z n:Nat)(cs:List Value)(ps:List (Nat×Nat×Operand)):Bm P base (⟨J,d,none,.HG z n cs ps,bp⟩::bd) A m aF=(I8 cs A ps=true/\Dm A bp=true/\Bm P base bd (Af A d (.slice (some ⟨base+J,0,none⟩) n z)) (m.A0 (base+J) (some ⟨G5 cs A ps,true⟩)) aF):=by rw[FR rfl];rfl
@[simp] theorem aHe(T:Bool)(n:Nat)(x:Operand):Bm P base (⟨J,d,none,.E4 T n x,bp⟩::bd) A m aF=((Bx m (O A x) n&&(T||decide (n=1)))=true/\Dm A bp=true/\Bm P base bd (Af A d (DN m T n (O A x))) (m) aF):=by rw[FR rfl];rfl
@[simp] theorem aKN(n:Nat)(x v:Operand):Bm P base (⟨J,d,none,.store n x v,bp⟩::bd) A m aF=((Bx m (O A x) n&&GN m (O A x)&&E (O A v)&&decide ((H (O A v)).length=n))=true/\Dm A bp=true/\Bm P base bd (Af A d (undef)) (FJ m (O A x) (H (O A v))) aF):=by rw[FR rfl];rfl
@[simp] theorem aHN(op:BinOp)(c:Ny)(x y:Operand):Bm P base (⟨J,d,none,.Jw op c x y,bp⟩::bd) A m aF=(KP op c (O A x) (O A y)=true/\Dm A bp=true/\Bm P base bd (Af A d (FY op (O A x) (O A y))) (m) aF):=by rw[FR rfl];rfl
@[simp] theorem aPy(op:UnOp)(x:Operand):Bm P base (⟨J,d,none,.S3 op x,bp⟩::bd) A m aF=(NB op (O A x)=true/\Dm A bp=true/\Bm P base bd (Af A d (RC op (O A x))) (m) aF):=by rw[FR rfl];rfl
@[simp] theorem aK5(z:Nat)(x:Operand)(a b:Option Operand):Bm P base (⟨J,d,none,.N7 z x a b,bp⟩::bd) A m aF=((K.N7 z x a b).ok A m=true/\Dm A bp=true/\Bm P base bd (Af A d (if a.isNone&&KA b then M8 (O A x)else IT (O A x) z (Cq A a 0).toNat (Cq A b (De (O A x))).toNat)) (m) aF):=by rw[FR rfl];try rfl
@[simp] theorem aIf(z bytes:Nat)(a:List Value)(l c:Operand):Bm P base (⟨J,d,none,.IA z bytes a l c,bp⟩::bd) A m aF=((K.IA z bytes a l c).ok A m=true/\Dm A bp=true/\Bm P base bd (Af A d (.slice (some ⟨base+J,0,none⟩) (Bh (O A l)).toNat z)) (m.A0 (base+J) (some ⟨(List.replicate (Bh (O A l)).toNat a).flatten,true⟩)) aF):=by rw[FR rfl];try rfl
@[simp] theorem aKi(off:Nat)(x:Operand):Bm P base (⟨J,d,none,.GV off x,bp⟩::bd) A m aF=(J4 (O A x)=true/\Dm A bp=true/\Bm P base bd (Af A d (Ml (O A x) off)) (m) aF):=by rw[FR rfl];rfl
@[simp] theorem aI6(z:Nat)(x i:Operand):Bm P base (⟨J,d,none,.HN z x i,bp⟩::bd) A m aF=((Fj z (O A x)&&Bo (O A i)&&decide (0<=Bh (O A i))&&decide (Bh (O A i)<De (O A x)))=true/\Dm A bp=true/\Bm P base bd (Af A d (Pb (O A x) z (Bh (O A i)))) (m) aF):=by rw[FR rfl];rfl
@[simp] theorem aGz(x i:Operand):Bm P base (⟨J,d,none,.UO x i,bp⟩::bd) A m aF=((Fe (O A x)&&Bo (O A i)&&decide (0<=Bh (O A i))&&decide (Bh (O A i)<De (O A x)))=true/\Dm A bp=true/\Bm P base bd (Af A d (.int .u8 (LL (Lb (O A x)) (Bh (O A i)).toNat))) (m) aF):=by rw[FR rfl];rfl
@[simp] theorem aM4(i:Nat)(x:Operand):Bm P base (⟨J,d,none,.ext i x,bp⟩::bd) A m aF=(Rk (O A x) i=true/\Dm A bp=true/\Bm P base bd (Af A d (Q4 (O A x) i)) (m) aF):=by rw[FR rfl];rfl
@[simp] theorem aGN(x:Operand):Bm P base (⟨J,d,none,.UY x,bp⟩::bd) A m aF=(Fe (O A x)=true/\Dm A bp=true/\Bm P base bd (Af A d (.int .i64 (De (O A x)))) (m) aF):=by rw[FR rfl];rfl
@[simp] theorem aN8(x:Operand):Bm P base (⟨J,d,none,.NR x,bp⟩::bd) A m aF=(Lo (O A x)=true/\Dm A bp=true/\Bm P base bd (Af A d (.int .i64 (De (O A x)))) (m) aF):=by rw[FR rfl];rfl
@[simp] theorem aJo(z bytes:Nat)(x y:Operand):Bm P base (⟨J,d,none,.app z bytes x y,bp⟩::bd) A m aF=((K.app z bytes x y).ok A m=true/\Dm A bp=true/\Bm P base bd (Af A d ((K.app z bytes x y).val (base+J) A m)) ((K.app z bytes x y).Cl (base+J) A m) aF):=by rw[FR rfl];try rfl
@[simp] theorem aIv(a:Bool)(x:Operand)(xs:List Operand):Bm P base (⟨J,d,none,.QM a x xs,bp⟩::bd) A m aF=((Bo (O A x)&&xs.all λy=>Bo (O A y))=true/\Dm A bp=true/\Bm P base bd (Af A d (xs.foldl (λb y=>if a then HI b (O A y)else H9 b (O A y)) (O A x))) (m) aF):=by rw[FR rfl];rfl
@[simp] theorem aHr(t:TypeId)(x:Operand):Bm P base (⟨J,d,none,.XF t x,bp⟩::bd) A m aF=(Dm A bp=true/\Bm P base bd (Af A d (.iface t (O A x))) (m) aF):=by rw[FR rfl];simp only[K.ok,true_and];try rfl
@[simp] theorem aGT(t:TypeId)(x:Operand):Bm P base (⟨J,d,none,.VC t x,bp⟩::bd) A m aF=(W8 t (O A x)=true/\Dm A bp=true/\Bm P base bd (Af A d (kS (O A x))) (m) aF):=by rw[FR rfl];rfl
@[simp] theorem aL3(fn:Fn)(fs cs:List Operand):Bm P base (⟨J,d,none,.Q9 fn fs cs,bp⟩::bd) A m aF=(Dm A bp=true/\Bm P base bd (Af A d (.func fn (fs.map (O A)).toArray (cs.map (O A)).toArray)) (m) aF):=by rw[FR rfl];simp only[K.ok,true_and];try rfl
variable{v a0 bA bX a3 a4 fJ ju:Value}{t f n:Nat}{l:List Value}{b T:Bool}{r:Fy}
@[simp] theorem aMX{t a:TypeId}:W8 t (.iface a v)=decide (a=t):=rfl
@[simp] theorem aQ1{t:TypeId}:kS (.iface t v)=v:=rfl
@[simp] theorem aNi:O A (.tmp t)=A t:=rfl
@[simp] theorem aLo:O A (.const v)=v:=rfl
@[simp] theorem aLu:O A (.func f)= .func (.func f) #[] #[]:=rfl
@[simp] theorem aHg:Af A (some t) v=FT A t v:=rfl
@[simp] theorem aM5:Af A none v=A:=rfl
@[simp] theorem aFL{a:Nat}:FT A t v a=if a=t then v else A a:=rfl
@[simp] theorem aHJ:Cp (a0::l) 0=a0:=rfl
@[simp] theorem aN2:Cp (a0::bA::l) 1=bA:=rfl
@[simp] theorem aLC:Cp (a0::bA::bX::l) 2=bX:=rfl
@[simp] theorem aI0:Cp (a0::bA::bX::a3::l) 3=a3:=rfl
@[simp] theorem aLi:Cp (a0::bA::bX::a3::a4::l) 4=a4:=rfl
@[simp] theorem aGw:Cp (a0::bA::bX::a3::a4::fJ::l) 5=fJ:=rfl
@[simp] theorem aHu:Cp (a0::bA::bX::a3::a4::fJ::ju::l) 6=ju:=rfl
@[simp] theorem aM0{a:Value}:Cp (a0::bA::bX::a3::a4::fJ::ju::a::l) 7=a:=rfl
def k2(v:Value)(b:Bool):Bool:=match v with| .bool c=>c==b|_=>false
@[simp] theorem aLn{c:Bool}:k2 (.bool c) b=(c==b):=rfl
@[simp] theorem aQ2:k2 undef b=false:=rfl
@[simp] theorem aLk:Bf A (some (t,b))=k2 (A t) b:=rfl
@[simp] theorem aO3:Fg m A [r]=Ik m A r:=rfl
@[simp] theorem aN0:Fg m A []= .tuple #[]:=rfl
@[simp] theorem aOv{s:Fy}{l:List Fy}:Fg m A (r::s::l)= .tuple ((r::s::l).map (Ik m A)).toArray:=rfl
@[simp] theorem aGJ:Ik m A (.AI t)=A t:=rfl
@[simp] theorem aGC:Ik m A (.E2 t T n)=DN m T n (A t):=rfl
@[simp] theorem aIe{l:List Fy}:FM m A l=l.all (IQ m A):=rfl
@[simp] theorem aHT:IQ m A (.AI t)=true:=rfl
@[simp] theorem aJN:IQ m A (.E2 t T n)=(Bx m (A t) n&&(T||decide (n=1))):=rfl
@[simp] theorem aOV{l:List Ap}:Cu l m=if l.any (λo=>o.k.Bt)=true then m.AE l.length else m:=by unfold Cu;rfl
end
attribute [simp] Me Kv Bh Bo Lb H C3 I E P5 J4 Ml Ue Fe Q4 Rk Zi Uo Jc Cq HW H9 HI QX byteOf I8 G5
 KP FY Sr bD OQ Un M5 I3 JA RC NB Hq Om Ev Dp
attribute [simp] DX DT CT DM G
@[simp] theorem aGq:K.LB.Bt=true:=rfl
@[simp] theorem aGF(a:List Value):(K.IX a).Bt=true:=rfl
@[simp] theorem aKp(a:Operand):(K.JP a).Bt=true:=rfl
@[simp] theorem aLv(a b:Nat)(c:List Value)(d:List (Nat×Nat×Operand)):(K.HG a b c d).Bt=true:=rfl
@[simp] theorem aOz(a:Operand):(K.MS a).Bt=true:=rfl
@[simp] theorem aNv(a b:Nat)(c:List Value)(d e:Operand):(K.IA a b c d e).Bt=true:=rfl
@[simp] theorem aOl(a b:Nat)(c:List Value)(d e:Operand):(K.KD a b c d e).Bt=true:=rfl
@[simp] theorem aNd(a b:Nat)(c d:Operand):(K.app a b c d).Bt=true:=rfl
@[simp] theorem aGi(a:Operand):(K.Xv a).Bt=false:=rfl
@[simp] theorem aOS(a:List Value)(b:Operand):(K.Cm a b).Bt=false:=rfl
@[simp] theorem aOr(a:Hj)(b:Value)(c:Bool)(d e:Operand):(K.Ll a b c d e).Bt=false:=rfl
@[simp] theorem aKO(a:Hj)(b c d:Operand):(K.Kn a b c d).Bt=false:=rfl
@[simp] theorem aKM(a b:Nat)(c:Operand):(K.Nt a b c).Bt=false:=rfl
@[simp] theorem aPr(a:Nat)(b:Operand)(c:Option Operand)(d e:Operand):(K.S8 a b c d e).Bt=false:=rfl
@[simp] theorem aMv(a:TypeId)(b:Operand):(K.XF a b).Bt=false:=rfl
@[simp] theorem aHh(a:TypeId)(b:Operand):(K.VC a b).Bt=false:=rfl
@[simp] theorem aJg(a:List (TypeId×Nat×Option (Bool×Nat)))(b:Operand)(c:List Operand):(K.Ip a b c).Bt=false:=rfl
@[simp] theorem aOB(a:Operand):(K.F2 a).Bt=false:=rfl
@[simp] theorem aHF(a b c:Operand):(K.T0 a b c).Bt=false:=rfl
@[simp] theorem aN9(a:Operand):(K.Lz a).Bt=false:=rfl
@[simp] theorem aIA(a:List Value)(b:List (Nat×Nat×Operand)):(K.PR a b).Bt=false:=rfl
@[simp] theorem aP5(a:Bool)(b:Nat)(c:Operand):(K.E4 a b c).Bt=false:=rfl
@[simp] theorem aKu(a:Nat)(b c:Operand):(K.store a b c).Bt=false:=rfl
@[simp] theorem aHR(a:BinOp)(b:Ny)(c d:Operand):(K.Jw a b c d).Bt=false:=rfl
@[simp] theorem aIJ(a:Bool)(b:List IV)(c d:Operand):(K.PC a b c d).Bt=false:=rfl
@[simp] theorem aJb(a:UnOp)(b:Operand):(K.S3 a b).Bt=false:=rfl
@[simp] theorem aJ9(a:IntKind)(b:Operand):(K.X1 a b).Bt=false:=rfl
@[simp] theorem aIK(a:Operand):(K.Zp a).Bt=false:=rfl
@[simp] theorem aM7(a:Operand):(K.M6 a).Bt=false:=rfl
@[simp] theorem aLl(a:Operand)(b c:Option Operand):(K.Yj a b c).Bt=false:=rfl
@[simp] theorem aJi(a:Nat)(b:Operand)(c d:Option Operand):(K.N7 a b c d).Bt=false:=rfl
@[simp] theorem aL0(a:Nat)(b:Operand):(K.GV a b).Bt=false:=rfl
@[simp] theorem aKf(a:Bool)(b c:Nat)(d:Operand):(K.field a b c d).Bt=false:=rfl
@[simp] theorem aJF(a:Nat)(b c:Operand):(K.HN a b c).Bt=false:=rfl
@[simp] theorem aMp(a b:Nat)(c d:Operand):(K.Qy a b c d).Bt=false:=rfl
@[simp] theorem aIa(a b:Operand):(K.UO a b).Bt=false:=rfl
@[simp] theorem aJp(a:Nat)(b:Operand):(K.ext a b).Bt=false:=rfl
@[simp] theorem aOd(a:Operand):(K.UY a).Bt=false:=rfl
@[simp] theorem aPV(a:Operand):(K.NR a).Bt=false:=rfl
@[simp] theorem aLT(a:Bool)(b:Operand)(c:List Operand):(K.QM a b c).Bt=false:=rfl
@[simp] theorem aPB(a:Fn)(b c:List Operand):(K.Q9 a b c).Bt=false:=rfl
@[simp] theorem aKD(a:Nat)(b:List Operand):(K.KC a b).Bt=false:=rfl
@[simp] theorem aO8(a:Operand)(b:List Operand):(K.Iw a b).Bt=false:=rfl
abbrev L7(n:Nat):Operand:= .tmp n
abbrev aEZ(i d x:Nat):Ap:=⟨i,some d,none,.F2 (.tmp x),[]⟩
abbrev aEn(i d:Nat)(n:Int):Ap:=⟨i,some d,none,.F2 (.const (.int .i64 n)),[]⟩
abbrev a2j(i d:Nat)(b:Bool):Ap:=⟨i,some d,none,.F2 (.const (.bool b)),[]⟩
abbrev aBK(i d x:Nat):Ap:=⟨i,some d,none,.E4 false 1 (.tmp x),[]⟩
abbrev aD0(i d n x:Nat):Ap:=⟨i,some d,none,.E4 true n (.tmp x),[]⟩
abbrev a7k(i d n x:Nat):Ap:=⟨i,some d,none,.GV n (.tmp x),[]⟩
abbrev a5Q(i d:Nat)(op:BinOp)(x y:Operand):Ap:=⟨i,some d,none,.Jw op .Qi x y,[]⟩
abbrev aDR(i d z x y:Nat):Ap:=⟨i,some d,none,.HN z (.tmp x) (.tmp y),[]⟩
abbrev aFy(i d x:Nat):Ap:=⟨i,some d,none,.NR (.tmp x),[]⟩
abbrev a1d(i d n x:Nat):Ap:=⟨i,some d,none,.ext n (.tmp x),[]⟩
abbrev a67(i d f:Nat)(A1:List Operand):Ap:=⟨i,some d,none,.KC f A1,[]⟩
abbrev a0t(i n x y:Nat):Ap:=⟨i,none,none,.store n (.tmp x) (.tmp y),[]⟩
abbrev a5D(i d:Nat)(k:K):Ap:=⟨i,some d,none,k,[]⟩
abbrev aBU(i d j:Nat)(b:Bool)(k:K):Ap:=⟨i,some d,some (j,b),k,[]⟩
abbrev a4B(i d:Nat)(k:K)(bp:List (Operand×Operand)):Ap:=⟨i,some d,none,k,bp⟩
abbrev aFc(i:Nat)(k:K):Ap:=⟨i,none,none,k,[]⟩
def A8:D->Nat->D
 | .Ez a b,p=>if p=1 then .Ez a b else if p%2=0 then A8 a (p/2)else A8 b (p/2)
 | .Gh c a b,p=>if p=1 then .Gh c a b else if p%2=0 then A8 a (p/2)else A8 b (p/2)
 | .block i a,p=>if p=1 then .block i a else A8 a (p/2)
 | .loop a,p=>if p=1 then .loop a else A8 a (p/2)
 |c,_=>c
def A9(p:Nat)(x:D):D->D
 | .Ez a b=>if p=1 then x else if p%2=0 then .Ez (A9 (p/2) x a) b else .Ez a (A9 (p/2) x b)
 | .Gh c a b=>if p=1 then x else if p%2=0 then .Gh c (A9 (p/2) x a) b else .Gh c a (A9 (p/2) x b)
 | .block i a=>if p=1 then x else .block i (A9 (p/2) x a)
 | .loop a=>if p=1 then x else .loop (A9 (p/2) x a)
 |c=>if p=1 then x else c
abbrev B{a:A2}(h:{b:A2//a=b}):A2:=h.1
@[simp↓] theorem aHd{a x:A2}{h:a=x}:B ⟨x,h⟩=x:=rfl
abbrev AV(P:Program)(f:Nat):={c:AN//AR P f=some c}
attribute [simp] L7 aEZ aEn a2j aBK aD0 a7k a5Q aDR aFy a1d a67 a0t a5D aBU a4B aFc
end Go.DI
