/- A part of the proof. -/
import Derived.Test.YtmmkkggfmigppaaGreatZdf
set_option linter.all false
set_option maxRecDepth 20000
set_option maxHeartbeats 16000000
namespace Go.DI
open Go Go.RowKit
def BM.EJ:BM->Exit
 | .CK=> .normal
 | .Ao id=> .exit id
 | .Cz=> .ret
variable {P:Program} {aH:Nat} {cp:Callee} {K n:Nat}
theorem pd: ∀(l:List Nat),Mq l=true->l.Nodup
 |[],_=>List.nodup_nil
 | x::l,h=>by simp only[Mq,AF,JQ,List.contains_eq_mem,OB]at h;exact J9.2 ⟨h.1,pd l h.2⟩
variable{l:List Nat}{b j:Nat}{m:X}{C:Ren}{w:World}{Q:Exit->Act->World->Prop}{ops:Array Oper}{A:A2}{f:A2->X->Option (BM×A2×X)}{r:BM×A2×X}{a:Act}{aU:Act->World->Prop}{e:Exit}{N:List GF}{fn:Func}{u:HT}{args:List Value}{R:Array Value}
theorem aAl(h:ew n l=true):l.Nodup/\(∀i,i∈l↔i<n)/\l.length=n:=by
 simp only[ew,AF,BW,BR,G3,List.contains_iff_mem]at h
 grind [pd]
theorem a6e(h:m.ac<=b):m.Y b=none:=by unfold X.Y;rw[if_neg (by omega)]
theorem VN(L:List Av)(m:X):m.ac<=(Cn L m).ac/\((∃o∈L,o.k.Bv=true)->(Cn L m).ac=m.ac+L.length):=by
 grind [Cn,X.Lv]
theorem ot(L:List Av)(m:X)(b:Nat):(Cn L m).Y b=m.Y b:=by
 grind [Cn,X.Ab]
theorem BF.Cn(h:BF aH C m w)(L:List Av):BF aH C (Go.DI.Cn L m) w:=by
 unfold Go.DI.Cn;split
 ·exact h.AE _
 ·exact h
theorem rr(l:uT ops=true)(m:vS (PY ops.toList []) ops.size=true): ∀(d k:Nat) (b:Array Bool) (a:Act) (w:World),k+d=ops.size->b.size=ops.size->
 (∀j,j<ops.size->(b.getD j false=true↔j<k))->wpOps P ops Q (List.range' k d) a w->wpAny P .any ops Q d b a w
 | 0,k,b,a,w,r,n,s,h=>by
   refine⟨?_,h⟩;apply List.eq_nil_iff_forall_not_mem.2
   grind [mem_ready]
 | d+1,k,b,a,w,r,n,s,h=>by
   have t:k<ops.size:=(by omega);have y: ∀j c,ops[j]?=some c-> ∀e∈c.after,Region.binds .any e=true->e.on<j:=by
    intro j c p e z hb;have f:j<ops.size:=(QC.1 p).1;have:=BR.1 l j (G3.2 f)
    grind
   have u: ∀j c,ops[j]?=some c->b.getD j false=true-> ∀e∈c.after,Region.binds .any e=true->b.getD e.on false=true:=by
    grind
   rw[List.range'_succ,wpOps_cons]at h;have step: ∀i∈Region.ready .any ops b,i=k:=by
    intro i g;obtain⟨A,v,q,x⟩:=mem_ready.1 g;have f:i<ops.size:=(QC.1 q).1;have B: ¬i<k:= λC=>by
     grind
    by_cases e:i=k
    ·exact e
    ·exfalso;have hb:((PY ops.toList []).getD i 0).testBit k=true:=by
      have:=BR.1 m i (G3.2 f)
      grind
     have:=kv (ops:=ops) (kJ:= λj=>b.getD j false=true) u ops.toList [] (by simp) (by simp) i v q x k hb
     simp_all
   refine⟨λD=> ?_,λi g=> ?_⟩
   ·exfalso;obtain⟨o,E⟩: ∃o,ops[k]?=some o:=⟨ops[k],Array.getElem?_eq_getElem t⟩;have F:k∈Region.ready .any ops b:=by
     grind [mem_ready]
    simp_all
   ·have e:=step i g;subst e;refine wpOp_mono (λa w h=>rr l m d (i+1) _ a w (by omega) (by simp[n]) (λj p=> ?_) h) h
    grind [YT]
theorem pU: ∀{L:List Av} {r:List Av×Av×List Av},W3 L=some r->L=r.1++r.2.1::r.2.2/\r.2.1.k.Bv=true
 |[],_,h=>by simp[W3]at h
 | o::L,r,h=>by
   unfold W3 at h;split at h
   ·grind [M.Bv]
   ·simp only[KH]at h;obtain⟨⟨a,b,c⟩,d,e⟩:=h;obtain⟨f,g⟩:=pU d
    grind
theorem aCD(A4:P.follows .mixedOrders=true)(q: ∀aH,Iy P aH cp){id:Nat}{ops:Array Oper}{u:Bool}{S:CF}(i:e8 P K ops u=some S){A v:A2}{m B:X}{e:BM}
 (h:Bb cp n S A m=some (e,v,B)) {a:Act} {w:World} {C:Ren} (A5:Cr C K A a) (x:BF aH C m w) (T:aH<=w.heap.size) {Q:Exit->Act->World->Prop}
 (A6: ∀U y r,CY C r->(∀b,b<m.ac->r b=C b)->Cr r K v U->BF aH r B y->Below aH w y->Q e.EJ U y):(Code.region id ops u).wp P Q a w:=by
 have z: ∀b,m.ac<=b->C b=none:=by
  intro b hb;cases A7:C b with
  |none=>rfl
  |some l=>have:=x.Gc b l A7;omega
 unfold e8 at i;split at i
 ·rename_i D;split at i
  ·rename_i L A8;simp only[KH]at i;obtain⟨⟨c1,f,E⟩,A9,rfl⟩:=i;obtain⟨F,G⟩:=gS _ _ A8;obtain⟨V,AA⟩:=pU A9;simp only at V AA;subst V;have s:c1.length+(E.length+1)=ops.size:=(by have:=congrArg List.length F;simpa using this);have o:((c1++f::E).map (·.AQ)).Nodup:=(by rw[F];exact List.nodup_range);have H: ∀c∈c1++f::E,c.AQ<ops.size:= λc d=>by
    have:c.AQ∈(c1++f::E).map (·.AQ):=CG.2 ⟨c,d,rfl⟩
    simp_all
   rw[Gs,Dl,LD,J9]at o;simp only[Bb]at h;split at h
   ·rename_i W g Y;split at h
    ·rename_i t;split at h
     ·rename_i AY Z A0;cases h;have AZ:m.ac+ops.size<=g.ac:=by have:=Wt (q aH) _ _ _ _ Y;rw[X.Lv,s]at this;exact this
      have Aa:(f.k.Cj (m.ac+f.AQ) W g).ac=g.ac:=by
       unfold HA at t;simp only[AF]at t;have:=t.1.2;split at this
       ·rename_i I;rw[I];simp only[M.Cj];split
        ·rfl
        ·split
         ·unfold Ga;split<;>try rfl
          split<;>rfl
         ·unfold EC;split<;>rfl
       ·cases this
      have Ab:g.ac<=Z.ac:=Wt (q aH) _ _ _ _ A0
      have key: ∀p,BF aH C m p->aH<=p.heap.size->Below aH w p->wpOps P ops Q (List.range ops.size) a p:=by
       intro p AB J AD;rw[<-F,Gs,Dl];refine kF (base:=m.ac) (q aH) c1 A _ a p C W g (λc d=>G c (by simp[d])) o.1 A5 (AB.AE _) J (λc d _=>⟨by rw[X.Lv,s];have:=H c (by simp[d]);omega,z _ (by omega)⟩) Y λbG Ac Ae AI N AJ AK O=> ?_;obtain⟨Af,AL⟩:=G f (by simp);have Ag:=H f (by simp);rw[wpOps_cons];refine a3Y (base:=m.ac) AL AJ AK (E8 J O.size) (by omega) ?_ t λbW R AM AN A1 AO Ah AP A3=> ?_
       ·rw[N _ (by rw[X.Lv,s];omega) (λc d e=>o.2.2 c.AQ (CG.2 ⟨c,d,rfl⟩) f.AQ (by simp) (by omega))];exact z _ (by omega)
       ·refine oU (base:=m.ac) (q R.heap.size) E _ (Hb g) bW R AM v Z (λc d=>G c (by simp[d])) o.2.1.2 AO AP (Aj _) (λc d _=>⟨?_,?_⟩) A0 λa3 AR AS AT AU AV Ai AW=> ?_
        ·show _<g.ac
         grind
        ·have Ak:=H c (by simp[d]);have Al:c.AQ≠f.AQ:= λe=>o.2.1.1 (CG.2 ⟨c,d,e⟩);rw[A1 _ (by omega),N _ (by rw[X.Lv,s];omega) (λk I e=>o.2.2 k.AQ (CG.2 ⟨k,I,rfl⟩) c.AQ (by simp only[CZ,CG];exact .inr ⟨c,d,rfl⟩) (by omega))];exact z _ (by omega)
        ·have AX:aH<=R.heap.size:=E8 J (E8 O.size A3.size);refine A6 a3 AR AS (AI.trans (AN.trans AT)) (λb hb=> ?_) AV ?_ (AD.trans (O.trans (A3.trans (AW.mono AX))))
         ·rw[AU b hb (by show b<g.ac;omega),A1 b (by omega),N b (by rw[X.Lv];omega) (λ_ _=>by omega)]
         ·grind [zn]
      cases u
      ·exact wp_region (key w x T (Below.refl _ _))
      ·simp only[Bool.not_true,Bool.false_or,AF]at D;refine wp_region_any A4 ?_;refine rr D.2.1 D.2.2 ops.size 0 _ a _ (by omega) (by simp) (λj Am=>by rw[getD_replicate_false];simp) ?_;rw[<-List.range_eq_range'];exact key _ (x.sr rfl) T ⟨rfl,rfl,rfl,Aj _,λ_ _=>rfl⟩
     ·cases h
    ·cases h
   ·cases h
  ·cases i
 ·cases i
theorem a6I(U:P.follows .mixedOrders=true)(F:Iy P aH cp){id:Nat}{ops:Array Oper}{p:Bool}{G:CF}(c:Xr P K ops p=some G){A q:A2}{m B:X}{e:BM}
 (h:Bb cp n G A m=some (e,q,B)) {a:Act} {w:World} {C:Ren} (H:Cr C K A a) (r:BF aH C m w) (I:aH<=w.heap.size) {Q:Exit->Act->World->Prop}
 (J: ∀k i f,CY C f->(∀b,b<m.ac->f b=C b)->Cr f K q k->BF aH f B i->Below aH w i->Q e.EJ k i):(Code.region id ops p).wp P Q a w:=by
 have M: ∀b,m.ac<=b->C b=none:=by
  intro b hb;cases V:C b with
  |none=>rfl
  |some l=>have:=r.Gc b l V;omega
 cases p
 ·simp only[Xr]at c;split at c
  ·rename_i L s;cases c;obtain⟨g,t⟩:=gS _ _ s;simp only[Bb]at h;split at h
   ·rename_i W Y u;cases h;have N:L.length=ops.size:=(by have:=congrArg List.length g;simpa using this);refine wp_region ?_;rw[<-g];refine oU (base:=m.ac) F L A _ a w C q B t (by rw[g];exact List.nodup_range) H (r.Cn L) I (λd o v=> ?_) u λk i f x y z D E=>J k i f x (λb hb=>y b hb (by have:=(VN L m).1;omega)) z D E;have:d.AQ∈L.map (·.AQ):=CG.2 ⟨d,o,rfl⟩;rw[g,G3]at this;exact⟨by rw[(VN L m).2 ⟨d,o,v⟩];omega,M _ (by omega)⟩
   ·cases h
  ·cases c
 ·simp only[Xr]at c;split at c
  ·rename_i Z;split at c
   ·rename_i L s;cases c;obtain⟨A0,A1,A3⟩:=aAl Z;obtain⟨g,t,O,R⟩:=ni _ [] L s trivial;simp only[List.reverse_nil,MC]at O R;simp only[Bb]at h;split at h
    ·rename_i W Y u;cases h;have N:L.length=ops.size:=(by rw[<-A3,<-g];simp);have A4:BF aH C (Cn L m) {w with drawn:=w.drawn+1}:=(r.Cn L).sr rfl;refine wp_region_any U ?_;refine pM (base:=m.ac) (YC:=m.ac) F ops.size L _ A _ a _ C N (by simp) (λj A9=> ?_) (λj S _ T=>by rw[getD_replicate_false]at T;cases T) t (by rw[g];exact A0) O (λc1 d post e S A5 A6 A7 hb=> .inr (R c1 d post e S A5 A6 A7 hb)) H A4 I (Aj _) (λd o v=> ?_) (VN L m).1 u λk i f x y z D E=>J k i f x y z D (Below.trans (a:=w) (b:={w with drawn:=w.drawn+1}) ⟨rfl,rfl,rfl,Aj _,λ_ _=>rfl⟩ E)
     ·grind [getD_replicate_false]
     ·have:d.AQ∈L.map (·.AQ):=CG.2 ⟨d,o,rfl⟩;rw[g,A1]at this;exact⟨by rw[(VN L m).2 ⟨d,o,v⟩];omega,by rw[ot];exact a6e (by omega),M _ (by omega)⟩
    ·cases h
   ·cases c
  ·cases c
theorem Uq(h:Eo f (j+1) A m=some r):
 (∃a b,f A m=some (.CK,a,b)/\Eo f j a b=some r)\/(f A m=some r/\r.1≠ .CK):=by
 grind [Eo]
theorem L8(a:Iy P aH cp): ∀(c:CF) (A:A2) (m:X) (e:BM) (i:A2) (B:X),Bb cp n c A m=some (e,i,B)->m.ac<=B.ac/\ ∀b,b<m.ac->m.Y b=none->B.Y b=none
 | .skip,A,m,e,i,B,h=>by simp[Bb]at h;obtain⟨_,_,rfl⟩:=h;exact⟨Aj _,λ_ _ h=>h⟩
 | .FW ops,A,m,e,i,B,h=>by
   simp only[Bb]at h;split at h
   ·rename_i f l t;cases h;have g:=Wt a ops A _ _ t;have q:=(VN ops m).1;exact⟨by simp only at g;omega,λb hb r=>gK a hb ops A _ _ q t (by rw[ot];exact r)⟩
   ·cases h
 | .LN c1 o E,A,m,e,i,B,h=>by
   simp only[Bb]at h;split at h
   ·rename_i f l g;split at h
    ·rename_i p;split at h
     ·rename_i v w q;cases h;have s:=Wt a _ _ _ _ g;rw[X.Lv]at s;have u:DJ cp m.ac o f l=some (Ar f o.d (o.k.val (m.ac+o.AQ) f l),o.k.Cj (m.ac+o.AQ) f l):=by
       unfold HA at p;simp only[AF,S2]at p;refine rG ?_ (L4 (XL p.2)) p.2;rw[p.1.1];rfl
      have y:=Rf a u;rw[X.Lv];refine⟨by simp only at s;omega,λb hb r=> ?_⟩;rw[X.Ab];exact dM a u (by simp only at s;omega) (by omega) (gK a hb c1 A _ _ (by rw[X.Lv];omega) g (by rw[X.Ab];exact r))
     ·cases h
    ·cases h
   ·cases h
 | .El c d,A,m,e,i,B,h=>by
   simp only[Bb]at h;split at h
   ·rename_i f l g;obtain⟨bG,bW⟩:=L8 a c A m _ f l g;obtain⟨z,C⟩:=L8 a d f l _ _ _ h
    grind
   ·exact L8 a c A m _ _ _ h
 | .HP x c d,A,m,e,i,B,h=>by
   simp only[Bb]at h;split at h
   ·split at h
    ·exact L8 a c A m _ _ _ h
    ·exact L8 a d A m _ _ _ h
   ·cases h
 | .block id c,A,m,e,i,B,h=>by
   simp only[Bb]at h;split at h
   ·rename_i D f l g;have:=L8 a c A m _ f l g
    grind
   ·exact L8 a c A m _ _ _ h
 | .loop c,A,m,e,i,B,h=>by
   simp only[Bb]at h;have key: ∀(j:Nat) (A:A2) (m:X),Eo (Bb cp n c) j A m=some (e,i,B)->m.ac<=B.ac/\ ∀b,b<m.ac->m.Y b=none->B.Y b=none:=by
    intro j;induction j with
    |zero=>intro A m h;simp[Eo]at h
    | succ j F=>
      intro A m h;rcases Uq h with⟨f,l,g,q⟩|⟨g,_⟩
      ·obtain⟨bG,bW⟩:=L8 a c A m _ f l g
       grind
      ·exact L8 a c A m _ _ _ g
   exact key n A m h
 | .Ao id,A,m,e,i,B,h=>by simp[Bb]at h;obtain⟨_,_,rfl⟩:=h;exact⟨Aj _,λ_ _ h=>h⟩
 | .Cz,A,m,e,i,B,h=>by simp[Bb]at h;obtain⟨_,_,rfl⟩:=h;exact⟨Aj _,λ_ _ h=>h⟩
theorem xW{e:BM}(h:e≠ .CK):e.EJ≠ .normal:=by cases e<;>simp[BM.EJ]at h⊢
theorem qK(h:e≠ .normal)(b:Q e a w):Exit.then aU Q e a w:=by cases e<;>first|exact b|exact absurd rfl h
theorem MT(F:P.follows .mixedOrders=true)(r: ∀aH,Iy P aH cp): ∀(c:Code) (G:CF),JX P K c=some G-> ∀(A:A2) (m:X) (e:BM) (o:A2) (B:X),Bb cp n G A m=some (e,o,B)->
 ∀(a:Act) (w:World) (C:Ren),Cr C K A a->BF aH C m w->aH<=w.heap.size-> ∀(Q:Exit->Act->World->Prop),
 (∀O N I,CY C I->(∀b,b<m.ac->I b=C b)->Cr I K o O->BF aH I B N->Below aH w N->Q e.EJ O N)->c.wp P Q a w
 | .skip,G,f,A,m,e,o,B,h,a,w,C,g,i,l,Q,k=>by cases f;simp[Bb]at h;obtain⟨rfl,rfl,rfl⟩:=h;exact wp_skip (k a w C (CY.refl C) (λ_ _=>rfl) g i (Below.refl _ _))
 | .region id ops AB,G,f,A,m,e,o,B,h,a,w,C,g,i,l,Q,k=>by
   simp only[JX]at f;split at f
   ·grind [aCD]
   ·exact a6I F (r aH) f h g i l k
 | .seq c d,G,f,A,m,e,o,B,h,a,w,C,g,i,l,Q,k=>by
   simp only[JX]at f;split at f
   ·rename_i x y H S;cases f;refine wp_seq ?_;simp only[Bb]at h;split at h
    ·rename_i J L M;refine MT F r c x H A m _ J L M a w C g i l _ λbG p s u v D E q=> ?_;have A7:=(L8 (r aH) x A m _ J L M).1;refine MT F r d y S J L e o B h bG p s D E (E8 l q.size) Q λbW T V W Y Z A0 A1=> ?_;exact k bW T V (u.trans W) (λb hb=>(Y b (by omega)).trans (v b hb)) Z A0 (q.trans A1)
    ·rename_i A3;refine MT F r c x H A m _ o B h a w C g i l _ λbG p s u v D E q=> ?_;refine qK (xW λR=> ?_) (k bG p s u v D E q)
     simp_all
   ·cases f
 | .cond x c d,G,f,A,m,e,o,B,h,a,w,C,g,i,l,Q,k=>by
   simp only[JX]at f;split at f
   ·rename_i y z S A8;split at f<;>cases f;rename_i H;simp only[Bb]at h;split at h
    ·rename_i hb;have A5:=g.U H;cases A6:U A x<;>simp[A6,LL]at hb;rename_i t;rw[A6]at A5 h;refine wp_cond A5.Jk ?_;simp only[Mw]at h;cases t
     ·exact MT F r d z A8 A m e o B h a w C g i l Q k
     ·exact MT F r c y S A m e o B h a w C g i l Q k
    ·cases h
   ·cases f
 | .block id c,G,f,A,m,e,o,B,h,a,w,C,g,i,l,Q,k=>by
   simp only[JX]at f;split at f
   ·rename_i x H;cases f;refine wp_block ?_;simp only[Bb]at h;split at h
    ·rename_i A4 J L M;refine MT F r c x H A m _ J L M a w C g i l _ λbG p s u v D E q=> ?_;show if A4=id then Q .normal bG p else Q (.exit A4) bG p
     split at h
     ·rename_i R;cases h;rw[if_pos R];exact k bG p s u v D E q
     ·rename_i R;cases h;rw[if_neg R];exact k bG p s u v D E q
    ·rename_i A3;refine MT F r c x H A m _ o B h a w C g i l _ λbG p s u v D E q=> ?_;have:=k bG p s u v D E q;cases e with
     |CK=>exact this
     |Cz=>exact this
     |Ao A4=>exact absurd h (A3 _ _ _)
   ·cases f
 | .loop c,G,f,A,m,e,o,B,h,a,w,C,g,i,l,Q,k=>by
   simp only[JX]at f;split at f
   ·rename_i x H;cases f;simp only[Bb]at h;refine wp_loop_rounds n ?_
    have key: ∀(j:Nat) (A:A2) (m:X) (a:Act) (w:World) (C:Ren),Eo (Bb cp n x) j A m=some (e,o,B)->Cr C K A a->BF aH C m w->aH<=w.heap.size->
     (∀O N I,CY C I->(∀b,b<m.ac->I b=C b)->Cr I K o O->BF aH I B N->Below aH w N->Q e.EJ O N)->Code.rounds P c Q j a w:=by
     intro j;induction j with
     |zero=>intro A m a w C h;simp[Eo]at h
     | succ j A9=>
       intro A m a w C h g i l k;rw[rounds_succ];rcases Uq h with⟨J,L,M,AA⟩|⟨M,A3⟩
       ·have A7:=(L8 (r aH) x A m _ J L M).1;refine MT F r c x H A m _ J L M a w C g i l _ λbG p s u v D E q=> ?_;exact A9 J L bG p s AA D E (E8 l q.size) λbW T V W Y Z A0 A1=>k bW T V (u.trans W) (λb hb=>(Y b (by omega)).trans (v b hb)) Z A0 (q.trans A1)
       ·refine MT F r c x H A m _ o B M a w C g i l _ λbG p s u v D E q=> ?_
        grind [qK,xW]
    grind
   ·cases f
 | .exit id,G,f,A,m,e,o,B,h,a,w,C,g,i,l,Q,k=>by cases f;simp[Bb]at h;obtain⟨rfl,rfl,rfl⟩:=h;exact wp_exit (k a w C (CY.refl C) (λ_ _=>rfl) g i (Below.refl _ _))
 | .ret,G,f,A,m,e,o,B,h,a,w,C,g,i,l,Q,k=>by cases f;simp[Bb]at h;obtain⟨rfl,rfl,rfl⟩:=h;exact wp_ret (k a w C (CY.refl C) (λ_ _=>rfl) g i (Below.refl _ _))
 | .rangeFunc _ _ _ _,_,f,_,_,_,_,_,_,_,_,_,_,_,_,_,_=>by cases f
 | .scope _,_,f,_,_,_,_,_,_,_,_,_,_,_,_,_,_=>by cases f
 | .label _,_,f,_,_,_,_,_,_,_,_,_,_,_,_,_,_=>by cases f
 | .goto _,_,f,_,_,_,_,_,_,_,_,_,_,_,_,_,_=>by cases f
 | .refuse _,_,f,_,_,_,_,_,_,_,_,_,_,_,_,_,_=>by cases f
def Sd(a:Act):ResultVar->Sem Value
 | .tmp t=>Pure.pure (a.tmps.getD t undef)
 | .cell x t=>do loadVar t (<-asAddr (a.tmps.getD x undef))
theorem hS: ∀(l:List ResultVar) (N:List GF),OP P K l=some N-> ∀{A:A2} {m:X} {a:Act} {w:World} {C:Ren},Cr C K A a->BF aH C m w->Fi m A N=true->
 ∃c:List Value,(l.mapM (m:=Sem) (Sd a)).run P w= .ok c w/\Aw C (N.map (J5 m A)) c
 | [],N,h,A,m,a,w,C,d,e,b=>by
   simp_all [OP,Aw.nil]
 | .tmp t::r,N,h,A,m,a,w,C,d,e,b=>by
   simp only[OP]at h;split at h
   ·rename_i l f;split at h<;>cases h;simp only[Fi,F3,AF]at b;obtain⟨c,i,g⟩:=hS r l f d e b.2;refine⟨a.tmps.getD t undef::c,?_,Aw.cons (d.HG t) g⟩
    grind [Sd,Sem.run_bind,Result.andThen_ok,Sem.run_pure]
   ·cases h
 | .cell x t::r,N,h,A,m,a,w,C,d,e,b=>by
   simp only[OP]at h;split at h
   ·rename_i O n l k o f;split at h<;>cases h;simp only[Fi,F3,AF,IX,My,BW]at b;obtain⟨c,i,g⟩:=hS r l f d e b.2;obtain⟨p,ds,q,s,u,j⟩:=ix e (d.HG x) b.1.1 b.1.2;refine⟨_::c,?_,Aw.cons j g⟩;have v:(Sd a (.cell x t)).run P w= .ok (if O then .agg ds.toArray else ds.headD undef) w:=by
     grind [Sd,asAddr,lA]
    simp_all
   ·cases h
theorem a7b(h:OP P K fn.results.toList=some N)(e:Cr C K A a)(f:BF aH C m w)(g:Fi m A N=true):
 ∃v,(results fn a.tmps).run P w= .ok v w/\BD C (Fv m A N) v:=by
 obtain⟨d,i,c⟩:=hS _ _ h e f g;refine⟨if h:d.toArray.size=1 then d.toArray[0]else .tuple d.toArray,?_,?_⟩
 ·unfold results;simp only[Sem.run_bind];rw[Array.mapM_eq_mapM_toList];simp only[Sem.run_map];have j:(List.mapM (m:=Sem) (Sd a) fn.results.toList).run P w= .ok d w:=i;change (((Sem.run P (List.mapM (m:=Sem) (Sd a) fn.results.toList) w).andThen _).andThen _)=_;rw[j];rfl
 ·have k:=c.1
  match N,d,c,k with
  |[r],[v],c,_=>exact c.2 0 _ _ rfl rfl
  |[],[],c,_=>exact BD.undef C
  |[_],[],_,b=>simp at b
  |[_],_::_::_,_,b=>simp at b
  |[],_::_,_,b=>simp at b
  |_::_::_,[],_,b=>simp at b
  |_::_::_,[_],_,b=>simp at b
  | l::n::N,o::p::d,c,_=>simp only[Fv,List.size_toArray,DZ];rw[dif_neg (by omega)];exact c.tuple
theorem a1J{f:Nat}(h:M1 P f=some u): ∃fn c,P.funcs[f]?=some fn∧fn.body=some c∧(fn.name== "runtime.NumGoroutine")=false∧JX P fn.ntmps c=some u.body∧OP P fn.ntmps fn.results.toList=some u.Mn∧u.cv=fn.ntmps:=by
 grind [M1]
theorem aBt(h:Aw C args R.toList)(b:args.length<=K):Cr C K (CQ args) {tmps:=R++Array.replicate (K-R.size) undef,defers:=[]}:=by
 have c:R.size=args.length:=by have:=h.1;simp at this;exact this.symm
 refine⟨by simp;omega,rfl,λt=> ?_⟩;simp only[CQ];rw[E1,Array.getD_eq_getD_getElem?];by_cases a:t<args.length
 ·obtain⟨y,d,e⟩:=h.Y (AP a)
  grind
 ·grind [BD.undef]
theorem tZ(t:P.follows .mixedOrders=true): ∀k aH,Iy P aH (Ev P k)
 |0,aH,f,args,m,r,B,h=>by simp[Ev]at h
 | k+1,aH,f,args,m,r,B,h=>by
   have y:=tZ t k;have z: ∀id x,id<m.ac->m.Y id=none->Ev P (k+1) f args (m.A1 id x)=some (r,B.A1 id x):= λid x i j=>by obtain⟨cX,n,o⟩:=fh.Us (k+1) x f args m r B h (m.A1 id x) ⟨rfl,i,j⟩;rw[n,o.eq]
   simp only[Ev]at h;split at h
   ·rename_i u K;obtain⟨fn,c,i,j,L,M,N,O⟩:=a1J K;split at h
    ·rename_i A
     have A0: ∀(e:BM) (l:A2) (g:X),Bb (Ev P k) k u.body (CQ args) m=some (e,l,g)->(∀id,e≠ .Ao id)->Fi g l u.Mn=true->Fv g l u.Mn=r->g=B->
      T7 P f/\m.ac<=B.ac/\(∀b,b<m.ac->m.Y b=none->B.Y b=none)/\
      (∀id x,id<m.ac->m.Y id=none->Ev P (k+1) f args (m.A1 id x)=some (r,B.A1 id x))/\
      ∀ C w (R:Array Value),Aw C args R.toList->BF aH C m w->aH<=w.heap.size->
        Calls P f R w λe d=> ∃v a,e= .returned v/\CY C a/\(∀b,b<m.ac->a b=C b)/\BD a r v/\BF aH a B d/\Below aH w d:=by
      intro e l g D Q S T U;subst T;subst U;have E:=L8 (y aH) u.body _ _ _ _ _ D;refine⟨⟨fn,i,by rw[j];rfl,L⟩,E.1,E.2,z,λC w R p q s=> ?_⟩;refine calls_of_wp i j ?_;rw[O]at A;refine MT t y c u.body M (CQ args) m e l g D _ w C (aBt p A) q s _ λF d a V W G H Z=> ?_;obtain⟨v,n,o⟩:=a7b N G H S
      have I:F.defers=[]/\ ∃v,(results fn F.tmps).run P d= .ok v d/\(λ(e:Ending) (d:World)=> ∃v a,e= .returned v/\CY C a/\(∀b,b<m.ac->a b=C b)/\BD a (Fv g l u.Mn) v/\BF aH a g d/\Below aH w d) (.returned v) d:=
       ⟨G.defers,v,n,v,a,rfl,V,W,o,H,Z⟩
      cases e with
      |CK=>exact I
      |Cz=>exact I
      |Ao id=>exact absurd rfl (Q id)
     grind
    ·cases h
   ·split at h
    ·rename_i J;exact⟨J.1,a12 h,λb i j=>aC5 h i j,z,λC w R p q s=>J.2 aH args m r B h C w R p q s⟩
    ·cases h
section a
variable {cp S:Callee}
def Y9(cp S:Callee):Prop:= ∀f a m r,cp f a m=some r->S f a m=some r
theorem a1k(h:Y9 cp S){base:Nat}{o:Av}{A:A2}{m:X}{r:A2×X}(a:DJ cp base o A m=some r):DJ S base o A m=some r:=by
 unfold DJ at a⊢;by_cases d:Bl A o.g=true
 ·rw[if_pos d]at a⊢;cases c:o.k.By A m with
  |none=>rw[c]at a;exact a
  | some e=>
    obtain⟨f,args⟩:=e;rw[c]at a;simp only at a⊢;cases b:cp f args m with
    |none=>rw[b]at a;cases a
    |some i=>rw[b]at a;rw[h _ _ _ _ b];exact a
 ·simp_all
variable{base:Nat}{f:A2->X->Option (BM×A2×X)}{P:Program}
theorem Rt(h:Y9 cp S): ∀{L:List Av} {A:A2} {m:X} {r:A2×X},Et cp base L A m=some r->Et S base L A m=some r
 |[],_,_,_,a=>a
 | _::_,_,_,_,a=>by obtain⟨e,f,b,c,d⟩:=JA a;exact OA (a1k h b) c (Rt h d)
theorem cQ{g:A2->X->Option (BM×A2×X)}(h: ∀A m r,f A m=some r->g A m=some r): ∀{n ho:Nat} {A:A2} {m:X} {r:BM×A2×X},n<=ho->Eo f n A m=some r->Eo g ho A m=some r
 |0,_,_,_,_,_,a=>by simp[Eo]at a
 |n+1,0,_,_,_,d,_=>by omega
 | n+1,ho+1,A,m,r,d,a=>by
   rcases Uq a with⟨e,i,b,c⟩|⟨b,c⟩
   ·simp only[Eo,h _ _ _ b];exact cQ h (by omega) c
   ·grind [Eo]
theorem Mp(h:Y9 cp S){n ho:Nat}(e:n<=ho): ∀{c:CF} {A:A2} {m:X} {r:BM×A2×X},Bb cp n c A m=some r->Bb S ho c A m=some r
 | .skip,_,_,_,d=>d
 | .FW ops,A,m,r,d=>by
   grind [Bb,Rt]
 | .LN c1 o E,A,m,r,d=>by
   grind [Bb,Rt]
 | .El a b,A,m,r,d=>by
   simp only[Bb]at d⊢;split at d
   ·rename_i f;rw[Mp h e f];exact Mp h e d
   ·rename_i i;rw[Mp h e d]
    simp_all
 | .HP x a b,A,m,r,d=>by
   simp only[Bb]at d⊢;split at d
   ·rename_i f;rw[if_pos f];split at d
    ·rename_i g;rw[if_pos g];exact Mp h e d
    ·rename_i g;rw[if_neg g];exact Mp h e d
   ·cases d
 | .block id c,A,m,r,d=>by
   simp only[Bb]at d⊢;split at d
   ·rename_i f;rw[Mp h e f];exact d
   ·rename_i i;rw[Mp h e d]
    simp_all
 | .loop c,A,m,r,d=>by simp only[Bb]at d⊢;exact cQ (λA m r f=>Mp h e f) e d
 | .Ao id,_,_,_,d=>d
 | .Cz,_,_,_,d=>d
theorem P7: ∀{n ho:Nat},n<=ho->Y9 (Ev P n) (Ev P ho)
 |0,_,_=> λf a m r h=>by simp[Ev]at h
 |n+1,0,b=>by omega
 | n+1,ho+1,b=> λf a m r h=>by
   simp only[Ev]at h⊢;split at h
   ·rename_i u g;split at h
    ·rename_i c;rw[if_pos c];split at h
     ·cases h
     ·rename_i e i B j d;rw[Mp (P7 (by omega:n<=ho)) (by omega:n<=ho) d]
      simp_all
     ·cases h
    ·cases h
   ·exact h
end a
section wp
variable (P:Program)
def At(f:Nat)(args:List Value)(m:X)(a7:Value->X->Prop):Prop:= ∃n r B,Ev P n f args m=some (r,B)/\a7 r B
def Az(c:CF)(A:A2)(m:X)(Q:BM->A2->X->Prop):Prop:= ∃n e a B,Bb (Ev P n) n c A m=some (e,a,B)/\Q e a B
def Bn(base:Nat)(ops:List Av)(A:A2)(m:X)(aU:A2->X->Prop):Prop:= ∃n a B,Et (Ev P n) base ops A m=some (a,B)/\aU a B
def Za(b:CF)(Q:BM->A2->X->Prop)(e:BM)(A:A2)(m:X):Prop:=match e with| .CK=>Az P b A m Q|e=>Q e A m
def Uf(id:Nat)(Q:BM->A2->X->Prop)(e:BM)(A:A2)(m:X):Prop:=match e with| .Ao a=>if a=id then Q .CK A m else Q (.Ao a) A m|e=>Q e A m
def b5(c:CF)(Q:BM->A2->X->Prop)(e:BM)(A:A2)(m:X):Prop:=match e with| .CK=>Az P (.loop c) A m Q|e=>Q e A m
def DQ(N:List GF)(a7:Value->X->Prop)(e:BM)(A:A2)(m:X):Prop:=match e with| .Ao _=>False|_=>Fi m A N=true/\a7 (Fv m A N) m
def Lw(base:Nat)(d:Option Nat)(bx:List (Operand×Operand))(E:List Av)(A:A2)(m:X)(aU:A2->X->Prop)(r:Value)(B:X):Prop:=KF A bx m B/\Bn P base E (Ar A d r) B aU
variable {P} {A:A2} {m:X} {Q:BM->A2->X->Prop}
variable{b c a:CF}{a7 A3:Value->X->Prop}{u:List GF}{ho n f t:Nat}{ops c1 L:List Av}{o:Av}{args:List Value}{B:X}{r:Value}{A0:BM->A2->X->Prop}{k:M}{V:List Operand}{x:Operand}
theorem Nn:Za P b Q .CK A m=Az P b A m Q:=rfl
theorem aAg{id:Nat}:Za P b Q (.Ao id) A m=Q (.Ao id) A m:=rfl
theorem zH:Za P b Q .Cz A m=Q .Cz A m:=rfl
theorem a8K{id:Nat}:Uf id Q .CK A m=Q .CK A m:=rfl
theorem c2{id a:Nat}:Uf id Q (.Ao a) A m=if a=id then Q .CK A m else Q (.Ao a) A m:=rfl
theorem a8X{id:Nat}:Uf id Q .Cz A m=Q .Cz A m:=rfl
theorem w5:b5 P c Q .CK A m=Az P (.loop c) A m Q:=rfl
theorem yS{id:Nat}:b5 P c Q (.Ao id) A m=Q (.Ao id) A m:=rfl
theorem a6X:b5 P c Q .Cz A m=Q .Cz A m:=rfl
theorem a3R:DQ u a7 .CK A m=(Fi m A u=true/\a7 (Fv m A u) m):=rfl
theorem aDK:DQ u a7 .Cz A m=(Fi m A u=true/\a7 (Fv m A u) m):=rfl
theorem Ts(h:n<=ho){r:BM×A2×X}(a:Bb (Ev P n) n c A m=some r):Bb (Ev P ho) ho c A m=some r:=Mp (P7 h) h a
theorem iL:Az P .skip A m Q=Q .CK A m:=by refine propext ⟨λ⟨n,e,a,B,h,q⟩=> ?_,λh=>⟨0,_,_,_,rfl,h⟩⟩;cases h;exact q
theorem im{id:Nat}:Az P (.Ao id) A m Q=Q (.Ao id) A m:=by refine propext ⟨λ⟨n,e,a,B,h,q⟩=> ?_,λh=>⟨0,_,_,_,rfl,h⟩⟩;cases h;exact q
theorem eR:Az P .Cz A m Q=Q .Cz A m:=by refine propext ⟨λ⟨n,e,a,B,h,q⟩=> ?_,λh=>⟨0,_,_,_,rfl,h⟩⟩;cases h;exact q
theorem fy:Az P (.FW ops) A m Q=Bn P m.ac ops A (Cn ops m) (Q .CK):=by
 refine propext ⟨λ⟨n,e,a,B,h,q⟩=> ?_,λ⟨n,a,B,h,q⟩=>⟨n,.CK,a,B,by simp only[Bb,h],q⟩⟩;simp only[Bb]at h;split at h
 ·rename_i b;cases h;exact⟨n,_,_,b,q⟩
 ·cases h
def UL(o:Av)(Q:BM->A2->X->Prop)(id:Nat)(b:A2)(a:X)(c:A2)(d:X):Prop:=Q .CK c ((o.k.Cj id b a).AE (d.ac-a.ac))
theorem wc{E:List Av}:Az P (.LN c1 o E) A m Q=Bn P m.ac c1 A (m.AE (c1.length+(E.length+1))) λa b=>
 HA o a b=true/\Bn P m.ac E (Ar a o.d (o.k.val (m.ac+o.AQ) a b)) (Hb b) (UL o Q (m.ac+o.AQ) a b):=by
 refine propext ⟨λ⟨n,e,p,B,h,q⟩=> ?_,λ⟨n,a,b,h,c,f,i,j,g,q⟩=>⟨max n f,.CK,i,_,by simp only[Bb,Rt (P7 (Nat.le_max_left n f)) h,c,if_true,Rt (P7 (Nat.le_max_right n f)) g],q⟩⟩;simp only[Bb]at h;split at h
 ·rename_i a b l;split at h
  ·rename_i c;split at h
   ·rename_i i j g;cases h;exact⟨n,a,b,l,c,n,_,j,g,q⟩
   ·cases h
  ·cases h
 ·cases h
theorem aw:Az P (.El a b) A m Q=Az P a A m (Za P b Q):=by
 refine propext ⟨λ⟨n,e,c,B,h,q⟩=> ?_,λ⟨n,e,c,B,h,q⟩=> ?_⟩
 ·simp only[Bb]at h;split at h
  ·rename_i d f g;exact⟨n,.CK,d,f,g,n,e,c,B,h,q⟩
  ·rename_i i;refine⟨n,e,c,B,h,?_⟩;cases e with
   |CK=>exact absurd h (i _ _)
   |Ao id=>exact q
   |Cz=>exact q
 ·cases e with
  | CK=>
    obtain⟨j,k,l,o,r,p⟩:=q;refine⟨max n j,k,l,o,?_,p⟩
    grind [Bb,Ts,Nat.le_max_right]
  |Ao id=>exact⟨n,_,c,B,by simp only[Bb,h],q⟩
  |Cz=>exact⟨n,_,c,B,by simp only[Bb,h],q⟩
theorem cF{c:Operand}:Az P (.HP c a b) A m Q=(LL (U A c)=true/\if Mw (U A c)=true then Az P a A m Q else Az P b A m Q):=by
 refine propext ⟨λ⟨n,e,f,B,h,q⟩=> ?_,λ⟨g,d⟩=> ?_⟩
 ·simp only[Bb]at h;split at h
  ·rename_i g;refine⟨g,?_⟩;split at h
   ·rename_i d;rw[if_pos d];exact⟨n,e,f,B,h,q⟩
   ·rename_i d;rw[if_neg d];exact⟨n,e,f,B,h,q⟩
  ·cases h
 ·split at d
  ·rename_i i;obtain⟨n,e,f,B,h,q⟩:=d;exact⟨n,e,f,B,by simp only[Bb,if_pos g,if_pos i,h],q⟩
  ·rename_i i;obtain⟨n,e,f,B,h,q⟩:=d;exact⟨n,e,f,B,by simp only[Bb,if_pos g,if_neg i,h],q⟩
theorem Tz{id:Nat}:Az P (.block id c) A m Q=Az P c A m (Uf id Q):=by
 refine propext ⟨λ⟨n,e,a,B,h,q⟩=> ?_,λ⟨n,e,a,B,h,q⟩=> ?_⟩
 ·simp only[Bb]at h;split at h
  ·rename_i b f g i;refine⟨n,.Ao b,f,g,i,?_⟩
   grind [c2]
  ·rename_i j;refine⟨n,e,a,B,h,?_⟩;cases e with
   |CK=>exact q
   |Ao b=>exact absurd h (j _ _ _)
   |Cz=>exact q
 ·cases e with
  |CK=>exact⟨n,.CK,a,B,by simp only[Bb,h],q⟩
  |Cz=>exact⟨n,.Cz,a,B,by simp only[Bb,h],q⟩
  | Ao b=>
    rw[c2]at q;split at q
    ·rename_i d;exact⟨n,.CK,a,B,by simp only[Bb,h,if_pos d],q⟩
    ·rename_i d;exact⟨n,.Ao b,a,B,by simp only[Bb,h,if_neg d],q⟩
theorem oF:Az P (.loop c) A m Q=Az P c A m (b5 P c Q):=by
 refine propext ⟨λ⟨n,e,a,B,h,q⟩=> ?_,λ⟨n,e,a,B,h,q⟩=> ?_⟩
 ·simp only[Bb]at h;cases n with
  |zero=>simp[Eo]at h
  | succ n=>
    rcases Uq h with⟨g,i,d,b⟩|⟨d,b⟩
    ·refine⟨n+1,.CK,g,i,d,n+1,e,a,B,?_,q⟩;simp only[Bb];exact cQ (λ_ _ _ h=>h) (by omega) b
    ·refine⟨n+1,e,a,B,d,?_⟩;cases e with
     |CK=>exact absurd rfl b
     |Ao id=>exact q
     |Cz=>exact q
 ·cases e with
  | CK=>obtain⟨f,j,k,l,b,o⟩:=q;refine⟨max n f+1,j,k,l,?_,o⟩;simp only[Bb]at b⊢;have d:Bb (Ev P (max n f+1)) (max n f+1) c A m=some (.CK,a,B):=Ts (by omega) h;simp only[Eo,d];exact cQ (λ_ _ _ h=>Ts (by omega) h) (by omega) b
  |Ao id=>exact⟨n+1,_,a,B,by simp only[Bb,Eo];rw[Ts (by omega:n<=n+1) h],q⟩
  |Cz=>exact⟨n+1,_,a,B,by simp only[Bb,Eo];rw[Ts (by omega:n<=n+1) h],q⟩
theorem DV{u:HT}(a:M1 P f=some u)(b:args.length<=u.cv):At P f args m a7=Az P u.body (CQ args) m (DQ u.Mn a7):=by
 refine propext ⟨λ⟨n,r,B,h,q⟩=> ?_,λ⟨n,e,c,B,h,q⟩=> ?_⟩
 ·cases n with
  |zero=>simp[Ev]at h
  | succ n=>
    simp only[Ev,a,if_pos b]at h;split at h
    ·cases h
    ·rename_i e c j g i;split at h
     ·rename_i d;cases h;refine⟨n,e,c,B,i,?_⟩;cases e with
      |CK=>exact⟨d,q⟩
      |Cz=>exact⟨d,q⟩
      |Ao id=>exact absurd rfl (g id)
     ·cases h
    ·cases h
 ·cases e with
  |CK=>exact⟨n+1,_,B,by simp only[Ev,a,if_pos b,h,q.1,if_true],q.2⟩
  |Cz=>exact⟨n+1,_,B,by simp only[Ev,a,if_pos b,h,q.1,if_true],q.2⟩
  |Ao id=>exact q.elim
def HM(P:Program)(f:Nat)(args:List Value)(m:X)(r:Value)(B:X):Prop:= ∃n,Ev P n f args m=some (r,B)
theorem HM.wp(h:HM P f args m r B):At P f args m a7=a7 r B:=by
 obtain⟨n,a⟩:=h;refine propext ⟨λ⟨ho,c,d,b,q⟩=> ?_,λq=>⟨n,r,B,a,q⟩⟩;have e:=P7 (Nat.le_max_left n ho) _ _ _ _ a;have g:=P7 (Nat.le_max_right n ho) _ _ _ _ b
 simp_all
theorem HM.K4(h:At P f args m λa b=>a=r/\b=B):HM P f args m r B:=by obtain⟨n,a,b,c,rfl,rfl⟩:=h;exact⟨n,c⟩
theorem At.AD(h:At P f args m a7)(a: ∀r B,a7 r B->A3 r B):At P f args m A3:=by obtain⟨n,r,B,b,q⟩:=h;exact⟨n,r,B,b,a _ _ q⟩
theorem Az.AD(h:Az P c A m Q)(b: ∀e a B,Q e a B->A0 e a B):Az P c A m A0:=by obtain⟨n,e,a,B,d,q⟩:=h;exact⟨n,e,a,B,d,b _ _ _ q⟩
variable {aU:A2->X->Prop} {base J:Nat} {E:List Av} {d:Option Nat} {g:Option (Nat×Bool)} {bx:List (Operand×Operand)}
theorem kZ:Bn P base [] A m aU=aU A m:=by refine propext ⟨λ⟨n,a,B,h,q⟩=> ?_,λh=>⟨0,_,_,rfl,h⟩⟩;cases h;exact q
theorem a2P(h:n<=ho){r:A2×X}(a:Et (Ev P n) base L A m=some r):Et (Ev P ho) base L A m=some r:=Rt (P7 h) a
theorem FT(j:k.FD=false):Bn P base (⟨J,d,none,k,bx⟩::E) A m aU=(k.ok A m=true/\Cq A bx=true/\Bn P base E (Ar A d (k.val (base+J) A m)) (k.Cj (base+J) A m) aU):=by
 have a:k.By A m=none:=L4 j;refine propext ⟨λ⟨n,b,B,h,q⟩=> ?_,λ⟨c,g,n,b,B,f,q⟩=> ?_⟩
 ·obtain⟨p,r,c,g,f⟩:=JA h;obtain⟨l,e⟩:=cW (o:=⟨J,d,none,k,bx⟩) rfl a c;cases e;have i:=g rfl;simp only[a]at i;exact⟨l,i,n,b,B,f,q⟩
 ·refine⟨n,b,B,OA (rG (o:=⟨J,d,none,k,bx⟩) rfl a c) (λ_=> ?_) f,q⟩
  simp_all
theorem YZ{b:Bool}:Bn P base (⟨J,d,some (t,b),k,bx⟩::E) A m aU=if Bl A (some (t,b))=true then Bn P base (⟨J,d,none,k,bx⟩::E) A m aU else Bn P base E (Ar A d undef) m aU:=by
 split
 ·rename_i f;have i: ∀cp:Callee,DJ cp base ⟨J,d,some (t,b),k,bx⟩ A m=DJ cp base ⟨J,d,none,k,bx⟩ A m:= λcp=>by
   grind [DJ,Bl]
  have j: ∀B,I7 ⟨J,d,some (t,b),k,bx⟩ A m B↔I7 ⟨J,d,none,k,bx⟩ A m B:= λB=>⟨λh _=>h f,λh _=>h rfl⟩;refine propext ⟨λ⟨n,a,B,h,q⟩=> ?_,λ⟨n,a,B,h,q⟩=> ?_⟩
  ·obtain⟨l,p,c,g,e⟩:=JA h;exact⟨n,a,B,OA (by rw[<-i];exact c) ((j _).1 g) e,q⟩
  ·obtain⟨l,p,c,g,e⟩:=JA h;exact⟨n,a,B,OA (by rw[i];exact c) ((j _).2 g) e,q⟩
 ·rename_i f;have r:Bl A (some (t,b))=false:=(by simpa using f);refine propext ⟨λ⟨n,a,B,h,q⟩=> ?_,λ⟨n,a,B,h,q⟩=> ?_⟩
  ·obtain⟨l,p,c,g,e⟩:=JA h;rw[Pb (o:=⟨J,d,some (t,b),k,bx⟩) r]at c;cases c;exact⟨n,a,B,e,q⟩
  ·exact⟨n,a,B,OA (Pb (o:=⟨J,d,some (t,b),k,bx⟩) r) (λh=>absurd h f) h,q⟩
theorem ay(a:k.By A m=some (f,args)):Bn P base (⟨J,d,none,k,bx⟩::E) A m aU=At P f args m (Lw P base d bx E A m aU):=by
 refine propext ⟨λ⟨n,j,B,h,q⟩=> ?_,λ⟨n,r,l,h,e,b,p,g,c,q⟩=> ?_⟩
 ·obtain⟨w,l,e,c,s⟩:=JA h;obtain⟨v,g,t,u⟩:=S0 (o:=⟨J,d,none,k,bx⟩) rfl a e;cases u;have i:=c rfl;simp only[a]at i;exact⟨n,v,_,t,i,n,j,B,s,q⟩
 ·refine⟨max n b,p,g,OA (V9 (o:=⟨J,d,none,k,bx⟩) rfl a (P7 (Nat.le_max_left n b) _ _ _ _ h)) (λ_=> ?_) (a2P (Nat.le_max_right n b) c),q⟩
  simp_all
theorem fO:Bn P base (⟨J,d,none,.Kg f V,bx⟩::E) A m aU=At P f (V.map (U A)) m (Lw P base d bx E A m aU):=ay rfl
theorem lB{first a:Array Value}(h:U A x= .func (.func f) first a):
 Bn P base (⟨J,d,none,.JV x V,bx⟩::E) A m aU=At P f (first.toList++V.map (U A)++a.toList) m (Lw P base d bx E A m aU):=ay (by simp only[M.By,h])
theorem V1:Lw P base d [] E A m aU r B=Bn P base E (Ar A d r) B aU:=by simp[Lw,KF]
theorem a70:Cq A []=true:=rfl
end wp
theorem BF.empty{aH:Nat}:BF aH (λ_=>none) ⟨0,λ_=>none,λ_=>none⟩ w where
 Gc:= λ_ _ h=>by cases h
 Gh:= λ_ _ h=>by cases h
 GK:= λb x h=>by unfold X.Y at h;split at h<;>cases h
 LQ:= λb x a c l d h=>by unfold X.Y at h;split at h<;>cases h
 NO:= λ_ _ h=>by cases h
 maps:= λb es h=>by simp only[X.Bs,X.Y,Ks,if_false]at h;cases h
 Nw:= λb x l h=>by unfold X.Y at h;split at h<;>cases h
open Go
def L9(s:ByteArray)(i:Nat):Int:=((s.data.toList.getD i 0).toNat:Nat)
def uf(T:GU)(m:X)(x k:Value):Bool:=match FC m x with
 |some es=>ET T k es
 |none=>false
def v5(zero:Value)(o:Bool)(m:X)(x k:Value):Value:=
 if o then .tuple #[((FC m x).bind (Cy k)).getD zero,.bool ((FC m x).bind (Cy k)).isSome]else((FC m x).bind (Cy k)).getD zero
def tU(T:GU)(m:X)(x k v:Value):Bool:=match x with
 | .map (some b)=>(match m.Bs b with
   |some es=>ET T k es&&F v
   |none=>false)
 |_=>false
def vx(m:X)(x k v:Value):X:=m.Cw (MX x) (Dy k v ((m.Bs (MX x)).getD []))
variable{T:GU}{k z v:Value}{o:Bool}{c:HT}{W:Type}
@[simp] theorem aJZ:uf T m (.map (some b)) k=(match m.Bs b with|some es=>ET T k es|none=>false):=rfl
@[simp] theorem aKx:v5 z o m (.map (some b)) k=if o then .tuple #[((m.Bs b).bind (Cy k)).getD z,.bool ((m.Bs b).bind (Cy k)).isSome]else((m.Bs b).bind (Cy k)).getD z:=rfl
@[simp] theorem aIL:tU T m (.map (some b)) k v=(match m.Bs b with|some es=>ET T k es&&F v|none=>false):=rfl
@[simp] theorem aDu:vx m (.map (some b)) k v=m.Cw b (Dy k v ((m.Bs b).getD [])):=rfl
attribute [simp] iL im eR fy aw cF Tz Nn aAg zH a8K c2 a8X w5 yS a6X a3R aDK
 kZ YZ fO V1 a70
section
variable {P:Program} {base J:Nat} {d:Option Nat} {E:List Av} {A:A2} {m:X} {aU:A2->X->Prop} {bx:List (Operand×Operand)}
@[simp] theorem aHP(x:Operand):Bn P base (⟨J,d,none,.FA x,bx⟩::E) A m aU=(Cq A bx=true/\Bn P base E (Ar A d (U A x)) (m) aU):=by rw[FT rfl];simp only[M.ok,true_and];try rfl
@[simp] theorem aLl(c a b:Operand):Bn P base (⟨J,d,none,.SE c a b,bx⟩::E) A m aU=(LL (U A c)=true/\Cq A bx=true/\Bn P base E (Ar A d (if Mw (U A c)=true then U A a else U A b)) (m) aU):=by rw[FT rfl];rfl
@[simp] theorem aE6(x:Operand):Bn P base (⟨J,d,none,.Lj x,bx⟩::E) A m aU=(OQ (U A x)=true/\Cq A bx=true/\Bn P base E (Ar A d (U A x)) (m) aU):=by rw[FT rfl];rfl
@[simp] theorem aI4(z:List Value):Bn P base (⟨J,d,none,.It z,bx⟩::E) A m aU=(Cq A bx=true/\Bn P base E (Ar A d (.pointer (some ⟨base+J,0,none⟩))) (m.A1 (base+J) (some ⟨z,true⟩)) aU):=by rw[FT rfl];simp only[M.ok,true_and];try rfl
@[simp] theorem aLM(x:Operand):Bn P base (⟨J,d,none,.Ja x,bx⟩::E) A m aU=(D (U A x)=true/\Cq A bx=true/\Bn P base E (Ar A d (.pointer (some ⟨base+J,0,none⟩))) (m.A1 (base+J) (some ⟨H (U A x),true⟩)) aU):=by rw[FT rfl];rfl
@[simp] theorem aFC(z:List Value)(ps:List (Nat×Nat×Operand)):Bn P base (⟨J,d,none,.PC z ps,bx⟩::E) A m aU=(Ia z A ps=true/\Cq A bx=true/\Bn P base E (Ar A d (.agg (GS z A ps).toArray)) (m) aU):=by rw[FT rfl];rfl
@[simp] theorem aHA(z n:Nat)(cs:List Value)(ps:List (Nat×Nat×Operand)):Bn P base (⟨J,d,none,.Hg z n cs ps,bx⟩::E) A m aU=(Ia cs A ps=true/\Cq A bx=true/\Bn P base E (Ar A d (.slice (some ⟨base+J,0,none⟩) n z)) (m.A1 (base+J) (some ⟨GS cs A ps,true⟩)) aU):=by rw[FT rfl];rfl
@[simp] theorem aEj(O:Bool)(n:Nat)(x:Operand):Bn P base (⟨J,d,none,.EO O n x,bx⟩::E) A m aU=((Bj m (U A x) n&&(O||decide (n=1)))=true/\Cq A bx=true/\Bn P base E (Ar A d (Co m O n (U A x))) (m) aU):=by rw[FT rfl];rfl
@[simp] theorem aJa(n:Nat)(x v:Operand):Bn P base (⟨J,d,none,.store n x v,bx⟩::E) A m aU=((Bj m (U A x) n&&Gi m (U A x)&&D (U A v)&&decide ((H (U A v)).length=n))=true/\Cq A bx=true/\Bn P base E (Ar A d (undef)) (Fj m (U A x) (H (U A v))) aU):=by rw[FT rfl];rfl
@[simp] theorem aEX(op:BinOp)(c:Nr)(x y:Operand):Bn P base (⟨J,d,none,.Jf op c x y,bx⟩::E) A m aU=(Kk op c (U A x) (U A y)=true/\Cq A bx=true/\Bn P base E (Ar A d (Fs op (U A x) (U A y))) (m) aU):=by rw[FT rfl];rfl
@[simp] theorem aJU(op:UnOp)(x:Operand):Bn P base (⟨J,d,none,.T9 op x,bx⟩::E) A m aU=(NZ op (U A x)=true/\Cq A bx=true/\Bn P base E (Ar A d (QU op (U A x))) (m) aU):=by rw[FT rfl];rfl
@[simp] theorem aFh(z:Nat)(x:Operand)(a b:Option Operand):Bn P base (⟨J,d,none,.OL z x a b,bx⟩::E) A m aU=((M.OL z x a b).ok A m=true/\Cq A bx=true/\Bn P base E (Ar A d (if a.isNone&&Kp b then M5 (U A x)else Io (U A x) z (Cm A a 0).toNat (Cm A b (DS (U A x))).toNat)) (m) aU):=by rw[FT rfl];try rfl
@[simp] theorem aFE(z bytes:Nat)(a:List Value)(l c:Operand):Bn P base (⟨J,d,none,.IZ z bytes a l c,bx⟩::E) A m aU=((M.IZ z bytes a l c).ok A m=true/\Cq A bx=true/\Bn P base E (Ar A d (.slice (some ⟨base+J,0,none⟩) (Bk (U A l)).toNat z)) (m.A1 (base+J) (some ⟨(List.replicate (Bk (U A l)).toNat a).flatten,true⟩)) aU):=by rw[FT rfl];try rfl
@[simp] theorem aFI(off:Nat)(x:Operand):Bn P base (⟨J,d,none,.H0 off x,bx⟩::E) A m aU=(JG (U A x)=true/\Cq A bx=true/\Bn P base E (Ar A d (MS (U A x) off)) (m) aU):=by rw[FT rfl];rfl
@[simp] theorem aKy(z:Nat)(x i:Operand):Bn P base (⟨J,d,none,.He z x i,bx⟩::E) A m aU=((G9 z (U A x)&&Bp (U A i)&&decide (0<=Bk (U A i))&&decide (Bk (U A i)<DS (U A x)))=true/\Cq A bx=true/\Bn P base E (Ar A d (PE (U A x) z (Bk (U A i)))) (m) aU):=by rw[FT rfl];rfl
@[simp] theorem aIq(x i:Operand):Bn P base (⟨J,d,none,.VT x i,bx⟩::E) A m aU=((Fp (U A x)&&Bp (U A i)&&decide (0<=Bk (U A i))&&decide (Bk (U A i)<DS (U A x)))=true/\Cq A bx=true/\Bn P base E (Ar A d (.int .u8 (L9 (M9 (U A x)) (Bk (U A i)).toNat))) (m) aU):=by rw[FT rfl];rfl
@[simp] theorem aHp(i:Nat)(x:Operand):Bn P base (⟨J,d,none,.ext i x,bx⟩::E) A m aU=(SK (U A x) i=true/\Cq A bx=true/\Bn P base E (Ar A d (RH (U A x) i)) (m) aU):=by rw[FT rfl];rfl
@[simp] theorem aK2(x:Operand):Bn P base (⟨J,d,none,.W4 x,bx⟩::E) A m aU=(Fp (U A x)=true/\Cq A bx=true/\Bn P base E (Ar A d (.int .i64 (DS (U A x)))) (m) aU):=by rw[FT rfl];rfl
@[simp] theorem aIs(x:Operand):Bn P base (⟨J,d,none,.NS x,bx⟩::E) A m aU=(KP (U A x)=true/\Cq A bx=true/\Bn P base E (Ar A d (.int .i64 (DS (U A x)))) (m) aU):=by rw[FT rfl];rfl
@[simp] theorem aKz(z bytes:Nat)(x y:Operand):Bn P base (⟨J,d,none,.app z bytes x y,bx⟩::E) A m aU=((M.app z bytes x y).ok A m=true/\Cq A bx=true/\Bn P base E (Ar A d ((M.app z bytes x y).val (base+J) A m)) ((M.app z bytes x y).Cj (base+J) A m) aU):=by rw[FT rfl];try rfl
@[simp] theorem aLJ(a:Bool)(x:Operand)(xs:List Operand):Bn P base (⟨J,d,none,.QG a x xs,bx⟩::E) A m aU=((Bp (U A x)&&xs.all λy=>Bp (U A y))=true/\Cq A bx=true/\Bn P base E (Ar A d (xs.foldl (λb y=>if a then Ha b (U A y)else Hf b (U A y)) (U A x))) (m) aU):=by rw[FT rfl];rfl
@[simp] theorem aK5(t:TypeId)(x:Operand):Bn P base (⟨J,d,none,.Tx t x,bx⟩::E) A m aU=(Cq A bx=true/\Bn P base E (Ar A d (.iface t (U A x))) (m) aU):=by rw[FT rfl];simp only[M.ok,true_and];try rfl
@[simp] theorem aGo(t:TypeId)(x:Operand):Bn P base (⟨J,d,none,.Vy t x,bx⟩::E) A m aU=(VF t (U A x)=true/\Cq A bx=true/\Bn P base E (Ar A d (eL (U A x))) (m) aU):=by rw[FT rfl];rfl
@[simp] theorem aEZ(fn:Fn)(fs cs:List Operand):Bn P base (⟨J,d,none,.Qv fn fs cs,bx⟩::E) A m aU=(Cq A bx=true/\Bn P base E (Ar A d (.func fn (fs.map (U A)).toArray (cs.map (U A)).toArray)) (m) aU):=by rw[FT rfl];simp only[M.ok,true_and];try rfl
variable{v a0 bG bW a3 a4 fW jZ:Value}{t f n:Nat}{l:List Value}{b O:Bool}{r:GF}
@[simp] theorem aLk{t a:TypeId}:VF t (.iface a v)=decide (a=t):=rfl
@[simp] theorem aF1{t:TypeId}:eL (.iface t v)=v:=rfl
@[simp] theorem aM3:U A (.tmp t)=A t:=rfl
@[simp] theorem aJk:U A (.const v)=v:=rfl
@[simp] theorem aFG:U A (.func f)= .func (.func f) #[] #[]:=rfl
@[simp] theorem aJN:Ar A (some t) v=Fg A t v:=rfl
@[simp] theorem aHk:Ar A none v=A:=rfl
@[simp] theorem a4P{a:Nat}:Fg A t v a=if a=t then v else A a:=rfl
@[simp] theorem aDk:CQ (a0::l) 0=a0:=rfl
@[simp] theorem aFF:CQ (a0::bG::l) 1=bG:=rfl
@[simp] theorem aIn:CQ (a0::bG::bW::l) 2=bW:=rfl
@[simp] theorem aDn:CQ (a0::bG::bW::a3::l) 3=a3:=rfl
@[simp] theorem aJn:CQ (a0::bG::bW::a3::a4::l) 4=a4:=rfl
@[simp] theorem aIa:CQ (a0::bG::bW::a3::a4::fW::l) 5=fW:=rfl
@[simp] theorem aFz:CQ (a0::bG::bW::a3::a4::fW::jZ::l) 6=jZ:=rfl
@[simp] theorem aHe{a:Value}:CQ (a0::bG::bW::a3::a4::fW::jZ::a::l) 7=a:=rfl
def fS(v:Value)(b:Bool):Bool:=match v with| .bool c=>c==b|_=>false
@[simp] theorem aFY{c:Bool}:fS (.bool c) b=(c==b):=rfl
@[simp] theorem aJ5:fS undef b=false:=rfl
@[simp] theorem aK8:Bl A (some (t,b))=fS (A t) b:=rfl
@[simp] theorem aGX:Fv m A [r]=J5 m A r:=rfl
@[simp] theorem aFZ:Fv m A []= .tuple #[]:=rfl
@[simp] theorem aKd{s:GF}{l:List GF}:Fv m A (r::s::l)= .tuple ((r::s::l).map (J5 m A)).toArray:=rfl
@[simp] theorem aL6:J5 m A (.AH t)=A t:=rfl
@[simp] theorem aDo:J5 m A (.DE t O n)=Co m O n (A t):=rfl
@[simp] theorem aEG{l:List GF}:Fi m A l=l.all (IX m A):=rfl
@[simp] theorem aLx:IX m A (.AH t)=true:=rfl
@[simp] theorem aEy:IX m A (.DE t O n)=(Bj m (A t) n&&(O||decide (n=1))):=rfl
@[simp] theorem aDb{l:List Av}:Cn l m=if l.any (λo=>o.k.Bv)=true then m.AE l.length else m:=by unfold Cn;rfl
end
attribute [simp] Mw LL Bk Bp M9 H CV I D OQ JG MS We Fp RH SK Xt U1 KA Cm Hx Hf Ha R3 byteOf Ia GS
 Kk Fs T6 X1 PA Vp MF IE J0 QU NZ K6 Og Fz Dn
attribute [simp] ET DX Cy Dy F
@[simp] theorem aFt:M.Kz.Bv=true:=rfl
@[simp] theorem aGc(a:List Value):(M.It a).Bv=true:=rfl
@[simp] theorem aG9(a:Operand):(M.Ja a).Bv=true:=rfl
@[simp] theorem aIj(a b:Nat)(c:List Value)(d:List (Nat×Nat×Operand)):(M.Hg a b c d).Bv=true:=rfl
@[simp] theorem aHs(a:Operand):(M.Mz a).Bv=true:=rfl
@[simp] theorem aET(a b:Nat)(c:List Value)(d e:Operand):(M.IZ a b c d e).Bv=true:=rfl
@[simp] theorem aLy(a b:Nat)(c:List Value)(d e:Operand):(M.KZ a b c d e).Bv=true:=rfl
@[simp] theorem aKa(a b:Nat)(c d:Operand):(M.app a b c d).Bv=true:=rfl
@[simp] theorem aGb(a:Operand):(M.cr a).Bv=false:=rfl
@[simp] theorem aHM(a:List Value)(b:Operand):(M.Ca a b).Bv=false:=rfl
@[simp] theorem aHB(a:GU)(b:Value)(c:Bool)(d e:Operand):(M.LS a b c d e).Bv=false:=rfl
@[simp] theorem aFu(a:GU)(b c d:Operand):(M.Ki a b c d).Bv=false:=rfl
@[simp] theorem aGj(a b:Nat)(c:Operand):(M.NH a b c).Bv=false:=rfl
@[simp] theorem aFX(a:Nat)(b:Operand)(c:Option Operand)(d e:Operand):(M.S3 a b c d e).Bv=false:=rfl
@[simp] theorem aDy(a:TypeId)(b:Operand):(M.Tx a b).Bv=false:=rfl
@[simp] theorem aKE(a:TypeId)(b:Operand):(M.Vy a b).Bv=false:=rfl
@[simp] theorem aG8(a:List (TypeId×Nat×Option (Bool×Nat)))(b:Operand)(c:List Operand):(M.JN a b c).Bv=false:=rfl
@[simp] theorem aH6(a:Operand):(M.FA a).Bv=false:=rfl
@[simp] theorem aHb(a b c:Operand):(M.SE a b c).Bv=false:=rfl
@[simp] theorem aFM(a:Operand):(M.Lj a).Bv=false:=rfl
@[simp] theorem aIb(a:List Value)(b:List (Nat×Nat×Operand)):(M.PC a b).Bv=false:=rfl
@[simp] theorem aH5(a:Bool)(b:Nat)(c:Operand):(M.EO a b c).Bv=false:=rfl
@[simp] theorem aLK(a:Nat)(b c:Operand):(M.store a b c).Bv=false:=rfl
@[simp] theorem aG5(a:BinOp)(b:Nr)(c d:Operand):(M.Jf a b c d).Bv=false:=rfl
@[simp] theorem aFd(a:Bool)(b:List Iu)(c d:Operand):(M.Oy a b c d).Bv=false:=rfl
@[simp] theorem aJ3(a:UnOp)(b:Operand):(M.T9 a b).Bv=false:=rfl
@[simp] theorem aER(a:IntKind)(b:Operand):(M.VB a b).Bv=false:=rfl
@[simp] theorem aF0(a:Operand):(M.Z6 a).Bv=false:=rfl
@[simp] theorem aDt(a:Operand):(M.Lr a).Bv=false:=rfl
@[simp] theorem aHw(a:Operand)(b c:Option Operand):(M.c5 a b c).Bv=false:=rfl
@[simp] theorem aLi(a:Nat)(b:Operand)(c d:Option Operand):(M.OL a b c d).Bv=false:=rfl
@[simp] theorem aF4(a:Nat)(b:Operand):(M.H0 a b).Bv=false:=rfl
@[simp] theorem aFl(a:Bool)(b c:Nat)(d:Operand):(M.field a b c d).Bv=false:=rfl
@[simp] theorem aLs(a:Nat)(b c:Operand):(M.He a b c).Bv=false:=rfl
@[simp] theorem aGU(a b:Nat)(c d:Operand):(M.QX a b c d).Bv=false:=rfl
@[simp] theorem aHx(a b:Operand):(M.VT a b).Bv=false:=rfl
@[simp] theorem aIl(a:Nat)(b:Operand):(M.ext a b).Bv=false:=rfl
@[simp] theorem aGO(a:Operand):(M.W4 a).Bv=false:=rfl
@[simp] theorem aKq(a:Operand):(M.NS a).Bv=false:=rfl
@[simp] theorem aE4(a:Bool)(b:Operand)(c:List Operand):(M.QG a b c).Bv=false:=rfl
@[simp] theorem aLm(a:Fn)(b c:List Operand):(M.Qv a b c).Bv=false:=rfl
@[simp] theorem aDa(a:Nat)(b:List Operand):(M.Kg a b).Bv=false:=rfl
@[simp] theorem aHn(a:Operand)(b:List Operand):(M.JV a b).Bv=false:=rfl
abbrev L6(n:Nat):Operand:= .tmp n
abbrev a80(i d x:Nat):Av:=⟨i,some d,none,.FA (.tmp x),[]⟩
abbrev a8y(i d:Nat)(n:Int):Av:=⟨i,some d,none,.FA (.const (.int .i64 n)),[]⟩
abbrev yP(i d:Nat)(b:Bool):Av:=⟨i,some d,none,.FA (.const (.bool b)),[]⟩
abbrev a2t(i d x:Nat):Av:=⟨i,some d,none,.EO false 1 (.tmp x),[]⟩
abbrev a0k(i d n x:Nat):Av:=⟨i,some d,none,.EO true n (.tmp x),[]⟩
abbrev a6D(i d n x:Nat):Av:=⟨i,some d,none,.H0 n (.tmp x),[]⟩
abbrev a6W(i d:Nat)(op:BinOp)(x y:Operand):Av:=⟨i,some d,none,.Jf op .Q2 x y,[]⟩
abbrev a5H(i d z x y:Nat):Av:=⟨i,some d,none,.He z (.tmp x) (.tmp y),[]⟩
abbrev aAR(i d x:Nat):Av:=⟨i,some d,none,.NS (.tmp x),[]⟩
abbrev a6l(i d n x:Nat):Av:=⟨i,some d,none,.ext n (.tmp x),[]⟩
abbrev a7e(i d f:Nat)(V:List Operand):Av:=⟨i,some d,none,.Kg f V,[]⟩
abbrev a2j(i n x y:Nat):Av:=⟨i,none,none,.store n (.tmp x) (.tmp y),[]⟩
abbrev aD0(i d:Nat)(k:M):Av:=⟨i,some d,none,k,[]⟩
abbrev a0N(i d j:Nat)(b:Bool)(k:M):Av:=⟨i,some d,some (j,b),k,[]⟩
abbrev a9i(i d:Nat)(k:M)(bx:List (Operand×Operand)):Av:=⟨i,some d,none,k,bx⟩
abbrev a5e(i:Nat)(k:M):Av:=⟨i,none,none,k,[]⟩
abbrev AV(P:Program)(f:Nat)(c:HT)(h:M1 P f=some c:=by kernel_rfl):{c:HT//M1 P f=some c}:=⟨c,h⟩
@[simp] theorem aFP{P:Program}{f:Nat}{h:M1 P f=some c}:(AV P f c h).1=c:=rfl
def A8:CF->Nat->CF
 | .El a b,p=>if p=1 then .El a b else if p%2=0 then A8 a (p/2)else A8 b (p/2)
 | .HP c a b,p=>if p=1 then .HP c a b else if p%2=0 then A8 a (p/2)else A8 b (p/2)
 | .block i a,p=>if p=1 then .block i a else A8 a (p/2)
 | .loop a,p=>if p=1 then .loop a else A8 a (p/2)
 |c,_=>c
def AA(p:Nat)(x:CF):CF->CF
 | .El a b=>if p=1 then x else if p%2=0 then .El (AA (p/2) x a) b else .El a (AA (p/2) x b)
 | .HP c a b=>if p=1 then x else if p%2=0 then .HP c (AA (p/2) x a) b else .HP c a (AA (p/2) x b)
 | .block i a=>if p=1 then x else .block i (AA (p/2) x a)
 | .loop a=>if p=1 then x else .loop (AA (p/2) x a)
 |c=>if p=1 then x else c
abbrev G(a:W)(h:{b:W//a=b}:=by exact⟨_,by conv=>lhs;reduce⟩):W:=h.1
@[simp↓] theorem aJi{a x:W}{h:a=x}:G a ⟨x,h⟩=x:=rfl
abbrev AU(P:Program)(f:Nat):={c:HT//M1 P f=some c}
abbrev AW{P:Program}{f:Nat}(h:AU P f:=by exact⟨_,by conv=>lhs;reduce⟩):AU P f:=h
attribute [simp] L6 a80 a8y yP a2t a0k a6D a6W a5H aAR a6l a7e a2j aD0 a0N a9i a5e
end Go.DI
