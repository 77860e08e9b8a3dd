/- A part of the proof. -/
import Derived.Test.YtmmkkggfmigppaaGreatRows
import Derived.Test.YtmmkkggfmigppaaGreatZdk
set_option linter.all false
set_option maxRecDepth 20000
set_option maxHeartbeats 16000000
noncomputable section
namespace Go.DI
open Go Go.RowKit
def KT(m:X):C0:= λb=>(m.Y b).map (·.cells)
variable {P:Program} {u:C0} {m B:X}
theorem yA(m:X):Ir (KT m) m:= λb cs h=>by
 simp only[KT]at h;cases a:m.Y b with
 |none=>rw[a]at h;cases h
 |some x=>rw[a]at h;cases h;exact⟨x.own,rfl⟩
variable{b j o z base:Nat}{cs ts ys F H:List Value}{r x y v:Value}{s:CT}{py:List CT}{aU wJ:Value->X->Prop}
theorem il{w:Bool}(h:m.Y b=some ⟨cs,w⟩):KT m b=some cs:=by simp[KT,h]
theorem ua(h:Ir u m):Ce u (KT m):= λb cs hb=>by obtain⟨w,a⟩:=h b cs hb;exact il a
abbrev bh(m:X)(v a:Value):Prop:=AY (KT m) Ea v a
abbrev WW(m:X)(a b:List Value):Prop:=AJ (KT m) Ea a b
theorem aAo{f:Nat}(h: ∀m a,WW m ts a->At P f a m λc B=>(m.ac<=B.ac/\ ∀b,b<m.ac->B.Y b=m.Y b)/\bh B r c):AO P f ts r:= λu m a d i=>by refine(h m a (i.AD (ua d) (CA.refl _))).AD λc B j=> ?_;obtain⟨⟨k,e⟩,l⟩:=j;exact⟨k,e,KT B,λb cs hb=>by obtain⟨w,g⟩:=d b cs hb;exact il (by rw[e b (E g)];exact g),yA B,l⟩
theorem AO.below{f:Nat}{a:List Value}(h:AO P f ts r)(d:WW m ts a):At P f a m λc B=>(m.ac<=B.ac/\ ∀b,b<m.ac->B.Y b=m.Y b)/\bh B r c:=by refine(h (KT m) m a (yA m) d).AD λc B e=> ?_;obtain⟨g,i,l,n,j,k⟩:=e;exact⟨⟨g,i⟩,k.AD (ua j) (CA.refl _)⟩
theorem AJ.Gx{K:Be}(h:AJ u K [x] ys): ∃y,ys=[y]/\AY u K x y:=by
 match ys,h with
 |[y],h=>exact⟨y,rfl,h.2 0 x y rfl rfl⟩
 |[],h=>simp[AJ]at h
 |_::_::_,h=>simp[AJ]at h
theorem AJ.eS{K:Be}(h:AJ u K [x,y] F): ∃a b,F=[a,b]/\AY u K x a/\AY u K y b:=by
 match F,h with
 |[a,b],h=>exact⟨a,b,rfl,h.2 0 x a rfl rfl,h.2 1 y b rfl rfl⟩
 |[],h=>simp[AJ]at h
 |[_],h=>simp[AJ]at h
 |_::_::_::_,h=>simp[AJ]at h
theorem AJ.a7Q{K:Be}{z:Value}(h:AJ u K [x,y,z] F): ∃a b c,F=[a,b,c]/\AY u K x a/\AY u K y b/\AY u K z c:=by
 match F,h with
 |[a,b,c],h=>exact⟨a,b,c,rfl,h.2 0 x a rfl rfl,h.2 1 y b rfl rfl,h.2 2 z c rfl rfl⟩
 |[],h=>simp[AJ]at h
 |[_],h=>simp[AJ]at h
 |[_,_],h=>simp[AJ]at h
 |_::_::_::_::_,h=>simp[AJ]at h
def ME:(s:CT)->s.Fy->List Value
 | .int k,n=>[.int k n]
 | .bool,b=>[.bool b]
 | .str,s=>[.string s]
 | .slice e,l=>[O ((Iz l).map (ME e)) e.cells]
 | .unit,_=>[]
 | .Eb a b,d=>ME a d.1++ME b d.2
theorem aP: ∀(s:CT) (d:s.Fy),(ME s d).length=s.cells
 | .int _,_=>rfl
 | .bool,_=>rfl
 | .str,_=>rfl
 | .slice _,_=>rfl
 | .unit,_=>rfl
 | .Eb a b,d=>by simp[ME,aP a,aP b,CT.cells]
theorem bg: ∀{s:CT} {cs:List Value} {d:s.Fy},Ju m s cs d->WW m (ME s d) cs
 | .int k,cs,d,h=>by rw[h.1];exact AJ.cons (.BP rfl) AJ.nil
 | .bool,cs,d,h=>by have:cs=[.bool d]:=h;rw[this];exact AJ.cons (.BP rfl) AJ.nil
 | .str,cs,d,h=>by rw[h.1];exact AJ.cons (.BP rfl) AJ.nil
 | .unit,cs,d,h=>by have:cs=[]:=h;rw[this];exact AJ.nil
 | .Eb a b,cs,d,h=>by obtain⟨E,F,rfl,A,f⟩:=h;exact(bg A).JU (bg f)
 | .slice e,cs,l,h=>by
   simp only[ME];rcases h with⟨rfl,h⟩|⟨b,cb,rfl,f,G,n,o⟩
   ·rw[h];exact AJ.cons (.OW rfl) AJ.nil
   ·refine AJ.cons ?_ AJ.nil;have p: ∀r∈cb,r.length=e.cells:= λr c=>by
     obtain⟨i,g,rfl⟩:=E5 c;exact(o i _ _ (AP g) (AP (by omega))).len
    have B:cb.flatten.length=cb.length*e.cells:=LV p;have:=AY.QI (u:=KT m) (K:=Ea) (v:=O ((Iz l).map (ME e)) e.cells) (b:=b) (off:=0) (z:=e.cells) (cs:=cb.flatten) (cb:=(Iz l).map (ME e)) rfl (il f) (by rw[B,n,E9];omega) (λi r c=> ?_) λi j r x y c q H=> ?_
    ·simpa using this
    ·grind [aP]
    ·rw[GX,KH]at c;obtain⟨I,t,rfl⟩:=c;have g:=(Ae.1 t).1;have w:i<cb.length:=(by rw[n];exact g);have C:=o i _ _ (AP w) t;refine(bg C).2 j x y q ?_;have D:=(Ae.1 q).1;rw[aP]at D;have J:=oy p (AP w)
     grind
def Z1(s:CT)(d:s.Fy):Value:=if s.isAgg then .agg (ME s d).toArray else(ME s d).headD undef
theorem a8r{d:s.Fy}(h:gC m s v d):bh m (Z1 s d) v:=by
 obtain⟨cs,a,rfl⟩:=h;have:=bg a;unfold Z1;split
 ·exact this.agg
 ·exact this.headD
inductive W1:List CT->List Value->Prop
 |nil:W1 [] []
 |cons {s:CT} {d:s.Fy} {py:List CT} {a:List Value} (ok:R9 s d) (b:W1 py a):W1 (s::py) (Z1 s d::a)
theorem ya(h:Od m py H): ∃ts,W1 py ts/\WW m ts H:=by
 induction h with
 |nil=>exact⟨[],.nil,AJ.nil⟩
 | cons h f b=>obtain⟨ts,c,d⟩:=b;obtain⟨cs,a,e⟩:=h;exact⟨_,.cons a.ok c,AJ.cons (a8r ⟨cs,a,e⟩) d⟩
theorem a43{f:Nat}(h: ∀ts,W1 py ts->AO P f ts (.bool true))(m:X)(H:List Value)(a:Od m py H):At P f H m λr _=>r= .bool true:=by obtain⟨ts,b,c⟩:=ya a;exact((h ts b).below c).AD λr B d=>d.2.Jk
variable {P:Program} {aC:HC P} {t bH:X} {A J:A2} {c:CF} {Q:BM->A2->X->Prop}
theorem aCA(d: ∀K u a m,BN K u t m->D5 u K A a->BN K u bH m/\D5 u K J a/\Bi t.ac m.ac K u t m K u bH m)(h:Bc P c J bH Q):Bc P c A t Q:= λf K u a m g i=>by obtain⟨j,k,b⟩:=d K u a m g i;refine(h f K u a m j k).AD λe w x l=> ?_;obtain⟨C,n,o,p,q,r,s,v⟩:=l;exact⟨C,n,o,p,q,r,s,b.trans (v.JL b.HB (Aj _))⟩
theorem re{K:Be}{u:C0}{m:X}(c:BN K u t m){o j z:Nat}{cs:List Value}(q:t.Y o=some ⟨cs,true⟩)(B:cs[j]?=some (.slice none 0 0)):
 BN K u (((t.AE 1).A1 t.ac (some ⟨[],true⟩)).A1 o (some ⟨cs.set j (.slice (some ⟨t.ac,0,none⟩) 0 z),true⟩)) m/\Bi t.ac m.ac K u t m K u (((t.AE 1).A1 t.ac (some ⟨[],true⟩)).A1 o (some ⟨cs.set j (.slice (some ⟨t.ac,0,none⟩) 0 z),true⟩)) m:=by
 refine⟨?_,?_⟩
 ·have n:K t.ac=none:=by
   cases l:K t.ac with
   |none=>rfl
   |some b=>have:=(c.B0 _ _ l).1;omega
  have F:=E q;have G:o≠t.ac:=by omega
  refine⟨λp x k=> ?_,λp es l=> ?_,c.Ek,c.inj,λp b h=>⟨by have:=(c.B0 p b h).1;simp only[Au,B1];omega,(c.B0 p b h).2⟩,λb ds hb=> ?_⟩
  ·by_cases d:p=o
   ·subst d;rw[AR (by simp;omega)]at k;cases k;rcases c.Ee p _ q with⟨b,ds,w,s,v,r,A⟩|⟨s,v⟩
    ·refine .inl ⟨b,ds,w,s,v,r,?_⟩;obtain⟨y,H,C⟩:=A.Y B;have:=A.set j (y:=y) (x:= .slice (some ⟨t.ac,0,none⟩) 0 z) (by rw[C.DF rfl];exact .Pg (.inl rfl));rw[show ds.set j y=ds from by
      apply Mi;intro i;rw[Ih];split
      ·grind
      ·rfl]at this
     exact this
    ·simp_all
   ·rw[A6 d]at k;by_cases g:p=t.ac
    ·subst g;rw[AR (by simp)]at k;cases k;exact .inr ⟨n,rfl⟩
    ·rw[A6 g,X.Ab]at k;exact c.Ee p x k
  ·by_cases d:p=o
   ·subst d;obtain⟨a,f⟩:=DO l;rw[AR (by simp;omega)]at a
    simp_all
   ·obtain⟨a,f⟩:=DO l;rw[A6 d]at a;by_cases g:p=t.ac
    ·subst g;have r:t.mp t.ac=some es:=f
     rw[c.Ek _ n]at r;cases r
    ·rw[A6 g,X.Ab]at a;exact c.maps p es (Ec a f)
  ·obtain⟨s,v⟩:=c.AZ b ds hb
   grind [A6,X.Ab]
 ·have n:K t.ac=none:=by
   cases l:K t.ac with
   |none=>rfl
   |some b=>have:=(c.B0 _ _ l).1;omega
  refine⟨CA.refl _,Ce.refl _,λ_ _ h=> .inl h,λ_ _ h=> .inl h,by simp,Aj _,λ_ _ _=>rfl,λb hb=> λ⟨p,x,a,f,D⟩=> ?_,λb hb=> λ⟨p,x,a,f⟩=> ?_⟩
  ·by_cases d:p=o
   ·subst d;exact⟨p,_,a,q,rfl⟩
   ·rw[A6 d]at f;have g:p≠t.ac:= λe=>by subst e;rw[n]at a;cases a
    rw[A6 g,X.Ab]at f;exact⟨p,x,a,f,D⟩
  ·by_cases d:p=o
   ·subst d;exact⟨p,_,a,q⟩
   ·rw[A6 d]at f;have g:p≠t.ac:= λe=>by subst e;rw[n]at a;cases a
    rw[A6 g,X.Ab]at f;exact⟨p,x,a,f⟩
theorem Nd(a:t.Y o=some ⟨cs,true⟩)(b:cs[j]?=some (.slice none 0 0))
 (h:Bc P c A (((t.AE 1).A1 t.ac (some ⟨[],true⟩)).A1 o (some ⟨cs.set j (.slice (some ⟨t.ac,0,none⟩) 0 z),true⟩)) Q):Bc P c A t Q:=
 aCA (λK u f m d e=>⟨(re d a b).1,e,(re d a b).2⟩) h
theorem a6Y{l:List (AN P)}{f:Nat}{a7 a:Value->Prop}(h:NC l f ts a7)(b: ∀r,a7 r->a r):NC l f ts a:=by
 induction l with
 |nil=>exact h
 | cons s aC c=>
   grind [NC]
theorem tV{l:List (Cp P)}{f:Nat}{t:X}(h:Ku l f ts t aU)(a: ∀r t,aU r t->wJ r t):Ku l f ts t wJ:=by
 induction l with
 |nil=>exact h
 | cons s aC b=>
   grind [Ku]
theorem xw{f:Nat}{args:List Value}{L:List Nat}{aU wJ:Value->X->Prop}(h:LR aC f args t L aU)(a: ∀r t,aU r t->wJ r t):LR aC f args t L wJ:=by
 unfold LR at h⊢;split at h
 ·grind [O6,a6Y]
 ·next c=>
  rw[if_neg c];cases L with
  | nil=>
    simp only[OY]at h⊢;split at h
    ·next e=>rw[if_pos e];exact tV h a
    ·next e=>rw[if_neg e];exact h.AD a
  | cons o l=>
    simp only[OY]at h⊢;refine⟨h.1,?_⟩;have b:=h.2;split at b
    ·grind [tV]
    ·next e=>rw[if_neg e];exact b.AD λr t d=>a _ _ d
theorem Vh: ∀{ops:List Av} {A:A2} {t:X} {aU wJ:A2->X->Prop},B6 aC base ops A t aU->(∀A t,aU A t->wJ A t)->B6 aC base ops A t wJ
 |[],_,_,_,_,h,a=>a _ _ h
 | o::ops,A,t,aU,wJ,h,a=>by
   simp only[B6]at h⊢;split at h
   ·next b=>
    rw[if_pos b];obtain⟨e,d,g,k,i⟩:=o;cases k with
    |Kg f c=>exact xw h λr t h=>Vh h a
    | JV x c=>
      simp only[EZ,Tk]at h⊢;split at h
      ·exact xw h λr t h=>Vh h a
      ·exact h
    |JN=>exact h
    |_=>exact⟨h.1,h.2.1,Vh h.2.2 a⟩
   ·next b=>rw[if_neg b];exact Vh h a
theorem Se: ∀{c:CF} {A:A2} {t:X} {Q g:BM->A2->X->Prop},ER aC c A t Q->(∀e A t,Q e A t->g e A t)->ER aC c A t g
 | .skip,_,_,_,_,h,d=>d _ _ _ h
 | .Ao _,_,_,_,_,h,d=>d _ _ _ h
 | .Cz,_,_,_,_,h,d=>d _ _ _ h
 | .FW _,_,_,_,_,h,d=>Vh h λA t h=>d _ _ _ h
 | .LN _ _ _,_,_,_,_,h,_=>h.elim
 | .El a b,_,_,_,_,h,d=>Se (c:=a) h λe A t h=>by
   cases e with
   |CK=>exact Se (c:=b) h d
   |Ao id=>exact d _ _ _ h
   |Cz=>exact d _ _ _ h
 | .HP c a b,_,_,_,_,h,d=>by
   refine⟨h.1,?_⟩;have f:=h.2;split at f
   ·next e=>rw[if_pos e];exact Se (c:=a) f d
   ·next e=>rw[if_neg e];exact Se (c:=b) f d
 | .block id c,_,_,_,_,h,d=>Se (c:=c) h λe A t h=>by
   grind
 | .loop _,_,_,_,_,h,d=>h.AD d
theorem Cc(Z:Nat->A2->X->Prop)(n:Nat)(step: ∀i A t,i<n->Z i A t-> ∀a:A2->X->Prop,(∀d f,Z (i+1) d f->a d f)->ER aC c A t (M3 a Q))
 (k: ∀A t,Z n A t->ER aC c A t (M3 (λ_ _=>False) Q)): ∀(i:Nat) (A:A2) (t:X),i<=n->Z i A t->Bc P (.loop c) A t Q:=by
 have key: ∀(r i:Nat) (A:A2) (t:X),i+r=n->Z i A t->Bc P (.loop c) A t Q:=by
  intro r;induction r with
  | zero=>
    intro i A t g b;have e:i=n:=(by omega);subst e;refine Ba (aC:=aC) λa j=> ?_;have l:=k A t b;refine Se l λe A t h=> ?_;cases e with
    |CK=>exact h.elim
    |Ao id=>exact h
    |Cz=>exact h
  | succ r m=>intro i A t g b;exact Ba (aC:=aC) λa j=>step i A t (by omega) b a λd f h=>j _ _ (m (i+1) d f (by omega) h)
 exact λi A t g b=>key (n-i) i A t (by omega) b
variable {P:Program} {t:X}
open Classical in
theorem a5j{K:Be}{u:C0}{t m:X}(a:BN K u t m){o p j z:Nat}{cb:List (List Value)}{cells:List Value}(N:t.Y o=some ⟨cb.flatten,true⟩)(P: ∀r∈cb,r.length=z/\ ∀v∈r,DA v=true)
 (Q:t.Y p=some ⟨cells,true⟩) (A0:cells[j]?=some (.slice (some ⟨o,0,none⟩) cb.length z)) (A2:o≠p):
 ∃d,Ce u d/\(∀b cs,d b=some cs->u b=some cs\/K o=some b)/\BN K d ((t.A1 o none).A1 p (some ⟨cells.set j (O cb z),true⟩)) m:=by
 have A3:=E N;have A4:=E Q;have A: ∀r∈cb,r.length=z:= λr h=>(P r h).1;refine⟨λb=>match u b with
  |some cs=>some cs
  |none=>if K o=some b then(m.Y b).map (·.cells)else none,λb cs hb=>by simp only[hb],λb cs hb=> ?_,?_⟩
 ·grind
 ·obtain⟨d,B⟩: ∃d:C0,d= λb=>match u b with
   |some cs=>some cs
   |none=>if K o=some b then(m.Y b).map (·.cells)else none:=⟨_,rfl⟩
  rw[<-B];have C:Ce u d:= λb cs hb=>by rw[B];simp only[hb]
  have A5: ∀b cs w,K o=some b->m.Y b=some ⟨cs,w⟩->d b=some cs:= λb cs w I k=>by
   rw[B];simp only;cases D:u b with
   |some ds=>obtain⟨⟨R,S⟩,_⟩:=a.AZ b ds D;rw[k]at S;cases S;rfl
   |none=>simp only;rw[if_pos I,k];rfl
  have A7:((t.A1 o none).A1 p (some ⟨cells.set j (O cb z),true⟩)).Y p=some ⟨cells.set j (O cb z),true⟩:=AR (by simpa using A4);have AO:((t.A1 o none).A1 p (some ⟨cells.set j (O cb z),true⟩)).Y o=none:=(by rw[A6 A2,AR A3]);have T: ∀q,q≠p->q≠o->((t.A1 o none).A1 p (some ⟨cells.set j (O cb z),true⟩)).Y q=t.Y q:= λq e f=>by rw[A6 e,A6 f]
  refine⟨λq x l=> ?_,λq es A8=> ?_,a.Ek,a.inj,a.B0,λb ds hb=> ?_⟩
  ·by_cases e:q=p
   ·subst e;rw[A7]at l;cases l;rcases a.Ee q _ Q with⟨b,ds,w,g,F,J,G⟩|⟨g,F⟩
    ·refine .inl ⟨b,ds,w,g,F,J,?_⟩;obtain⟨y,U,A9⟩:=G.Y A0;have AA:AY d K (O cb z) y:=by
      rcases A9.Fl with⟨c,n,_,rfl⟩|⟨_,_,AB,rfl⟩
      ·obtain⟨cs,R,L,_,H⟩:=a.HF n N;have AP:(cb.flatten).length=cb.length*z:=LV A;refine .QI (off:=0) rfl (A5 c cs R n L) (by rw[<-H.1];simp only;omega) (λi r s=>A r (B5 s)) λi V r M y s W U=> ?_;have AQ:=oy A s;have AE:=(Ae.1 W).1;rw[A r (B5 s)]at AE;have AF:(cb.flatten)[i*z+V]?=some M:=by
        grind
       have AI:=H.2 (i*z+V) M y AF (by rw[<-U];congr 1;omega);exact bC C AI ((P r (B5 s)).2 M (B5 W))
      ·have:cb=[]:=M0 AB;subst this;exact .OW rfl
     have Z:=(G.AD C (CA.refl _)).set j AA;rw[show ds.set j y=ds from by
      apply Mi;intro i;rw[Ih];split
      ·grind
      ·rfl]at Z
     exact Z
    ·simp_all
   ·by_cases f:q=o
    ·simp_all
    ·rw[T q e f]at l;rcases a.Ee q x l with⟨b,ds,w,g,F,J,G⟩|g
     ·exact .inl ⟨b,ds,w,g,F,J,G.AD C (CA.refl _)⟩
     ·exact .inr g
  ·obtain⟨n,AJ⟩:=DO A8;by_cases e:q=p
   ·simp_all
   ·by_cases f:q=o
    ·simp_all
    ·rw[T q e f]at n;obtain⟨b,AK,L,AL,H⟩:=a.maps q es (Ec n AJ);exact⟨b,AK,L,AL,H.AD C (CA.refl _)⟩
  ·have AM:u b=some ds\/(K o=some b/\ ∃w,m.Y b=some ⟨ds,w⟩):=by
    rw[B]at hb;simp only at hb;cases D:u b with
    |some x=>rw[D]at hb;simp only at hb;exact .inl hb
    | none=>
      rw[D]at hb;simp only at hb;split at hb
      ·next h=>
       cases k:m.Y b with
       |none=>rw[k]at hb;cases hb
       |some x=>rw[k]at hb;cases hb;exact .inr ⟨h,x.own,rfl⟩
      ·cases hb
   rcases AM with h|⟨h,w,AN⟩
   ·obtain⟨e,f⟩:=a.AZ b ds h
    grind
   ·refine⟨⟨w,AN⟩,λq x I l=> ?_⟩;have:q=o:=a.inj q o b I h
    simp_all
open Go
variable {P:Program} {t bH:X} {l:List Nat}
variable {P:Program} {aC:HC P} {t:X} {A:A2} {c:CF} {Q:BM->A2->X->Prop}
variable{cb:List (List Value)}{C D:Be}{k w args:List Value}{bs:Nat->List (List Value)}{bT:Type}{q:Nat}
theorem LO{p:Nat}{cells:List Value}(i:t.Y o=some ⟨cb.flatten,true⟩)(w: ∀r∈cb,r.length=z/\ ∀v∈r,DA v=true)
 (B:t.Y p=some ⟨cells,true⟩) (D:cells[j]?=some (.slice (some ⟨o,0,none⟩) cb.length z)) (E:o≠p) (h:Bc P c A ((t.A1 o none).A1 p (some ⟨cells.set j (O cb z),true⟩)) Q):Bc P c A t Q:= λF K u G m H I=>by
 obtain⟨k,l,J,L⟩:=a5j H i w B D E;refine(h F K k G m L (I.AD l (CA.refl _))).AD λe A0 A2 M=> ?_;obtain⟨C,N,R,S,T,U,V,W⟩:=M;have n: ∀q x,((t.A1 o none).A1 p (some ⟨cells.set j (O cb z),true⟩)).Y q=some x-> ∃y,t.Y q=some y/\(x.own=true->y.own=true):= λq x A3=>by
  grind [A6]
 have s:Bi t.ac m.ac K u t m K k ((t.A1 o none).A1 p (some ⟨cells.set j (O cb z),true⟩)) m:=by
  refine⟨CA.refl _,l,λ_ _ h=> .inl h,λb cs hb=> ?_,by simp,Aj _,λ_ _ _=>rfl,λb hb ⟨q,x,a,d,X⟩=> ?_,λb hb ⟨q,x,a,d⟩=> ?_⟩
  ·rcases J b cs hb with f|f
   ·exact .inl f
   ·exact .inr (.inr ⟨o,_,f,i⟩)
  ·obtain⟨y,g,Z⟩:=n q x d;exact⟨q,y,a,g,Z X⟩
  ·obtain⟨y,g,_⟩:=n q x d;exact⟨q,y,a,g⟩
 exact⟨C,N,R,S,T,U,V,s.trans (W.JL s.HB (Aj _))⟩
inductive FO(g:Nat->Nat->Prop):Value->Value->Prop
 |DE {v:Value} (h:DA v=true):FO g v v
 |AG {o o' off:Nat} (h:g o o'):FO g (.pointer (some ⟨o,off,none⟩)) (.pointer (some ⟨o',off,none⟩))
 |slice {o o' off l z:Nat} (h:g o o'):FO g (.slice (some ⟨o,off,none⟩) l z) (.slice (some ⟨o',off,none⟩) l z)
 |agg {xs ys:Array Value} (a:xs.size=ys.size) (h: ∀(i:Nat) (x y:Value),xs[i]?=some x->ys[i]?=some y->FO g x y):FO g (.agg xs) (.agg ys)
 |tuple {xs ys:Array Value} (a:xs.size=ys.size) (h: ∀(i:Nat) (x y:Value),xs[i]?=some x->ys[i]?=some y->FO g x y):FO g (.tuple xs) (.tuple ys)
def Cf(g:Nat->Nat->Prop)(l k:List Value):Prop:=l.length=k.length/\ ∀(i:Nat) (x y:Value),l[i]?=some x->k[i]?=some y->FO g x y
theorem FO.HG{g:Nat->Nat->Prop}{u:C0}{m:Value}(h:FO g v m)(n: ∀o o',g o o'-> ∀b,C o=some b->D o'=some b): ∀{w:Value},AY u C v w->AY u D m w:=by
 have p: ∀{xs ys F:Array Value},xs.size=ys.size->(∀(i:Nat) (x y:Value),xs[i]?=some x->ys[i]?=some y-> ∀{w:Value},AY u C x w->AY u D y w)->AJ u C xs.toList F.toList->ys.size=F.size/\ ∀(i:Nat) (x y:Value),ys[i]?=some x->F[i]?=some y->AY u D x y:= λ{xs ys F} d k e=>by have q:xs.size=F.size:=(by simpa using e.1);refine⟨d.symm.trans q,λi x y f l=> ?_⟩;have r:i<xs.size:=(by rw[d];exact(QC.1 f).1);exact k i xs[i] x (Array.getElem?_eq_getElem r) f (e.2 i xs[i] y (by simp) (by simpa using l))
 induction h with
 |DE s=>exact λc=>(bC (Ce.refl _) c s).AD (Ce.refl _) (CA.nil _)
 | AG h=>intro w c;obtain⟨b,j,_,rfl⟩:=c.JW;exact .AG (n _ _ h _ j)
 | slice h=>
   intro w c;rcases c.Fl with⟨b,j,_,rfl⟩|⟨j,z,t,rfl⟩
   ·exact .slice (n _ _ h _ j)
   ·simp only at j;subst j;subst t;exact .Pg (.inl rfl)
 | agg d _ k=>intro w c;obtain⟨F,rfl,e⟩:=c.Ka;obtain⟨a,b⟩:=p d (λi x y f l {w}=>k i x y f l) e;exact .agg a b
 | tuple d _ k=>intro w c;obtain⟨F,rfl,e⟩:=c.Q9;obtain⟨a,b⟩:=p d (λi x y f l {w}=>k i x y f l) e;exact .tuple a b
theorem Cf.HG{g:Nat->Nat->Prop}{u:C0}{l:List Value}(h:Cf g l k)(e: ∀o o',g o o'-> ∀b,C o=some b->D o'=some b)(a:AJ u C l w):AJ u D k w:=by
 refine⟨h.1.symm.trans a.1,λi x y c f=> ?_⟩;have d:i<l.length:=by rw[h.1];exact(Ae.1 c).1
 exact(h.2 i l[i] x (AP d) c).HG e (a.2 i l[i] y (AP d) f)
theorem Cf.cells{g:Nat->Nat->Prop}{l:List Value}(h: ∀v∈l,DA v=true):Cf g l l:=
 ⟨rfl,λi x y a b=>by rw[a]at b;cases b;exact .DE (h x (B5 a))⟩
theorem FO.U2{g:Nat->Nat->Prop}{l:List Value}(h:Cf g l k):FO g (.agg l.toArray) (.agg k.toArray):= .agg (by simpa using h.1) (by simpa using h.2)
theorem FO.Uc{g:Nat->Nat->Prop}{l:List Value}(h:Cf g l k):FO g (.tuple l.toArray) (.tuple k.toArray):= .tuple (by simpa using h.1) (by simpa using h.2)
theorem Cf.nil{g:Nat->Nat->Prop}:Cf g [] []:=⟨rfl,by intro i x y h;simp at h⟩
theorem Cf.cons{g:Nat->Nat->Prop}{x y:Value}{l k:List Value}(h:FO g x y)(d:Cf g l k):Cf g (x::l) (y::k):=by
 refine⟨by simp[d.1],λi a b c hb=> ?_⟩;cases i with
 |zero=>simp at c hb;subst c;subst hb;exact h
 |succ i=>exact d.2 i a b (by simpa using c) (by simpa using hb)
def RF:Value->Bool
 | .agg cs=>cs.toList.all DA
 |v=>DA v
theorem gn{g:Nat->Nat->Prop}(h:RF v=true):FO g v v:=by
 unfold RF at h;split at h
 ·next cs=>have:=FO.U2 (g:=g) (Cf.cells (l:=cs.toList) λv a=>BR.1 h v a);simpa using this
 ·exact .DE h
def C4:Nat->List (List Value)->X->X
 |_,[],t=>t
 |i,c::l,t=>C4 (i+1) l (t.A1 i (some ⟨c,true⟩))
@[simp] theorem a9e{i:Nat}{t:X}:C4 i [] t=t:=rfl
@[simp] theorem N8{i:Nat}{t:X}{c:List Value}{l:List (List Value)}:C4 i (c::l) t=C4 (i+1) l (t.A1 i (some ⟨c,true⟩)):=rfl
theorem MD: ∀{l:List (List Value)} {i:Nat} {t:X},(C4 i l t).ac=t.ac
 |[],_,_=>rfl
 |c::l,i,t=>by rw[N8,MD];rfl
theorem Pq: ∀{l:List (List Value)} {i:Nat} {t:X},(C4 i l t).mp=t.mp
 |[],_,_=>rfl
 |c::l,i,t=>by rw[N8,Pq];rfl
theorem Oi: ∀{l:List (List Value)} {i b:Nat} {t:X},b<i->(C4 i l t).Y b=t.Y b
 |[],_,_,_,_=>rfl
 |c::l,i,b,t,h=>by rw[N8,Oi (by omega),A6 (by omega)]
theorem Yj: ∀{l:List (List Value)} {i j:Nat} {t:X} {c:List Value},i+l.length<=t.ac->l[j]?=some c->(C4 i l t).Y (i+j)=some ⟨c,true⟩
 |[],_,_,_,_,_,h=>by simp at h
 | c::l,i,0,t,x,a,h=>by
   grind [N8,Oi,AR]
 | c::l,i,j+1,t,x,a,h=>by simp only[DZ]at a;have:=Yj (l:=l) (i:=i+1) (j:=j) (t:=t.A1 i (some ⟨c,true⟩)) (c:=x) (by simp;omega) (by simpa using h);rw[N8,<-this];congr 1;omega
variable {P:Program}
theorem Qy{f n:Nat}{r:Nat->Value}(AV: ∀k,(bs k).length=n)(AW: ∀v∈args,RF v=true)
 (AX:Bh P f args Cl λv bH=> ∃s:List Nat,s.Nodup/\s.length=n/\ ∀k,FO (λo o'=> ∃i:Nat,s[i]?=some o/\o'=k+i) v (r k)/\ ∀(i:Nat) cs,(bs k)[i]?=some cs-> ∃o U,s[i]?=some o/\bH.Y o=some ⟨U,true⟩/\Cf (λo o'=> ∃i:Nat,s[i]?=some o/\o'=k+i) U cs) (t:X):
 Bh P f args t λv AY=>v=r t.ac/\AY=C4 t.ac (bs t.ac) (t.AE n):= λK u A8 m d A9=>by
 have Aa:AJ u Ea args A8:=⟨A9.1,λi x y q Ac=>(gn (g:= λ_ _=>False) (AW x (B5 q))).HG (λ_ _ h=>h.elim) (A9.2 i x y q Ac)⟩;obtain⟨p,A1⟩: ∃p:X,p=⟨m.ac,λb=>if(u b).isSome then m.BY b else none,m.mp⟩:=⟨_,rfl⟩;have AA:p.ac=m.ac:=by rw[A1]
 have Af:p.mp=m.mp:=by rw[A1]
 have Ag: ∀b,p.Y b=if(u b).isSome then m.Y b else none:= λb=>by
  rw[A1];simp only[X.Y]
  grind
 have part:Pk p m:=⟨AA,Af,λb x q=>by
  simp_all⟩
 have Ah:Ir u p:= λb cs hb=>by
  obtain⟨w,AB⟩:=(d.AZ b cs hb).1
  simp_all
 have Ai:BN Ea u Cl p:=eK Ah;refine(At.frame part (AX Ea u A8 p Ai Aa)).AD λAz A2 Aj=> ?_;obtain⟨V,⟨C,AF,v,bH,⟨s,B1,B2,Ak⟩,F,Al,N⟩,M⟩:=Aj;have Am:m.ac<=A2.ac:=M.ac
 have B3:V.ac=A2.ac:=M.part.ac
 obtain⟨An,hb⟩:=Ak t.ac
 obtain⟨G,AI⟩: ∃G,G=bs t.ac:=⟨_,rfl⟩
 rw[<-AI]at hb⊢;have Ap:G.length=n:=by rw[AI];exact AV _
 obtain⟨D,AK⟩: ∃D:Be,D= λo=>if o<t.ac then K o else match s[o-t.ac]? with|some p=>C p|none=>none:=⟨_,rfl⟩
 have z: ∀o,o<t.ac->D o=K o:= λo h=>by rw[AK];simp only[if_pos h]
 have Aq: ∀o,¬o<t.ac->D o=match s[o-t.ac]? with|some p=>C p|none=>none:= λo h=>by rw[AK];simp only[if_neg h]
 have A3: ∀i p,s[i]?=some p->D (t.ac+i)=C p:= λi p h=>by rw[Aq _ (by omega),show t.ac+i-t.ac=i by omega,h]
 have O: ∀o o',(∃i:Nat,s[i]?=some o/\o'=t.ac+i)-> ∀b,C o=some b->D o'=some b:= λo o' ⟨i,A4,F⟩ b hb=>by rw[F,A3 i o A4];exact hb
 have AL: ∀p b,C p=some b->m.ac<=b:= λp b h=>(N.LX p b h).elim (λh=>by cases h) (λh=>by have:=h.2;omega)
 have AM: ∀b cs,AF b=some cs->u b=some cs\/m.ac<=b:= λb cs h=>by
  rcases N.fn b cs h with h|h|⟨o,x,h,_⟩
  ·exact .inl h
  ·exact .inr (by omega)
  ·cases h
 have AN: ∀o,¬o<t.ac->K o=none:= λo h=>by
  cases W:K o with
  |none=>rfl
  |some b=>exact absurd (d.B0 o b W).1 h
 have A5:CA K D:= λo b h=>by rw[z o (d.B0 o b h).1];exact h
 have A6: ∀b,b<m.ac->A2.Y b=m.Y b:= λb hb=>by
  cases O:p.Y b with
  |none=>exact(M.Dk b hb O).1
  |some x=>rw[part.Y b x O];exact M.part.Y b x (by rw[N.DL b (by rw[AA];exact hb) λ⟨o,x,h,_⟩=>by cases h];exact O)
 have new: ∀o b,¬o<t.ac->D o=some b-> ∃i p,o=t.ac+i/\s[i]?=some p/\C p=some b:= λo b h W=>by
  grind
 have S: ∀o,o<t.ac->(C4 t.ac G (t.AE n)).Y o=t.Y o:= λo h=>by rw[Oi h,Ab h]
 have A7:(C4 t.ac G (t.AE n)).ac=t.ac+n:=by rw[MD];rfl
 have AO: ∀o x,¬o<t.ac->(C4 t.ac G (t.AE n)).Y o=some x-> ∃i cs,o=t.ac+i/\G[i]?=some cs/\x=⟨cs,true⟩:= λo x h q=>by
  have A4:=E q;rw[A7]at A4;have AQ:o-t.ac<G.length:=by omega
  have F:=Yj (i:=t.ac) (j:=o-t.ac) (t:=t.AE n) (l:=G) (c:=G[o-t.ac]) (by rw[Ap];simp[X.AE]) (AP AQ);rw[show t.ac+(o-t.ac)=o by omega,q]at F;exact⟨o-t.ac,_,by omega,AP AQ,by cases F;rfl⟩
 refine⟨D,AF,_,_,⟨rfl,rfl⟩,?_,An.HG O Al,?_⟩
 ·refine⟨λo x q=> ?_,λo es W=> ?_,λo I=> ?_,λo o' b h Q=> ?_,λo b h=> ?_,λb cs h=>⟨by obtain⟨w,AB⟩:=(F.AZ b cs h).1;exact⟨w,M.part.Y b _ AB⟩,λo x Z q=> ?_⟩⟩
  ·by_cases I:o<t.ac
   ·rw[S o I]at q;rcases d.Ee o x q with⟨b,cs,w,A,J,a3,a4⟩|⟨A,J⟩
    ·exact .inl ⟨b,cs,w,by rw[z o I];exact A,by rw[A6 b (d.B0 o b A).2];exact J,a3,a4.AD N.f A5⟩
    ·grind
   ·obtain⟨i,cs,rfl,Ar,rfl⟩:=AO o x I q;obtain⟨p,U,B,L,T⟩:=hb i cs Ar;rcases F.Ee p _ L with⟨b,ds,w,A,J,a3,a4⟩|⟨A,J⟩
    ·exact .inl ⟨b,ds,w,by rw[A3 i p B];exact A,M.part.Y b _ J,λ_=>a3 rfl,T.HG O a4⟩
    ·refine .inr ⟨by rw[A3 i p B];exact A,?_⟩;simp only at J;subst J;exact M0 T.1.symm
  ·obtain⟨a,H⟩:=DO W;rw[Pq]at H;by_cases I:o<t.ac
   ·rw[S o I]at a;obtain⟨b,As,A,J,a3⟩:=d.maps o es (Ec a H);obtain⟨Au,Av⟩:=DO J;have AR:=(d.B0 o b A).2;refine⟨b,As,by rw[z o I];exact A,?_,a3.AD N.f A5⟩;have Aw:u b=none:=by
     cases Ax:u b with
     |none=>rfl
     |some cs=>have:=(d.AZ b cs Ax).2 o _ A a;cases this
    exact Ec (by rw[A6 b AR];exact Au) (by rw[(M.Dk b AR (by rw[Ag,Aw];rfl)).2.2];exact Av)
   ·have:=d.Ek o (AN o I);rw[show(t.AE n).mp=t.mp from rfl,this]at H;cases H
  ·rw[Pq];by_cases h:o<t.ac
   ·exact d.Ek o (by rw[<-z o h];exact I)
   ·exact d.Ek o (AN o h)
  ·by_cases a:o<t.ac
   ·rw[z o a]at h;by_cases H:o'<t.ac
    ·rw[z o' H]at Q;exact d.inj o o' b h Q
    ·obtain⟨i,p,_,_,e⟩:=new o' b H Q;have:=AL p b e;have:=(d.B0 o b h).2;omega
   ·obtain⟨i,p,AS,A0,R⟩:=new o b a h;by_cases H:o'<t.ac
    ·rw[z o' H]at Q;have:=AL p b R;have:=(d.B0 o' b Q).2;omega
    ·obtain⟨eo,V,Ay,AT,AU⟩:=new o' b H Q;have B4:=F.inj p V b R AU
     grind [List.pairwise_iff_getElem]
  ·rw[A7];by_cases a:o<t.ac
   ·rw[z o a]at h;have:=d.B0 o b h;omega
   ·obtain⟨i,p,AS,A0,R⟩:=new o b a h;have:=(Ae.1 A0).1;exact⟨by omega,by have:=(F.B0 p b R).2;omega⟩
  ·by_cases a:o<t.ac
   ·rw[z o a]at Z;rw[S o a]at q;rcases AM b cs h with h|h
    ·exact(d.AZ b cs h).2 o x Z q
    ·have:=(d.B0 o b Z).2;omega
   ·obtain⟨i,p,AS,A0,R⟩:=new o b a Z;obtain⟨eo,c,Ay,AT,AU⟩:=AO o x a q;have:eo=i:=(by omega);subst this;obtain⟨V,U,B,L,T⟩:=hb eo c AT;rw[A0]at B;cases B;have:=(F.AZ b cs h).2 p _ R L;cases this
 ·refine⟨A5,N.f,λo b h=> ?_,λb cs h=>(AM b cs h).elim .inl λh=> .inr (.inl h),by rw[A7];omega,Am,λb hb _=>A6 b hb,λb hb ⟨o,x,B,L,T⟩=> ?_,λb hb ⟨o,x,B,L⟩=> ?_⟩
  ·grind
  ·by_cases a:o<t.ac
   ·rw[z o a]at B;rw[S o a]at L;exact⟨o,x,B,L,T⟩
   ·grind
  ·by_cases a:o<t.ac
   ·rw[z o a]at B;rw[S o a]at L;exact⟨o,x,B,L⟩
   ·grind
variable {P:Program}
abbrev AM(o n z:Nat):Value:= .slice (some ⟨o,0,none⟩) n z
theorem UF{f n:Nat}{cells:List Value}(b: ∀v∈args,RF v=true)(c: ∀v∈cells,DA v=true)
 (d:Bh P f args Cl λv bH=> ∃o,v=AM o n z/\bH.Y o=some ⟨cells,true⟩) (t:X):Bh P f args t λv e=>v=AM t.ac n z/\e=(t.AE 1).A1 t.ac (some ⟨cells,true⟩):=
 Qy (r:= λk=>AM k n z) (bs:= λ_=>[cells]) (n:=1) (λ_=>rfl) b (d.AD λv bH ⟨o,g,h⟩=>⟨[o],by simp,rfl,λk=>⟨by
  rw[g];exact .slice ⟨0,rfl,rfl⟩,λi cs a=>by
   cases i with
   |zero=>simp at a;subst a;exact⟨o,cells,rfl,h,Cf.cells c⟩
   |succ i=>simp at a⟩⟩) t
theorem Sq{f n:Nat}(a:n=cb.length)(b: ∀r∈cb,r.length=z/\ ∀v∈r,DA v=true)
 (c:Bh P f args Cl λv bH=> ∃o,v=AM o n z/\bH.Y o=some ⟨cb.flatten,true⟩):AO P f args (O cb z):=
 BQ (c.AD λv t ⟨o,d,e⟩=>by rw[d];exact Kn (n:=8) e a b)
open Classical in
def Cp.QH(f:Nat)(bT:Type)(d:bT->Prop)(enc:bT->List Value)(n z:bT->Nat)(cells:bT->List Value)
 (ok: ∀x,d x-> ∀t,Bh P f (enc x) t λv c=>v=AM t.ac (n x) (z x)/\c=(t.AE 1).A1 t.ac (some ⟨cells x,true⟩)):Cp P:=
 ⟨f,λargs t=>if h: ∃x,d x/\enc x=args then some (AM t.ac (n h.choose) (z h.choose),(t.AE 1).A1 t.ac (some ⟨cells h.choose,true⟩))else none,λargs t r c h a7 g=>by
  split at h
  ·next e=>cases h;have:=ok _ e.choose_spec.1 t;rw[e.choose_spec.2]at this;exact this.AD λv c ⟨a,b⟩=>by rw[a,b];exact g
  ·cases h⟩
theorem Cp.Tc{f:Nat}{a:bT->Prop}{enc:bT->List Value}{n z:bT->Nat}{cells:bT->List Value}{ok: ∀x,a x-> ∀t,Bh P f (enc x) t λv b=>v=AM t.ac (n x) (z x)/\b=(t.AE 1).A1 t.ac (some ⟨cells x,true⟩)}{x:bT}{t:X}(c:a x)(d: ∀y,enc y=enc x->y=x):
 (Cp.QH (P:=P) f bT a enc n z cells ok).fn (enc x) t=some (AM t.ac (n x) (z x),(t.AE 1).A1 t.ac (some ⟨cells x,true⟩)):=by
 have e: ∃y,a y/\enc y=enc x:=⟨x,c,rfl⟩
 grind [Cp.QH]
def D4{I:Type}(n:Nat)(f:Nat->I):List I:=(List.range n).map f
variable {I M:Type} {n i:Nat} {f g:Nat->I}
@[simp] theorem VP:(D4 n f).length=n:=by simp[D4]
theorem GH(h:i<n):(D4 n f)[i]?=some (f i):=by simp[D4,h]
theorem HS(h: ∀j,j<n->f j=g j):D4 n f=D4 n g:=by
 grind [D4,List.map_congr_left]
theorem LJ{x:I}:(D4 n f).set i x=D4 n (λj=>if j=i then x else f j):=by
 apply Mi
 grind [D4]
theorem OX{h:I->M}:(D4 n f).map h=D4 n λj=>h (f j):=by simp[D4]
theorem Vv{x:I}:List.replicate n x=D4 n λ_=>x:=by
 apply Mi;intro j;by_cases a:j<n
 ·rw[GH a];simp[a]
 ·simp_all
theorem mU{x:I}(h:x∈D4 n f): ∃j,j<n/\x=f j:=by
 grind [D4]
theorem cA:D4 (n+1) f=D4 n f++[f n]:=by simp[D4,MV]
variable {P:Program}
open Classical in
theorem ev{f:Nat}{H:List Value}(Ac:cs≠[])(BM:H≠[])(BO: ∀v∈cs,DA v=true)(Ae: ∀v∈H,DA v=true)(Af: ∀v∈args,RF v=true)
 (Ag:Bh P f (.pointer (some ⟨0,0,none⟩)::args) ((Cl.AE 1).A1 0 (some ⟨cs,true⟩)) λv bH=>B3 9 bH v=some r/\bH.Y 0=some ⟨H,true⟩/\0∉BL 9 bH v) {t:X} (R:t.Y o=some ⟨cs,true⟩):
 Bh P f (.pointer (some ⟨o,0,none⟩)::args) t λv Ah=>v=r/\Ah=t.A1 o (some ⟨H,true⟩):= λK u A9 m s A3=>by
 obtain⟨b,ds,BQ,T,Ai,Ak,BR⟩: ∃b ds w,K o=some b/\m.Y b=some ⟨ds,w⟩/\(true=true->w=true)/\AJ u K cs ds:=by
  rcases s.Ee o _ R with⟨b,ds,w,A,L,a3,a4⟩|⟨_,L⟩
  ·simp_all
  ·exact absurd L Ac
 have Al:=Ak rfl;subst Al;have BS:u b=none:=by
  cases U:u b with
  |none=>rfl
  |some c=>have:=(s.AZ b c U).2 o _ T R;cases this
 obtain⟨p,AA⟩: ∃p:X,p=⟨m.ac,λq=>if(u q).isSome\/q=b then m.BY q else none,m.mp⟩:=⟨_,rfl⟩;have AB:p.ac=m.ac:=by rw[AA]
 have Am: ∀q,p.Y q=if(u q).isSome\/q=b then m.Y q else none:= λq=>by
  rw[AA];simp only[X.Y]
  grind
 have part:Pk p m:=⟨AB,by rw[AA],λq x z=>by
  simp_all⟩
 obtain⟨M,An⟩: ∃M:Be,M= λq=>if q=0 then some b else none:=⟨_,rfl⟩
 have AQ:M 0=some b:=by rw[An];rfl
 have V: ∀q c,M q=some c->q=0/\c=b:= λq c h=>by
  simp_all
 have Ap:=E Ai;have BT:((Cl.AE 1).A1 0 (some (CC.mk cs true))).Y 0=some ⟨cs,true⟩:=AR (by simp[Cl]);have Aq: ∀q x,((Cl.AE 1).A1 0 (some (CC.mk cs true))).Y q=some x->q=0/\x=⟨cs,true⟩:= λq x z=>by
  have:=E z;simp[Cl]at this
  grind
 have Ar: ∀{C D:Be} {F:C0} {l k:List Value},(∀v∈l,DA v=true)->AJ F C l k->AJ F D l k:= λ{C D F l k} I h=>(Cf.cells (g:= λ_ _=>False) I).HG (λ_ _ h=>h.elim) h;have As:BN M u ((Cl.AE 1).A1 0 (some ⟨cs,true⟩)) p:=by
  refine⟨λq x z=> ?_,λq es AF=> ?_,λq _=>rfl,λq Au c h Av=>by rw[(V q c h).1,(V Au c Av).1],λq c h=> ?_,λc j h=>⟨?_,λq x n z=> ?_⟩⟩
  ·grind
  ·obtain⟨_,e⟩:=Aq q _ (DO AF).1
   grind
  ·obtain⟨rfl,rfl⟩:=V q c h;exact⟨by simp[Cl],by rw[AB];exact Ap⟩
  ·obtain⟨w,A4⟩:=(s.AZ c j h).1
   grind
  ·grind
 have Aw:AJ u M (.pointer (some ⟨0,0,none⟩)::args) A9:=by
  cases A9 with
  |nil=>have:=A3.1;simp at this
  | cons a BU=>have Ax:=A3.2 0 _ a rfl rfl;obtain⟨c,AI,_,rfl⟩:=Ax.JW;simp only at AI;rw[T]at AI;cases AI;refine AJ.cons (.AG AQ) ⟨by simpa using A3.1,λi x y z Ay=> ?_⟩;exact(gn (g:= λ_ _=>False) (Af x (B5 z))).HG (λ_ _ h=>h.elim) (A3.2 (i+1) x y (by simpa using z) (by simpa using Ay))
 refine(At.frame part (Ag M u A9 p As Aw)).AD λAz AS B1=> ?_;obtain⟨A5,⟨C,F,v,bH,⟨B2,AT,B4⟩,S,B6,W⟩,N⟩:=B1;have B7:m.ac<=AS.ac:=N.ac
 have AU:C 0=some b:=W.e 0 b AQ;have BV: ∀c j,F c=some j->u c=some j\/m.ac<=c:= λc j h=>by
  rcases W.fn c j h with B|B|⟨q,x,B,_⟩
  ·exact .inl B
  ·exact .inr (by omega)
  ·obtain⟨rfl,rfl⟩:=V q c B;have:=(S.AZ _ j h).2 0 _ AU AT;cases this
 have B8: ∀q c,C q=some c->c=b\/m.ac<=c:= λq c h=>by
  rcases W.LX q c h with B|B
  ·grind
  ·omega
 have AK: ∀c,c<m.ac->c≠b->AS.Y c=m.Y c:= λc I J=>by
  cases G:p.Y c with
  |none=>exact(N.Dk c I G).1
  | some x=>rw[part.Y c x G];refine N.part.Y c x ?_;rw[W.DL c (by rw[AB];exact I) λ⟨q,x,B,_⟩=>J (V q c B).2];exact G
 obtain⟨O,AL⟩: ∃O:C0,O= λc=>match F c with
  |some j=>some j
  |none=>if c≠b/\ ∃q,C q=some c then(A5.Y c).map (·.cells)else none:=⟨_,rfl⟩
 have AM:Ce F O:= λc j h=>by rw[AL];simp only[h]
 have B9: ∀c j,O c=some j->F c=some j\/(m.ac<=c/\ ∃w,A5.Y c=some ⟨j,w⟩):= λc j h=>by
  rw[AL]at h;simp only at h;split at h
  ·grind
  ·split at h
   ·next B=>
    obtain⟨J,q,n⟩:=B;right;refine⟨(B8 q c n).resolve_left J,?_⟩;cases G:A5.Y c with
    |none=>rw[G]at h;cases h
    |some x=>rw[G]at h;cases h;exact⟨x.own,rfl⟩
   ·cases h
 have BA:AY O Ea r Az:=RS S AM 9 B6 B2 λq n BW c j w AV G=>by
  rw[AL];simp only;cases AN:F c with
  |some BB=>obtain⟨⟨BZ,AW⟩,_⟩:=S.AZ c BB AN;rw[G]at AW;cases AW;rfl
  | none=>
    have J:c≠b:= λe=>by subst e;have:=S.inj q 0 c AV AU;subst this;exact B4 n
    simp only;rw[if_pos ⟨J,q,AV⟩,G];rfl
 obtain⟨A7,A8,BC,AX⟩: ∃A7 A8,A5.Y b=some ⟨A7,A8⟩/\(A8=true/\AJ F C H A7):=by
  rcases S.Ee 0 _ AT with⟨c,d,w,A,L,a3,a4⟩|⟨A,_⟩
  ·grind
  ·grind
 have BD:=E R;have Z: ∀q,q≠o->(t.A1 o (some ⟨H,true⟩)).Y q=t.Y q:= λq h=>A6 h;have BE:(t.A1 o (some (CC.mk H true))).Y o=some ⟨H,true⟩:=AR BD;have Aa: ∀q c,K q=some c->q≠o->c≠b:= λq c h n e=>n (s.inj q o b (e▸h) T);have AO:Ce u O:=W.f.trans AM;refine⟨K,O,_,_,⟨rfl,rfl⟩,?_,BA.AD (Ce.refl _) (CA.nil _),?_⟩
 ·refine⟨λq x z=> ?_,λq es AF=> ?_,s.Ek,s.inj,λq c h=>⟨(s.B0 q c h).1,by have:=(s.B0 q c h).2;omega⟩,λc j h=>⟨?_,λq x n z=> ?_⟩⟩
  ·by_cases n:q=o
   ·subst n;rw[BE]at z;cases z;exact .inl ⟨b,A7,A8,T,N.part.Y b _ BC,λ_=>AX.1,(Ar Ae AX.2).AD AM (CA.refl _)⟩
   ·rw[Z q n]at z;rcases s.Ee q x z with⟨c,d,w,A,L,a3,a4⟩|A
    ·exact .inl ⟨c,d,w,A,by rw[AK c (s.B0 q c A).2 (Aa q c A n)];exact L,a3,a4.AD AO (CA.refl _)⟩
    ·exact .inr A
  ·obtain⟨AP,BF⟩:=DO AF;by_cases n:q=o
   ·grind
   ·rw[Z q n]at AP;obtain⟨c,BG,A,L,a3⟩:=s.maps q es (Ec AP BF);obtain⟨BH,BI⟩:=DO L;have Ab:=(s.B0 q c A).2;have J:=Aa q c A n;have AN:u c=none:=by
     cases U:u c with
     |none=>rfl
     |some d=>have:=(s.AZ c d U).2 q _ A AP;cases this
    refine⟨c,BG,A,?_,a3.AD AO (CA.refl _)⟩;exact Ec (by rw[AK c Ab J];exact BH) (by rw[(N.Dk c Ab (by rw[Am,AN,if_neg (by simp[J])])).2.2];exact BI)
  ·rcases B9 c j h with B|⟨B,w,BJ⟩
   ·obtain⟨w,A4⟩:=(S.AZ c j B).1;exact⟨w,N.part.Y c _ A4⟩
   ·exact⟨w,N.part.Y c _ BJ⟩
  ·have Ba:=(s.B0 q c n).2;have U:u c=some j:=by
    grind
   by_cases Q:q=o
   ·grind
   ·rw[Z q Q]at z;exact(s.AZ c j U).2 q x n z
 ·refine⟨CA.refl _,AO,λ_ _ h=> .inl h,λc j h=> ?_,Aj _,B7,λc I A4=> ?_,λc I ⟨q,x,A0,A2,BK⟩=> ?_,λc I ⟨q,x,A0,A2⟩=> ?_⟩
  ·grind
  ·exact AK c I λe=>A4 ⟨o,_,e▸T,R,rfl⟩
  ·by_cases Q:q=o
   ·subst Q;exact⟨q,_,A0,R,rfl⟩
   ·rw[Z q Q]at A2;exact⟨q,x,A0,A2,BK⟩
  ·by_cases Q:q=o
   ·subst Q;exact⟨q,_,A0,R⟩
   ·rw[Z q Q]at A2;exact⟨q,x,A0,A2⟩
variable {P:Program} {t m B:X} {K:Be} {u:C0}
theorem aCR(a:BN K u t m)(J:m.ac<=q)(L:q<B.ac)(M:B.Y q=some ⟨cs,true⟩)(C:m.ac<=B.ac)(v: ∀b,b<m.ac->B.Y b=m.Y b/\B.mp b=m.mp b)(N:cs.all BJ=true):
 BN (CL K t.ac q) u ((t.AE 1).A1 t.ac (some ⟨cs,true⟩)) B/\Bi t.ac m.ac K u t m (CL K t.ac q) u ((t.AE 1).A1 t.ac (some ⟨cs,true⟩)) B:=by
 have l:K t.ac=none:=by
  cases i:K t.ac with
  |none=>rfl
  |some b=>have:=(a.B0 _ _ i).1;omega
 have k: ∀{o b:Nat},CL K t.ac q o=some b->(o=t.ac/\b=q)\/(o≠t.ac/\K o=some b):= λ{o b} h=>by
  grind [CL]
 have n: ∀{o:Nat},o≠t.ac->((t.AE 1).A1 t.ac (some ⟨cs,true⟩)).Y o=t.Y o:= λd=>by rw[A6 d,X.Ab]
 have D: ∀{b:Nat} {es:List (Value×Value)},b<m.ac->m.Bs b=some es->B.Bs b=some es:= λ{b es} hb i=>by
  grind [DO,Ec]
 refine⟨⟨λo x p=> ?_,λo es i=> ?_,λo h=> ?_,λo o' b h g=> ?_,λo b h=> ?_,λb ds h=> ?_⟩,⟨CA.set l,Ce.refl _,λo b h=> ?_,λb ds h=> .inl h,by simp,C,λb hb _=>(v b hb).1,λb hb=> λ⟨o,y,h,g,F⟩=> ?_,λb hb=> λ⟨o,y,h,g⟩=> ?_⟩⟩
 ·by_cases d:o=t.ac
  ·subst d;rw[AR (by simp)]at p
   grind [CL,AJ.BP]
  ·rw[n d]at p;rcases a.Ee o x p with⟨b,ds,w,f,j,r,G⟩|⟨f,j⟩
   ·exact .inl ⟨b,ds,w,by simp[CL,d,f],by rw[(v b (a.B0 o b f).2).1,j],r,G.AD (Ce.refl _) (CA.set l)⟩
   ·exact .inr ⟨by simp[CL,d,f],j⟩
 ·by_cases d:o=t.ac
  ·subst d;have:=(DO i).2;rw[show((t.AE 1).A1 t.ac (some ⟨cs,true⟩)).mp=t.mp from rfl,a.Ek _ l]at this;cases this
  ·rw[Kr d]at i;obtain⟨z,H⟩:=DO i;rw[X.Ab]at z;obtain⟨b,I,f,j,r⟩:=a.maps o es (Ec z H);exact⟨b,I,by simp[CL,d,f],D (a.B0 o b f).2 j,r.AD (Ce.refl _) (CA.set l)⟩
 ·simp only[CL]at h;split at h
  ·cases h
  ·exact a.Ek o h
 ·rcases k h with⟨e,c⟩|⟨e,c⟩<;>rcases k g with⟨A,s⟩|⟨A,s⟩
  ·rw[e,A]
  ·have:=(a.B0 _ _ s).2;omega
  ·have:=(a.B0 _ _ c).2;omega
  ·exact a.inj o o' b c s
 ·rcases k h with⟨e,c⟩|⟨e,c⟩
  ·simp_all
  ·have:=a.B0 o b c;simp only[Au,B1];omega
 ·obtain⟨⟨w,f⟩,j⟩:=a.AZ b ds h
  grind [E]
 ·grind
 ·rcases k h with⟨e,c⟩|⟨e,c⟩
  ·omega
  ·exact⟨o,y,c,by rw[n e]at g;exact g,F⟩
 ·rcases k h with⟨e,c⟩|⟨e,c⟩
  ·omega
  ·exact⟨o,y,c,by rw[n e]at g;exact g⟩
theorem aAV(a:BN K u t m)(s:m.ac<=B.ac)(l: ∀b,b<m.ac->B.Y b=m.Y b/\B.mp b=m.mp b):
 BN K u ((t.AE 1).A1 t.ac (some ⟨[],true⟩)) B/\Bi t.ac m.ac K u t m K u ((t.AE 1).A1 t.ac (some ⟨[],true⟩)) B:=by
 have n:K t.ac=none:=by
  cases f:K t.ac with
  |none=>rfl
  |some b=>have:=(a.B0 _ _ f).1;omega
 have p: ∀{o b:Nat},K o=some b->o≠t.ac:= λh e=>by subst e;rw[n]at h;cases h
 have j: ∀{o:Nat},o≠t.ac->((t.AE 1).A1 t.ac (some ⟨[],true⟩)).Y o=t.Y o:= λc=>by rw[A6 c,X.Ab]
 refine⟨⟨λo x k=> ?_,λo es f=> ?_,a.Ek,a.inj,λo b h=> ?_,λb ds h=> ?_⟩,⟨CA.refl _,Ce.refl _,λo b h=> .inl h,λb ds h=> .inl h,by simp,s,λb hb _=>(l b hb).1,λb hb=> λ⟨o,y,h,g,v⟩=> ?_,λb hb=> λ⟨o,y,h,g⟩=> ?_⟩⟩
 ·by_cases c:o=t.ac
  ·subst c;rw[AR (by simp)]at k
   grind
  ·rw[j c]at k;rcases a.Ee o x k with⟨b,ds,w,d,i,q,z⟩|d
   ·exact .inl ⟨b,ds,w,d,by rw[(l b (a.B0 o b d).2).1,i],q,z⟩
   ·exact .inr d
 ·by_cases c:o=t.ac
  ·subst c;have:=(DO f).2;rw[show((t.AE 1).A1 t.ac (some ⟨[],true⟩)).mp=t.mp from rfl,a.Ek _ n]at this;cases this
  ·rw[Kr c]at f;obtain⟨r,A⟩:=DO f;rw[X.Ab]at r;obtain⟨b,C,d,i,q⟩:=a.maps o es (Ec r A);obtain⟨D,F⟩:=DO i;have hb:=(a.B0 o b d).2
   grind [Ec]
 ·have:=a.B0 o b h;simp only[Au,B1];omega
 ·obtain⟨⟨w,d⟩,i⟩:=a.AZ b ds h
  grind [E]
 ·exact⟨o,y,h,by rw[j (p h)]at g;exact g,v⟩
 ·exact⟨o,y,h,by rw[j (p h)]at g;exact g⟩
theorem aAy{f n:Nat}(k:cs.all BJ=true)
 (l: ∀(K:Be) (u:C0) (H:List Value) (m:X),BN K u t m->AJ u K args H->At P f H m λr B=>m.ac<=B.ac/\(∀b,b<m.ac->B.Y b=m.Y b/\B.mp b=m.mp b)/\
  ((n=0/\cs=[]/\r= .slice none 0 0)\/ ∃q,m.ac<=q/\q<B.ac/\r= .slice (some ⟨q,0,none⟩) n z/\B.Y q=some ⟨cs,true⟩)):
 Bh P f args t λv o=>v=AM t.ac n z/\o=(t.AE 1).A1 t.ac (some ⟨cs,true⟩):= λK u H m a p=>by
 refine(l K u H m a p).AD λr B s=> ?_;obtain⟨i,j,⟨c,d,e⟩|⟨q,c,d,e,w⟩⟩:=s
 ·subst c;subst d;subst e;obtain⟨g,h⟩:=aAV a i j;exact⟨K,u,_,_,⟨rfl,rfl⟩,g,.Pg (.inl rfl),h⟩
 ·obtain⟨g,h⟩:=aCR a c d w i j k;exact⟨_,u,_,_,⟨rfl,rfl⟩,g,by rw[e];exact .slice (by simp[CL]),h⟩
end Go.DI
namespace Go
abbrev V:=Go.Proofs.Tryz.prog
abbrev aLF:Value:= .slice none 0 0
abbrev aFQ:Value:= .int .i64 0
end Go
namespace Go.Proofs.YtmmkkggfmigppaaGreat
open Go Go.DI
section
set_option maxRecDepth 100000
def a4t:AU V 168:=AW
def mN:=G a4t.1.body
def aT:=AV V 168 ⟨10,[.AH 2],mN⟩
def gk:AU V 194:=AW
def bl:=G (A8 gk.1.body 35)
def TG:=G (A8 gk.1.body 15)
def fz:=(G λx y=>AA 15 y (AA 35 x gk.1.body)) bl TG
def Ro:=AV V 194 ⟨22,[.AH 2],fz⟩
def lR:AU V 213:=AW
def dJ:=G (A8 lR.1.body 71)
def WY:=G (A8 lR.1.body 31)
def p8:=(G λx y=>AA 31 y (AA 71 x lR.1.body)) dJ WY
def ZK:=AV V 213 ⟨32,[.AH 4,.AH 5],p8⟩
def k7:AU V 216:=AW
def WJ:=G (A8 k7.1.body 303)
def tn:=G (A8 k7.1.body 63)
def vZ:=(G λx y=>AA 63 y (AA 303 x k7.1.body)) WJ tn
def aD:=AV V 216 ⟨25,[.AH 2],vZ⟩
def a67:AU V 217:=AW
def aD1:=G a67.1.body
def nm:=AV V 217 ⟨14,[.AH 2],aD1⟩
def ln:AU V 222:=AW
def U4:=G (A8 ln.1.body 151)
def RW:=G (A8 ln.1.body 31)
def xp:=(G λx y=>AA 31 y (AA 151 x ln.1.body)) U4 RW
def bu:=AV V 222 ⟨46,[.AH 4],xp⟩
def fp:AU V 241:=AW
def VJ:=G (A8 fp.1.body 151)
def S4:=G (A8 fp.1.body 31)
def nx:=(G λx y=>AA 31 y (AA 151 x fp.1.body)) VJ S4
def Zl:=AV V 241 ⟨45,[.AH 4],nx⟩
def a1X:AU V 246:=AW
def oR:=G a1X.1.body
def YL:=AV V 246 ⟨7,[.AH 2],oR⟩
def PG:AU V 247:=AW
def eb:=G (A8 PG.1.body 2411)
def iw:=G (A8 PG.1.body 491)
def a1B:=G (A8 PG.1.body 2331391)
def a8l:=G (A8 PG.1.body 19895039)
def aDJ:=(G λx y=>AA 4857 y (AA 569 x (A8 PG.1.body 4863))) a1B a8l
def aAP:=(G λx=>AA 607 x (A8 PG.1.body 15)) aDJ
def qW:=(G λx y z=>AA 3 z (AA 122 y (AA 602 x (A8 PG.1.body 7)))) eb iw aAP
def iK:=(G λx=>AA 7 x PG.1.body) qW
def St:=AV V 247 ⟨198,[.AH 4,.AH 5],iK⟩
def pH:AU V 248:=AW
def qs:=G (A8 pH.1.body 35)
def lz:=(G λx=>AA 35 x pH.1.body) qs
def cM:=AV V 248 ⟨19,[.AH 2],lz⟩
def mJ:AU V 249:=AW
def a0v:=G (A8 mJ.1.body 1215)
def a8v:=(G λx=>AA 1215 x mJ.1.body) a0v
def sJ:=AV V 249 ⟨75,[.AH 4,.AH 5],a8v⟩
def jB:AU V 251:=AW
def bS:=G (A8 jB.1.body 71)
def Uw:=G (A8 jB.1.body 31)
def mQ:=(G λx y=>AA 31 y (AA 71 x jB.1.body)) bS Uw
def ag:=AV V 251 ⟨30,[.AH 4,.AH 5],mQ⟩
def a0A:AU V 253:=AW
def xx:=G a0A.1.body
def XZ:=AV V 253 ⟨8,[.AH 2],xx⟩
def hf:AU V 254:=AW
def a0F:=G (A8 hf.1.body 308015)
def a2g:=(G λx=>AA 1203 x (A8 hf.1.body 303)) a0F
def aAT:=(G λx=>AA 303 x hf.1.body) a2g
def vT:=AV V 254 ⟨84,[.AH 4,.AH 5],aAT⟩
def aAt:AU V 257:=AW
def a4w:=G aAt.1.body
def pZ:=AV V 257 ⟨21,[.AH 4,.AH 5],a4w⟩
def zV:AU V 260:=AW
def ph:=G zV.1.body
def bk:=AV V 260 ⟨21,[.AH 4,.AH 5],ph⟩
def cT:AU V 268:=AW
def a46:=G (A8 cT.1.body 19019)
def om:=(G λx=>AA 297 x (A8 cT.1.body 75)) a46
def l8:=G (A8 cT.1.body 15)
def m6:=(G λx y=>AA 15 y (AA 75 x cT.1.body)) om l8
def XX:=AV V 268 ⟨68,[.AH 4],m6⟩
def z5:AU V 271:=AW
def nC:=G z5.1.body
def Y6:=AV V 271 ⟨6,[.AH 2],nC⟩
def a74:AU V 272:=AW
def a4b:=G a74.1.body
def yD:=AV V 272 ⟨13,[.AH 2,.AH 3],a4b⟩
def Pp:AU V 273:=AW
def a9d:=G (A8 Pp.1.body 143)
def a2e:=G (A8 Pp.1.body 2303487)
def a7S:=(G λx=>AA 281 x (A8 Pp.1.body 9727)) a2e
def a7a:=G (A8 Pp.1.body 38911)
def aB8:=(G λx y z=>AA 4863 z (AA 1215 y (AA 17 x (A8 Pp.1.body 15)))) a9d a7S a7a
def lp:=(G λx=>AA 3 x (A8 Pp.1.body 7)) aB8
def kX:=(G λx=>AA 7 x Pp.1.body) lp
def Rb:=AV V 273 ⟨198,[.AH 4,.AH 5],kX⟩
def qV:AU V 274:=AW
def zs:=G (A8 qV.1.body 151)
def a2q:=(G λx=>AA 151 x qV.1.body) zs
def u3:=AV V 274 ⟨57,[.AH 4],a2q⟩
def j6:AU V 278:=AW
def hu:=G (A8 j6.1.body 151)
def Y8:=G (A8 j6.1.body 31)
def sP:=(G λx y=>AA 31 y (AA 151 x j6.1.body)) hu Y8
def YV:=AV V 278 ⟨45,[.AH 4,.AH 5],sP⟩
end
abbrev AG(b:Nat):Value:= .pointer (some ⟨b,0,none⟩)
abbrev Z(n:Int):Value:= .int .i64 n
abbrev Ag(n:Int):Value:= .int .u32 n
structure Aa(m B:X):Prop where
 ac:m.ac<=B.ac
 Y: ∀b,b<m.ac->B.Y b=m.Y b
theorem Aa.refl(m:X):Aa m m:=⟨Aj _,λ_ _=>rfl⟩
theorem BG{l:List Value}{k:Nat}:(List.take 1 (List.drop k l)).head?=l[k]?:=by
 cases h:l.drop k with
 |nil=>rw[List.drop_eq_nil_iff]at h;rw[L1 h];rfl
 |cons x xs=>simp;rw[<-List.head?_drop,h];rfl
section
set_option maxRecDepth 100000
def mW:AU V 179:=AW
def UT:=G (A8 mW.1.body 75)
def SB:=(G λx=>AA 75 x mW.1.body) UT
def a16:=AV V 179 ⟨28,[.AH 2],SB⟩
variable{a7:Value->X->Prop}{args:List Value}{m:X}
theorem aAQ(h:args.length<=28):At V 179 args m a7=Az V SB (CQ args) m (DQ [.AH 2] a7):=DV a16.2 h
def rp:AU V 188:=AW
def Vo:=G (A8 rp.1.body 75)
def SA:=(G λx=>AA 75 x rp.1.body) Vo
def a4n:=AV V 188 ⟨29,[.AH 2],SA⟩
theorem a2l(h:args.length<=29):At V 188 args m a7=Az V SA (CQ args) m (DQ [.AH 2] a7):=DV a4n.2 h
def aAS:AU V 231:=AW
def kk:=G aAS.1.body
def a51:=AV V 231 ⟨17,[.AH 2],kk⟩
theorem a2Z(h:args.length<=17):At V 231 args m a7=Az V kk (CQ args) m (DQ [.AH 2] a7):=DV a51.2 h
def a0m:AU V 232:=AW
def Qp:=G a0m.1.body
def aBL:=AV V 232 ⟨17,[.AH 2],Qp⟩
theorem a1Y(h:args.length<=17):At V 232 args m a7=Az V Qp (CQ args) m (DQ [.AH 2] a7):=DV aBL.2 h
def a7V:AU V 237:=AW
def kL:=G a7V.1.body
def a8q:=AV V 237 ⟨17,[.AH 2],kL⟩
theorem a30(h:args.length<=17):At V 237 args m a7=Az V kL (CQ args) m (DQ [.AH 2] a7):=DV a8q.2 h
def aBz:AU V 238:=AW
def Pz:=G aBz.1.body
def a1K:=AV V 238 ⟨17,[.AH 2],Pz⟩
theorem a0Q(h:args.length<=17):At V 238 args m a7=Az V Pz (CQ args) m (DQ [.AH 2] a7):=DV a1K.2 h
def a0M:AU V 255:=AW
def hi:=G a0M.1.body
def a27:=AV V 255 ⟨9,[.AH 2],hi⟩
theorem a6N(h:args.length<=9):At V 255 args m a7=Az V hi (CQ args) m (DQ [.AH 2] a7):=DV a27.2 h
def a5d:AU V 256:=AW
def lW:=G a5d.1.body
def aCr:=AV V 256 ⟨9,[.AH 2],lW⟩
theorem a2G(h:args.length<=9):At V 256 args m a7=Az V lW (CQ args) m (DQ [.AH 2] a7):=DV aCr.2 h
end
end Go.Proofs.YtmmkkggfmigppaaGreat
end
