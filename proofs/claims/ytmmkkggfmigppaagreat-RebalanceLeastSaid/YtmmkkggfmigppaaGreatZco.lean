/- A part of the proof. -/
import Derived.Test.YtmmkkggfmigppaaGreatZch
import Derived.Test.YtmmkkggfmigppaaGreatZcn
set_option linter.all false
set_option maxRecDepth 8000
set_option maxHeartbeats 16000000
namespace Go.DI
open Go Go.RowKit
inductive G6(g:Nat->Nat->Prop):Value->Value->Prop
 |E2 {v:Value} (h:Co v=true):G6 g v v
 |AA {o o' off:Nat} (h:g o o'):G6 g (.pointer (some ⟨o,off,none⟩)) (.pointer (some ⟨o',off,none⟩))
 |slice {o o' off l z:Nat} (h:g o o'):G6 g (.slice (some ⟨o,off,none⟩) l z) (.slice (some ⟨o',off,none⟩) l z)
 |agg {xs ys:Array Value} (a:xs.size=ys.size) (h: ∀(i:Nat) (x y:Value),xs[i]?=some x->ys[i]?=some y->G6 g x y):G6 g (.agg xs) (.agg ys)
 |tuple {xs ys:Array Value} (a:xs.size=ys.size) (h: ∀(i:Nat) (x y:Value),xs[i]?=some x->ys[i]?=some y->G6 g x y):G6 g (.tuple xs) (.tuple ys)
def EL(g:Nat->Nat->Prop)(l k:List Value):Prop:=l.length=k.length/\ ∀(i:Nat) (x y:Value),l[i]?=some x->k[i]?=some y->G6 g x y
variable{B C:C5}{v:Value}{k l w c args cs:List Value}{bs:Nat->List (List Value)}{r:Nat->Value}{z o q:Nat}{b5:List (List Value)}{bG:Type}
theorem G6.Gp{g:Nat->Nat->Prop}{u:Ca}{n:Value}(h:G6 g v n)(p: ∀o o',g o o'-> ∀b,B o=some b->C o'=some b): ∀{w:Value},AW u B v w->AW u C n w:=by
 have q: ∀{xs ys d:Array Value},xs.size=ys.size->(∀(i:Nat) (x y:Value),xs[i]?=some x->ys[i]?=some y-> ∀{w:Value},AW u B x w->AW u C y w)->AJ u B xs.toList d.toList->ys.size=d.size/\ ∀(i:Nat) (x y:Value),ys[i]?=some x->d[i]?=some y->AW u C x y:= λ{xs ys d} e l f=>by have r:xs.size=d.size:=(by simpa using f.1);refine⟨e.symm.trans r,λi x y j m=> ?_⟩;have s:i<xs.size:=(by rw[e];exact(R1.1 j).1);exact l i xs[i] x (Array.getElem?_eq_getElem s) j (f.2 i xs[i] y (by simp) (by simpa using m))
 induction h with
 |E2 t=>exact λc=>(eh (Cs.refl _) c t).AG (Cs.refl _) (CA.nil _)
 | AA h=>intro w c;obtain⟨b,k,_,rfl⟩:=c.Io;exact .AA (p _ _ h _ k)
 | slice h=>
   intro w c;rcases c.Fk with⟨b,k,_,rfl⟩|⟨k,A,z,rfl⟩
   ·exact .slice (p _ _ h _ k)
   ·simp only at k;subst k;subst z;exact .Qs (.inl rfl)
 | agg e _ l=>intro w c;obtain⟨d,rfl,f⟩:=c.K8;obtain⟨a,b⟩:=q e (λi x y j m {w}=>l i x y j m) f;exact .agg a b
 | tuple e _ l=>intro w c;obtain⟨d,rfl,f⟩:=c.S1;obtain⟨a,b⟩:=q e (λi x y j m {w}=>l i x y j m) f;exact .tuple a b
theorem EL.Gp{g:Nat->Nat->Prop}{u:Ca}(h:EL g l k)(e: ∀o o',g o o'-> ∀b,B o=some b->C o'=some b)(a:AJ u B l w):AJ u C k w:=by
 refine⟨h.1.symm.trans a.1,λi x y c f=> ?_⟩;have d:i<l.length:=by rw[h.1];exact(AX.1 c).1
 exact(h.2 i l[i] x (AS d) c).Gp e (a.2 i l[i] y (AS d) f)
theorem EL.cells{g:Nat->Nat->Prop}(h: ∀v∈l,Co v=true):EL g l l:=
 ⟨rfl,λi x y a b=>by rw[a]at b;cases b;exact .E2 (h x (B9 a))⟩
theorem G6.gE{g:Nat->Nat->Prop}(h:EL g l k):G6 g (.agg l.toArray) (.agg k.toArray):= .agg (by simpa using h.1) (by simpa using h.2)
theorem G6.r5{g:Nat->Nat->Prop}(h:EL g l k):G6 g (.tuple l.toArray) (.tuple k.toArray):= .tuple (by simpa using h.1) (by simpa using h.2)
theorem EL.nil{g:Nat->Nat->Prop}:EL g [] []:=⟨rfl,by intro i x y h;simp at h⟩
theorem EL.cons{g:Nat->Nat->Prop}{x y:Value}{l k:List Value}(h:G6 g x y)(d:EL g l k):EL g (x::l) (y::k):=by
 refine⟨by simp[d.1],λi a b c hb=> ?_⟩;cases i with
 |zero=>simp at c hb;subst c;subst hb;exact h
 |succ i=>exact d.2 i a b (by simpa using c) (by simpa using hb)
def Ru:Value->Bool
 | .agg cs=>cs.toList.all Co
 |v=>Co v
theorem fV{g:Nat->Nat->Prop}(h:Ru v=true):G6 g v v:=by
 unfold Ru at h;split at h
 ·next cs=>have:=G6.gE (g:=g) (EL.cells (l:=cs.toList) λv a=>BF.1 h v a);simpa using this
 ·exact .E2 h
def D2:Nat->List (List Value)->V->V
 |_,[],t=>t
 |i,c::l,t=>D2 (i+1) l (t.A0 i (some ⟨c,true⟩))
@[simp] theorem a75{i:Nat}{t:V}:D2 i [] t=t:=rfl
@[simp] theorem OE{i:Nat}{t:V}{l:List (List Value)}:D2 i (c::l) t=D2 (i+1) l (t.A0 i (some ⟨c,true⟩)):=rfl
theorem OH: ∀{l:List (List Value)} {i:Nat} {t:V},(D2 i l t).next=t.next
 |[],_,_=>rfl
 |c::l,i,t=>by rw[OE,OH];rfl
theorem V7: ∀{l:List (List Value)} {i:Nat} {t:V},(D2 i l t).mp=t.mp
 |[],_,_=>rfl
 |c::l,i,t=>by rw[OE,V7];rfl
theorem PW: ∀{l:List (List Value)} {i b:Nat} {t:V},b<i->(D2 i l t).W b=t.W b
 |[],_,_,_,_=>rfl
 |c::l,i,b,t,h=>by rw[OE,PW (by omega),A3 (by omega)]
theorem YO: ∀{l:List (List Value)} {i j:Nat} {t:V} {c:List Value},i+l.length<=t.next->l[j]?=some c->(D2 i l t).W (i+j)=some ⟨c,true⟩
 |[],_,_,_,_,_,h=>by simp at h
 | c::l,i,0,t,x,a,h=>by
   grind [OE,PW,AT]
 | c::l,i,j+1,t,x,a,h=>by simp only[Df]at a;have:=YO (l:=l) (i:=i+1) (j:=j) (t:=t.A0 i (some ⟨c,true⟩)) (c:=x) (by simp;omega) (by simpa using h);rw[OE,<-this];congr 1;omega
variable {P:Program}
theorem cV{f n:Nat}(AY: ∀k,(bs k).length=n)(Aa: ∀v∈args,Ru v=true)
 (Ab:Bv P f args D0 λv A8=> ∃s:List Nat,s.Nodup/\s.length=n/\ ∀k,G6 (λo o'=> ∃i:Nat,s[i]?=some o/\o'=k+i) v (r k)/\ ∀(i:Nat) cs,(bs k)[i]?=some cs-> ∃o U,s[i]?=some o/\A8.W o=some ⟨U,true⟩/\EL (λo o'=> ∃i:Nat,s[i]?=some o/\o'=k+i) U cs) (t:V):
 Bv P f args t λv Ac=>v=r t.next/\Ac=D2 t.next (bs t.next) (t.AE n):= λJ u A9 m d AB=>by
 have Ad:AJ u EX args A9:=⟨AB.1,λi x y q Ae=>(fV (g:= λ_ _=>False) (Aa x (B9 q))).Gp (λ_ _ h=>h.elim) (AB.2 i x y q Ae)⟩;obtain⟨p,A1⟩: ∃p:V,p=⟨m.next,λb=>if(u b).isSome then m.C1 b else none,m.mp⟩:=⟨_,rfl⟩;have AD:p.next=m.next:=by rw[A1]
 have Af:p.mp=m.mp:=by rw[A1]
 have Ag: ∀b,p.W b=if(u b).isSome then m.W b else none:= λb=>by
  rw[A1];simp only[V.W]
  grind
 have part:QR p m:=⟨AD,Af,λb x q=>by
  simp_all⟩
 have Ah:It u p:= λb cs hb=>by
  obtain⟨w,AF⟩:=(d.AZ b cs hb).1
  simp_all
 have Ak:BI EX u D0 p:=kc Ah;refine(Aq.frame part (Ab EX u A9 p Ak Ad)).AG λB0 A2 Al=> ?_;obtain⟨X,⟨B,AH,v,A8,⟨s,B1,B2,Am⟩,E,An,N⟩,M⟩:=Al;have Ao:m.next<=A2.next:=M.next
 have B3:X.next=A2.next:=M.part.next
 obtain⟨Ap,hb⟩:=Am t.next
 obtain⟨G,AK⟩: ∃G,G=bs t.next:=⟨_,rfl⟩
 rw[<-AK]at hb⊢;have Ar:G.length=n:=by rw[AK];exact AY _
 obtain⟨C,AL⟩: ∃C:C5,C= λo=>if o<t.next then J o else match s[o-t.next]? with|some p=>B p|none=>none:=⟨_,rfl⟩
 have z: ∀o,o<t.next->C o=J o:= λo h=>by rw[AL];simp only[if_pos h]
 have As: ∀o,¬o<t.next->C o=match s[o-t.next]? with|some p=>B p|none=>none:= λo h=>by rw[AL];simp only[if_neg h]
 have A3: ∀i p,s[i]?=some p->C (t.next+i)=B p:= λi p h=>by rw[As _ (by omega),show t.next+i-t.next=i by omega,h]
 have O: ∀o o',(∃i:Nat,s[i]?=some o/\o'=t.next+i)-> ∀b,B o=some b->C o'=some b:= λo o' ⟨i,A4,E⟩ b hb=>by rw[E,A3 i o A4];exact hb
 have AM: ∀p b,B p=some b->m.next<=b:= λp b h=>(N.MR p b h).elim (λh=>by cases h) (λh=>by have:=h.2;omega)
 have AN: ∀b cs,AH b=some cs->u b=some cs\/m.next<=b:= λb cs h=>by
  rcases N.fn b cs h with h|h|⟨o,x,h,_⟩
  ·exact .inl h
  ·exact .inr (by omega)
  ·cases h
 have AO: ∀o,¬o<t.next->J o=none:= λo h=>by
  cases Y:J o with
  |none=>rfl
  |some b=>exact absurd (d.B7 o b Y).1 h
 have A5:CA J C:= λo b h=>by rw[z o (d.B7 o b h).1];exact h
 have A6: ∀b,b<m.next->A2.W b=m.W b:= λb hb=>by
  cases O:p.W b with
  |none=>exact(M.Da b hb O).1
  |some x=>rw[part.W b x O];exact M.part.W b x (by rw[N.DW b (by rw[AD];exact hb) λ⟨o,x,h,_⟩=>by cases h];exact O)
 have new: ∀o b,¬o<t.next->C o=some b-> ∃i p,o=t.next+i/\s[i]?=some p/\B p=some b:= λo b h Y=>by
  grind
 have S: ∀o,o<t.next->(D2 t.next G (t.AE n)).W o=t.W o:= λo h=>by rw[PW h,AU h]
 have A7:(D2 t.next G (t.AE n)).next=t.next+n:=by rw[OH];rfl
 have AP: ∀o x,¬o<t.next->(D2 t.next G (t.AE n)).W o=some x-> ∃i cs,o=t.next+i/\G[i]?=some cs/\x=⟨cs,true⟩:= λo x h q=>by
  have A4:=F q;rw[A7]at A4;have AQ:o-t.next<G.length:=by omega
  have E:=YO (i:=t.next) (j:=o-t.next) (t:=t.AE n) (l:=G) (c:=G[o-t.next]) (by rw[Ar];simp[V.AE]) (AS AQ);rw[show t.next+(o-t.next)=o by omega,q]at E;exact⟨o-t.next,_,by omega,AS AQ,by cases E;rfl⟩
 refine⟨C,AH,_,_,⟨rfl,rfl⟩,?_,Ap.Gp O An,?_⟩
 ·refine⟨λo x q=> ?_,λo es Y=> ?_,λo I=> ?_,λo o' b h Q=> ?_,λo b h=> ?_,λb cs h=>⟨by obtain⟨w,AF⟩:=(E.AZ b cs h).1;exact⟨w,M.part.W b _ AF⟩,λo x Z q=> ?_⟩⟩
  ·by_cases I:o<t.next
   ·rw[S o I]at q;rcases d.Eh o x q with⟨b,cs,w,A,K,a3,a4⟩|⟨A,K⟩
    ·exact .inl ⟨b,cs,w,by rw[z o I];exact A,by rw[A6 b (d.B7 o b A).2];exact K,a3,a4.AG N.f A5⟩
    ·grind
   ·obtain⟨i,cs,rfl,At,rfl⟩:=AP o x I q;obtain⟨p,U,D,L,T⟩:=hb i cs At;rcases E.Eh p _ L with⟨b,ds,w,A,K,a3,a4⟩|⟨A,K⟩
    ·exact .inl ⟨b,ds,w,by rw[A3 i p D];exact A,M.part.W b _ K,λ_=>a3 rfl,T.Gp O a4⟩
    ·refine .inr ⟨by rw[A3 i p D];exact A,?_⟩;simp only at K;subst K;exact MM T.1.symm
  ·obtain⟨a,H⟩:=DQ Y;rw[V7]at H;by_cases I:o<t.next
   ·rw[S o I]at a;obtain⟨b,Au,A,K,a3⟩:=d.maps o es (E7 a H);obtain⟨Av,Aw⟩:=DQ K;have AR:=(d.B7 o b A).2;refine⟨b,Au,by rw[z o I];exact A,?_,a3.AG N.f A5⟩;have Ax:u b=none:=by
     cases Ay:u b with
     |none=>rfl
     |some cs=>have:=(d.AZ b cs Ay).2 o _ A a;cases this
    exact E7 (by rw[A6 b AR];exact Av) (by rw[(M.Da b AR (by rw[Ag,Ax];rfl)).2.2];exact Aw)
   ·have:=d.Er o (AO o I);rw[show(t.AE n).mp=t.mp from rfl,this]at H;cases H
  ·rw[V7];by_cases h:o<t.next
   ·exact d.Er o (by rw[<-z o h];exact I)
   ·exact d.Er o (AO o h)
  ·by_cases a:o<t.next
   ·rw[z o a]at h;by_cases H:o'<t.next
    ·rw[z o' H]at Q;exact d.inj o o' b h Q
    ·obtain⟨i,p,_,_,e⟩:=new o' b H Q;have:=AM p b e;have:=(d.B7 o b h).2;omega
   ·obtain⟨i,p,AT,A0,R⟩:=new o b a h;by_cases H:o'<t.next
    ·rw[z o' H]at Q;have:=AM p b R;have:=(d.B7 o' b Q).2;omega
    ·obtain⟨dW,X,Az,AV,AW⟩:=new o' b H Q;have B4:=E.inj p X b R AW
     grind [List.pairwise_iff_getElem]
  ·rw[A7];by_cases a:o<t.next
   ·rw[z o a]at h;have:=d.B7 o b h;omega
   ·obtain⟨i,p,AT,A0,R⟩:=new o b a h;have:=(AX.1 A0).1;exact⟨by omega,by have:=(E.B7 p b R).2;omega⟩
  ·by_cases a:o<t.next
   ·rw[z o a]at Z;rw[S o a]at q;rcases AN b cs h with h|h
    ·exact(d.AZ b cs h).2 o x Z q
    ·have:=(d.B7 o b Z).2;omega
   ·obtain⟨i,p,AT,A0,R⟩:=new o b a Z;obtain⟨dW,c,Az,AV,AW⟩:=AP o x a q;have:dW=i:=(by omega);subst this;obtain⟨X,U,D,L,T⟩:=hb dW c AV;rw[A0]at D;cases D;have:=(E.AZ b cs h).2 p _ R L;cases this
 ·refine⟨A5,N.f,λo b h=> ?_,λb cs h=>(AN b cs h).elim .inl λh=> .inr (.inl h),by rw[A7];omega,Ao,λb hb _=>A6 b hb,λb hb ⟨o,x,D,L,T⟩=> ?_,λb hb ⟨o,x,D,L⟩=> ?_⟩
  ·grind
  ·by_cases a:o<t.next
   ·rw[z o a]at D;rw[S o a]at L;exact⟨o,x,D,L,T⟩
   ·grind
  ·by_cases a:o<t.next
   ·rw[z o a]at D;rw[S o a]at L;exact⟨o,x,D,L⟩
   ·grind
variable {P:Program}
abbrev AQ(o n z:Nat):Value:= .slice (some ⟨o,0,none⟩) n z
theorem Y1{f n:Nat}{cells:List Value}(c: ∀v∈args,Ru v=true)(d: ∀v∈cells,Co v=true)
 (e:Bv P f args D0 λv b=> ∃o,v=AQ o n z/\b.W o=some ⟨cells,true⟩) (t:V):Bv P f args t λv g=>v=AQ t.next n z/\g=(t.AE 1).A0 t.next (some ⟨cells,true⟩):=
 cV (r:= λk=>AQ k n z) (bs:= λ_=>[cells]) (n:=1) (λ_=>rfl) c (e.AG λv b ⟨o,h,j⟩=>⟨[o],by simp,rfl,λk=>⟨by
  rw[h];exact .slice ⟨0,rfl,rfl⟩,λi cs a=>by
   cases i with
   |zero=>simp at a;subst a;exact⟨o,cells,rfl,j,EL.cells d⟩
   |succ i=>simp at a⟩⟩) t
theorem Ut{f n:Nat}(a:n=b5.length)(b: ∀r∈b5,r.length=z/\ ∀v∈r,Co v=true)
 (c:Bv P f args D0 λv d=> ∃o,v=AQ o n z/\d.W o=some ⟨b5.flatten,true⟩):AL P f args (M b5 z):=
 BG (c.AG λv t ⟨o,e,g⟩=>by rw[e];exact JG (n:=8) g a b)
open Classical in
noncomputable def DB.Rp(f:Nat)(bG:Type)(d:bG->Prop)(enc:bG->List Value)(n z:bG->Nat)(cells:bG->List Value)
 (ok: ∀x,d x-> ∀t,Bv P f (enc x) t λv c=>v=AQ t.next (n x) (z x)/\c=(t.AE 1).A0 t.next (some ⟨cells x,true⟩)):DB P:=
 ⟨f,λargs t=>if h: ∃x,d x/\enc x=args then some (AQ t.next (n h.choose) (z h.choose),(t.AE 1).A0 t.next (some ⟨cells h.choose,true⟩))else none,λargs t r c h a7 g=>by
  split at h
  ·next e=>cases h;have:=ok _ e.choose_spec.1 t;rw[e.choose_spec.2]at this;exact this.AG λv c ⟨a,b⟩=>by rw[a,b];exact g
  ·cases h⟩
theorem DB.eo{f:Nat}{a:bG->Prop}{enc:bG->List Value}{n z:bG->Nat}{cells:bG->List Value}{ok: ∀x,a x-> ∀t,Bv P f (enc x) t λv b=>v=AQ t.next (n x) (z x)/\b=(t.AE 1).A0 t.next (some ⟨cells x,true⟩)}{x:bG}{t:V}(c:a x)(d: ∀y,enc y=enc x->y=x):
 (DB.Rp (P:=P) f bG a enc n z cells ok).fn (enc x) t=some (AQ t.next (n x) (z x),(t.AE 1).A0 t.next (some ⟨cells x,true⟩)):=by
 have e: ∃y,a y/\enc y=enc x:=⟨x,c,rfl⟩
 grind [DB.Rp]
def Ct{D:Type}(n:Nat)(f:Nat->D):List D:=(List.range n).map f
variable {D L:Type} {n i:Nat} {f g:Nat->D}
@[simp] theorem VI:(Ct n f).length=n:=by simp[Ct]
theorem Ej(h:i<n):(Ct n f)[i]?=some (f i):=by simp[Ct,h]
theorem FG(h: ∀j,j<n->f j=g j):Ct n f=Ct n g:=by
 grind [Ct,List.map_congr_left]
theorem KG{x:D}:(Ct n f).set i x=Ct n (λj=>if j=i then x else f j):=by
 apply N1
 grind [Ct]
theorem PM{h:D->L}:(Ct n f).map h=Ct n λj=>h (f j):=by simp[Ct]
theorem QE{x:D}:List.replicate n x=Ct n λ_=>x:=by
 apply N1;intro j;by_cases a:j<n
 ·rw[Ej a];simp[a]
 ·simp_all
theorem a5C{x:D}(h:x∈Ct n f): ∃j,j<n/\x=f j:=by
 grind [Ct]
theorem fI:Ct (n+1) f=Ct n f++[f n]:=by simp[Ct,MO]
variable {P:Program}
open Classical in
theorem n1{f:Nat}{H:List Value}{r:Value}(Ac:cs≠[])(BN:H≠[])(BO: ∀v∈cs,Co v=true)(Ad: ∀v∈H,Co v=true)(Ae: ∀v∈args,Ru v=true)
 (Af:Bv P f (.pointer (some ⟨0,0,none⟩)::args) ((D0.AE 1).A0 0 (some ⟨cs,true⟩)) λv A4=>Az 9 A4 v=some r/\A4.W 0=some ⟨H,true⟩/\0∉As 9 A4 v) {t:V} (R:t.W o=some ⟨cs,true⟩):
 Bv P f (.pointer (some ⟨o,0,none⟩)::args) t λv Ag=>v=r/\Ag=t.A0 o (some ⟨H,true⟩):= λJ u AB m s A5=>by
 obtain⟨b,ds,BP,T,Ah,Ak,BQ⟩: ∃b ds w,J o=some b/\m.W b=some ⟨ds,w⟩/\(true=true->w=true)/\AJ u J cs ds:=by
  rcases s.Eh o _ R with⟨b,ds,w,A,L,a3,a4⟩|⟨_,L⟩
  ·simp_all
  ·exact absurd L Ac
 have Al:=Ak rfl;subst Al;have BS:u b=none:=by
  cases U:u b with
  |none=>rfl
  |some c=>have:=(s.AZ b c U).2 o _ T R;cases this
 obtain⟨p,AD⟩: ∃p:V,p=⟨m.next,λq=>if(u q).isSome\/q=b then m.C1 q else none,m.mp⟩:=⟨_,rfl⟩;have AF:p.next=m.next:=by rw[AD]
 have Am: ∀q,p.W q=if(u q).isSome\/q=b then m.W q else none:= λq=>by
  rw[AD];simp only[V.W]
  grind
 have part:QR p m:=⟨AF,by rw[AD],λq x z=>by
  simp_all⟩
 obtain⟨M,An⟩: ∃M:C5,M= λq=>if q=0 then some b else none:=⟨_,rfl⟩
 have AQ:M 0=some b:=by rw[An];rfl
 have X: ∀q c,M q=some c->q=0/\c=b:= λq c h=>by
  simp_all
 have Ap:=F Ah;have BU:((D0.AE 1).A0 0 (some (Bw.mk cs true))).W 0=some ⟨cs,true⟩:=AT (by simp[D0]);have Ar: ∀q x,((D0.AE 1).A0 0 (some (Bw.mk cs true))).W q=some x->q=0/\x=⟨cs,true⟩:= λq x z=>by
  have:=F z;simp[D0]at this
  grind
 have At: ∀{B C:C5} {E:Ca} {l k:List Value},(∀v∈l,Co v=true)->AJ E B l k->AJ E C l k:= λ{B C E l k} I h=>(EL.cells (g:= λ_ _=>False) I).Gp (λ_ _ h=>h.elim) h;have Au:BI M u ((D0.AE 1).A0 0 (some ⟨cs,true⟩)) p:=by
  refine⟨λq x z=> ?_,λq es AH=> ?_,λq _=>rfl,λq Av c h Aw=>by rw[(X q c h).1,(X Av c Aw).1],λq c h=> ?_,λc j h=>⟨?_,λq x n z=> ?_⟩⟩
  ·grind
  ·obtain⟨_,e⟩:=Ar q _ (DQ AH).1
   grind
  ·obtain⟨rfl,rfl⟩:=X q c h;exact⟨by simp[D0],by rw[AF];exact Ap⟩
  ·obtain⟨w,A6⟩:=(s.AZ c j h).1
   grind
  ·grind
 have Ax:AJ u M (.pointer (some ⟨0,0,none⟩)::args) AB:=by
  cases AB with
  |nil=>have:=A5.1;simp at this
  | cons a BV=>have Ay:=A5.2 0 _ a rfl rfl;obtain⟨c,AK,_,rfl⟩:=Ay.Io;simp only at AK;rw[T]at AK;cases AK;refine AJ.cons (.AA AQ) ⟨by simpa using A5.1,λi x y z B0=> ?_⟩;exact(fV (g:= λ_ _=>False) (Ae x (B9 z))).Gp (λ_ _ h=>h.elim) (A5.2 (i+1) x y (by simpa using z) (by simpa using B0))
 refine(Aq.frame part (Af M u AB p Au Ax)).AG λB1 AR B2=> ?_;obtain⟨A7,⟨B,E,v,A4,⟨B3,AS,B4⟩,S,B5,Y⟩,N⟩:=B2;have B6:m.next<=AR.next:=N.next
 have AU:B 0=some b:=Y.e 0 b AQ;have BW: ∀c j,E c=some j->u c=some j\/m.next<=c:= λc j h=>by
  rcases Y.fn c j h with D|D|⟨q,x,D,_⟩
  ·exact .inl D
  ·exact .inr (by omega)
  ·obtain⟨rfl,rfl⟩:=X q c D;have:=(S.AZ _ j h).2 0 _ AU AS;cases this
 have B8: ∀q c,B q=some c->c=b\/m.next<=c:= λq c h=>by
  rcases Y.MR q c h with D|D
  ·grind
  ·omega
 have AL: ∀c,c<m.next->c≠b->AR.W c=m.W c:= λc I K=>by
  cases G:p.W c with
  |none=>exact(N.Da c I G).1
  | some x=>rw[part.W c x G];refine N.part.W c x ?_;rw[Y.DW c (by rw[AF];exact I) λ⟨q,x,D,_⟩=>K (X q c D).2];exact G
 obtain⟨O,AM⟩: ∃O:Ca,O= λc=>match E c with
  |some j=>some j
  |none=>if c≠b/\ ∃q,B q=some c then(A7.W c).map (·.cells)else none:=⟨_,rfl⟩
 have f12:Cs E O:= λc j h=>by rw[AM];simp only[h]
 have BA: ∀c j,O c=some j->E c=some j\/(m.next<=c/\ ∃w,A7.W c=some ⟨j,w⟩):= λc j h=>by
  rw[AM]at h;simp only at h;split at h
  ·grind
  ·split at h
   ·next D=>
    obtain⟨K,q,n⟩:=D;right;refine⟨(B8 q c n).resolve_left K,?_⟩;cases G:A7.W c with
    |none=>rw[G]at h;cases h
    |some x=>rw[G]at h;cases h;exact⟨x.own,rfl⟩
   ·cases h
 have BB:AW O EX r B1:=S4 S f12 9 B5 B3 λq n BX c j w AV G=>by
  rw[AM];simp only;cases AN:E c with
  |some BC=>obtain⟨⟨BY,AX⟩,_⟩:=S.AZ c BC AN;rw[G]at AX;cases AX;rfl
  | none=>
    have K:c≠b:= λe=>by subst e;have:=S.inj q 0 c AV AU;subst this;exact B4 n
    simp only;rw[if_pos ⟨K,q,AV⟩,G];rfl
 obtain⟨A8,A9,BD,AY⟩: ∃A8 A9,A7.W b=some ⟨A8,A9⟩/\(A9=true/\AJ E B H A8):=by
  rcases S.Eh 0 _ AS with⟨c,d,w,A,L,a3,a4⟩|⟨A,_⟩
  ·grind
  ·grind
 have BE:=F R;have Z: ∀q,q≠o->(t.A0 o (some ⟨H,true⟩)).W q=t.W q:= λq h=>A3 h;have BF:(t.A0 o (some (Bw.mk H true))).W o=some ⟨H,true⟩:=AT BE;have Aa: ∀q c,J q=some c->q≠o->c≠b:= λq c h n e=>n (s.inj q o b (e▸h) T);have AO:Cs u O:=Y.f.trans f12;refine⟨J,O,_,_,⟨rfl,rfl⟩,?_,BB.AG (Cs.refl _) (CA.nil _),?_⟩
 ·refine⟨λq x z=> ?_,λq es AH=> ?_,s.Er,s.inj,λq c h=>⟨(s.B7 q c h).1,by have:=(s.B7 q c h).2;omega⟩,λc j h=>⟨?_,λq x n z=> ?_⟩⟩
  ·by_cases n:q=o
   ·subst n;rw[BF]at z;cases z;exact .inl ⟨b,A8,A9,T,N.part.W b _ BD,λ_=>AY.1,(At Ad AY.2).AG f12 (CA.refl _)⟩
   ·rw[Z q n]at z;rcases s.Eh q x z with⟨c,d,w,A,L,a3,a4⟩|A
    ·exact .inl ⟨c,d,w,A,by rw[AL c (s.B7 q c A).2 (Aa q c A n)];exact L,a3,a4.AG AO (CA.refl _)⟩
    ·exact .inr A
  ·obtain⟨AP,BG⟩:=DQ AH;by_cases n:q=o
   ·grind
   ·rw[Z q n]at AP;obtain⟨c,BH,A,L,a3⟩:=s.maps q es (E7 AP BG);obtain⟨BJ,BK⟩:=DQ L;have Ab:=(s.B7 q c A).2;have K:=Aa q c A n;have AN:u c=none:=by
     cases U:u c with
     |none=>rfl
     |some d=>have:=(s.AZ c d U).2 q _ A AP;cases this
    refine⟨c,BH,A,?_,a3.AG AO (CA.refl _)⟩;exact E7 (by rw[AL c Ab K];exact BJ) (by rw[(N.Da c Ab (by rw[Am,AN,if_neg (by simp[K])])).2.2];exact BK)
  ·rcases BA c j h with D|⟨D,w,BL⟩
   ·obtain⟨w,A6⟩:=(S.AZ c j D).1;exact⟨w,N.part.W c _ A6⟩
   ·exact⟨w,N.part.W c _ BL⟩
  ·have BZ:=(s.B7 q c n).2;have U:u c=some j:=by
    grind
   by_cases Q:q=o
   ·grind
   ·rw[Z q Q]at z;exact(s.AZ c j U).2 q x n z
 ·refine⟨CA.refl _,AO,λ_ _ h=> .inl h,λc j h=> ?_,Ao _,B6,λc I A6=> ?_,λc I ⟨q,x,A1,A2,BM⟩=> ?_,λc I ⟨q,x,A1,A2⟩=> ?_⟩
  ·grind
  ·exact AL c I λe=>A6 ⟨o,_,e▸T,R,rfl⟩
  ·by_cases Q:q=o
   ·subst Q;exact⟨q,_,A1,R,rfl⟩
   ·rw[Z q Q]at A2;exact⟨q,x,A1,A2,BM⟩
  ·by_cases Q:q=o
   ·subst Q;exact⟨q,_,A1,R⟩
   ·rw[Z q Q]at A2;exact⟨q,x,A1,A2⟩
open Go
variable {P:Program} {t m A:V} {J:C5} {u:Ca}
theorem a2U(a:BI J u t m)(K:m.next<=q)(L:q<A.next)(M:A.W q=some ⟨cs,true⟩)(C:m.next<=A.next)(v: ∀b,b<m.next->A.W b=m.W b/\A.mp b=m.mp b)(N:cs.all BB=true):
 BI (CO J t.next q) u ((t.AE 1).A0 t.next (some ⟨cs,true⟩)) A/\Be t.next m.next J u t m (CO J t.next q) u ((t.AE 1).A0 t.next (some ⟨cs,true⟩)) A:=by
 have l:J t.next=none:=by
  cases i:J t.next with
  |none=>rfl
  |some b=>have:=(a.B7 _ _ i).1;omega
 have k: ∀{o b:Nat},CO J t.next q o=some b->(o=t.next/\b=q)\/(o≠t.next/\J o=some b):= λ{o b} h=>by
  grind [CO]
 have n: ∀{o:Nat},o≠t.next->((t.AE 1).A0 t.next (some ⟨cs,true⟩)).W o=t.W o:= λd=>by rw[A3 d,V.AU]
 have D: ∀{b:Nat} {es:List (Value×Value)},b<m.next->m.BL b=some es->A.BL b=some es:= λ{b es} hb i=>by
  grind [DQ,E7]
 refine⟨⟨λo x p=> ?_,λo es i=> ?_,λo h=> ?_,λo o' b h g=> ?_,λo b h=> ?_,λb ds h=> ?_⟩,⟨CA.set l,Cs.refl _,λo b h=> ?_,λb ds h=> .inl h,by simp,C,λb hb _=>(v b hb).1,λb hb=> λ⟨o,y,h,g,E⟩=> ?_,λb hb=> λ⟨o,y,h,g⟩=> ?_⟩⟩
 ·by_cases d:o=t.next
  ·subst d;rw[AT (by simp)]at p
   grind [CO,AJ.BT]
  ·rw[n d]at p;rcases a.Eh o x p with⟨b,ds,w,f,j,r,G⟩|⟨f,j⟩
   ·exact .inl ⟨b,ds,w,by simp[CO,d,f],by rw[(v b (a.B7 o b f).2).1,j],r,G.AG (Cs.refl _) (CA.set l)⟩
   ·exact .inr ⟨by simp[CO,d,f],j⟩
 ·by_cases d:o=t.next
  ·subst d;have:=(DQ i).2;rw[show((t.AE 1).A0 t.next (some ⟨cs,true⟩)).mp=t.mp from rfl,a.Er _ l]at this;cases this
  ·rw[IS d]at i;obtain⟨z,H⟩:=DQ i;rw[V.AU]at z;obtain⟨b,I,f,j,r⟩:=a.maps o es (E7 z H);exact⟨b,I,by simp[CO,d,f],D (a.B7 o b f).2 j,r.AG (Cs.refl _) (CA.set l)⟩
 ·simp only[CO]at h;split at h
  ·cases h
  ·exact a.Er o h
 ·rcases k h with⟨e,c⟩|⟨e,c⟩<;>rcases k g with⟨B,s⟩|⟨B,s⟩
  ·rw[e,B]
  ·have:=(a.B7 _ _ s).2;omega
  ·have:=(a.B7 _ _ c).2;omega
  ·exact a.inj o o' b c s
 ·rcases k h with⟨e,c⟩|⟨e,c⟩
  ·simp_all
  ·have:=a.B7 o b c;simp only[Ar,BC];omega
 ·obtain⟨⟨w,f⟩,j⟩:=a.AZ b ds h
  grind [F]
 ·grind
 ·rcases k h with⟨e,c⟩|⟨e,c⟩
  ·omega
  ·exact⟨o,y,c,by rw[n e]at g;exact g,E⟩
 ·rcases k h with⟨e,c⟩|⟨e,c⟩
  ·omega
  ·exact⟨o,y,c,by rw[n e]at g;exact g⟩
theorem a12(a:BI J u t m)(s:m.next<=A.next)(l: ∀b,b<m.next->A.W b=m.W b/\A.mp b=m.mp b):
 BI J u ((t.AE 1).A0 t.next (some ⟨[],true⟩)) A/\Be t.next m.next J u t m J u ((t.AE 1).A0 t.next (some ⟨[],true⟩)) A:=by
 have n:J t.next=none:=by
  cases f:J t.next with
  |none=>rfl
  |some b=>have:=(a.B7 _ _ f).1;omega
 have p: ∀{o b:Nat},J o=some b->o≠t.next:= λh e=>by subst e;rw[n]at h;cases h
 have j: ∀{o:Nat},o≠t.next->((t.AE 1).A0 t.next (some ⟨[],true⟩)).W o=t.W o:= λc=>by rw[A3 c,V.AU]
 refine⟨⟨λo x k=> ?_,λo es f=> ?_,a.Er,a.inj,λo b h=> ?_,λb ds h=> ?_⟩,⟨CA.refl _,Cs.refl _,λo b h=> .inl h,λb ds h=> .inl h,by simp,s,λb hb _=>(l b hb).1,λb hb=> λ⟨o,y,h,g,v⟩=> ?_,λb hb=> λ⟨o,y,h,g⟩=> ?_⟩⟩
 ·by_cases c:o=t.next
  ·subst c;rw[AT (by simp)]at k
   grind
  ·rw[j c]at k;rcases a.Eh o x k with⟨b,ds,w,d,i,q,z⟩|d
   ·exact .inl ⟨b,ds,w,d,by rw[(l b (a.B7 o b d).2).1,i],q,z⟩
   ·exact .inr d
 ·by_cases c:o=t.next
  ·subst c;have:=(DQ f).2;rw[show((t.AE 1).A0 t.next (some ⟨[],true⟩)).mp=t.mp from rfl,a.Er _ n]at this;cases this
  ·rw[IS c]at f;obtain⟨r,B⟩:=DQ f;rw[V.AU]at r;obtain⟨b,C,d,i,q⟩:=a.maps o es (E7 r B);obtain⟨D,E⟩:=DQ i;have hb:=(a.B7 o b d).2
   grind [E7]
 ·have:=a.B7 o b h;simp only[Ar,BC];omega
 ·obtain⟨⟨w,d⟩,i⟩:=a.AZ b ds h
  grind [F]
 ·exact⟨o,y,h,by rw[j (p h)]at g;exact g,v⟩
 ·exact⟨o,y,h,by rw[j (p h)]at g;exact g⟩
theorem aBh{f n:Nat}(l:cs.all BB=true)
 (o: ∀(J:C5) (u:Ca) (a:List Value) (m:V),BI J u t m->AJ u J args a->Aq P f a m λr A=>m.next<=A.next/\(∀b,b<m.next->A.W b=m.W b/\A.mp b=m.mp b)/\
  ((n=0/\cs=[]/\r= .slice none 0 0)\/ ∃q,m.next<=q/\q<A.next/\r= .slice (some ⟨q,0,none⟩) n z/\A.W q=some ⟨cs,true⟩)):
 Bv P f args t λv p=>v=AQ t.next n z/\p=(t.AE 1).A0 t.next (some ⟨cs,true⟩):= λJ u a m c s=>by
 refine(o J u a m c s).AG λr A w=> ?_;obtain⟨j,k,⟨d,e,g⟩|⟨q,d,e,g,x⟩⟩:=w
 ·subst d;subst e;subst g;obtain⟨h,i⟩:=a12 c j k;exact⟨J,u,_,_,⟨rfl,rfl⟩,h,.Qs (.inl rfl),i⟩
 ·obtain⟨h,i⟩:=a2U c d e x j k l;exact⟨_,u,_,_,⟨rfl,rfl⟩,h,by rw[g];exact .slice (by simp[CO]),i⟩
end Go.DI
namespace Go.Proofs.YtmmkkggfmigppaaGreat
open Go Go.DI
abbrev AA(b:Nat):Value:= .pointer (some ⟨b,0,none⟩)
abbrev Y(n:Int):Value:= .int .i64 n
abbrev Br(n:Int):Value:= .int .u32 n
structure BK(m A:V):Prop where
 next:m.next<=A.next
 W: ∀b,b<m.next->A.W b=m.W b
theorem BK.refl(m:V):BK m m:=⟨Ao _,λ_ _=>rfl⟩
theorem CC{l:List Value}{k:Nat}:(List.take 1 (List.drop k l)).head?=l[k]?:=by
 cases h:l.drop k with
 |nil=>rw[List.drop_eq_nil_iff]at h;rw[LF h];rfl
 |cons x xs=>simp;rw[<-List.head?_drop,h];rfl
def Hs(n:Int):Bool:=(decide (97<=n)&&decide (n<=122))||(decide (65<=n)&&decide (n<=90))
def Lw(n:Int):Bool:=decide (48<=n)&&decide (n<=57)
def GL(n:Int):Bool:=Hs n||Lw n||decide (n=45)||decide (n=46)
def KS(p:Int->Bool)(T:ByteArray):Nat->Nat->Nat
 |0,_=>0
 |n+1,i=>if p (LL T i)=true then KS p T n (i+1)+1 else 0
def BP(T:ByteArray):Prop:=0<T.size/\T.size<=16/\Hs (LL T 0)=true/\KS GL T T.size 0=T.size
open Classical in
noncomputable def IY(T:ByteArray):Bool:=decide (BP T)
variable{T:ByteArray}{Q:BM->A6->V->Prop}
theorem Q3(h:BP T):IY T=true:=by simp[IY,h]
theorem PK(h: ¬BP T):IY T=false:=by simp[IY,h]
theorem sI(h:T.size=0):T=⟨#[]⟩:=by apply ByteArray.ext;exact Array.eq_empty_of_size_eq_zero h
theorem QC(n:Int)(m:V)(a7:Value->V->Prop):Aq U 231 [.int .u8 n] m a7=a7 (.bool (Hs n)) m:=by refine(H5.JZ ?_).wp;rw[aFU (by simp)];by_cases a:97<=n<;>by_cases b:n<=122<;>by_cases c:65<=n<;>by_cases d:n<=90<;>simp[kV,Hs,a,b,c,d]
theorem c1(n:Int)(m:V)(a7:Value->V->Prop):Aq U 255 [.int .u8 n] m a7=a7 (.bool (Lw n)) m:=by refine(H5.JZ ?_).wp;rw[a4h (by simp)];by_cases a:48<=n<;>by_cases b:n<=57<;>simp[l6,Lw,a,b]
theorem tT(n:Int)(m:V)(a7:Value->V->Prop):Aq U 232 [.int .u8 n] m a7=a7 (.bool (GL n)) m:=by
 refine(H5.JZ ?_).wp;rw[aBc (by simp)];by_cases a:Hs n=true
 ·simp[QT,QC,GL,a]
 by_cases b:Lw n=true
 ·simp[QT,QC,c1,GL,a,b]
 by_cases c:n=45
 ·subst c;simp[QT,QC,c1,GL,Hs,Lw]
 by_cases d:n=46
 ·subst d;simp[QT,QC,c1,GL,Hs,Lw]
 simp[QT,QC,c1,GL,a,b,c,d]
theorem od(l:T.size<=16): ∀(r i:Nat) (m:V) (a:A6),i+r=T.size->a 0= .string T->a 3=Y i->
 (KS GL T r i=r-> ∀c,Q (.Ai 0) c m)->(KS GL T r i≠r-> ∀c,c 2= .bool false->Q .DO c m)->BS U (.loop XM) a m Q
 | 0,i,m,a,o,b,d,e,f=>by refine D7 λp g=> ?_;have: ¬(i:Int)<T.size:=(by omega);simp[XM,KX,b,d,this];exact e rfl _
 | r+1,i,m,a,o,b,d,e,f=>by
   refine D7 λp g=> ?_;have j:(i:Int)<T.size:=(by omega);have q:=BX (n:=i) (by omega);by_cases hb:GL (LL T i)=true
   ·simp[XM,KX,tT,b,d,j,hb,q];refine g _ _ (od l r (i+1) _ _ (by omega) (by simp[b]) (by simp) (λh=>e (by simp[KS,hb,h])) (λh=>f (by simp[KS,hb];exact h)))
   ·have k:GL (LL T i)=false:=(by simpa using hb);simp[XM,KX,tT,b,d,j,k];exact f (by simp[KS,k]) _ (by simp)
theorem a2Q(T:ByteArray)(m:V)(a7:Value->V->Prop):Aq U 179 [.string T] m a7=a7 (.bool (IY T)) m:=by
 refine(H5.JZ ?_).wp;rw[aEl (by simp)];by_cases f:T.size=0
 ·have e:=sI f;have j:(T.size:Int)<1:=(by omega);have a: ¬BP T:= λh=>by have:=h.1;omega
  simp[TE,e];rw[<-e,PK a]
 ·have e: ¬T=⟨#[]⟩:= λh=>f (by rw[h];rfl);have j:(0:Int)<T.size:=(by omega);have n: ¬(T.size:Int)<1:=(by omega);have i:0<T.size:=(by omega);by_cases o:16<T.size
  ·have b:(16:Int)<T.size:=(by omega);have a: ¬BP T:= λh=>by have:=h.2.1;omega
   simp[TE,KX,e,b,PK a]
  ·have b: ¬(16:Int)<T.size:=(by omega);by_cases c:Hs (LL T 0)=true
   ·simp[TE,KX,QC,e,i,b,c];refine od (T:=T) (by omega) T.size 0 _ _ (by omega) (by simp) (by simp) (λh k=> ?_) (λh k g=> ?_)
    ·simp[Q3 ⟨by omega,by omega,c,h⟩]
    ·have a: ¬BP T:= λd=>h d.2.2.2;simp[g,PK a]
   ·have a: ¬BP T:= λd=>c d.2.2.1;have l:Hs (LL T 0)=false:=(by simpa using c);simp[TE,KX,QC,e,i,b,l,PK a]
theorem R7(n:Int)(m:V)(a7:Value->V->Prop):Aq U 237 [.int .u8 n] m a7=a7 (.bool (Hs n)) m:=by refine(H5.JZ ?_).wp;rw[a0c (by simp)];by_cases a:97<=n<;>by_cases b:n<=122<;>by_cases c:65<=n<;>by_cases d:n<=90<;>simp[jA,Hs,a,b,c,d]
theorem Yx(n:Int)(m:V)(a7:Value->V->Prop):Aq U 256 [.int .u8 n] m a7=a7 (.bool (Lw n)) m:=by refine(H5.JZ ?_).wp;rw[aEF (by simp)];by_cases a:48<=n<;>by_cases b:n<=57<;>simp[ib,Lw,a,b]
theorem uW(n:Int)(m:V)(a7:Value->V->Prop):Aq U 238 [.int .u8 n] m a7=a7 (.bool (GL n)) m:=by
 refine(H5.JZ ?_).wp;rw[aFW (by simp)];by_cases a:Hs n=true
 ·simp[QG,R7,GL,a]
 by_cases b:Lw n=true
 ·simp[QG,R7,Yx,GL,a,b]
 by_cases c:n=45
 ·subst c;simp[QG,R7,Yx,GL,Hs,Lw]
 by_cases d:n=46
 ·subst d;simp[QG,R7,Yx,GL,Hs,Lw]
 simp[QG,R7,Yx,GL,a,b,c,d]
theorem tB(l:T.size<=16): ∀(r i:Nat) (m:V) (a:A6),i+r=T.size->a 0= .string T->a 3=Y i->
 (KS GL T r i=r-> ∀c,Q (.Ai 0) c m)->(KS GL T r i≠r-> ∀c,c 2= .bool false->Q .DO c m)->BS U (.loop X5) a m Q
 | 0,i,m,a,o,b,d,e,f=>by refine D7 λp g=> ?_;have: ¬(i:Int)<T.size:=(by omega);simp[X5,KX,b,d,this];exact e rfl _
 | r+1,i,m,a,o,b,d,e,f=>by
   refine D7 λp g=> ?_;have j:(i:Int)<T.size:=(by omega);have q:=BX (n:=i) (by omega);by_cases hb:GL (LL T i)=true
   ·simp[X5,KX,uW,b,d,j,hb,q];refine g _ _ (tB l r (i+1) _ _ (by omega) (by simp[b]) (by simp) (λh=>e (by simp[KS,hb,h])) (λh=>f (by simp[KS,hb];exact h)))
   ·have k:GL (LL T i)=false:=(by simpa using hb);simp[X5,KX,uW,b,d,j,k];exact f (by simp[KS,k]) _ (by simp)
theorem q5(T:ByteArray)(m:V)(a7:Value->V->Prop):Aq U 188 [.string T] m a7=a7 (.bool (IY T)) m:=by
 refine(H5.JZ ?_).wp;rw[a3D (by simp)];by_cases i:T.size=0
 ·have e:=sI i;have j:(T.size:Int)<1:=(by omega);have a: ¬BP T:= λh=>by have:=h.1;omega
  simp[Ro,KX,j,PK a]
 ·have e: ¬T=⟨#[]⟩:= λh=>i (by rw[h];rfl);have j:(0:Int)<T.size:=(by omega);have d: ¬(T.size:Int)<1:=(by omega);have k:0<T.size:=(by omega);by_cases o:16<T.size
  ·have b:(16:Int)<T.size:=(by omega);have a: ¬BP T:= λh=>by have:=h.2.1;omega
   simp[Ro,KX,d,b,PK a]
  ·have b: ¬(16:Int)<T.size:=(by omega);by_cases c:Hs (LL T 0)=true
   ·simp[Ro,KX,R7,d,k,b,c];refine tB (T:=T) (by omega) T.size 0 _ _ (by omega) (by simp) (by simp) (λh l=> ?_) (λh l g=> ?_)
    ·simp[Q3 ⟨by omega,by omega,c,h⟩]
    ·have a: ¬BP T:= λf=>h f.2.2.2;simp[g,PK a]
   ·have a: ¬BP T:= λf=>c f.2.2.1;have n:Hs (LL T 0)=false:=(by simpa using c);simp[Ro,KX,R7,d,k,b,n,PK a]
end Go.Proofs.YtmmkkggfmigppaaGreat
namespace Go.Big
structure Ac where
 HY:Bool
 a:List Int
 b:List Int
 deriving DecidableEq
structure Be where
 HY:Bool
 n:Int
 d:Int
 deriving DecidableEq
def Be.nil:Be:=⟨false,0,1⟩
def Be.Gd:Be:=⟨false,1,1⟩
def Be.ok(_:Be):Bool:=true
def Be.small(_:Be):Bool:=true
def IN(x y:Be):Int:=if x.n*y.d<y.n*x.d then-1 else if y.n*x.d<x.n*y.d then 1 else 0
def Ac.AZ(x:Ac):Be:=⟨x.HY,x.a.headD 0,x.b.headD 0⟩
def VM:List Ac:=[⟨false,[],[1]⟩,⟨false,[1],[1]⟩,⟨false,[1],[2]⟩,⟨false,[1],[1000]⟩,⟨false,[30],[1]⟩]
def Ac.B1(x:Ac):Prop:=x∈VM
theorem vT{x:Be}(_:x.small=true):x.ok=true:=rfl
variable{x:Ac}
theorem Ac.xn(h:x.B1):0<=x.AZ.n:=by
 have: ∀y∈VM,0<=y.AZ.n:=by decide
 exact this x h
theorem Ac.aCx(h:x.B1):0<=x.AZ.n:=Ac.xn h
end Go.Big
namespace Go.Proofs.YtmmkkggfmigppaaGreat
open Go Go.DI Go.Big
abbrev AP(l:List Int):Value:=M (l.map λd=>[Br d]) 1
theorem Nf{D L:Type}{f:D->L}(h: ∀x y,f x=f y->x=y): ∀{l K:List D},l.map f=K.map f↔l=K
 |[],[]=>by simp
 |[],_::_=>by simp
 |_::_,[]=>by simp
 | x::l,y::K=>by simp only[E1,OW,Nf h];exact⟨λ⟨a,b⟩=>⟨h _ _ a,b⟩,λ⟨a,b⟩=>⟨by rw[a],b⟩⟩
@[simp] theorem aNG{l K:List Int}:(l.map λd=>[Br d])=(K.map λd=>[Br d])↔l=K:=Nf λx y h=>by simpa using h
def BO(x:Ac):List Value:=[.bool x.HY,AP x.a,AP x.b]
variable{x:Ac}{l:List Ac}{f:Nat}{r:Value}{ts:List Value}{T:ByteArray}
theorem aCh{y:Ac}:BO x=BO y↔x=y:=by obtain⟨a,b,c⟩:=x;obtain⟨d,e,f⟩:=y;simp[BO]
@[simp] theorem aP0:(BO x).length=3:=rfl
abbrev B5(x:Ac):Value:= .agg (BO x).toArray
abbrev DZ(l:List Ac):Value:=M (l.map BO) 3
@[simp] theorem aM9{K:List Ac}:l.map BO=K.map BO↔l=K:=Nf λx y h=>aCh.1 h
theorem a8e(h: ∀m a,XY m ts a->Aq U f a m λc A=>BK m A/\Yy A r c):AL U f ts r:=
 aEc λm a d=>(h m a d).AG λc A b=>⟨⟨b.1.next,b.1.W⟩,b.2⟩
theorem aCY:AL U 179 [.string T] (.bool (IY T)):=a8e λm b a=>by obtain⟨v,rfl,h⟩:=a.Gd;rw[h.NV,a2Q];exact⟨BK.refl m,.BT rfl⟩
theorem u3: ∀r∈l.map BO,r.length=3/\ ∀v∈r,Co v=true:= λr b=>by obtain⟨x,_,rfl⟩:=CP.1 b;exact⟨rfl,λv a=>by simp[BO]at a;rcases a with rfl|rfl|rfl<;>rfl⟩
theorem a0i:(l.map BO).flatten.length=l.length*3:=by rw[JQ (z:=3) λr a=>(u3 r a).1,Eb]
end Go.Proofs.YtmmkkggfmigppaaGreat
namespace Go.Big
structure F1 where
 name:ByteArray
 s:List Ac
 v9:List (List Ac)
 e:List Ac
 deriving DecidableEq
def F1.B1(x:F1):Prop:= ∃z,2<=z/\z<200/\x.s=[⟨false,[1],[1]⟩]/\x.v9=[[⟨false,[],[1]⟩]]/\x.e=[⟨false,[1],[z]⟩]
def F1.Md(_:F1):Bool:=true
end Go.Big
namespace Go.Proofs.YtmmkkggfmigppaaGreat
open Go Go.DI Go.Big
abbrev qA(l:List (List Ac)):Value:=M (l.map λr=>[DZ r]) 1
def Cc(x:F1):List Value:=[.string x.name,DZ x.s,qA x.v9,DZ x.e]
variable{K l:List (List Ac)}{D:Type}{i:Nat}
@[simp] theorem aOU:(l.map λr=>[DZ r])=(K.map λr=>[DZ r])↔l=K:=Nf λx y h=>by simpa using h
abbrev Of(x:F1):Value:= .agg (Cc x).toArray
theorem MB{l:List D}{x:D}(h:l[i]?=some x):l.take (i+1)=l.take i++[x]:=by rw[K4,h];rfl
end Go.Proofs.YtmmkkggfmigppaaGreat
namespace Go.Big
def C6(a b c:Int):Bool:=decide (b<=a)&&decide (a<=c)
end Go.Big
namespace Go.Proofs.YtmmkkggfmigppaaGreat
open Go Go.DI Go.Big
variable{c:Int}{a b:List Int}{n:Bool}{x:Ac}{l:List Ac}{p:Ac->Bool}{u:Nat}
theorem a1D{a b:Int}:AL U 110 [Y a,Y b,Y c] (.bool (C6 a b c)):=by refine BG (Ak (an:=⟨[],[]⟩) a5f (by kernel_rfl) (by simp[ma]) ?_);by_cases h:b<=a<;>simp[ma,wy,h,C6]
noncomputable def Kh:AK U:= .B8 110 (Int×Int×Int) (λ⟨a,b,c⟩=>True) (λ⟨a,b,c⟩=>[Y a,Y b,Y c]) (λ⟨a,b,c⟩=> .bool (C6 a b c)) (λ⟨a,b,c⟩ h=>a1D)
@[simp] theorem aGV:Kh.f=110:=rfl
@[simp] theorem aOc{a:Int}{b:Int}:Kh.fn ([Y a,Y b,Y c])=some (.bool (C6 a b c)):=AK.BD (x:=(a,b,c)) trivial λy d=>by obtain⟨e,f,g⟩:=y;simpa using d
theorem Pf(h:[B5 x]=[.agg #[.bool n,AP a,AP b]]):x=⟨n,a,b⟩:=by obtain⟨c,d,e⟩:=x;simpa[BO]using h
noncomputable def mQ(u:Nat)(l:List Ac)(p:Ac->Bool)(a: ∀x∈l,AL U u [B5 x] (.bool (p x))):AK U:= .B8 u Ac (λx=>x∈l) (λx=>[B5 x]) (λx=> .bool (p x)) a
@[simp] theorem aMQ{a: ∀x∈l,AL U u [B5 x] (.bool (p x))}:(mQ u l p a).f=u:=rfl
@[simp] theorem aOh{c: ∀x∈l,AL U u [B5 x] (.bool (p x))}(h:Ac.mk n a b∈l):(mQ u l p c).fn [.agg #[.bool n,AP a,AP b]]=some (.bool (p ⟨n,a,b⟩)):=
  AK.BD (x:=Ac.mk n a b) h λy d=>Pf d
theorem sm(s:l.length<1000000)(j: ∀x∈l,AL U u [B5 x] (.bool (p x))):AL U 172 [DZ l,.func (.func u) #[] #[]] (.bool (l.all p)):=by
 refine BG (Ak (an:=⟨[],[]⟩) a2b (by kernel_rfl) (by simp[mw]) ?_);simp[mw,vm];refine CE (an:=⟨[mQ u l p j],[]⟩) (λi a t=>(l.take i).all p=true/\a 1= .func (.func u) #[] #[]/\a 7=DZ l/\a 8=Y l.length/\a 9=Y i) l.length ?_ ?_ 0 _ _ (C0 _) ⟨by simp,by simp,by simp,by simp,by simp⟩
 ·rintro i a t g ⟨c,d,e,b,f⟩ v m;have o:l[i]?=some l[i]:=AS g;have q:l[i]∈l:=Dc g;have r:=BX (n:=i) (by omega);have h:(i:Int)<l.length:=(by omega);cases hb:p l[i]
  ·simp(disch:=first|omega|simp only[AD];omega)[Zw,Tv,d,e,b,f,h,hb,BO];exact⟨_,q,hb⟩
  ·simp(disch:=first|omega|simp only[AD];omega)[Zw,Tv,d,e,b,f,h,r,hb,BO,-H,-E,-I,-G,-List.map_map];exact m _ _ ⟨by rw[MB o,List.all_append,c];simp[hb],by simp[d],by simp[e],by simp[b],by simp⟩
 ·rintro a t ⟨c,d,e,b,f⟩;rw[EP]at c;simp[Zw,Tv,b,f,Tv];simpa using c
section
set_option maxRecDepth 100000
def yc:List (Nat×AN):=[(59,ev),(107,eH),(138,Xz),(139,aG),(140,bE),(167,fA),(168,Ys),(169,Xu),(170,bk),(171,ZQ),(173,ou),(174,rU),(175,vj),(191,tm),(192,oI),(193,wR),(194,T8),(195,Xw),(196,cW),(199,sT),(213,aw),(215,ah),(216,dm),(217,tx),(218,s3),(219,YU),(220,qX),(221,et),(222,bb),(223,wN),(230,yB),(239,pZ),(240,cy),(241,Yd),(246,Z2),(247,Ta),(248,aC),(249,vt),(251,e3),(253,eP),(254,xN),(257,nt),(258,pC),(274,vl),(275,y1),(260,Y2),(268,dY),(271,YN),(272,y3),(273,Rg),(278,a9)]
theorem a8q:ee U yc:=⟨⟨⟨by kernel_rfl,oe⟩,by kernel_rfl⟩,⟨⟨⟨by kernel_rfl,yl⟩,by kernel_rfl⟩,⟨⟨⟨by kernel_rfl,xD⟩,by kernel_rfl⟩,⟨⟨⟨by kernel_rfl,uB⟩,by kernel_rfl⟩,⟨⟨⟨by kernel_rfl,r1⟩,by kernel_rfl⟩,⟨⟨⟨by kernel_rfl,xQ⟩,by kernel_rfl⟩,⟨⟨⟨by kernel_rfl,y8⟩,by kernel_rfl⟩,⟨⟨⟨by kernel_rfl,qf⟩,by kernel_rfl⟩,⟨⟨⟨by kernel_rfl,v5⟩,by kernel_rfl⟩,⟨⟨⟨by kernel_rfl,uM⟩,by kernel_rfl⟩,⟨⟨⟨by kernel_rfl,aCT⟩,by kernel_rfl⟩,⟨⟨⟨by kernel_rfl,a15⟩,by kernel_rfl⟩,⟨⟨⟨by kernel_rfl,aAm⟩,by kernel_rfl⟩,⟨⟨⟨by kernel_rfl,a10⟩,by kernel_rfl⟩,⟨⟨⟨by kernel_rfl,a3v⟩,by kernel_rfl⟩,⟨⟨⟨by kernel_rfl,a2P⟩,by kernel_rfl⟩,⟨⟨⟨by kernel_rfl,me⟩,by kernel_rfl⟩,⟨⟨⟨by kernel_rfl,om⟩,by kernel_rfl⟩,⟨⟨⟨by kernel_rfl,u5⟩,by kernel_rfl⟩,⟨⟨⟨by kernel_rfl,a2V⟩,by kernel_rfl⟩,⟨⟨⟨by kernel_rfl,xC⟩,by kernel_rfl⟩,⟨⟨⟨by kernel_rfl,pb⟩,by kernel_rfl⟩,⟨⟨⟨by kernel_rfl,y5⟩,by kernel_rfl⟩,⟨⟨⟨by kernel_rfl,aCp⟩,by kernel_rfl⟩,⟨⟨⟨by kernel_rfl,a1G⟩,by kernel_rfl⟩,⟨⟨⟨by kernel_rfl,yX⟩,by kernel_rfl⟩,⟨⟨⟨by kernel_rfl,aF5⟩,by kernel_rfl⟩,⟨⟨⟨by kernel_rfl,xv⟩,by kernel_rfl⟩,⟨⟨⟨by kernel_rfl,tR⟩,by kernel_rfl⟩,⟨⟨⟨by kernel_rfl,aBL⟩,by kernel_rfl⟩,⟨⟨⟨by kernel_rfl,a3x⟩,by kernel_rfl⟩,⟨⟨⟨by kernel_rfl,a7M⟩,by kernel_rfl⟩,⟨⟨⟨by kernel_rfl,rN⟩,by kernel_rfl⟩,⟨⟨⟨by kernel_rfl,xq⟩,by kernel_rfl⟩,⟨⟨⟨by kernel_rfl,zf⟩,by kernel_rfl⟩,⟨⟨⟨by kernel_rfl,jI⟩,by kernel_rfl⟩,⟨⟨⟨by kernel_rfl,u6⟩,by kernel_rfl⟩,⟨⟨⟨by kernel_rfl,aCE⟩,by kernel_rfl⟩,⟨⟨⟨by kernel_rfl,rB⟩,by kernel_rfl⟩,⟨⟨⟨by kernel_rfl,oQ⟩,by kernel_rfl⟩,⟨⟨⟨by kernel_rfl,a6L⟩,by kernel_rfl⟩,⟨⟨⟨by kernel_rfl,a2D⟩,by kernel_rfl⟩,⟨⟨⟨by kernel_rfl,aCz⟩,by kernel_rfl⟩,⟨⟨⟨by kernel_rfl,a13⟩,by kernel_rfl⟩,⟨⟨⟨by kernel_rfl,aFH⟩,by kernel_rfl⟩,⟨⟨⟨by kernel_rfl,yJ⟩,by kernel_rfl⟩,⟨⟨⟨by kernel_rfl,zW⟩,by kernel_rfl⟩,⟨⟨⟨by kernel_rfl,qj⟩,by kernel_rfl⟩,⟨⟨⟨by kernel_rfl,aEA⟩,by kernel_rfl⟩,⟨⟨⟨by kernel_rfl,mo⟩,by kernel_rfl⟩,⟨⟨⟨by kernel_rfl,oj⟩,by kernel_rfl⟩,trivial⟩⟩⟩⟩⟩⟩⟩⟩⟩⟩⟩⟩⟩⟩⟩⟩⟩⟩⟩⟩⟩⟩⟩⟩⟩⟩⟩⟩⟩⟩⟩⟩⟩⟩⟩⟩⟩⟩⟩⟩⟩⟩⟩⟩⟩⟩⟩⟩⟩⟩⟩
variable{args:List Value}{f:Nat}{r:Value}{p:Ac->Prop}{x:Ac}
theorem Ch(h:va (VW yc).W [] 100000 80 f args r=true):AL U f args r:=a3M (Le a8q) w1 h
theorem Pq(b:p ⟨false,[],[1]⟩)(c:p ⟨false,[1],[1]⟩)(d:p ⟨false,[1],[2]⟩)(e:p ⟨false,[1],[1000]⟩)(f:p ⟨false,[30],[1]⟩)(a:x.B1):p x:=by
 simp only[Ac.B1,VM,CM,EK,or_false]at a;rcases a with rfl|rfl|rfl|rfl|rfl
 ·exact b
 ·exact c
 ·exact d
 ·exact e
 ·exact f
theorem mL(a:x.B1):AL U 170 [B5 x] (.bool x.AZ.small):=
 Pq (p:= λx=>AL U 170 [B5 x] (.bool x.AZ.small)) (Ch (by kernel_rfl)) (Ch (by kernel_rfl)) (Ch (by kernel_rfl)) (Ch (by kernel_rfl)) (Ch (by kernel_rfl)) a
theorem hM(a:x.B1):AL U 171 [B5 x] (.bool (decide (0<x.AZ.n))):=
 Pq (p:= λx=>AL U 171 [B5 x] (.bool (decide (0<x.AZ.n)))) (Ch (by kernel_rfl)) (Ch (by kernel_rfl)) (Ch (by kernel_rfl)) (Ch (by kernel_rfl)) (Ch (by kernel_rfl)) a
theorem a6m(a:x.B1):AL U 230 [B5 x] (.bool (decide (IN x.AZ .Gd<=0))):=
 Pq (p:= λx=>AL U 230 [B5 x] (.bool (decide (IN x.AZ .Gd<=0)))) (Ch (by kernel_rfl)) (Ch (by kernel_rfl)) (Ch (by kernel_rfl)) (Ch (by kernel_rfl)) (Ch (by kernel_rfl)) a
theorem za(a:x.B1):AL U 140 [B5 x] (.bool x.AZ.small):=
 Pq (p:= λx=>AL U 140 [B5 x] (.bool x.AZ.small)) (Ch (by kernel_rfl)) (Ch (by kernel_rfl)) (Ch (by kernel_rfl)) (Ch (by kernel_rfl)) (Ch (by kernel_rfl)) a
theorem mO(a:x.B1)(b:x.AZ.ok=true):AL U 139 [B5 x] (Y (IN x.AZ .nil)):=
 Pq (p:= λx=>AL U 139 [B5 x] (Y (IN x.AZ .nil))) (Ch (by kernel_rfl)) (Ch (by kernel_rfl)) (Ch (by kernel_rfl)) (Ch (by kernel_rfl)) (Ch (by kernel_rfl)) a
theorem a2K(a:x.B1):AL U 138 [B5 x] (.bool x.AZ.ok):=
 Pq (p:= λx=>AL U 138 [B5 x] (.bool x.AZ.ok)) (Ch (by kernel_rfl)) (Ch (by kernel_rfl)) (Ch (by kernel_rfl)) (Ch (by kernel_rfl)) (Ch (by kernel_rfl)) a
theorem aDe(a:x.B1):AL U 199 [B5 ⟨false,[1],[1]⟩,B5 x] (.bool (decide (IN .Gd x.AZ<0))):=
 Pq (p:= λx=>AL U 199 [B5 ⟨false,[1],[1]⟩,B5 x] (.bool (decide (IN .Gd x.AZ<0)))) (Ch (by kernel_rfl)) (Ch (by kernel_rfl)) (Ch (by kernel_rfl)) (Ch (by kernel_rfl)) (Ch (by kernel_rfl)) a
theorem Jm:AL U 193 [Y 1] (B5 ⟨false,[1],[1]⟩):=Ch (by kernel_rfl)
theorem aCF:AL U 59 [Y 0,Y 1] (B5 ⟨false,[],[1]⟩):=by have h:AL U 59 [Y 0,Y 1] (.agg #[.bool false,.slice none 0 0,AP [1]]):=Ch (by kernel_rfl);intro u m d f g;refine(h u m d f g).AG λr A ⟨i,j,k,l,n,o⟩=>⟨i,j,k,l,n,?_⟩;obtain⟨ys,rfl,p⟩:=o.K8;obtain⟨a,b,c,e,q,s,t⟩:=AJ.a2A (x:= .bool false) (y:= .slice none 0 0) (z:=AP [1]) p;have v:ys= #[a,b,c]:=Array.toList_inj.1 e;subst v;rw[s.DH rfl];exact AJ.agg (AJ.cons q (AJ.cons (.Oy rfl) (AJ.cons t AJ.nil)))
theorem aDg:AL U 59 [Y 1,Y 1] (B5 ⟨false,[1],[1]⟩):=Ch (by kernel_rfl)
theorem a0r:AL U 59 [Y 1,Y 2] (B5 ⟨false,[1],[2]⟩):=Ch (by kernel_rfl)
theorem aAl:AL U 59 [Y 1,Y 1000] (B5 ⟨false,[1],[1000]⟩):=Ch (by kernel_rfl)
theorem a23:AL U 59 [Y 30,Y 1] (B5 ⟨false,[30],[1]⟩):=Ch (by kernel_rfl)
theorem Vg:AL U 174 [Y 1,Y 1] (.tuple #[B5 ⟨false,[1],[1]⟩,Y 0]):=Ch (by kernel_rfl)
theorem Uc:AL U 173 [DZ [⟨false,[1],[1]⟩]] (.tuple #[B5 ⟨false,[1],[1]⟩,Y 0]):=Ch (by kernel_rfl)
theorem WV:AL U 175 [B5 ⟨false,[1],[1]⟩,B5 ⟨false,[1],[1]⟩] (.tuple #[Y 0,Y 0]):=Ch (by kernel_rfl)
theorem Kd:AL U 191 [DZ [⟨false,[1],[1]⟩]] (.tuple #[B5 ⟨false,[1],[1]⟩,Y 0]):=Ch (by kernel_rfl)
theorem Ka:AL U 192 [B5 ⟨false,[1],[1]⟩,B5 ⟨false,[1],[1]⟩] (.bool true):=Ch (by kernel_rfl)
end
end Go.Proofs.YtmmkkggfmigppaaGreat
