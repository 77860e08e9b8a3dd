/- A part of the proof. -/
import Derived.Test.YtmmkkggfmigppaaGreatZdj
set_option linter.all false
set_option maxRecDepth 20000
set_option maxHeartbeats 16000000
namespace Go.DI
open Go Go.RowKit
variable {P:Program} {u:C0} {K:Be} {t m:X} {A J:A2}
theorem xd(e:BN K u t m)(w:D5 u K A J){bx:List (Operand×Operand)}(y:bx.all (λp=>Ay p.1&&Ay p.2)=true){aC:HC P}{f:Nat}{args G:List Value}(q:AJ u K args G){aU:Value->X->Prop}(h:LR aC f args t (GD A t bx) aU):
 At P f G m λj c=>KF J bx m c/\ ∃a b r d,aU r d/\BN a b d c/\AY b a r j/\Bi t.ac m.ac K u t m a b d c:=by
 unfold LR at h;split at h
 ·refine(eF e q h).AD λj c k=> ?_
  grind [rf]
 ·cases n:GD A t bx with
  | nil=>
    rw[n]at h;simp only[OY]at h;have g:Bh P f args t aU:=by
     grind [xb]
    refine(g K u G m e q).AD λj c k=> ?_;obtain⟨a,b,r,d,g,s,v,i⟩:=k;exact⟨XU e w y i.DL (by rw[n];nofun),a,b,r,d,g,s,v,i⟩
  | cons o l=>
    rw[n]at h;simp only[OY]at h;have z: ∀p∈o::l,∃x,t.Y p=some x/\x.cells≠[]:= λp F=>by
     grind [Yq]
    have g:Bh P f args (Ex t (o::l)) λr B=>aU r (G2 t B (o::l)):=by
     grind [xb]
    refine(oA z g e q).AD λj c k=> ?_;obtain⟨C,a,b,D,d,E,s,v,i⟩:=k;exact⟨XU e w y i.DL (by rw[n];exact C),a,b,D,_,E,s,v,i⟩
def Ph(K:Be)(u:C0)(t m:X)(base a:Nat)(ops:List Av):Prop:= ∀o∈ops,o.k.Bv=true->KE K u t m (base+o.AQ) (a+o.AQ)
variable{o:Av}{ops:List Av}{aU:A2->X->Prop}{Q A4:BM->A2->X->Prop}{c:CF}{a7 A5:Value->X->Prop}{args:List Value}{f:Nat}{N:List GF}{Fn:HT}{r:Value}
theorem nodup_cons(h:Mq ((o::ops).map (·.AQ))=true):(∀p∈ops,p.AQ≠o.AQ)/\Mq (ops.map (·.AQ))=true:=by
 grind [Mq]
theorem cK{aC:HC P}{base l:Nat}: ∀{ops:List Av} {K:Be} {u:C0} {t m:X} {A J:A2} {aU:A2->X->Prop},ops.all Wg=true->Mq (ops.map (·.AQ))=true->BN K u t m->D5 u K A J->Ph K u t m base l ops->base<=t.ac->l<=m.ac->
 B6 aC base ops A t aU->Bn P l ops J m λB v=> ∃a c w i,aU w i/\BN a c i v/\D5 c a w B/\Bi base l K u t m a c i v
 | [],K,u,t,m,A,J,aU,_,_,E,y,_,_,_,h=>by rw[kZ];exact⟨K,u,A,t,h,E,y,Bi.refl⟩
 | o::ops,K,u,t,m,A,J,aU,N,AS,E,y,S,hb,T,h=>by
   obtain⟨C,d,g,k,bx⟩:=o;simp only[F3,AF]at N;obtain⟨AT,V⟩:=nodup_cons AS;have O:=N.1;simp only[Wg,AF]at O;have skip: ∀{g:Option (Nat×Bool)},B6 aC base ops (Ar A d undef) t aU->Bn P l ops (Ar J d undef) m λB v=> ∃a c w i,aU w i/\BN a c i v/\D5 c a w B/\Bi base l K u t m a c i v:= λh=>
    cK N.2 V E (y.A1 AY.undef) (λo F Q=>S o (by simp[F]) Q) hb T h
   have AU:EZ aC base ⟨C,d,g,k,bx⟩ A t (λA t=>B6 aC base ops A t aU)->Bn P l (⟨C,d,none,k,bx⟩::ops) J m λB v=> ∃a c w i,aU w i/\BN a c i v/\D5 c a w B/\Bi base l K u t m a c i v:= λh=>by
    have after: ∀{H:Value} {D:X},(KF J bx m D/\ ∃a c r i,(B6 aC base ops (Ar A d r) i aU)/\BN a c i D/\AY c a r H/\Bi t.ac m.ac K u t m a c i D)->
     Lw P l d bx ops J m (λB v=> ∃a c w i,aU w i/\BN a c i v/\D5 c a w B/\Bi base l K u t m a c i v) H D:= λ{H D} ⟨W,I,Y,r,AV,Z,AW,AX,z⟩=>by
     refine⟨W,?_⟩;have A0:D5 Y I (Ar A d r) (Ar J d H):=(y.AD z.f z.e).A1 AX;have A3:Ph I Y AV D base l ops:= λo F Q=>by
      have p:=S o (by simp[F]) Q;refine⟨?_,λo' L=> ?_,?_,GV p.MN z.HB,GV p.L0 z.HL⟩
      ·cases A4:I (base+o.AQ)with
       |none=>rfl
       | some b=>
         rcases z.LX _ _ A4 with s|⟨s,_⟩
         ·rw[p.e]at s;cases s
         ·have:=p.MN;omega
      ·rcases z.LX _ _ L with s|⟨_,s⟩
       ·exact p.b _ s
       ·have:=p.L0;omega
      ·cases A4:Y (l+o.AQ)with
       |none=>rfl
       | some cs=>
         rcases z.fn _ _ A4 with s|s|⟨o',_,s,_⟩
         ·rw[p.f]at s;cases s
         ·have:=p.L0;omega
         ·exact absurd s (p.b o')
     have A5:=cK N.2 V AW A0 A3 (E8 hb z.HB) (E8 T z.HL) Z;obtain⟨n,A6,A7,A8,A9,AA,AB,AE,AI,AJ,AK,AL⟩:=A5;exact⟨n,A6,A7,A8,A9,AA,AB,AE,AI,AJ,AK,(z.JL hb T).trans AL⟩
    have Aa: ∀{k:M},k.FD=false->Ns k=true->(k.Bv=true->KE K u t m (base+C) (l+C))->(k.Di A t=true/\Dv A t bx=true/\B6 aC base ops (Ar A d (k.EE (base+C) A t)) (k.H8 (base+C) A t) aU)->
     Bn P l (⟨C,d,none,k,bx⟩::ops) J m λB v=> ∃a c w i,aU w i/\BN a c i v/\D5 c a w B/\Bi base l K u t m a c i v:= λ{k} AO W p h=>by
     rw[FT AO];obtain⟨Z,I,q⟩:=mb (h7:=base) (iQ:=l) (id:=base+C) (mid:=l+C) E y AO W h.1 p (by omega) (by omega);refine⟨Z,vK E y O.2 h.2.1,?_⟩;have A0:D5 u I (Ar A d (k.EE (base+C) A t)) (Ar J d (k.val (l+C) J m)):=(y.AD q.AZ.f q.AZ.e).A1 q.val;have A3:Ph I u (k.H8 (base+C) A t) (k.Cj (l+C) J m) base l ops:= λo F Q=>by
      have p:=S o (by simp[F]) Q;have AM:=AT o F;simp only at AM;refine⟨by rw[q.bb _ (by omega)];exact p.e,λo' L=> ?_,p.f,GV p.MN q.AZ.HB,GV p.L0 q.AZ.HL⟩;by_cases e:o'=base+C
      ·subst e;rcases q.self with s|s
       ·rw[s]at L;exact p.b _ L
       ·grind
      ·rw[q.bb _ e]at L;exact p.b _ L
     have A5:=cK N.2 V q.uj A0 A3 (E8 hb q.AZ.HB) (E8 T q.AZ.HL) h.2.2;obtain⟨n,A6,A7,A8,A9,AA,AB,AE,AI,AJ,AK,AL⟩:=A5;exact⟨n,A6,A7,A8,A9,AA,AB,AE,AI,AJ,AK,q.AZ.trans AL⟩
    have Ab:=S ⟨C,d,g,k,bx⟩ (by simp);have AP:=O.1;have R:=AP;simp only[Ns,AF]at R;cases k with
    | Kg f G=>rw[fO];exact(xd E y O.2 (y.OS R.1) h).AD λH D AN=>after AN
    | JV x G=>
      simp only[EZ,Tk]at h;simp only[M.D9,F3,AF]at R;split at h
      ·next f first Ah AM=>have AR:=y.U R.1.1;rw[AM]at AR;obtain⟨ys,ds,e,Ac,Ae⟩:=AR.Py;rw[lB e];exact(xd E y O.2 ((Ac.JU (y.OS R.1.2)).JU Ae) h).AD λH D AN=>after AN
      ·exact h.elim
    |JN=>exact h.elim
    |_=>exact Aa rfl AP Ab h
   simp only[B6]at h;cases g with
   |none=>exact AU (by simpa[Bl]using h)
   | some g=>
     obtain⟨j,b⟩:=g;rw[YZ,gG y];split at h
     ·simp_all
     ·simp_all
theorem iR(a:BN K u t m)(k:Nat):BN K u (t.AE k) (m.AE k) where
 Ee o x d:=by
  by_cases h:o<t.ac
  ·rw[Ab h]at d;rcases a.Ee o x d with⟨b,cs,w,c,e,g⟩|c
   ·grind [Ab,E]
   ·exact .inr c
  ·simp[X.Y,X.AE,h]at d
 maps o es f:=by
  by_cases h:o<t.ac
  ·rw[ic h]at f;obtain⟨b,j,c,e,g⟩:=a.maps o es f;exact⟨b,j,c,by rw[ic (a.B0 o b c).2,e],g⟩
  ·have:=(DO f).1;simp[X.Y,X.AE,h]at this
 Ek:=a.Ek
 inj:=a.inj
 B0 o b h:=by have:=a.B0 o b h;simp only[B1];omega
 AZ b cs h:=by obtain⟨⟨w,c⟩,e⟩:=a.AZ b cs h;refine⟨⟨w,by rw[Ab (E c),c]⟩,λo x i d=> ?_⟩;rw[Ab (a.B0 o b i).1]at d;exact e o x i d
theorem Xv(d:BN K u t m)(k:Nat):Bi t.ac m.ac K u t m K u (t.AE k) (m.AE k) where
 e:=CA.refl _
 f:=Ce.refl _
 LX o b h:= .inl h
 fn b cs h:= .inl h
 HB:=by simp
 HL:=by simp
 DL b hb _:=Ab hb
 Vd b hb:= λ⟨o,x,a,c,g⟩=>⟨o,x,a,by rw[Ab (d.B0 o b a).1]at c;exact c,g⟩
 TO b hb:= λ⟨o,x,a,c⟩=>⟨o,x,a,by rw[Ab (d.B0 o b a).1]at c;exact c⟩
theorem aAd{aC:HC P}(a:HI (.FW ops)=true)(c:BN K u t m)(s:D5 u K A J)(h:B6 aC t.ac ops A (Cn ops t) aU):
 Bn P m.ac ops J (Cn ops m) λv j=> ∃d e l f,aU l f/\BN d e f j/\D5 e d l v/\Bi t.ac m.ac K u t m d e f j:=by
 simp only[HI,AF]at a;have x:BN K u (Cn ops t) (Cn ops m):=by
  grind [Cn,iR]
 have g:Bi t.ac m.ac K u t m K u (Cn ops t) (Cn ops m):=by
  grind [Cn,Xv,Bi.refl]
 have y:Ph K u (Cn ops t) (Cn ops m) t.ac m.ac ops:= λo p z=>by
  have q:(ops.any λo=>o.k.Bv)=true:=List.any_eq_true.2 ⟨o,p,z⟩;have r:o.AQ<ops.length:=(by simpa using BR.1 a.2 o p);refine⟨?_,λo' B=> ?_,?_,by simp[Cn,q,r],by simp[Cn,q,r]⟩
  ·cases i:K (t.ac+o.AQ)with
   |none=>rfl
   |some b=>have:=(c.B0 _ _ i).1;omega
  ·have:=(c.B0 _ _ B).2;omega
  ·cases i:u (m.ac+o.AQ)with
   |none=>rfl
   |some cs=>obtain⟨⟨w,C⟩,_⟩:=c.AZ _ _ i;have:=E C;omega
 have:=cK a.1.1 a.1.2 x s y g.HB g.HL h;obtain⟨n,D,F,G,H,I,L,M,N,O,Q,R⟩:=this;exact⟨n,D,F,G,H,I,L,M,N,O,Q,g.trans R⟩
theorem QS{aC:HC P}: ∀{c:CF} {A:A2} {t:X} {Q:BM->A2->X->Prop},ER aC c A t Q->Bc P c A t Q
 | .skip,A,t,Q,h=> λ_ K u J m f d=>by rw[iL];exact⟨K,u,A,t,h,f,d,Bi.refl⟩
 | .Ao id,A,t,Q,h=> λ_ K u J m f d=>by rw[im];exact⟨K,u,A,t,h,f,d,Bi.refl⟩
 | .Cz,A,t,Q,h=> λ_ K u J m f d=>by rw[eR];exact⟨K,u,A,t,h,f,d,Bi.refl⟩
 | .FW ops,A,t,Q,h=> λg K u J m f d=>by rw[fy];exact aAd g f d h
 | .LN _ _ _,_,_,_,h=>h.elim
 | .El a b,A,t,Q,h=> λg K u J m f d=>by
   simp only[HI,AF]at g;rw[aw];refine(QS (c:=a) h g.1 K u J m f d).AD λe v w n=> ?_;obtain⟨j,k,o,p,l,i,r,q⟩:=n;cases e with
   | CK=>rw[Nn];refine(QS (c:=b) l g.2 j k v w i r).AD λe G H n=> ?_;obtain⟨x,y,z,B,C,D,E,F⟩:=n;exact⟨x,y,z,B,C,D,E,q.trans (F.JL q.HB q.HL)⟩
   |Ao id=>exact⟨j,k,o,p,l,i,r,q⟩
   |Cz=>exact⟨j,k,o,p,l,i,r,q⟩
 | .HP c a b,A,t,Q,h=> λg K u J m f d=>by
   simp only[HI,AF]at g;rw[cF];have e:=rD (d.U g.1.1) h.1;rw[e];refine⟨h.1,?_⟩;have i:=h.2;split at i
   ·next s=>rw[if_pos s];exact QS (c:=a) i g.1.2 K u J m f d
   ·next s=>rw[if_neg s];exact QS (c:=b) i g.2 K u J m f d
 | .block id c,A,t,Q,h=> λg K u J m f d=>by
   rw[Tz];refine(QS (c:=c) h g K u J m f d).AD λe v w n=> ?_;obtain⟨j,k,o,p,l,i⟩:=n;cases e with
   |CK=>exact⟨j,k,o,p,l,i⟩
   |Cz=>exact⟨j,k,o,p,l,i⟩
   | Ao I=>
     grind [c2]
 | .loop c,A,t,Q,h=>h
theorem Bc.AD(h:Bc P c A t Q)(f: ∀e A t,Q e A t->A4 e A t):Bc P c A t A4:= λa K u J m b d=>(h a K u J m b d).AD λe g i j=>by
 grind
theorem Bh.AD(h:Bh P f args t a7)(c: ∀r t,a7 r t->A5 r t):Bh P f args t A5:= λK u G m a b=>(h K u G m a b).AD λd e g=>by
 grind
theorem Ba{aC:HC P}(h: ∀l:A2->X->Prop,(∀J b,Bc P (.loop c) J b Q->l J b)->ER aC c A t (M3 l Q)):Bc P (.loop c) A t Q:= λn K u J m q r=>by
 rw[oF];refine(QS (h (λJ b=>Bc P (.loop c) J b Q) (λ_ _ h=>h)) n K u J m q r).AD λe s v d=> ?_;obtain⟨f,g,o,p,i,j,k,a⟩:=d;cases e with
 | CK=>rw[w5];refine(i n f g s v j k).AD λe F G d=> ?_;obtain⟨w,x,y,z,B,C,D,E⟩:=d;exact⟨w,x,y,z,B,C,D,a.trans (E.JL a.HB a.HL)⟩
 |Ao id=>exact⟨f,g,o,p,i,j,k,a⟩
 |Cz=>exact⟨f,g,o,p,i,j,k,a⟩
def jd(N:List GF)(a7:Value->X->Prop)(e:BM)(A:A2)(t:X):Prop:=match e with| .Ao _=>False|_=>Fi t A N=true/\a7 (Fv t A N) t
theorem iY(c:BN K u t m)(b:D5 u K A J){r:GF}(h:IX t A r=true):IX m J r=true/\AY u K (J5 t A r) (J5 m J r):=by
 cases r with
 |AH x=>exact⟨rfl,b x⟩
 | DE x R n=>
   simp only[IX,AF]at h⊢;have d:Gp (A x)=false:=by have a:=h.1;cases e:A x<;>simp[e,Bj]at a<;>rfl
   have a:JP t (A x) n=true:=(by rw[JP,d];exact h.1);refine⟨⟨WV c (b x) a,h.2⟩,?_⟩;have:=iS c (b x) a h.2;rw[Nq,d]at this;exact this
theorem ib(a:BN K u t m)(b:D5 u K A J)(h:Fi t A N=true):Fi m J N=true/\AY u K (Fv t A N) (Fv m J N):=by
 simp only[Fi,BR]at h⊢;refine⟨λr c=>(iY a b (h r c)).1,?_⟩;have d:AJ u K (N.map (J5 t A)) (N.map (J5 m J)):=AJ.SI _ _ _ λr c=>(iY a b (h r c)).2;unfold Fv;split
 ·exact(iY a b (h _ (by simp))).2
 ·exact d.tuple
theorem Ax{aC:HC P}(o:M1 P f=some Fn)(h:ER aC Fn.body (CQ args) t (jd Fn.Mn a7))(p:HI Fn.body=true:=by kernel_rfl)(q:args.length<=Fn.cv:=by exact Nat.le_of_ble_eq_true rfl):Bh P f args t a7:= λK u G m r g=>by
 rw[DV o (by rw[<-g.1];exact q)];refine(QS h p K u (CQ G) m r (D5.init g)).AD λe v w s=> ?_;obtain⟨i,j,x,k,c,d,l,n⟩:=s;cases e with
 |Ao id=>exact c.elim
 |CK=>obtain⟨a,b⟩:=ib d l c.1;exact⟨a,i,j,_,k,c.2,d,b,n⟩
 |Cz=>obtain⟨a,b⟩:=ib d l c.1;exact⟨a,i,j,_,k,c.2,d,b,n⟩
def Cl:X:=⟨0,λ_=>none,λ_=>none⟩
theorem q0(o:Nat):Cl.Y o=none:=by simp[Cl,X.Y]
theorem eK(c:Ir u m):BN Ea u Cl m where
 Ee o x a:=by rw[q0]at a;cases a
 maps o es d:=by have:=(DO d).1;rw[q0]at this;cases this
 Ek o _:=rfl
 inj o o' b h:=by cases h
 B0 o b h:=by cases h
 AZ b cs h:=⟨c b cs h,λo x e=>by cases e⟩
open Classical in
theorem BQ(h:Bh P f args Cl λv t=>B3 9 t v=some r):AO P f args r:= λu m G k l=>by
 refine(h Ea u G m (eK k) l).AD λB g n=> ?_;obtain⟨p,i,v,C,q,c,s,d⟩:=n;refine⟨d.HL,(λb hb=>d.DL b hb λ⟨o,x,e,_⟩=>by cases e),(λb=>match i b with
  |some cs=>some cs
  |none=>if∃o,p o=some b then(g.Y b).map (·.cells)else none),λb cs hb=> ?_,λb cs hb=> ?_,?_⟩
 ·simp only[d.f b cs hb]
 ·simp only at hb;split at hb
  ·next y=>cases hb;exact(c.AZ b _ y).1
  ·split at hb
   ·cases a:g.Y b with
    |none=>rw[a]at hb;cases hb
    |some x=>rw[a]at hb;cases hb;exact⟨x.own,rfl⟩
   ·cases hb
 ·refine RS c (λb cs hb=>by simp only[hb]) 9 s q λo D E b cs w z a=> ?_;cases A:i b with
  |some ds=>obtain⟨⟨F,j⟩,_⟩:=c.AZ b ds A;rw[a]at j;cases j;rfl
  |none=>rw[if_pos ⟨o,z⟩,a];rfl
theorem SP{d z:Nat}(q:A d= .slice none 0 0)(h:Bc P c (Fg A d (.slice (some ⟨t.ac,0,none⟩) 0 z)) ((t.AE 1).A1 t.ac (some ⟨[],true⟩)) Q):Bc P c A t Q:= λr K u J m f s=>by
 have l:K t.ac=none:=by
  cases k:K t.ac with
  |none=>rfl
  |some b=>have:=(f.B0 _ _ k).1;omega
 have v:BN K u ((t.AE 1).A1 t.ac (some ⟨[],true⟩)) m:=by
  refine⟨λo x i=> ?_,λo es k=> ?_,f.Ek,f.inj,λo b h=>⟨by have:=(f.B0 o b h).1;simp only[Au,B1];omega,(f.B0 o b h).2⟩,λb cs hb=> ?_⟩
  ·by_cases g:o=t.ac
   ·subst g;rw[AR (by simp)]at i
    grind
   ·rw[A6 g,X.Ab]at i;exact f.Ee o x i
  ·by_cases g:o=t.ac
   ·subst g;have:=(DO k).2;rw[show((t.AE 1).A1 t.ac (some ⟨[],true⟩)).mp=t.mp from rfl,f.Ek _ l]at this;cases this
   ·rw[Kr g]at k;obtain⟨a,j⟩:=DO k;rw[X.Ab]at a;exact f.maps o es (Ec a j)
  ·obtain⟨n,p⟩:=f.AZ b cs hb
   grind [A6,X.Ab]
 have w:D5 u K (Fg A d (.slice (some ⟨t.ac,0,none⟩) 0 z)) J:= λx=>by
  have i:=s x;simp only[Fg];split
  ·next e=>subst e;rw[q]at i;rw[i.DF rfl];exact .Pg (.inl rfl)
  ·exact i
 refine(h r K u J m v w).AD λe L M y=> ?_;obtain⟨B,C,D,E,n,p,F,G⟩:=y;refine⟨B,C,D,E,n,p,F,?_⟩;have H:Bi t.ac m.ac K u t m K u ((t.AE 1).A1 t.ac (some ⟨[],true⟩)) m:=⟨CA.refl _,Ce.refl _,λ_ _ h=> .inl h,λ_ _ h=> .inl h,by simp,Aj _,λ_ _ _=>rfl,λb hb=> λ⟨o,x,a,j,I⟩=>by
  have g:o≠t.ac:= λe=>by subst e;rw[l]at a;cases a
  rw[A6 g,X.Ab]at j;exact⟨o,x,a,j,I⟩,λb hb=> λ⟨o,x,a,j⟩=>by
  have g:o≠t.ac:= λe=>by subst e;rw[l]at a;cases a
  rw[A6 g,X.Ab]at j;exact⟨o,x,a,j⟩⟩
 exact H.trans (G.JL (by simp) (Aj _))
open Go
section
variable {P:Program} {aC:HC P} {T:List (AN P)} {A0:List (Cp P)} {base C:Nat} {d:Option Nat} {B:List Av} {A:A2} {t:X} {aU:A2->X->Prop} {bx:List (Operand×Operand)} {Q:BM->A2->X->Prop}
def aj(aC:HC P)(b:CF)(Q:BM->A2->X->Prop)(e:BM)(A:A2)(t:X):Prop:=match e with
 | .CK=>ER aC b A t Q
 |e=>Q e A t
@[simp] theorem aKj{b:CF}:aj aC b Q .CK A t=ER aC b A t Q:=propext Ep
@[simp] theorem aIr{b:CF}{id:Nat}:aj aC b Q (.Ao id) A t=Q (.Ao id) A t:=propext Ep
@[simp] theorem aHD{b:CF}:aj aC b Q .Cz A t=Q .Cz A t:=propext Ep
variable{u:List GF}{ops:List Av}{j o z:Nat}{r:Value}{G:List Operand}{L:List Nat}{args ts:List Value}{R w:Bool}{cb:List (List Value)}{V:Addr}{a7:Value->Prop}{bT Z A3:Type}{x:Int}{cs:Array Value}
@[simp] theorem aHN{a7:Value->X->Prop}:jd u a7 .CK A t=(Fi t A u=true/\a7 (Fv t A u) t):=propext Ep
@[simp] theorem aF8{a7:Value->X->Prop}:jd u a7 .Cz A t=(Fi t A u=true/\a7 (Fv t A u) t):=propext Ep
@[simp] theorem aJ6:ER aC .skip A t Q=Q .CK A t:=propext Ep
@[simp] theorem aIi{id:Nat}:ER aC (.Ao id) A t Q=Q (.Ao id) A t:=propext Ep
@[simp] theorem aDW:ER aC .Cz A t Q=Q .Cz A t:=propext Ep
@[simp] theorem aJ9:ER aC (.FW ops) A t Q=B6 aC t.ac ops A (Cn ops t) (Q .CK):=propext Ep
@[simp] theorem aFq{a b:CF}:ER aC (.El a b) A t Q=ER aC a A t (aj aC b Q):=propext Ep
@[simp] theorem aE8{c:Operand}{a b:CF}:ER aC (.HP c a b) A t Q=(LL (U A c)=true/\if Mw (U A c)=true then ER aC a A t Q else ER aC b A t Q):=propext Ep
@[simp] theorem aLb{id:Nat}{c:CF}:ER aC (.block id c) A t Q=ER aC c A t (Uf id Q):=propext Ep
@[simp] theorem aIU{c:CF}:ER aC (.loop c) A t Q=Bc P (.loop c) A t Q:=propext Ep
@[simp] theorem aFy:B6 aC base [] A t aU=aU A t:=propext Ep
@[simp] theorem aKb{k:M}{b:Bool}:B6 aC base (⟨C,d,some (j,b),k,bx⟩::B) A t aU=if Bl A (some (j,b))=true then B6 aC base (⟨C,d,none,k,bx⟩::B) A t aU else B6 aC base B (Ar A d undef) t aU:=by simp only[B6];rfl
def j1(aC:HC P)(base:Nat)(d:Option Nat)(B:List Av)(A:A2)(aU:A2->X->Prop)(r:Value)(t:X):Prop:=B6 aC base B (Ar A d r) t aU
@[simp] theorem aGR:j1 aC base d B A aU r t=B6 aC base B (Ar A d r) t aU:=propext Ep
@[simp] theorem aDi{f:Nat}:B6 aC base (⟨C,d,none,.Kg f G,bx⟩::B) A t aU=LR aC f (G.map (U A)) t (GD A t bx) (j1 aC base d B A aU):=by simp only[B6,Bl,if_true];rfl
@[simp] theorem aLu{x:Operand}:B6 aC base (⟨C,d,none,.JV x G,bx⟩::B) A t aU=Tk aC (U A x) (G.map (U A)) t (GD A t bx) (j1 aC base d B A aU):=by simp only[B6,Bl,if_true];rfl
@[simp] theorem aLq{f:Nat}{first a:Array Value}{aU:Value->X->Prop}:Tk aC (.func (.func f) first a) args t L aU=LR aC f (first.toList++args++a.toList) t L aU:=propext Ep
@[simp] theorem aE3(x:Operand):B6 aC base (⟨C,d,none,.FA x,bx⟩::B) A t aU=(Dv A t bx=true/\B6 aC base B (Ar A d (U A x)) (t) aU):=by simp only[B6,Bl,if_true,EZ,M.Di,M.ok,true_and];rfl
@[simp] theorem aGy(c a b:Operand):B6 aC base (⟨C,d,none,.SE c a b,bx⟩::B) A t aU=(LL (U A c)=true/\(Dv A t bx=true/\B6 aC base B (Ar A d (if Mw (U A c)=true then U A a else U A b)) (t) aU)):=by simp only[B6,Bl,if_true,EZ];rfl
@[simp] theorem aL1(x:Operand):B6 aC base (⟨C,d,none,.Lj x,bx⟩::B) A t aU=(OQ (U A x)=true/\(Dv A t bx=true/\B6 aC base B (Ar A d (U A x)) (t) aU)):=by simp only[B6,Bl,if_true,EZ];rfl
@[simp] theorem aEE(z:List Value):B6 aC base (⟨C,d,none,.It z,bx⟩::B) A t aU=(Dv A t bx=true/\B6 aC base B (Ar A d (.pointer (some ⟨base+C,0,none⟩))) (t.A1 (base+C) (some ⟨z,true⟩)) aU):=by simp only[B6,Bl,if_true,EZ,M.Di,M.ok,true_and];rfl
@[simp] theorem aJJ(x:Operand):B6 aC base (⟨C,d,none,.Ja x,bx⟩::B) A t aU=(D (U A x)=true/\(Dv A t bx=true/\B6 aC base B (Ar A d (.pointer (some ⟨base+C,0,none⟩))) (t.A1 (base+C) (some ⟨H (U A x),true⟩)) aU)):=by simp only[B6,Bl,if_true,EZ];rfl
@[simp] theorem aJM(z:List Value)(ps:List (Nat×Nat×Operand)):B6 aC base (⟨C,d,none,.PC z ps,bx⟩::B) A t aU=(Ia z A ps=true/\(Dv A t bx=true/\B6 aC base B (Ar A d (.agg (GS z A ps).toArray)) (t) aU)):=by simp only[B6,Bl,if_true,EZ];rfl
@[simp] theorem aGu(z n:Nat)(cs:List Value)(ps:List (Nat×Nat×Operand)):B6 aC base (⟨C,d,none,.Hg z n cs ps,bx⟩::B) A t aU=(Ia cs A ps=true/\(Dv A t bx=true/\B6 aC base B (Ar A d (.slice (some ⟨base+C,0,none⟩) n z)) (t.A1 (base+C) (some ⟨GS cs A ps,true⟩)) aU)):=by simp only[B6,Bl,if_true,EZ];rfl
@[simp] theorem aL9(R:Bool)(n:Nat)(x:Operand):B6 aC base (⟨C,d,none,.EO R n x,bx⟩::B) A t aU=((JP t (U A x) n&&(R||decide (n=1)))=true/\(Dv A t bx=true/\B6 aC base B (Ar A d (Nq t R n (U A x))) (t) aU)):=by simp only[B6,Bl,if_true,EZ];rfl
@[simp] theorem aEW(n:Nat)(x v:Operand):B6 aC base (⟨C,d,none,.store n x v,bx⟩::B) A t aU=((Bj t (U A x) n&&Gi t (U A x)&&D (U A v)&&decide ((H (U A v)).length=n))=true/\(Dv A t bx=true/\B6 aC base B (Ar A d (undef)) (Fj t (U A x) (H (U A v))) aU)):=by simp only[B6,Bl,if_true,EZ];rfl
@[simp] theorem aKS(op:BinOp)(c:Nr)(x y:Operand):B6 aC base (⟨C,d,none,.Jf op c x y,bx⟩::B) A t aU=((Ge (U A x)&&Ge (U A y)&&Kk op c (U A x) (U A y))=true/\(Dv A t bx=true/\B6 aC base B (Ar A d (Fs op (U A x) (U A y))) (t) aU)):=by simp only[B6,Bl,if_true,EZ];rfl
@[simp] theorem aHd(a:Bool)(b:List Iu)(x y:Operand):B6 aC base (⟨C,d,none,.Oy a b x y,bx⟩::B) A t aU=((KA (U A x)&&KA (U A y)&&Dn b (H (U A x)) (H (U A y)))=true/\(Dv A t bx=true/\B6 aC base B (Ar A d (.bool (if a then !Fz (H (U A x)) (H (U A y))else Fz (H (U A x)) (H (U A y))))) (t) aU)):=by simp only[B6,Bl,if_true,EZ];rfl
@[simp] theorem aG6(op:UnOp)(x:Operand):B6 aC base (⟨C,d,none,.T9 op x,bx⟩::B) A t aU=(NZ op (U A x)=true/\(Dv A t bx=true/\B6 aC base B (Ar A d (QU op (U A x))) (t) aU)):=by simp only[B6,Bl,if_true,EZ];rfl
@[simp] theorem aHj(k:IntKind)(x:Operand):B6 aC base (⟨C,d,none,.VB k x,bx⟩::B) A t aU=(Bp (U A x)=true/\(Dv A t bx=true/\B6 aC base B (Ar A d (.int k (k.wrap (Bk (U A x))))) (t) aU)):=by simp only[B6,Bl,if_true,EZ];rfl
@[simp] theorem aJ8(x:Operand):B6 aC base (⟨C,d,none,.Lr x,bx⟩::B) A t aU=((Fb t 1 (U A x)&&(FL t 1 (U A x)).all R3)=true/\(Dv A t bx=true/\B6 aC base B (Ar A d (.string (toBytes (FL t 1 (U A x))))) (t) aU)):=by simp only[B6,Bl,if_true,EZ];rfl
@[simp] theorem aDw(z:Nat)(x:Operand)(a b:Option Operand):B6 aC base (⟨C,d,none,.OL z x a b,bx⟩::B) A t aU=((Er z (U A x)&&Hx A a&&Hx A b&&decide (0<=Cm A a 0)&&decide (Cm A a 0<=Cm A b (F6 (U A x)))&&decide (Cm A b (F6 (U A x))<=F6 (U A x))&& !(a.isNone&&Kp b&&DK (U A x)))=true/\(Dv A t bx=true/\B6 aC base B (Ar A d (if a.isNone&&Kp b then M5 (U A x)else KJ (U A x) z (Cm A a 0).toNat (Cm A b (F6 (U A x))).toNat)) (t) aU)):=by simp only[B6,Bl,if_true,EZ];rfl
@[simp] theorem aEA(z n:Nat)(x:Operand):B6 aC base (⟨C,d,none,.NH z n x,bx⟩::B) A t aU=((Bj t (U A x) (n*z)&&decide (n<=maxLen))=true/\(Dv A t bx=true/\B6 aC base B (Ar A d (We (U A x) z n)) (t) aU)):=by simp only[B6,Bl,if_true,EZ];rfl
@[simp] theorem aHi(z bytes:Nat)(a:List Value)(l c:Operand):B6 aC base (⟨C,d,none,.IZ z bytes a l c,bx⟩::B) A t aU=((Bp (U A l)&&Bp (U A c)&&decide (0<=Bk (U A l))&&decide (Bk (U A l)<=Bk (U A c))&&decide (Bk (U A c)*(bytes:Int)<=140737488355328)&&decide (Bk (U A c)<=9223372036854775807)&&decide (0<z))=true/\(Dv A t bx=true/\B6 aC base B (Ar A d (.slice (some ⟨base+C,0,none⟩) (Bk (U A l)).toNat z)) (t.A1 (base+C) (some ⟨(List.replicate (Bk (U A l)).toNat a).flatten,true⟩)) aU)):=by simp only[B6,Bl,if_true,EZ];rfl
@[simp] theorem aK0(off:Nat)(x:Operand):B6 aC base (⟨C,d,none,.H0 off x,bx⟩::B) A t aU=(Ix (U A x)=true/\(Dv A t bx=true/\B6 aC base B (Ar A d (N6 (U A x) off)) (t) aU)):=by simp only[B6,Bl,if_true,EZ];rfl
@[simp] theorem aHm(z:Nat)(x i:Operand):B6 aC base (⟨C,d,none,.He z x i,bx⟩::B) A t aU=((Er z (U A x)&&Bp (U A i)&&decide (0<=Bk (U A i))&&decide (Bk (U A i)<F6 (U A x)))=true/\(Dv A t bx=true/\B6 aC base B (Ar A d (Nj (U A x) z (Bk (U A i)))) (t) aU)):=by simp only[B6,Bl,if_true,EZ];rfl
@[simp] theorem aGC(z len:Nat)(x i:Operand):B6 aC base (⟨C,d,none,.QX z len x i,bx⟩::B) A t aU=((Ix (U A x)&&Bp (U A i)&&decide (0<=Bk (U A i))&&decide (Bk (U A i)<(len:Int)))=true/\(Dv A t bx=true/\B6 aC base B (Ar A d (N6 (U A x) ((Bk (U A i)).toNat*z))) (t) aU)):=by simp only[B6,Bl,if_true,EZ];rfl
@[simp] theorem aHE(i:Nat)(x:Operand):B6 aC base (⟨C,d,none,.ext i x,bx⟩::B) A t aU=(SK (U A x) i=true/\(Dv A t bx=true/\B6 aC base B (Ar A d (RH (U A x) i)) (t) aU)):=by simp only[B6,Bl,if_true,EZ];rfl
@[simp] theorem aLh(x:Operand):B6 aC base (⟨C,d,none,.NS x,bx⟩::B) A t aU=(P1 (U A x)=true/\(Dv A t bx=true/\B6 aC base B (Ar A d (.int .i64 (F6 (U A x)))) (t) aU)):=by simp only[B6,Bl,if_true,EZ];rfl
@[simp] theorem aJf(z bytes:Nat)(x y:Operand):B6 aC base (⟨C,d,none,.app z bytes x y,bx⟩::B) A t aU=((Br t z (U A x)&&Dm t (U A x)&&Fb t z (U A y)&&decide (0<z)&&decide ((CO (U A x)+ED (U A y))*bytes<=140737488355328)&&decide (CO (U A x)+ED (U A y)<=9223372036854775807))=true/\(Dv A t bx=true/\B6 aC base B (Ar A d (if ED (U A y)=0 then U A x else if Dj t z (U A x) (ED (U A y))then Sj (U A x) (ED (U A y))else .slice (some ⟨base+C,0,none⟩) (CO (U A x)+ED (U A y)) z)) (if ED (U A y)=0 then t else if Dj t z (U A x) (ED (U A y))then Ga t z (U A x) (FL t z (U A y))else(EC t (U A x)).A1 (base+C) (some ⟨C5 t z (U A x)++FL t z (U A y),true⟩)) aU)):=by simp only[B6,Bl,if_true,EZ];rfl
@[simp] theorem aGI(a:Bool)(x:Operand)(xs:List Operand):B6 aC base (⟨C,d,none,.QG a x xs,bx⟩::B) A t aU=((Bp (U A x)&&xs.all λy=>Bp (U A y))=true/\(Dv A t bx=true/\B6 aC base B (Ar A d (xs.foldl (λb y=>if a then Ha b (U A y)else Hf b (U A y)) (U A x))) (t) aU)):=by simp only[B6,Bl,if_true,EZ];rfl
@[simp] theorem aDY:B6 aC base (⟨C,d,none,.Kz,bx⟩::B) A t aU=(Dv A t bx=true/\B6 aC base B (Ar A d (.map (some (base+C)))) (t.Cw (base+C) []) aU):=by simp only[B6,Bl,if_true,EZ,M.Di,M.ok,true_and];rfl
@[simp] theorem aJq(a:GU)(zero:Value)(o:Bool)(x k:Operand):B6 aC base (⟨C,d,none,.LS a zero o x k,bx⟩::B) A t aU=(uf a t (U A x) (U A k)=true/\(Dv A t bx=true/\B6 aC base B (Ar A d (v5 zero o t (U A x) (U A k))) (t) aU)):=by simp only[B6,Bl,if_true,EZ];rfl
@[simp] theorem aKn(a:GU)(x k v:Operand):B6 aC base (⟨C,d,none,.Ki a x k v,bx⟩::B) A t aU=(tU a t (U A x) (U A k) (U A v)=true/\(Dv A t bx=true/\B6 aC base B (Ar A d (undef)) (vx t (U A x) (U A k) (U A v)) aU)):=by simp only[B6,Bl,if_true,EZ];rfl
@[simp] theorem aKv(f:Nat)(fs cs:List Operand):B6 aC base (⟨C,d,none,.Qv (.func f) fs cs,bx⟩::B) A t aU=(Dv A t bx=true/\B6 aC base B (Ar A d (.func (.func f) (fs.map (U A)).toArray (cs.map (U A)).toArray)) (t) aU):=by simp only[B6,Bl,if_true,EZ,M.Di,true_and];rfl
@[simp] theorem aDs{a:List Value}{k n:Nat}:JP t (BX a k) n=decide (k+n<=a.length):=by simp[JP]
@[simp] theorem aIQ{a n:Nat}:JP t (.pointer (some ⟨a,o,none⟩)) n=(match t.Y a with|some x=>decide (o+n<=x.cells.length)|none=>false):=rfl
@[simp] theorem aHV{a:List Value}{k n:Nat}:Nq t R n (BX a k)=if R then .agg ((a.drop k).take n).toArray else((a.drop k).take 1).headD undef:=by simp[Nq]
@[simp] theorem aJv{a n:Nat}:Nq t R n (.pointer (some ⟨a,o,none⟩))=if R then .agg (C3 t a o n).toArray else(C3 t a o 1).headD undef:=rfl
@[simp] theorem aEx{a:List Value}{k:Nat}:Ix (BX a k)=true:=rfl
@[simp] theorem aLN{a:Nat}:Ix (.pointer (some ⟨a,o,none⟩))=true:=rfl
@[simp] theorem aFJ{a:List Value}{k n:Nat}:N6 (BX a k) n=BX a (k+n):=by simp[N6]
@[simp] theorem aEJ{a n:Nat}:N6 (.pointer (some ⟨a,o,none⟩)) n= .pointer (some ⟨a,o+n,none⟩):=rfl
section
variable {cb:List (List Value)} {z S l c n:Nat} {a:Option Addr} {V:Addr} {s:ByteArray} {i:Int}
@[simp] theorem aKV:P1 (O cb z)=true:=rfl
@[simp] theorem aIW:P1 (.slice a l c)=true:=rfl
@[simp] theorem aEh:F6 (O cb z)=cb.length:=by simp[F6]
@[simp] theorem aFL:F6 (.slice a l c)=l:=rfl
@[simp] theorem aHy:ED (O cb z)=cb.length:=by simp[ED]
@[simp] theorem aIt:ED (.slice a l c)=l:=rfl
@[simp] theorem aK4:Er S (O cb z)=(z==S):=by simp[Er]
variable{b o h:Nat}
@[simp] theorem aGG:Er z (.slice (some ⟨b,o,none⟩) l c)=(c==z):=by simp[Er,DK]
@[simp] theorem aEQ:Er z (.slice none 0 0)=true:=rfl
@[simp] theorem aLo:KJ (O cb z) S l h=O ((cb.take h).drop l) S:=by simp[KJ]
@[simp] theorem aLg:KJ (.slice (some ⟨b,o,none⟩) n c) z l h= .slice (some ⟨b,o+l*z,none⟩) (h-l) c:=rfl
@[simp] theorem aGx:KJ (.slice none n c) z l h= .slice none 0 0:=rfl
@[simp] theorem aEc:Nj (O cb z) S i=BX (cb.getD i.toNat []) 0:=by simp[Nj]
@[simp] theorem aKk:Nj (.slice (some ⟨b,o,none⟩) l c) z i= .pointer (some ⟨b,o+i.toNat*z,none⟩):=rfl
@[simp] theorem aGr:Fb t S (O cb z)=(z==S):=by simp[Fb]
@[simp] theorem aEN:Fb t z (.slice (some ⟨b,o,none⟩) l c)=(c==z&&(match t.Y b with|some x=>decide (o+l*z<=x.cells.length)|none=>false)):=rfl
@[simp] theorem aJG:Fb t z (.slice none 0 0)=true:=rfl
@[simp] theorem aKo:FL t S (O cb z)=cb.flatten:=by simp[FL]
@[simp] theorem aI7:FL t z (.slice (some ⟨b,o,none⟩) l c)=C3 t b o (l*z):=rfl
@[simp] theorem aGi:FL t z (.slice none l c)=[]:=rfl
end
@[simp] theorem aJp{k:IntKind}{n:Int}:F4 (.int k n)=false:=rfl
@[simp] theorem aHr{b:Bool}:F4 (.bool b)=false:=rfl
@[simp] theorem aHX{b:ByteArray}:F4 (.string b)=false:=rfl
@[simp] theorem aGl{a:Option Addr}:F4 (.pointer a)=false:=rfl
@[simp] theorem aDx{a:Option Addr}{l c:Nat}:F4 (.slice a l c)=false:=rfl
@[simp] theorem aDz{a:Option Nat}:F4 (.map a)=false:=rfl
@[simp] theorem aKG{a:Array Value}:F4 (.agg a)=false:=rfl
@[simp] theorem aIS{a:Array Value}:F4 (.tuple a)=false:=rfl
@[simp] theorem aJQ:F4 undef=false:=rfl
@[simp] theorem aG2{f:Nat}{a b:Array Value}:F4 (.func (.func f) a b)=false:=rfl
@[simp] theorem aGB:F4 .nilFunc=false:=rfl
@[simp] theorem aEi:F4 .nilIface=false:=rfl
@[simp] theorem aLZ{t:TypeId}{v:Value}:F4 (.iface t v)=false:=rfl
@[simp] theorem aDg{k:IntKind}{n:Int}:Ge (.int k n)=true:=rfl
@[simp] theorem aJR{b:Bool}:Ge (.bool b)=true:=rfl
@[simp] theorem aHO{b:ByteArray}:Ge (.string b)=true:=rfl
@[simp] theorem aIx{a:Option Addr}:Ge (.pointer a)=true:=rfl
@[simp] theorem aIK{l c:Nat}:Ge (.slice none l c)=true:=rfl
@[simp] theorem aLj{f:Nat}{a b:Array Value}:Ge (.func (.func f) a b)=true:=rfl
@[simp] theorem aHz:Ge .nilFunc=true:=rfl
@[simp high] theorem aLA:H (O cb z)=[O cb z]:=rfl
@[simp high] theorem aKO{a:List Value}:H (BX a z)=[BX a z]:=rfl
@[simp high] theorem aGV:D (O cb z)=true:=rfl
@[simp high] theorem aEU{a:List Value}:D (BX a z)=true:=rfl
@[simp high] theorem aIe:F (O cb z)=true:=rfl
@[simp high] theorem aHW:BJ (O cb z)=false:=rfl
@[simp high] theorem aGS{a:List Value}:BJ (BX a z)=false:=rfl
@[simp high] theorem aHc{a:List Value}:OQ (BX a z)=true:=rfl
@[simp high] theorem aL3:I (O cb z)=none:=rfl
@[simp high] theorem aKe{a:List Value}:I (BX a z)=none:=rfl
@[simp] theorem aHv:Dv A t []=true:=rfl
@[simp] theorem aKY{x y:Operand}:Dv A t ((x,y)::bx)=(bF t (U A x) (U A y)&&Dv A t bx):=rfl
variable {k:IntKind} {n:Int} {b:Bool} {s:ByteArray} {a:Option Addr} {l c f:Nat} {xs ys:Array Value} {v:Value} {W:TypeId} {mp:Option Nat}
@[simp] theorem aJw:H (.int k n)=[.int k n]:=rfl
@[simp] theorem aG7:D (.int k n)=true:=rfl
@[simp] theorem aE5:F (.int k n)=true:=rfl
@[simp] theorem aIB:H (.bool b)=[.bool b]:=rfl
@[simp] theorem aGg:D (.bool b)=true:=rfl
@[simp] theorem aJV:F (.bool b)=true:=rfl
@[simp] theorem aGa:H (.string s)=[.string s]:=rfl
@[simp] theorem aHF:D (.string s)=true:=rfl
@[simp] theorem aLS:F (.string s)=true:=rfl
@[simp] theorem aGL:H (.pointer a)=[.pointer a]:=rfl
@[simp] theorem aHq:D (.pointer a)=true:=rfl
@[simp] theorem aJ1:F (.pointer a)=true:=rfl
@[simp] theorem aHT:H (.slice a l c)=[.slice a l c]:=rfl
@[simp] theorem aJg:D (.slice a l c)=true:=rfl
@[simp] theorem aM0:F (.slice a l c)=true:=rfl
@[simp] theorem aKM:H (.map mp)=[.map mp]:=rfl
@[simp] theorem aEq:D (.map mp)=true:=rfl
@[simp] theorem aLG:F (.map mp)=true:=rfl
@[simp] theorem aIg:H (.func (.func f) xs ys)=[.func (.func f) xs ys]:=rfl
@[simp] theorem aHS:D (.func (.func f) xs ys)=true:=rfl
@[simp] theorem aJ7:F (.func (.func f) xs ys)=true:=rfl
@[simp] theorem aGn:H (.nilFunc)=[.nilFunc]:=rfl
@[simp] theorem aIw:D (.nilFunc)=true:=rfl
@[simp] theorem aFi:F (.nilFunc)=true:=rfl
@[simp] theorem aGv:H (.nilIface)=[.nilIface]:=rfl
@[simp] theorem aFk:D (.nilIface)=true:=rfl
@[simp] theorem aLd:F (.nilIface)=true:=rfl
@[simp] theorem aKi:H (.iface W v)=[.iface W v]:=rfl
@[simp] theorem aGQ:D (.iface W v)=true:=rfl
@[simp] theorem aDv:F (.iface W v)=true:=rfl
@[simp] theorem aKm:H (.agg xs)=xs.toList:=rfl
@[simp] theorem aKf:D (.agg xs)=true:=rfl
@[simp] theorem aFO:F (.agg xs)=false:=rfl
@[simp] theorem aJP:D (.tuple xs)=false:=rfl
@[simp] theorem aEl:I (.int k n)=none:=rfl
@[simp] theorem aGw:I (.bool b)=none:=rfl
@[simp] theorem aM5:I (.string s)=none:=rfl
@[simp] theorem aH8:I (.func (.func f) xs ys)=none:=rfl
@[simp] theorem aGH:I (.nilFunc)=none:=rfl
@[simp] theorem aIy:I (.nilIface)=none:=rfl
@[simp] theorem aIu:I (.iface W v)=none:=rfl
@[simp] theorem aJY:I (.agg xs)=none:=rfl
@[simp] theorem aKB:I (.tuple xs)=none:=rfl
@[simp] theorem aGW:I (.pointer (some V))=some V.block:=rfl
@[simp] theorem aHu:I (.pointer none)=none:=rfl
@[simp] theorem aKg:I (.slice (some V) l c)=some V.block:=rfl
@[simp] theorem aEV:I (.slice none l c)=none:=rfl
@[simp] theorem aEs:I (.map (some l))=some l:=rfl
@[simp] theorem aI6:I (.map none)=none:=rfl
@[simp] theorem aDm{f:Nat}{aU:Value->X->Prop}:LR aC f args t L aU=if RT aC.p f=true then O6 aC.p f args t aU else OY aC f args t L aU:=by simp only[LR]
@[simp] theorem aDq{f:Nat}{aU:Value->X->Prop}:OY aC f args t [] aU=if PL aC.i f=true then Ku aC.i f args t aU else Bh P f args t aU:=propext Ep
@[simp] theorem aIz{f:Nat}{l:List Nat}{aU:Value->X->Prop}:OY aC f args t (o::l) aU=((o::l).all (Yq t)=true/\if PL aC.i f=true then Ku aC.i f args (Ex t (o::l)) (λr a=>aU r (G2 t a (o::l)))else Bh P f args (Ex t (o::l)) λr a=>aU r (G2 t a (o::l))):=propext Ep
@[simp] theorem aF5:GD A t []=[]:=rfl
@[simp] theorem aI9{x:Operand×Operand}:GD A t (x::bx)=(match I (U A x.1)with|some o=>if P4 t o=true then o::GD A t bx else GD A t bx|none=>GD A t bx):=rfl
@[simp] theorem aL4:Yq t o=(match t.Y o with|some x=> !x.cells.isEmpty|none=>false):=rfl
theorem wZ{b:Nat}(h:b≠o):(Ex t [o]).Y b=t.Y b:=j9 (by simpa using h)
theorem uo{b:Nat}{x:Option CC}(h:b≠o):G2 t ((Ex t [o]).A1 b x) [o]=t.A1 b x:=by
 unfold G2 Ex X.A1
 grind
@[simp] theorem aIO{f:Nat}:PL ([]:List (Cp P)) f=false:=rfl
@[simp] theorem aEr{s:Cp P}{f:Nat}:PL (s::A0) f=(s.f==f||PL A0 f):=rfl
def Y3(o:Option (Value×X))(aU:Value->X->Prop):Prop:=match o with
 |some (r,t)=>aU r t
 |none=>False
@[simp] theorem aKZ{aU:Value->X->Prop}:Y3 (some (r,t)) aU=aU r t:=propext Ep
@[simp] theorem aFg{s:Cp P}{f:Nat}{aU:Value->X->Prop}:Ku (s::A0) f args t aU=if s.f=f then Y3 (s.fn args t) aU else Ku A0 f args t aU:=propext Ep
@[simp] theorem aEp{f:Nat}:RT ([]:List (AN P)) f=false:=rfl
@[simp] theorem aHH{s:AN P}{f:Nat}:RT (s::T) f=(s.f==f||RT T f):=rfl
def w1(o:Option Value)(a7:Value->Prop):Prop:=match o with
 |some r=>a7 r
 |none=>False
@[simp] theorem aJD:w1 (some r) a7=a7 r:=propext Ep
@[simp] theorem aEI{s:AN P}{f:Nat}:NC (s::T) f args a7=if s.f=f then w1 (s.fn args) a7 else NC T f args a7:=propext Ep
def Rg(args:List Value)(t:X)(aU:Value->X->Prop)(r:Value):Prop:=aU r (if G4 r=true then Ca t (args.flatMap (BL 9 t))else Jc t (args.flatMap (BL 9 t)))
@[simp low] theorem aDc{aU:Value->X->Prop}:Rg args t aU r=aU r (if G4 r=true then Ca t (args.flatMap (BL 9 t))else Jc t (args.flatMap (BL 9 t))):=propext Ep
@[simp] theorem aI1{aU:Value->X->Prop}{b:Bool}:Rg args t aU (.bool b)=aU (.bool b) (Ca t (args.flatMap (BL 9 t))):=propext Ep
@[simp] theorem aKP{aU:Value->X->Prop}{k:IntKind}{n:Int}:Rg args t aU (.int k n)=aU (.int k n) (Ca t (args.flatMap (BL 9 t))):=propext Ep
@[simp] theorem aEY{aU:Value->X->Prop}{s:ByteArray}:Rg args t aU (.string s)=aU (.string s) (Ca t (args.flatMap (BL 9 t))):=propext Ep
@[simp] theorem aLV{aU:Value->X->Prop}:Rg args t aU (O cb z)=aU (O cb z) (Jc t (args.flatMap (BL 9 t))):=propext Ep
def sX(o:Option (List Value))(aC:List (AN P))(f:Nat)(a7:Value->Prop):Prop:=match o with
 |some ts=>NC aC f ts a7
 |none=>False
@[simp] theorem aLz{f:Nat}:sX (some ts) T f a7=NC T f ts a7:=propext Ep
@[simp] theorem aJW{f:Nat}{aU:Value->X->Prop}:O6 T f args t aU=sX (Ms 9 t args) T f (Rg args t aU):=propext Ep
open Classical in
noncomputable def AN.B9(f:Nat)(bT:Type)(a:bT->Prop)(enc:bT->List Value)(b:bT->Value)(ok: ∀x,a x->AO P f (enc x) (b x)):AN P:=
 ⟨f,λargs=>if h: ∃x,a x/\enc x=args then some (b h.choose)else none,λargs r h=>by
  split at h
  ·grind
  ·cases h⟩
theorem AN.BH{f:Nat}{c1:bT->Prop}{enc:bT->List Value}{a:bT->Value}{ok: ∀x,c1 x->AO P f (enc x) (a x)}{x:bT}(b:c1 x)(c: ∀y,enc y=enc x->y=x):(AN.B9 f bT c1 enc a ok).fn (enc x)=some (a x):=by
 have d: ∃y,c1 y/\enc y=enc x:=⟨x,b,rfl⟩
 grind [AN.B9]
@[simp] theorem AN.aCM{f:Nat}{a:bT->Prop}{enc:bT->List Value}{b:bT->Value}{ok: ∀x,a x->AO P f (enc x) (b x)}:(AN.B9 f bT a enc b ok).f=f:=rfl
@[simp] theorem aFN{n:Nat}:Ms n t args=C6 (B3 n t) args:=rfl
@[simp] theorem yl{f:Z->Option A3}:C6 f []=some []:=rfl
@[simp] theorem jI{f:Z->Option A3}{x:Z}{xs:List Z}:C6 f (x::xs)=match f x with
  | some y=>(match C6 f xs with
    |some ys=>some (y::ys)
    |none=>none)
  |none=>none:=rfl
theorem PJ{n:Nat}{v:Value}(h:DA v=true):B3 n t v=some v:=by cases n<;>simp[B3,h]
theorem PS{n:Nat}{v:Value}(h:DA v=true):BL n t v=[]:=by cases n<;>simp[BL,h]
@[simp] theorem aJX{n:Nat}{k:IntKind}:B3 n t (.int k x)=some (.int k x):=PJ rfl
@[simp] theorem zl{n:Nat}{k:IntKind}:BL n t (.int k x)=[]:=PS rfl
@[simp] theorem aEm{k:IntKind}:DA (.int k x)=true:=rfl
@[simp] theorem aKC{n:Nat}{b:Bool}:B3 n t (.bool b)=some (.bool b):=PJ rfl
@[simp] theorem aJS{n:Nat}{b:Bool}:BL n t (.bool b)=[]:=PS rfl
@[simp] theorem aJe{b:Bool}:DA (.bool b)=true:=rfl
@[simp] theorem aGA{n:Nat}{s:ByteArray}:B3 n t (.string s)=some (.string s):=PJ rfl
@[simp] theorem aE0{n:Nat}{s:ByteArray}:BL n t (.string s)=[]:=PS rfl
@[simp] theorem aKK{s:ByteArray}:DA (.string s)=true:=rfl
@[simp] theorem aLH{n:Nat}:B3 n t (.slice none 0 0)=some (.slice none 0 0):=PJ rfl
@[simp] theorem aK1{n:Nat}:BL n t (.slice none 0 0)=[]:=PS rfl
@[simp] theorem aEO:DA (.slice none 0 0)=true:=rfl
@[simp] theorem aLv:DA (.pointer none)=true:=rfl
@[simp] theorem aLY:DA (.nilFunc)=true:=rfl
@[simp] theorem aED:DA (.nilIface)=true:=rfl
@[simp] theorem aEC:DA (.map none)=true:=rfl
@[simp] theorem aHo{n:Nat}:B3 n t (O cb z)=some (O cb z):=PJ rfl
@[simp] theorem aGd{n:Nat}:BL n t (O cb z)=[]:=PS rfl
@[simp] theorem aF2:DA (O cb z)=true:=rfl
@[simp] theorem aKr{a:List Value}:DA (BX a z)=true:=rfl
theorem Yr{n b l:Nat}:B3 (n+1) t (.slice (some ⟨b,o,none⟩) l z)=match t.Y b with
 | some x=>if o+l*z<=x.cells.length then(match C6 (C6 (B3 n t)) (Fc z l (x.cells.drop o))with
   |some cb=>some (O cb z)
   |none=>none)else none
 |none=>none:=by
 grind [B3,DA,BJ,F4]
@[simp] theorem aIf:B3 9 t (.agg cs)=match C6 (B3 8 t) cs.toList with
  |some l=>some (.agg l.toArray)
  |none=>none:=rfl
@[simp] theorem aHL:B3 9 t (.tuple cs)=match C6 (B3 8 t) cs.toList with
  |some l=>some (.tuple l.toArray)
  |none=>none:=rfl
@[simp] theorem aKQ{f:Nat}{xs:Array Value}:B3 9 t (.func (.func f) xs cs)=match C6 (B3 8 t) xs.toList,C6 (B3 8 t) cs.toList with
  |some l,some k=>some (.func (.func f) l.toArray k.toArray)
  |_,_=>none:=rfl
theorem RD{b l:Nat}:B3 9 t (.slice (some ⟨b,o,none⟩) l z)=match t.Y b with
 | some x=>if o+l*z<=x.cells.length then(match C6 (C6 (B3 8 t)) (Fc z l (x.cells.drop o))with
   |some cb=>some (O cb z)
   |none=>none)else none
 |none=>none:=Yr
@[simp] theorem aL5:BL 9 t (.agg cs)=cs.toList.flatMap (BL 8 t):=rfl
@[simp] theorem aKX:BL 9 t (.tuple cs)=cs.toList.flatMap (BL 8 t):=rfl
@[simp] theorem aLI{f:Nat}{xs:Array Value}:BL 9 t (.func (.func f) xs cs)=xs.toList.flatMap (BL 8 t)++cs.toList.flatMap (BL 8 t):=rfl
theorem OO{b l:Nat}:BL 9 t (.slice (some ⟨b,o,none⟩) l z)=b::(match t.Y b with
 |some x=>x.cells.flatMap (BL 8 t)
 |none=>[]):=rfl
@[simp] theorem aJs:B3 8 t (.agg cs)=match C6 (B3 7 t) cs.toList with
  |some l=>some (.agg l.toArray)
  |none=>none:=rfl
@[simp] theorem aE7:B3 8 t (.tuple cs)=match C6 (B3 7 t) cs.toList with
  |some l=>some (.tuple l.toArray)
  |none=>none:=rfl
@[simp] theorem aDh{f:Nat}{xs:Array Value}:B3 8 t (.func (.func f) xs cs)=match C6 (B3 7 t) xs.toList,C6 (B3 7 t) cs.toList with
  |some l,some k=>some (.func (.func f) l.toArray k.toArray)
  |_,_=>none:=rfl
theorem aC0{b l:Nat}:B3 8 t (.slice (some ⟨b,o,none⟩) l z)=match t.Y b with
 | some x=>if o+l*z<=x.cells.length then(match C6 (C6 (B3 7 t)) (Fc z l (x.cells.drop o))with
   |some cb=>some (O cb z)
   |none=>none)else none
 |none=>none:=Yr
@[simp] theorem aJH:BL 8 t (.agg cs)=cs.toList.flatMap (BL 7 t):=rfl
@[simp] theorem aII:BL 8 t (.tuple cs)=cs.toList.flatMap (BL 7 t):=rfl
@[simp] theorem aLT{f:Nat}{xs:Array Value}:BL 8 t (.func (.func f) xs cs)=xs.toList.flatMap (BL 7 t)++cs.toList.flatMap (BL 7 t):=rfl
theorem a6Z{b l:Nat}:BL 8 t (.slice (some ⟨b,o,none⟩) l z)=b::(match t.Y b with
 |some x=>x.cells.flatMap (BL 7 t)
 |none=>[]):=rfl
@[simp] theorem aIm:B3 7 t (.agg cs)=match C6 (B3 6 t) cs.toList with
  |some l=>some (.agg l.toArray)
  |none=>none:=rfl
@[simp] theorem aKH:B3 7 t (.tuple cs)=match C6 (B3 6 t) cs.toList with
  |some l=>some (.tuple l.toArray)
  |none=>none:=rfl
@[simp] theorem aIY{f:Nat}{xs:Array Value}:B3 7 t (.func (.func f) xs cs)=match C6 (B3 6 t) xs.toList,C6 (B3 6 t) cs.toList with
  |some l,some k=>some (.func (.func f) l.toArray k.toArray)
  |_,_=>none:=rfl
@[simp] theorem aJK:BL 7 t (.agg cs)=cs.toList.flatMap (BL 6 t):=rfl
@[simp] theorem aLU:BL 7 t (.tuple cs)=cs.toList.flatMap (BL 6 t):=rfl
@[simp] theorem aLr{f:Nat}{xs:Array Value}:BL 7 t (.func (.func f) xs cs)=xs.toList.flatMap (BL 6 t)++cs.toList.flatMap (BL 6 t):=rfl
@[simp] theorem aJ0:B3 6 t (.agg cs)=match C6 (B3 5 t) cs.toList with
  |some l=>some (.agg l.toArray)
  |none=>none:=rfl
@[simp] theorem aFU:B3 6 t (.tuple cs)=match C6 (B3 5 t) cs.toList with
  |some l=>some (.tuple l.toArray)
  |none=>none:=rfl
@[simp] theorem aIA{f:Nat}{xs:Array Value}:B3 6 t (.func (.func f) xs cs)=match C6 (B3 5 t) xs.toList,C6 (B3 5 t) cs.toList with
  |some l,some k=>some (.func (.func f) l.toArray k.toArray)
  |_,_=>none:=rfl
@[simp] theorem aFT:BL 6 t (.agg cs)=cs.toList.flatMap (BL 5 t):=rfl
@[simp] theorem aKN:BL 6 t (.tuple cs)=cs.toList.flatMap (BL 5 t):=rfl
@[simp] theorem aG0{f:Nat}{xs:Array Value}:BL 6 t (.func (.func f) xs cs)=xs.toList.flatMap (BL 5 t)++cs.toList.flatMap (BL 5 t):=rfl
@[simp] theorem aK3:B3 5 t (.agg cs)=match C6 (B3 4 t) cs.toList with
  |some l=>some (.agg l.toArray)
  |none=>none:=rfl
@[simp] theorem aJ4:B3 5 t (.tuple cs)=match C6 (B3 4 t) cs.toList with
  |some l=>some (.tuple l.toArray)
  |none=>none:=rfl
@[simp] theorem aJt{f:Nat}{xs:Array Value}:B3 5 t (.func (.func f) xs cs)=match C6 (B3 4 t) xs.toList,C6 (B3 4 t) cs.toList with
  |some l,some k=>some (.func (.func f) l.toArray k.toArray)
  |_,_=>none:=rfl
@[simp] theorem aEF:BL 5 t (.agg cs)=cs.toList.flatMap (BL 4 t):=rfl
@[simp] theorem aGf:BL 5 t (.tuple cs)=cs.toList.flatMap (BL 4 t):=rfl
@[simp] theorem aKh{f:Nat}{xs:Array Value}:BL 5 t (.func (.func f) xs cs)=xs.toList.flatMap (BL 4 t)++cs.toList.flatMap (BL 4 t):=rfl
@[simp] theorem aLE:B3 4 t (.agg cs)=match C6 (B3 3 t) cs.toList with
  |some l=>some (.agg l.toArray)
  |none=>none:=rfl
@[simp] theorem aJE:B3 4 t (.tuple cs)=match C6 (B3 3 t) cs.toList with
  |some l=>some (.tuple l.toArray)
  |none=>none:=rfl
@[simp] theorem aEb{f:Nat}{xs:Array Value}:B3 4 t (.func (.func f) xs cs)=match C6 (B3 3 t) xs.toList,C6 (B3 3 t) cs.toList with
  |some l,some k=>some (.func (.func f) l.toArray k.toArray)
  |_,_=>none:=rfl
@[simp] theorem aGY:BL 4 t (.agg cs)=cs.toList.flatMap (BL 3 t):=rfl
@[simp] theorem aFp:BL 4 t (.tuple cs)=cs.toList.flatMap (BL 3 t):=rfl
@[simp] theorem aFA{f:Nat}{xs:Array Value}:BL 4 t (.func (.func f) xs cs)=xs.toList.flatMap (BL 3 t)++cs.toList.flatMap (BL 3 t):=rfl
@[simp] theorem aJl{cs:List Value}:Fc z 0 cs=[]:=rfl
@[simp] theorem aKp{cs:List Value}:Fc z 1 cs=[cs.take z]:=rfl
@[simp] theorem aJT{cs:List Value}:Fc z 2 cs=[cs.take z,(cs.drop z).take z]:=rfl
@[simp] theorem aLX{cs:List Value}:Fc z 3 cs=[cs.take z,(cs.drop z).take z,((cs.drop z).drop z).take z]:=rfl
@[simp] theorem aJB{cs:List Value}:Fc z 4 cs=[cs.take z,(cs.drop z).take z,((cs.drop z).drop z).take z,(((cs.drop z).drop z).drop z).take z]:=rfl
@[simp] theorem aFD{cs:List Value}:Fc z 5 cs=[cs.take z,(cs.drop z).take z,((cs.drop z).drop z).take z,(((cs.drop z).drop z).drop z).take z,((((cs.drop z).drop z).drop z).drop z).take z]:=rfl
@[simp] theorem aGP:Cl.ac=0:=rfl
theorem Kn{n l:Nat}(a:t.Y o=some ⟨cb.flatten,w⟩)(b:l=cb.length)(c: ∀r∈cb,r.length=z/\ ∀v∈r,DA v=true):B3 (n+1) t (.slice (some ⟨o,0,none⟩) l z)=some (O cb z):=by
 grind [B3,Xg,PJ,LV,DA,BJ,F4,aQ]
theorem ZX{cs:List Value}{n:Nat}(a: ∀v∈cs,DA v=true):cs.flatMap (BL n t)=[]:=by
 grind [List.flatMap_eq_nil_iff,PS]
end
variable{a0 d bG:List Value}{l:List (List Value)}
@[simp] theorem aJu:(a0::l)[0]?.getD d=a0:=rfl
@[simp] theorem aLL:(a0::bG::l)[1]?.getD d=bG:=rfl
@[simp] theorem aJh{a:List Value}:(a0::bG::a::l)[2]?.getD d=a:=rfl
attribute [simp] bF VQ P4 ZC Ua Kr ic Hs
end Go.DI
