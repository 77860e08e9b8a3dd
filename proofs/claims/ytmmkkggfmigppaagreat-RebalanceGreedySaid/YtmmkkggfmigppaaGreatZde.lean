/- A part of the proof. -/
import Derived.Test.YtmmkkggfmigppaaGreatZdd
set_option linter.all false
set_option maxRecDepth 20000
set_option maxHeartbeats 16000000
namespace Go.DI
open Go Go.RowKit
def vB:Value->Option Nat
 | .slice (some a) _ _=>some a.block
 |_=>none
def aDA:Value->Bool
 | .int .i64 n=>n==0
 |_=>false
def a1N(s i y:Value):Bool:=aDA i&&decide (0<CO y)&&decide (vB s≠vB y)&&decide ((CO s+CO y)*8<=140737488355328)
def Of(m:X)(s i y:Value):Bool:=Br m 1 s&&(Dm m s&&(Br m 1 y&&(Dm m y&&a1N s i y)))
def V4(m:X)(s y:Value):X:=((EC m s).AE 1).A1 m.ac (some ⟨C5 m 1 y++C5 m 1 s,true⟩)
def cE(m:X)(s y:Value):Value:= .slice (some ⟨m.ac,0,none⟩) (CO s+CO y) 1
def LK:List Value->X->Option (Value×X)
 |[s,i,y],m=>if Of m s i y=true then some (cE m s y,V4 m s y)else none
 |_,_=>none
variable{u bz:X}{args:List Value}{r:Value}{b G R:Nat}{J E:A2}{B:Av}{x:Option CC}{es:List (Value×Value)}{L:List Av}{s:A2×X}{Q:Exit->Act->World->Prop}{T:List Nat}{aU:Act->World->Prop}{N:Ren}
theorem Yl{m:X}(h:LK args m=some (r,u)): ∃s i y,args=[s,i,y]/\Of m s i y=true/\r=cE m s y/\u=V4 m s y:=by
 unfold LK at h
 grind
theorem a3q(m:X)(v:Value):(EC m v).ac=m.ac:=by unfold EC;split<;>rfl
theorem a12{m:X}(h:LK args m=some (r,u)):m.ac<=u.ac:=by
 obtain⟨s,i,y,rfl,_,rfl,rfl⟩:=Yl h;show m.ac<=(EC m s).ac+1
 rw[a3q];omega
theorem aC5{m:X}(h:LK args m=some (r,u))(hb:b<m.ac)(a:m.Y b=none):u.Y b=none:=by
 obtain⟨s,i,y,rfl,_,rfl,rfl⟩:=Yl h;unfold V4;rw[X.GJ,if_neg (by omega),X.Ab];unfold EC
 grind [X.GJ]
def ym(P:Program)(f:Nat):Prop:=T7 P f/\ ∀(aH:Nat) args m r u,LK args m=some (r,u)-> ∀C w (c:Array Value),Aw C args c.toList->BF aH C m w->aH<=w.heap.size->
 Calls P f c w λe d=> ∃v a,e= .returned v/\CY C a/\(∀b,b<m.ac->a b=C b)/\BD a r v/\BF aH a u d/\Below aH w d
open Classical in
noncomputable def Ev(P:Program):Nat->Callee
 |0,_,_,_=>none
 | n+1,f,args,m=>match M1 P f with
   | some a=>if args.length<=a.cv then
    (match Bb (Ev P n) n a.body (CQ args) m with
    |some (.Ao _,_,_)=>none
    |some (_,J,u)=>if Fi u J a.Mn then some (Fv u J a.Mn,u)else none
    |none=>none)
     else none
   |none=>if ym P f then LK args m else none
variable {P:Program} {w:World} {o:Oper} {a:Act} {C:Ren} {F:Nat} {A:A2} {m:X} {aH:Nat} {ops:Array Oper} {cp:Callee} {base:Nat}
def NK(P:Program)(ops:Array Oper)(F:Nat)(B:Av)(o:Oper):Prop:=
 ops[B.AQ]?=some o/\Ok P o=some B.k/\Wz ops o=some B.g/\o.dst=B.d/\B.d.all (λd=>decide (d<F))=true
theorem n6{g:Option (Nat×Bool)}(e:Wz ops o=some g)(k:Cr C F A a):Region.wanted o (yielded ops a.tmps)=Bl A g:=by
 unfold Wz at e;split at e
 ·rename_i h;cases e;simp[Region.wanted,h,Bl]
 ·rename_i j b h;split at e
  ·rename_i t l;cases e;have d:=k.HG t;simp only[Region.wanted,h,Bl,yielded,l,Option.bind_some];rw[Array.getD_eq_getD_getElem?]at d;cases i:a.tmps[t]? with
   | none=>
     rw[i]at d;simp only[Option.getD_none]at d;cases f:A t<;>try rfl
     rw[f]at d;have:=d.Jk;simp[undef]at this
   | some v=>
     rw[i]at d;simp only[Jb]at d;cases f:A t
     case bool c=>rw[f]at d;rw[d.Jk];simp
     all_goals
      rw[f]at d;cases v
      case bool c=>cases d
      all_goals rfl
  ·cases e
theorem XL{k:M}(h:k.ok A m=true):k.FD=false:=by cases k<;>first|rfl|(simp[M.ok]at h)
theorem sA{B:Av}{J:A2}{u:X}(O:Iy P aH cp)(R:NK P ops F B o)(i:Cr C F A a)(n:BF aH C m w)(G:aH<=w.heap.size)(S:B.k.Bv=true->base+B.AQ<m.ac)(T:B.k.Bv=true->C (base+B.AQ)=none)
 (c:DJ cp base B A m=some (J,u)) {aU:Act->World->Prop} {Q:Exit->Act->World->Prop}
 (q: ∀H j h,CY C h->(∀b,b<m.ac->b≠base+B.AQ->h b=C b)->Cr h F J H->BF aH h u j->Below aH w j->aU H j):wpOp P ops Q B.AQ aU a w:=by
 obtain⟨U,I,V,p,r⟩:=R;unfold wpOp;simp only[U];rw[n6 V i];unfold DJ at c;by_cases K:Bl A B.g=true
 ·rw[if_pos K]at c⊢;refine .inl ?_;unfold Oper.wp;cases s:B.k.By A m with
  | some W=>
    obtain⟨f,args⟩:=W;rw[s]at c;simp only at c;cases t:cp f args m with
    |none=>rw[t]at c;cases c
    | some Y=>obtain⟨v,cI⟩:=Y;rw[t]at c;simp only[Fx,Ni]at c;obtain⟨rfl,rfl⟩:=c;obtain⟨Z,A7,A8,_,A0⟩:=O f args m v cI t;obtain⟨A3,A4,A5⟩:=a37 (w:=w) I i n s Z;rw[A4,Oper.upon_enter];refine(A0 C w A3 A5 n G).mono λe j A6=> ?_;obtain⟨L,h,rfl,l,x,z,D,E⟩:=A6;rw[p];exact q _ _ h l (λb hb _=>x b hb) ((i.AD l).A1 r z) D E
  | none=>
    rw[s]at c;simp only at c;split at c
    ·rename_i M;simp only[Fx,Ni]at c;obtain⟨rfl,rfl⟩:=c;obtain⟨L,j,h,y,l,x,z,D,E⟩:=a0b I (XL M) i n G S T M;have N:=q (a.put B.d L) j h l (λb _ hb=>x b hb) ((i.AD l).A1 r z) D E;rcases y with y|⟨y,rfl⟩
     ·rw[y,Oper.upon_value,p];exact N
     ·rw[y,Oper.upon_skip,p];exact N
    ·cases c
 ·rw[if_neg K]at c⊢;simp only[Fx,Ni]at c;obtain⟨rfl,rfl⟩:=c;rw[p];exact q _ _ C (CY.refl C) (λ_ _ _=>rfl) (i.A1 r (BD.undef C)) n (Below.refl _ _)
theorem Rf(b:Iy P aH cp)(a:DJ cp base B A m=some (J,u)):m.ac<=u.ac:=by
 unfold DJ at a;split at a
 ·split at a
  ·split at a
   ·rename_i c;cases a;exact(b _ _ _ _ _ c).2.1
   ·cases a
  ·split at a
   ·cases a;cases B.k<;>simp only[M.Cj]<;>try exact Aj _
    ·unfold Fj;split<;>try exact Aj _
     split<;>exact Aj _
    ·split
     ·exact Aj _
     ·split
      ·unfold Ga;split<;>try exact Aj _
       split<;>exact Aj _
      ·unfold EC;split<;>exact Aj _
    ·unfold H5;split<;>try exact Aj _
     split<;>exact Aj _
   ·cases a
 ·simp_all
theorem WA(h:m.Y b=none)(a:b≠G):(m.A1 G x).Y b=none:=by rw[X.GJ,if_neg a];exact h
theorem wb(h:m.Y b=none)(a:b≠G):(m.Cw G es).Y b=none:=by
 simp_all [X.Y,X.Cw]
theorem dM{B:Av}{J:A2}{u:X}(i:Iy P aH cp)(a:DJ cp base B A m=some (J,u)){b:Nat}(hb:b<m.ac)(f:b≠base+B.AQ)(c:m.Y b=none):u.Y b=none:=by
 unfold DJ at a;split at a
 ·split at a
  ·split at a
   ·rename_i j;cases a;exact(i _ _ _ _ _ j).2.2.1 b hb c
   ·cases a
  ·split at a
   ·rename_i d;cases a;cases l:B.k<;>simp only[M.Cj]<;>try exact c
    all_goals try exact WA c f
    all_goals try exact wb c f
    ·unfold Fj
     grind [WA]
    ·split
     ·exact c
     ·split
      ·unfold Ga
       grind [WA]
      ·refine WA ?_ f;unfold EC
       grind [X.GJ]
    ·unfold H5
     grind [WA]
    ·rename_i bx x k v;rw[l]at d;simp only[M.ok]at d;cases n:U A x<;>simp only[n]at d<;>try cases d
     rename_i p;cases p with
     |none=>simp at d
     | some g=>
       simp only at d;cases h:m.Bs g with
       |none=>simp[h]at d
       | some es=>
         have o:=(X.MK h).1;exact wb c (λe=>by
          have q:b=g:=e
          grind)
   ·cases a
 ·cases a;exact c
theorem JA(h:Et cp base (B::L) A m=some s): ∃E bz,DJ cp base B A m=some (E,bz)/\I7 B A m bz/\Et cp base L E bz=some s:=by
 grind [Et]
theorem OA(a:DJ cp base B A m=some (E,bz))(b:I7 B A m bz)(c:Et cp base L E bz=some s):Et cp base (B::L) A m=some s:=by
 unfold Et
 simp_all
theorem Wt(a:Iy P aH cp): ∀(L:List Av) (A:A2) (m:X) (s:A2×X),Et cp base L A m=some s->m.ac<=s.2.ac
 |[],A,m,s,h=>by simp[Et]at h;subst h;exact Aj _
 | B::L,A,m,s,h=>by obtain⟨E,bz,b,_,c⟩:=JA h;exact E8 (Rf a b) (Wt a L _ _ _ c)
theorem gK(a:Iy P aH cp)(hb:b<base): ∀(L:List Av) (A:A2) (m:X) (s:A2×X),base<=m.ac->Et cp base L A m=some s->m.Y b=none->s.2.Y b=none
 |[],A,m,s,_,h,c=>by simp[Et]at h;subst h;exact c
 | B::L,A,m,s,e,h,c=>by obtain⟨E,bz,d,_,f⟩:=JA h;exact gK a hb L _ _ _ (E8 e (Rf a d)) f (dM a d (by omega) (by omega) c)
theorem kF(g:Iy P aH cp): ∀(L:List Av) (A:A2) (m:X) (a:Act) (w:World) (C:Ren) (J:A2) (u:X),
 (∀B∈L,∃o,NK P ops F B o)->(L.map (·.AQ)).Nodup->Cr C F A a->BF aH C m w->aH<=w.heap.size->(∀B∈L,B.k.Bv=true->base+B.AQ<m.ac/\C (base+B.AQ)=none)->Et cp base L A m=some (J,u)->
 (∀e d c,CY C c->(∀b,b<m.ac->(∀B∈L,b≠base+B.AQ)->c b=C b)->Cr c F J e->BF aH c u d->Below aH w d->wpOps P ops Q T e d)->wpOps P ops Q (L.map (·.AQ)++T) a w
 | [],A,m,a,w,C,J,u,_,_,j,l,_,_,h,n=>by
   grind [Et,CY.refl,Below.refl]
 | B::L,A,m,a,w,C,J,u,p,q,j,l,r,s,h,n=>by
   obtain⟨E,bz,t,_,y⟩:=JA h;obtain⟨o,z⟩:=p B (by simp);simp only[Dl,J9]at q;rw[Dl,Js,wpOps_cons];have W:=Rf g t;refine sA g z j l r (λh=>(s B (by simp) h).1) (λh=>(s B (by simp) h).2) t λe d c D G H I v=> ?_;refine kF g L E bz e d c J u (λi f=>p i (by simp[f])) q.2 H I (E8 r v.size) (λi f Y=> ?_) y λK M N O R S U V=> ?_
   ·grind
   ·exact n K M N (D.trans O) (λb hb x=>(R b (by omega) (λi f=>x i (by simp[f]))).trans (G b hb (x B (by simp)))) S U (v.trans V)
theorem a3Y(W:NK P ops F B o)(n:Cr C F A a)(E:BF aH C m w)(Z:aH<=w.heap.size)(H:base+B.AQ<m.ac)(I:C (base+B.AQ)=none)(J:HA B A m=true)

 (K: ∀L c e,CY C e->(∀b,b≠base+B.AQ->e b=C b)->Cr e F (Ar A B.d (B.k.val (base+B.AQ) A m)) L->BF aH e (B.k.Cj (base+B.AQ) A m) c->BF c.heap.size e (Hb m) c->Below aH w c->aU L c):wpOp P ops Q B.AQ aU a w:=by
 obtain⟨N,O,R,p,S⟩:=W;obtain⟨A0,d,g,k,bx⟩:=B;simp only at N O R p S H I K⊢;simp only[HA,AF,S2]at J;obtain⟨⟨A2,q⟩,A3⟩:=J;subst A2;unfold wpOp;simp only[N];rw[n6 R n,if_pos (show Bl A none=true from rfl)];refine .inl ?_;unfold Oper.wp;split at q
 ·rename_i z bytes x y;obtain⟨r,c,e,A4,j,A5,A6,s,A7,A8⟩:=aBG O n E Z H I A3;have A9:BF c.heap.size e (Hb m) c:=by
   have t: ∀b x,(Hb m).Y b=some x-> ∃f,m.Y b=some f/\x=SF f:=by
    intro b x hb;unfold X.Y at hb⊢;change (if b<m.ac then _ else _)=_ at hb;split at hb
    ·grind [Hb,Option.map_eq_some_iff]
    ·cases hb
   have AA:((M.app z bytes x y).Cj (base+A0) A m).ac=m.ac:=by
    simp only[M.Cj];split
    ·rfl
    ·split
     ·unfold Ga;split
      ·split<;>rfl
      ·rfl
     ·unfold EC;split<;>rfl
   refine⟨λb l hb=>by have:=s.Gc b l hb;rw[AA]at this;exact this,s.Gh,λb x hb=> ?_,λb x G AL l AM hb u=> ?_,λb es hb=>(by cases hb),λb es hb=> ?_,λb x l hb u=>(by obtain⟨f,_,rfl⟩:=t b x hb;cases u)⟩
   ·obtain⟨f,D,rfl⟩:=t b x hb;obtain⟨l,T,AB,AE,_⟩:=E.GK b f D;refine⟨l,j b l T,AB,λi v U=> ?_,λh=>by cases h⟩;obtain⟨AI,r,AJ,AK⟩:=AE i v U;exact⟨AI,r,by rw[A8 q b f l D T i (Ae.1 U).1];exact AJ,AK.AD j⟩
   ·obtain⟨f,_,rfl⟩:=t b x hb;cases u
   ·obtain⟨D,_⟩:=X.MK hb
    grind [SF]
  have V:=K (a.put d r) c e j A5 ((n.AD j).A1 S A6) s A9 A7;rcases A4 with y|⟨y,rfl⟩
  ·rw[y,Oper.upon_value,p];exact V
  ·rw[y,Oper.upon_skip,p];exact V
 ·cases q
theorem zn{cI:X}{g j:World}(H:R=g.heap.size)(f:BF aH C bz g)(z:BF R N cI j)(m:CY C N)(W:bz.ac<=cI.ac)(hb:Below R g j):BF aH N (bz.AE (cI.ac-bz.ac)) j:=by
 subst H;have q: ∀b l,C b=some l->j.heap[l.c]?=g.heap[l.c]?:= λb l h=>hb.block _ (f.Gh b l h);have s: ∀b l p,C b=some l->N b=some p->p=l:= λb l p h I=>by have:=m b l h;rw[I]at this;cases this;rfl
 refine⟨λb l h=>by have:=z.Gc b l h;rw[X.Lv];omega,z.Gh,λb x d=> ?_,λb x G A l p d n t J u K=> ?_,λb es h=> ?_,λb es h=> ?_,λb x l d n u=> ?_⟩
 ·rw[X.Ab]at d;obtain⟨l,a,w,y,r⟩:=f.GK b x d;have B: ∀i,j.cell? ⟨l.c,l.o+i,none⟩=g.cell? ⟨l.c,l.o+i,none⟩:= λi=>by simp only[World.cell?,q b l a]
  have L: ∀i,j.frozen? ⟨l.c,l.o+i,none⟩=g.frozen? ⟨l.c,l.o+i,none⟩:= λi=>by simp only[World.frozen?,q b l a]
  refine⟨l,m b l a,w,λi v M=> ?_,λn=>⟨(r n).1,λi O=>by rw[B,L];exact(r n).2 i O⟩⟩;obtain⟨P,Q,S,T⟩:=y i v M;exact⟨P,Q,by rw[B];exact S,T.AD m⟩
 ·rw[X.Ab]at d t;obtain⟨k,a,_⟩:=f.GK b x d;obtain⟨D,E,_⟩:=f.GK G A t;rw[s b k l a u,s G D p E K];exact f.LQ b x G A k D d n t J a E
 ·obtain⟨l,e⟩:=f.NO b es h;exact⟨l,m b l e⟩
 ·obtain⟨F,U⟩:=X.MK h;rw[X.Ab]at F;obtain⟨l,V,bx,a,w,y,r⟩:=f.maps b es (X.Ec F U);exact⟨l,V,bx,m b l a,w,by rw[q b l a];exact y,r.AD m⟩
 ·rw[X.Ab]at d;obtain⟨k,a,_⟩:=f.GK b x d;rw[s b k l a u];exact(f.Nw b x k d n a).TM (q b k a)
theorem oU(f:Iy P aH cp)(L:List Av)(A:A2)(m:X)(a:Act)(w:World)(C:Ren)(J:A2)(u:X)
 (g: ∀B∈L,∃o,NK P ops F B o) (h:(L.map (·.AQ)).Nodup) (i:Cr C F A a) (j:BF aH C m w) (l:aH<=w.heap.size) (n: ∀B∈L,B.k.Bv=true->base+B.AQ<m.ac/\C (base+B.AQ)=none) (p:Et cp base L A m=some (J,u))
 (q: ∀e d c,CY C c->(∀b,b<base->b<m.ac->c b=C b)->Cr c F J e->BF aH c u d->Below aH w d->Q .normal e d):wpOps P ops Q (L.map (·.AQ)) a w:=by
 have:=kF (T:=[]) (Q:=Q) f L A m a w C J u g h i j l n p λe d c r s t v x=>q e d c r (λb hb y=>s b y λB _=>by omega) t v x
 simp_all
def M.DB(k:M)(id:Nat)(A:A2)(m:X):List (Nat×Option CC):=
 match k with
 | .It z=>[(id,some ⟨z,true⟩)]
 | .Ja x=>[(id,some ⟨H (U A x),true⟩)]
 | .Hg _ _ z ps=>[(id,some ⟨GS z A ps,true⟩)]
 | .store _ x v=>match U A x with
   | .pointer (some a)=>(match m.Y a.block with|some b=>[(a.block,some ⟨CV b.cells a.off (H (U A v)),b.own⟩)]|none=>[])
   |_=>[]
 | .Mz x=>[(id,some ⟨TL (M9 (U A x)),true⟩)]
 | .IZ _ _ zero l _=>[(id,some ⟨(List.replicate (Bk (U A l)).toNat zero).flatten,true⟩)]
 | .KZ _ _ zero _ l=>[(id,some ⟨(List.replicate (Bk (U A l)).toNat zero).flatten,true⟩)]
 | .app z _ x y=>if CO (U A y)=0 then[]else if Dj m z (U A x) (CO (U A y))then(match U A x with| .slice (some a) l _=>(match m.Y a.block with|some b=>[(a.block,some ⟨CV b.cells (a.off+l*z) (C5 m z (U A y)),b.own⟩)]|none=>[])|_=>[])else(match U A x with| .slice (some a) _ _=>[(a.block,none)]|_=>[])++[(id,some ⟨C5 m z (U A x)++C5 m z (U A y),true⟩)]
 |_=>[]
def Df(m:X)(l:List (Nat×Option CC)):X:=l.foldl (λm p=>m.A1 p.1 p.2) m
variable {P:Program} {A D:A2} {m cI:X} {aH:Nat} {cp:Callee} {base id:Nat} {k:M}
theorem xi(d:k.MW=false):k.Cj id A m=Df m (k.DB id A m):=by
 cases k<;>simp only[M.MW,Bool.true_eq_false]at d<;>simp only[M.Cj,M.DB,Df,List.foldl_nil,GO]
 ·grind [Fj]
 ·rename_i z f x y;split
  ·rfl
  ·generalize U A x=b;generalize Dj m z b (CO (U A y))=e;cases e
   ·simp only[E3,if_false];cases b<;>try rfl
    rename_i p l c;cases p<;>rfl
   ·simp only[if_true];cases b<;>try rfl
    rename_i p l c;cases p with
    |none=>rfl
    |some a=>simp only[Ga];cases m.Y a.block<;>rfl
theorem SJ: ∀p∈k.DB id A m,(k.Bv=true/\p.1=id/\I (k.val id A m)=some id)\/ ∃x∈k.Gd,I (U A x)=some p.1:=by
 intro p a;cases k<;>simp only[M.DB,EK,IA]at a
 case It=>subst a;exact .inl ⟨rfl,rfl,rfl⟩
 case Ja=>subst a;exact .inl ⟨rfl,rfl,rfl⟩
 case Hg=>subst a;exact .inl ⟨rfl,rfl,rfl⟩
 case Mz=>subst a;exact .inl ⟨rfl,rfl,rfl⟩
 case IZ=>subst a;exact .inl ⟨rfl,rfl,rfl⟩
 case KZ=>subst a;exact .inl ⟨rfl,rfl,rfl⟩
 case store n x v=>
  grind [M.Gd,I]
 case app z d x y=>
  split at a
  ·cases a
  ·rename_i b;split at a
   ·grind [M.Gd,I]
   rename_i c;rcases D2.1 a with h|h
   ·grind [M.Gd,I]
   ·simp only[IA]at h;subst h;exact .inl ⟨rfl,rfl,by simp[M.val,b,c,I]⟩
theorem kR: ∀(l:List (Nat×Option CC)) (m:X) (b:Nat),(∀p∈l,p.1≠b)->(Df m l).Y b=m.Y b
 |[],_,_,_=>rfl
 | p::l,m,b,h=>by show(Df (m.A1 p.1 p.2) l).Y b=_;rw[kR l _ b (λq a=>h q (by simp[a])),X.GJ,if_neg (Ne.symm (h p (by simp)))]
theorem o3{a:Nat}{y:Option CC}(h:a≠b):(m.A1 a x).A1 b y=(m.A1 b y).A1 a x:=by
 unfold X.A1
 grind
theorem vU: ∀(l:List (Nat×Option CC)) (m:X) (b:Nat) (x:Option CC),(∀p∈l,p.1≠b)->Df (m.A1 b x) l=(Df m l).A1 b x
 |[],_,_,_,_=>rfl
 | p::l,m,b,x,h=>by show Df ((m.A1 b x).A1 p.1 p.2) l=(Df (m.A1 p.1 p.2) l).A1 b x;rw[o3 (Ne.symm (h p (by simp))),vU l _ b x (λq a=>h q (by simp[a]))]
theorem sT: ∀(l r:List (Nat×Option CC)) (m:X),(∀p∈l,∀q∈r,p.1≠q.1)->Df (Df m l) r=Df (Df m r) l
 |[],_,_,_=>rfl
 | p::l,r,m,h=>by show Df (Df (m.A1 p.1 p.2) l) r=Df ((Df m r).A1 p.1 p.2) l;rw[sT l r _ (λa b=>h a (by simp[b])),vU r m p.1 p.2 (λq c=>Ne.symm (h p (by simp) q c))]
theorem dx(h:m.Y b=cI.Y b)(off n:Nat):C3 m b off n=C3 cI b off n:=by unfold C3;rw[h]
theorem aV(f:k.MW=false)(h: ∀x∈k.GA,∀b,I (U A x)=some b->m.Y b=cI.Y b):k.ok A m=k.ok A cI/\k.val id A m=k.val id A cI/\k.DB id A m=k.DB id A cI:=by
 cases k<;>simp only[M.MW,Bool.true_eq_false]at f<;>try exact⟨rfl,rfl,rfl⟩
 case EO K n x=>
  have e:=h x (by simp[M.GA]);cases d:U A x<;>simp only[M.ok,M.val,M.DB,d,Bj,Co,and_self]
  grind [I,dx]
 case NH z n x=>
  have e:=h x (by simp[M.GA]);cases d:U A x<;>simp only[M.ok,M.val,M.DB,d,Bj,and_self]
  grind [I]
 case store n x v=>
  grind [M.GA,M.ok,M.val,M.DB,Bj,Gi,I]
 case Lr x=>
  have e:=h x (by simp[M.GA]);cases d:U A x<;>simp only[M.ok,M.val,M.DB,d,Br,C5,and_self]
  grind [I,dx]
 case app z B x y=>
  have e:=h x (by simp[M.GA]);have g:=h y (by simp[M.GA]);have s: ∀v:Value,(∀b,I v=some b->m.Y b=cI.Y b)->Br m z v=Br cI z v/\Dm m v=Dm cI v/\C5 m z v=C5 cI z v/\ ∀n,Dj m z v n=Dj cI z v n:=by
   intro v d;cases v<;>simp only[Br,Dm,C5,Dj,and_self,implies_true];rename_i p l c;cases p with
   |none=>simp
   | some i=>obtain⟨b,off,j⟩:=i;cases j<;>grind [I,dx]
  obtain⟨o,q,r,t⟩:=s _ e;obtain⟨u,C,w,D⟩:=s _ g;simp only[M.ok,M.val,M.DB,o,q,r,t,u,w];refine⟨trivial,trivial,?_⟩;split
  ·rfl
  ·split
   ·cases d:U A x<;>try rfl
    rename_i p l c;cases p with
    |none=>rfl
    |some a=>rw[d]at e;simp only[e a.block rfl]
   ·rfl
theorem a5u(h:k.ok A m=true): ∀x∈k.GA++k.Gd,∀b,I (U A x)=some b->(m.Y b).isSome=true:=by
 have c: ∀(v:Value) n,Bj m v n=true-> ∀b,I v=some b->(m.Y b).isSome=true:=by
  grind [bV,I]
 have d: ∀(v:Value) z,Br m z v=true-> ∀b,I v=some b->(m.Y b).isSome=true:=by
  grind [PQ,I]
 intro x a b hb;cases k<;>simp only[M.GA,M.Gd,Pf,EK]at a
 case EO K n y=>
  grind [M.ok]
 case NH z n y=>
  grind [M.ok]
 case store n y v=>
  grind [M.ok]
 case Lr y=>
  grind [M.ok]
 case Ca z y=>
  grind [M.ok]
 grind [M.ok]
theorem OU{x:Operand}(h: ∀t,x= .tmp t->A t=D t):U A x=U D x:=by cases x<;>first|rfl|exact h _ rfl
theorem aL: ∀(ps:List (Nat×Nat×Operand)) (cs:List Value),(∀p∈ps,U A p.2.2=U D p.2.2)->Ia cs A ps=Ia cs D ps/\GS cs A ps=GS cs D ps
 |[],_,_=>⟨rfl,rfl⟩
 | (c,d,a)::ps,cs,h=>by
   have e:U A a=U D a:=h (c,d,a) (by simp);have f:=(aL ps cs λp b=>h p (by simp[b])).1;have g:=(aL ps (CV cs c (H (U D a))) λp b=>h p (by simp[b])).2
   grind [Ia,GS]
theorem UM{l:Option Operand}{d:Int}(h: ∀x∈l.toList,U A x=U D x):Hx A l=Hx D l/\Cm A l d=Cm D l d:=by
 cases l with
 |none=>exact⟨rfl,rfl⟩
 |some x=>have:=h x (by simp);simp[Hx,Cm,this]
theorem No(h: ∀x∈k.D9,U A x=U D x):k.ok A m=k.ok D m/\k.val id A m=k.val id D m/\k.DB id A m=k.DB id D m/\k.By A m=k.By D m:=by
 cases k<;>simp only[M.D9,CZ,EK,or_false,forall_eq_or_imp,forall_eq,D2]at h
 case PC z ps=>
  grind [aL,M.ok,M.val,M.DB,M.By]
 case Hg z n cs ps=>
  grind [aL,M.ok,M.val,M.DB,M.By]
 case c5 x l r=>have a:= λd=>UM (l:=l) (d:=d) λy b=>h.2 y (.inl b);have e:= λd=>UM (l:=r) (d:=d) λy b=>h.2 y (.inr b);simp only[M.ok,M.val,M.DB,M.By,h.1,(a 0).1,(e 0).1,λd=>(a d).2,λd=>(e d).2,and_self]
 case OL z x l r=>have a:= λd=>UM (l:=l) (d:=d) λy b=>h.2 y (.inl b);have e:= λd=>UM (l:=r) (d:=d) λy b=>h.2 y (.inr b);simp only[M.ok,M.val,M.DB,M.By,h.1,(a 0).1,(e 0).1,λd=>(a d).2,λd=>(e d).2,and_self]
 case S3 z x l r i=>have a:= λd=>UM (l:=l) (d:=d) λy b=>h.2.2.2 y b;simp only[M.ok,M.val,M.DB,M.By,h.1,h.2.1,h.2.2.1,(a 0).1,λd=>(a d).2,and_self]
 case QG i x xs=>
  have a: ∀(l:List Operand),(∀y∈l,U A y=U D y)->(l.all λy=>Bp (U A y))=(l.all λy=>Bp (U D y))/\
   ∀c,l.foldl (λc y=>if i then Ha c (U A y)else Hf c (U A y)) c=l.foldl (λc y=>if i then Ha c (U D y)else Hf c (U D y)) c:=by
   intro l;induction l with
   |nil=>intro _;exact⟨rfl,λ_=>rfl⟩
   | cons y l j=>
     simp_all
  grind [M.ok,M.val,M.DB,M.By]
 case Qv fn xs ys=>
  grind [List.map_congr_left,M.ok,M.val,M.DB,M.By]
 case Kg f g=>
  grind [List.map_congr_left,M.ok,M.val,M.DB,M.By]
 case JV x g=>
  grind [List.map_congr_left,M.ok,M.val,M.DB,M.By]
 case JN o x g=>have a:g.map (U A)=g.map (U D):=Ur h.2;simp only[M.ok,M.val,M.DB,M.By,a,h.1,and_self]
 all_goals simp only[M.ok,M.val,M.DB,M.By,h,and_self]
namespace fh
variable{A:A2}{k:M}{f:A2->X->Option (BM×A2×X)}{j b n z base:Nat}{r:BM×A2×X}{y:CC}{v:Value}{K:Bool}{cs args:List Value}{es:List (Value×Value)}{u:X}{bx:List (Operand×Operand)}{cp:Callee}{o:Av}{O:List GF}{P:Program}
theorem a4X{m:X}(h:k.FD=false):k.By A m=none:=by cases k<;>first|rfl|(simp[M.FD]at h)
theorem aAw{m:X}(h:Eo f (j+1) A m=some r):
 (∃E bz,f A m=some (.CK,E,bz)/\Eo f j E bz=some r)\/(f A m=some r/\r.1≠ .CK):=by
 grind [Eo]
structure Bg(id:Nat)(x:Option CC)(m ah:X):Prop where
 eq:ah=m.A1 id x
 B0:id<m.ac
 F7:m.Y id=none
variable {id:Nat} {x:Option CC} {m ah:X}
theorem Bg.ac(a:Bg id x m ah):ah.ac=m.ac:=by rw[a.eq];rfl
theorem Bg.mp(a:Bg id x m ah):ah.mp=m.mp:=by rw[a.eq];rfl
theorem Bg.Cg(a:Bg id x m ah)(h:m.Y b=some y):b≠id:= λc=>by subst c;rw[a.F7]at h;cases h
theorem Bg.ga(a:Bg id x m ah)(h:b≠id):ah.Y b=m.Y b:=by rw[a.eq,X.GJ,if_neg h]
theorem Bg.Y(a:Bg id x m ah)(h:m.Y b=some y):ah.Y b=some y:=by rw[a.ga (a.Cg h),h]
theorem Bg.Bs(c:Bg id x m ah){b:Nat}{e:List (Value×Value)}(h:m.Bs b=some e):ah.Bs b=some e:=by
 unfold X.Bs at h⊢;cases a:m.Y b with
 |none=>rw[a]at h;cases h
 |some y=>rw[a]at h;rw[c.Y a,c.mp];exact h
theorem Bg.k9(c:Bg id x m ah){b:Nat}{e:List (Value×Value)}(h:m.Bs b=some e):b≠id:=by
 unfold X.Bs at h;cases a:m.Y b with
 |none=>rw[a]at h;cases h
 |some y=>exact c.Cg a
theorem Bg.A1(a:Bg id x m ah)(hb:b≠id)(y:Option CC):Bg id x (m.A1 b y) (ah.A1 b y) where
 eq:=by rw[a.eq];exact o3 (by omega)
 B0:=a.B0
 F7:=by rw[X.GJ,if_neg (by omega)];exact a.F7
theorem Bg.Cw(a:Bg id x m ah)(hb:b≠id)(e:List (Value×Value)):Bg id x (m.Cw b e) (ah.Cw b e) where
 eq:=by
  rw[a.eq];simp only[X.Cw,X.A1,X.mk.injEq,true_and,and_true]
  grind
 B0:=a.B0
 F7:=by have:=a.F7;simp only[X.Y,X.Cw,show¬id=b by omega,if_false]at this⊢;exact this
theorem Bg.AE(a:Bg id x m ah)(k:Nat):Bg id x (m.AE k) (ah.AE k) where
 eq:=by
  rw[a.eq];simp only[X.AE,X.A1,X.mk.injEq,true_and,and_true];funext i;by_cases b:i=id
  ·subst b;simp[a.B0]
  ·simp[b]
 B0:=by have:=a.B0;show id<m.ac+k;omega
 F7:=by rw[X.Ab];exact a.F7
theorem Bg.Bj(c:Bg id x m ah)(h:Bj m v n=true):Bj ah v n=true:=by
 unfold DI.Bj at h⊢;split at h
 ·rename_i a;simp only[AF]at h⊢;refine⟨h.1,?_⟩;cases b:m.Y a.block with
  |none=>rw[b]at h;simp at h
  |some x=>rw[b]at h;rw[c.Y b];exact h.2
 ·cases h
theorem Bg.Gi(c:Bg id x m ah)(h:Gi m v=true):Gi ah v=true:=by
 unfold DI.Gi at h⊢;split at h
 ·rename_i a;cases b:m.Y a.block with
  |none=>rw[b]at h;cases h
  |some x=>rw[b]at h;rw[c.Y b];exact h
 ·cases h
theorem Bg.Co(c:Bg id x m ah)(h:DI.Bj m v n=true):Co ah K n v=Co m K n v:=by
 unfold DI.Bj at h;split at h
 ·rename_i a;simp only[AF]at h;cases b:m.Y a.block with
  |none=>rw[b]at h;simp at h
  |some x=>simp only[DI.Co,C3,b,c.Y b]
 ·cases h
theorem Bg.Fj(c:Bg id x m ah)(h:DI.Bj m v n=true):Bg id x (Fj m v cs) (Fj ah v cs):=by
 unfold DI.Bj at h;split at h
 ·rename_i a;simp only[AF]at h;cases b:m.Y a.block with
  |none=>rw[b]at h;simp at h
  |some x=>simp only[DI.Fj,b,c.Y b];exact c.A1 (c.Cg b) _
 ·cases h
theorem Bg.Br(d:Bg id x m ah)(h:Br m z v=true):Br ah z v=true:=by
 unfold DI.Br at h⊢;split at h
 ·exact h
 ·rename_i a l c;simp only[AF]at h⊢;refine⟨h.1,?_⟩;cases b:m.Y a.block with
  |none=>rw[b]at h;simp at h
  |some x=>rw[b]at h;rw[d.Y b];exact h.2
 ·cases h
theorem Bg.Dm(d:Bg id x m ah)(h:Dm m v=true):Dm ah v=true:=by
 unfold DI.Dm at h⊢;split at h
 ·rfl
 ·rename_i a l c;cases b:m.Y a.block with
  |none=>rw[b]at h;cases h
  |some x=>rw[b]at h;rw[d.Y b];exact h
 ·cases h
theorem Bg.C5(d:Bg id x m ah)(h:DI.Br m z v=true):C5 ah z v=C5 m z v:=by
 unfold DI.Br at h;split at h
 ·rfl
 ·rename_i a l c;simp only[AF]at h;cases b:m.Y a.block with
  |none=>rw[b]at h;simp at h
  |some x=>simp only[DI.C5,C3,b,d.Y b]
 ·cases h
theorem Bg.EC(b:Bg id x m ah)(h:DI.Br m z v=true):Bg id x (EC m v) (EC ah v):=by
 unfold DI.Br at h;split at h
 ·exact b
 ·rename_i a l c;simp only[AF]at h;cases d:m.Y a.block with
  |none=>rw[d]at h;simp at h
  |some x=>exact b.A1 (b.Cg d) _
 ·cases h
theorem Bg.H5(b:Bg id x m ah)(h:DI.Br m z v=true):Bg id x (H5 m cs v) (H5 ah cs v):=by
 unfold DI.Br at h;split at h
 ·exact b
 ·rename_i a l c;simp only[AF]at h;cases d:m.Y a.block with
  |none=>rw[d]at h;simp at h
  |some x=>simp only[DI.H5,d,b.Y d];exact b.A1 (b.Cg d) _
 ·cases h
theorem Bg.Dj(e:Bg id x m ah)(h:DI.Br m z v=true):Dj ah z v n=Dj m z v n:=by
 unfold DI.Br at h;split at h
 ·rfl
 ·rename_i a l c;simp only[AF]at h;obtain⟨b,off,f⟩:=a;cases d:m.Y b with
  |none=>simp only[d]at h;simp at h
  |some x=>cases f<;>simp only[DI.Dj,d,e.Y d]
 ·cases h
theorem Bg.Ga(b:Bg id x m ah)(h:DI.Br m z v=true):Bg id x (Ga m z v cs) (Ga ah z v cs):=by
 unfold DI.Br at h;split at h
 ·exact b
 ·rename_i a l c;simp only[AF]at h;cases d:m.Y a.block with
  |none=>rw[d]at h;simp at h
  |some x=>simp only[DI.Ga,d,b.Y d];exact b.A1 (b.Cg d) _
 ·cases h
theorem Bg.FC(a:Bg id x m ah)(h:FC m v=some es):FC ah v=some es:=by
 unfold DI.FC at h⊢;split at h
 ·exact h
 ·exact a.Bs h
 ·cases h
theorem U0(a:Bg id x m ah){k:M}{A:A2}(h:k.ok A m=true):k.ok A ah=true:=by
 cases k with
 |NH z n y=>simp only[M.ok,AF]at h⊢;exact⟨a.Bj h.1,h.2⟩
 |EO K n y=>simp only[M.ok,AF]at h⊢;exact⟨a.Bj h.1,h.2⟩
 |store n x v=>simp only[M.ok,AF]at h⊢;exact⟨⟨⟨a.Bj h.1.1.1,a.Gi h.1.1.2⟩,h.1.2⟩,h.2⟩
 |Lr x=>simp only[M.ok,AF]at h⊢;exact⟨a.Br h.1,by rw[a.C5 h.1];exact h.2⟩
 |app z bytes x y=>simp only[M.ok,AF]at h⊢;exact⟨⟨⟨⟨⟨a.Br h.1.1.1.1.1,a.Dm h.1.1.1.1.2⟩,a.Br h.1.1.1.2⟩,h.1.1.2⟩,h.1.2⟩,h.2⟩
 |Ca z x=>simp only[M.ok,AF]at h⊢;exact⟨⟨a.Br h.1.1,a.Dm h.1.2⟩,h.2⟩
 | LS bx z o x d=>
   simp only[M.ok]at h⊢;cases c:DI.FC m (U A x)with
   |none=>rw[c]at h;cases h
   |some es=>rw[c]at h;rw[a.FC c];exact h
 | Ki bx x d v=>
   simp only[M.ok]at h⊢;split at h
   ·rename_i e b hb;cases c:m.Bs b with
    |none=>rw[c]at h;cases h
    |some es=>rw[c]at h;rw[a.Bs c];exact h
   ·cases h
 |_=>exact h
theorem Wx(a:Bg id x m ah){k:M}{A:A2}{c:Nat}(h:k.ok A m=true):k.val c A ah=k.val c A m:=by
 cases k with
 |EO K n y=>simp only[M.ok,AF]at h;exact a.Co h.1
 |Lr x=>simp only[M.ok,AF]at h;simp only[M.val,a.C5 h.1]
 | app z bytes x y=>simp only[M.ok,AF]at h;simp only[M.val,a.Dj h.1.1.1.1.1]
 | LS bx z o x d=>
   simp only[M.ok]at h;cases b:DI.FC m (U A x)with
   |none=>rw[b]at h;cases h
   |some es=>simp only[M.val,b,a.FC b]
 |_=>rfl
theorem Ue(f:Bg id x m ah){k:M}{A:A2}{j:Nat}(g:j≠id)(h:k.ok A m=true):Bg id x (k.Cj j A m) (k.Cj j A ah):=by
 cases k with
 |It z=>exact f.A1 g _
 |Ja x=>exact f.A1 g _
 |Hg a b c d=>exact f.A1 g _
 |Mz x=>exact f.A1 g _
 |KZ a b c d e=>exact f.A1 g _
 |Ca z x=>simp only[M.ok,AF]at h;exact f.H5 h.1.1
 |IZ a b c d e=>exact f.A1 g _
 |store n x v=>simp only[M.ok,AF]at h;exact f.Fj h.1.1.1
 | app z bytes x y=>
   simp only[M.ok,AF]at h;simp only[M.Cj,f.Dj h.1.1.1.1.1];split
   ·exact f
   ·rw[f.C5 h.1.1.1.1.1,f.C5 h.1.1.1.2];split
    ·exact f.Ga h.1.1.1.1.1
    ·exact(f.EC h.1.1.1.1.1).A1 g _
 |Kz=>exact f.Cw g _
 | Ki bx x l v=>
   simp only[M.ok]at h;split at h
   ·rename_i o b hb;cases i:m.Bs b with
    |none=>rw[i]at h;cases h
    |some es=>simp only[M.Cj,hb,MX,i,f.Bs i];exact f.Cw (f.k9 i) _
   ·cases h
 |_=>exact f
theorem Yv(b:Bg id x m ah){k:M}{A:A2}{c:Nat×List Value}(h:k.By A m=some c):k.By A ah=some c:=by
 cases k with
 | JN d x args=>
   simp only[M.By]at h⊢;split at h
   ·split at h
    ·exact h
    ·split at h
     ·rename_i a;simp only[AF]at a;rw[if_pos (by simp only[AF];exact⟨b.Bj a.1,a.2⟩),b.Co a.1];exact h
     ·cases h
    ·cases h
   ·cases h
 |_=>exact h
theorem e3{m ah:X}{k:M}{A:A2}(h:k.By A m=none)(c:k.ok A m=true):k.By A ah=none:=by
 refine a4X ?_;cases k with
 |Kg f a=>simp[M.ok]at c
 |JV f a=>simp[M.ok]at c
 |JN f a b=>simp[M.ok]at c
 |_=>rfl
def Ym(id:Nat)(x:Option CC)(cp:Callee):Prop:= ∀f a m r u,cp f a m=some (r,u)-> ∀ah,Bg id x m ah-> ∃cX,cp f a ah=some (r,cX)/\Bg id x u cX
theorem k5{cX:X}(a:Bg id x m ah)(c:Bg id x u cX)(h:KF A bx m u):KF A bx ah cX:= λp e b hb=>by
 by_cases d:b=id
 ·subst d;rw[a.eq,c.eq,X.GJ,X.GJ,if_pos rfl,if_pos rfl,if_pos a.B0,if_pos c.B0]
 ·rw[a.ga d,c.ga d];exact h p e b hb
theorem er{cp:Callee}(d:Ym id x cp)(e:Bg id x m ah){base:Nat}(hb:id<base){o:Av}{A J:A2}{u:X}(h:DJ cp base o A m=some (J,u))(a:I7 o A m u):
 ∃cX,DJ cp base o A ah=some (J,cX)/\Bg id x u cX/\I7 o A ah cX:=by
 unfold DJ at h⊢;unfold I7 at a⊢;by_cases c:Bl A o.g=true
 ·rw[if_pos c]at h⊢
  replace a:=a c
  cases i:o.k.By A m with
  | none=>
    grind [e3,U0,Wx,Ue]
  | some j=>
    obtain⟨f,args⟩:=j;rw[i]at h a;simp only at h a;cases b:cp f args m with
    |none=>rw[b]at h;cases h
    | some l=>
      obtain⟨v,bz⟩:=l;rw[b]at h;cases h;obtain⟨cX,n,p⟩:=d _ _ _ _ _ b ah e
      grind [Yv,k5]
 ·simp_all
theorem NJ(b:Ym id x cp)(hb:id<base): ∀{L:List Av} {A J:A2} {m u ah:X},Bg id x m ah->Et cp base L A m=some (J,u)-> ∃cX,Et cp base L A ah=some (J,cX)/\Bg id x u cX
 |[],_,_,_,_,ah,a,h=>by cases h;exact⟨ah,rfl,a⟩
 | _::_,_,_,_,_,ah,a,h=>by obtain⟨E,bz,c,d,e⟩:=JA h;obtain⟨n,f,g,i⟩:=er b a hb c d;obtain⟨j,k,l⟩:=NJ b hb g e;exact⟨j,OA f i k,l⟩
theorem WC(a: ∀A m e J u,f A m=some (e,J,u)-> ∀ah,Bg id x m ah-> ∃cX,f A ah=some (e,J,cX)/\Bg id x u cX):
 ∀{n:Nat} {A:A2} {m:X} {e:BM} {J:A2} {u ah:X},Eo f n A m=some (e,J,u)->Bg id x m ah-> ∃cX,Eo f n A ah=some (e,J,cX)/\Bg id x u cX
 |0,_,_,_,_,_,_,h,_=>by simp[Eo]at h
 | n+1,A,m,e,J,u,ah,h,d=>by
   rcases aAw h with⟨E,bz,b,c⟩|⟨b,c⟩
   ·obtain⟨o,g,i⟩:=a _ _ _ _ _ b ah d;obtain⟨j,k,l⟩:=WC a c i;exact⟨j,by simp only[Eo,g];exact k,l⟩
   ·grind [Eo]
theorem Bg.Hb(a:Bg id x m ah):Bg id (x.map SF) (Hb m) (Hb ah) where
 eq:=by
  rw[a.eq];simp only[DI.Hb,X.A1,X.mk.injEq,true_and,and_true]
  grind
 B0:=a.B0
 F7:=by
  have:=a.F7;unfold X.Y at this⊢;have h:=a.B0
  simp_all [DI.Hb]
theorem Bg.HK(d:Bg id x m ah)(h:HK z m v=true):HK z ah v=true:=by
 unfold DI.HK at h⊢;split at h
 ·rename_i a l c;cases b:m.Y a.block with
  |none=>rw[b]at h;cases h
  |some x=>rw[b]at h;rw[d.Y b];exact h
 ·rfl
theorem Bg.HA(a:Bg id x m ah)(h:HA o A m=true):HA o A ah=true:=by
 unfold DI.HA at h⊢;simp only[AF]at h⊢;refine⟨⟨h.1.1,?_⟩,U0 a h.2⟩;have:=h.1.2;split at this
 ·exact a.HK this
 ·cases this
theorem Hh(i: ∀x,Ym id x cp): ∀{c:CF} {A J:A2} {m u ah:X} {e:BM},Bb cp n c A m=some (e,J,u)->Bg id x m ah-> ∃cX,Bb cp n c A ah=some (e,J,cX)/\Bg id x u cX
 | .skip,_,_,_,_,ah,_,h,d=>by cases h;exact⟨ah,rfl,d⟩
 | .FW ops,A,J,m,u,ah,e,h,d=>by
   simp only[Bb]at h⊢;split at h
   ·rename_i E bz y;cases h;have z:Bg id x (Cn ops m) (Cn ops ah):=by
     unfold Cn;split
     ·exact d.AE _
     ·exact d
    obtain⟨cX,g,r⟩:=NJ (i x) (base:=m.ac) d.B0 z y;refine⟨cX,?_,r⟩;rw[d.ac,g]
   ·cases h
 | .LN F o G,A,J,m,u,ah,e,h,d=>by
   simp only[Bb]at h⊢;split at h
   ·rename_i E bz l;split at h
    ·rename_i s;split at h
     ·rename_i D cI p;cases h;obtain⟨t,q,j⟩:=NJ (i x) (base:=m.ac) d.B0 (d.AE _) l;have v:o.k.ok E bz=true:=(by unfold DI.HA at s;simp only[AF]at s;exact s.2);obtain⟨B,w,r⟩:=NJ (i _) (base:=m.ac) d.B0 j.Hb p;rw[d.ac,q];simp only[j.HA s,if_true,Wx j v,w,r.ac,j.ac];exact⟨_,rfl,(Ue j (by have:=d.B0;omega) v).AE _⟩
     ·cases h
    ·cases h
   ·cases h
 | .El a b,A,J,m,u,ah,e,h,d=>by
   simp only[Bb]at h⊢;split at h
   ·rename_i E bz l;obtain⟨t,q,j⟩:=Hh i l d;obtain⟨B,w,r⟩:=Hh i h j
    simp_all
   ·rename_i C;obtain⟨t,q,j⟩:=Hh i h d
    simp_all
 | .HP x a b,A,J,m,u,ah,e,h,d=>by
   simp only[Bb]at h⊢;split at h
   ·rename_i l;rw[if_pos l];split at h
    ·rename_i p;rw[if_pos p];exact Hh i h d
    ·rename_i p;rw[if_neg p];exact Hh i h d
   ·cases h
 | .block id c,A,J,m,u,ah,e,h,d=>by
   simp only[Bb]at h⊢;split at h
   ·rename_i l;obtain⟨t,q,j⟩:=Hh i l d
    grind
   ·rename_i C;obtain⟨t,q,j⟩:=Hh i h d
    simp_all
 | .loop c,A,J,m,u,ah,e,h,d=>by simp only[Bb]at h⊢;exact WC (f:=Bb cp n c) (λA m e J u l ah d=>Hh i l d) h d
 | .Ao id,_,_,_,_,ah,_,h,d=>by cases h;exact⟨ah,rfl,d⟩
 | .Cz,_,_,_,_,ah,_,h,d=>by cases h;exact⟨ah,rfl,d⟩
theorem Qe(a:Bg id x m ah){A:A2}{r:GF}(h:IX m A r=true):IX ah A r=true/\J5 ah A r=J5 m A r:=by
 cases r with
 |AH t=>exact⟨rfl,rfl⟩
 | DE t K n=>simp only[IX,AF]at h⊢;exact⟨⟨a.Bj h.1,h.2⟩,a.Co h.1⟩
theorem dp(a:Bg id x m ah)(h:Fi m A O=true):Fi ah A O=true/\Fv ah A O=Fv m A O:=by
 have b: ∀r∈O,IX m A r=true:=by simpa[Fi]using h
 refine⟨by simp only[Fi,BR];exact λr c=>(Qe a (b r c)).1,?_⟩;unfold Fv;split
 ·exact(Qe a (b _ (by simp))).2
 ·rw[Ur λr c=>(Qe a (b r c)).2]
theorem hY(f:Bg id x m ah){r:Value}(h:LK args m=some (r,u)): ∃cX,LK args ah=some (r,cX)/\Bg id x u cX:=by
 obtain⟨s,i,y,rfl,g,rfl,rfl⟩:=Yl h;simp only[Of,AF]at g;obtain⟨a,b,c,d,e⟩:=g;have j:Of ah s i y=true:=by simp only[Of,AF];exact⟨f.Br a,f.Dm b,f.Br c,f.Dm d,e⟩
 have l: ∀k,k=m.ac->k≠id:= λk n=>by have:=f.B0;omega
 refine⟨((EC ah s).AE 1).A1 m.ac (some ⟨C5 m 1 y++C5 m 1 s,true⟩),?_,((f.EC a).AE 1).A1 (l _ rfl) _⟩;simp only[LK,j,if_true,cE,V4,f.ac,f.C5 a,f.C5 c]
theorem Us: ∀n x,Ym id x (Ev P n)
 |0,_=> λf a m r u h=>by simp[Ev]at h
 | n+1,x=> λf a m r u h ah b=>by
   simp only[Ev]at h⊢;split at h
   ·rename_i g i;split at h
    ·rename_i c;rw[if_pos c];split at h
     ·cases h
     ·rename_i e J bz j d;obtain⟨k,l,o⟩:=Hh (Us n) d b
      grind [dp]
     ·cases h
    ·cases h
   ·grind [hY]
end fh
end Go.DI
