/-
  A part of the proof, shortened by tools of ours.
-/
import Derived.Test.YtmmkkggfmigppaaGreatZcd
set_option linter.all false
set_option maxRecDepth 8000
set_option maxHeartbeats 16000000
namespace Go.DI
open Go Go.RowKit
def vn:Value->Option Nat
 | .slice (some a) _ _=>some a.block
 |_=>none
def aCV:Value->Bool
 | .int .i64 n=>n==0
 |_=>false
def a3l(s i y:Value):Bool:=aCV i&&decide (0<CQ y)&&decide (vn s≠vn y)&&decide ((CQ s+CQ y)*8<=140737488355328)
def Ok(m:V)(s i y:Value):Bool:=Bp m 1 s&&(Dl m s&&(Bp m 1 y&&(Dl m y&&a3l s i y)))
def U6(m:V)(s y:Value):V:=((Dx m s).AE 1).A0 m.next (some ⟨C7 m 1 y++C7 m 1 s,true⟩)
def ai(m:V)(s y:Value):Value:= .slice (some ⟨m.next,0,none⟩) (CQ s+CQ y) 1
def L3:List Value->V->Option (Value×V)
 |[s,i,y],m=>if Ok m s i y=true then some (ai m s y,U6 m s y)else none
 |_,_=>none
variable{B bw:V}{args:List Value}{r:Value}{b J A1:Nat}{N F:A6}{Q:Exit->Act->World->Prop}{aF:Act->World->Prop}{u:Ap}{x:Option Bw}{es:List (Value×Value)}{L:List Ap}{s:A6×V}{T:List Nat}{R:Ren}{d:Int}{l:Option Operand}
theorem aS{m:V}(h:L3 args m=some (r,B)): ∃s i y,args=[s,i,y]/\Ok m s i y=true/\r=ai m s y/\B=U6 m s y:=by
 unfold L3 at h
 grind
theorem aEp(m:V)(v:Value):(Dx m v).next=m.next:=by unfold Dx;split<;>rfl
theorem a7D{m:V}(h:L3 args m=some (r,B)):m.next<=B.next:=by
 obtain⟨s,i,y,rfl,_,rfl,rfl⟩:=aS h;show m.next<=(Dx m s).next+1
 rw[aEp];omega
theorem a55{m:V}(h:L3 args m=some (r,B))(hb:b<m.next)(a:m.W b=none):B.W b=none:=by
 obtain⟨s,i,y,rfl,_,rfl,rfl⟩:=aS h;unfold U6;rw[V.G1,if_neg (by omega),V.AU];unfold Dx
 grind [V.G1]
def aBH(P:Program)(f:Nat):Prop:=SS P f/\ ∀(aJ:Nat) args m r B,L3 args m=some (r,B)-> ∀C w (c:Array Value),Al C args c.toList->BA aJ C m w->aJ<=w.heap.size->
 Calls P f c w λe d=> ∃v a,e= .returned v/\CZ C a/\(∀b,b<m.next->a b=C b)/\B6 a r v/\BA aJ a B d/\Below aJ w d
open Classical in
noncomputable def El(P:Program):Nat->Callee
 |0,_,_,_=>none
 | n+1,f,args,m=>match AR P f with
   | some a=>if args.length<=a.c6 then
    (match Bb (El P n) n a.body (Cp args) m with
    |some (.Ai _,_,_)=>none
    |some (_,N,B)=>if FM B N a.N5 then some (Fg B N a.N5,B)else none
    |none=>none)
     else none
   |none=>if aBH P f then L3 args m else none
variable {P:Program} {w:World} {o:Oper} {a:Act} {C:Ren} {G:Nat} {A:A6} {m:V} {aJ:Nat} {ops:Array Oper} {b4:Callee} {base:Nat}
def OG(P:Program)(ops:Array Oper)(G:Nat)(u:Ap)(o:Oper):Prop:=
 ops[u.AO]?=some o/\PU P o=some u.k/\aX ops o=some u.g/\o.dst=u.d/\u.d.all (λd=>decide (d<G))=true
theorem x8{g:Option (Nat×Bool)}(e:aX ops o=some g)(k:Cw C G A a):Region.wanted o (yielded ops a.tmps)=Bf A g:=by
 unfold aX at e;split at e
 ·rename_i h;cases e;simp[Region.wanted,h,Bf]
 ·rename_i j b h;split at e
  ·rename_i t l;cases e;have d:=k.Gp t;simp only[Region.wanted,h,Bf,yielded,l,Option.bind_some];rw[Array.getD_eq_getD_getElem?]at d;cases i:a.tmps[t]? with
   | none=>
     rw[i]at d;simp only[Option.getD_none]at d;cases f:A t<;>try rfl
     rw[f]at d;have:=d.Jv;simp[undef]at this
   | some v=>
     rw[i]at d;simp only[L2]at d;cases f:A t
     case bool c=>rw[f]at d;rw[d.Jv];simp
     all_goals
      rw[f]at d;cases v
      case bool c=>cases d
      all_goals rfl
  ·cases e
theorem Zz{k:K}(h:k.ok A m=true):k.F0=false:=by cases k<;>first|rfl|(simp[K.ok]at h)
theorem sX(O:Ie P aJ b4)(R:OG P ops G u o)(i:Cw C G A a)(n:BA aJ C m w)(F:aJ<=w.heap.size)(T:u.k.Bt=true->base+u.AO<m.next)(U:u.k.Bt=true->C (base+u.AO)=none)
 (c:DK b4 base u A m=some (N,B))
 (q: ∀H j h,CZ C h->(∀b,b<m.next->b≠base+u.AO->h b=C b)->Cw h G N H->BA aJ h B j->Below aJ w j->aF H j):wpOp P ops Q u.AO aF a w:=by
 obtain⟨V,I,W,p,r⟩:=R;unfold wpOp;simp only[V];rw[x8 W i];unfold DK at c;by_cases J:Bf A u.g=true
 ·rw[if_pos J]at c⊢;refine .inl ?_;unfold Oper.wp;cases s:u.k.C2 A m with
  | some S=>
    obtain⟨f,args⟩:=S;rw[s]at c;simp only at c;cases t:b4 f args m with
    |none=>rw[t]at c;cases c
    | some X=>obtain⟨v,cJ⟩:=X;rw[t]at c;simp only[GY,JM]at c;obtain⟨rfl,rfl⟩:=c;obtain⟨Y,A5,A6,_,Z⟩:=O f args m v cJ t;obtain⟨A1,A2,A3⟩:=aA3 (w:=w) I i n s Y;rw[A2,Oper.upon_enter];refine(Z C w A1 A3 n F).mono λe j A4=> ?_;obtain⟨K,h,rfl,l,x,z,D,E⟩:=A4;rw[p];exact q _ _ h l (λb hb _=>x b hb) ((i.AG l).A0 r z) D E
  | none=>
    rw[s]at c;simp only at c;split at c
    ·rename_i L;simp only[GY,JM]at c;obtain⟨rfl,rfl⟩:=c;obtain⟨K,j,h,y,l,x,z,D,E⟩:=aBt I (Zz L) i n F T U L;have M:=q (a.put u.d K) j h l (λb _ hb=>x b hb) ((i.AG l).A0 r z) D E;rcases y with y|⟨y,rfl⟩
     ·rw[y,Oper.upon_value,p];exact M
     ·rw[y,Oper.upon_skip,p];exact M
    ·cases c
 ·rw[if_neg J]at c⊢;simp only[GY,JM]at c;obtain⟨rfl,rfl⟩:=c;rw[p];exact q _ _ C (CZ.refl C) (λ_ _ _=>rfl) (i.A0 r (B6.undef C)) n (Below.refl _ _)
theorem Rj(b:Ie P aJ b4)(a:DK b4 base u A m=some (N,B)):m.next<=B.next:=by
 unfold DK at a;split at a
 ·split at a
  ·split at a
   ·rename_i c;cases a;exact(b _ _ _ _ _ c).2.1
   ·cases a
  ·split at a
   ·cases a;cases u.k<;>simp only[K.Cl]<;>try exact Ao _
    ·unfold FJ;split<;>try exact Ao _
     split<;>exact Ao _
    ·split
     ·exact Ao _
     ·split
      ·unfold GA;split<;>try exact Ao _
       split<;>exact Ao _
      ·unfold Dx;split<;>exact Ao _
    ·unfold Gj;split<;>try exact Ao _
     split<;>exact Ao _
   ·cases a
 ·simp_all
theorem Ua(h:m.W b=none)(a:b≠J):(m.A0 J x).W b=none:=by rw[V.G1,if_neg a];exact h
theorem zS(h:m.W b=none)(a:b≠J):(m.Cf J es).W b=none:=by
 simp_all [V.W,V.Cf]
theorem dG(i:Ie P aJ b4)(a:DK b4 base u A m=some (N,B))(hb:b<m.next)(f:b≠base+u.AO)(c:m.W b=none):B.W b=none:=by
 unfold DK at a;split at a
 ·split at a
  ·split at a
   ·rename_i j;cases a;exact(i _ _ _ _ _ j).2.2.1 b hb c
   ·cases a
  ·split at a
   ·rename_i d;cases a;cases l:u.k<;>simp only[K.Cl]<;>try exact c
    all_goals try exact Ua c f
    all_goals try exact zS c f
    ·unfold FJ
     grind [Ua]
    ·split
     ·exact c
     ·split
      ·unfold GA
       grind [Ua]
      ·refine Ua ?_ f;unfold Dx
       grind [V.G1]
    ·unfold Gj
     grind [Ua]
    ·rename_i bp x k v;rw[l]at d;simp only[K.ok]at d;cases n:O A x<;>simp only[n]at d<;>try cases d
     rename_i p;cases p with
     |none=>simp at d
     | some g=>
       simp only at d;cases h:m.BL g with
       |none=>simp[h]at d
       | some es=>
         have o:=(V.Hp h).1;exact zS c (λe=>by
          have q:b=g:=e
          grind)
   ·cases a
 ·cases a;exact c
theorem Iq(h:Ef b4 base (u::L) A m=some s): ∃F bw,DK b4 base u A m=some (F,bw)/\Hv u A m bw/\Ef b4 base L F bw=some s:=by
 grind [Ef]
theorem Ns(a:DK b4 base u A m=some (F,bw))(b:Hv u A m bw)(c:Ef b4 base L F bw=some s):Ef b4 base (u::L) A m=some s:=by
 unfold Ef
 simp_all
theorem Tn(a:Ie P aJ b4): ∀(L:List Ap) (A:A6) (m:V) (s:A6×V),Ef b4 base L A m=some s->m.next<=s.2.next
 |[],A,m,s,h=>by simp[Ef]at h;subst h;exact Ao _
 | u::L,A,m,s,h=>by obtain⟨F,bw,b,_,c⟩:=Iq h;exact Dh (Rj a b) (Tn a L _ _ _ c)
theorem jo(a:Ie P aJ b4)(hb:b<base): ∀(L:List Ap) (A:A6) (m:V) (s:A6×V),base<=m.next->Ef b4 base L A m=some s->m.W b=none->s.2.W b=none
 |[],A,m,s,_,h,c=>by simp[Ef]at h;subst h;exact c
 | u::L,A,m,s,e,h,c=>by obtain⟨F,bw,d,_,f⟩:=Iq h;exact jo a hb L _ _ _ (Dh e (Rj a d)) f (dG a d (by omega) (by omega) c)
theorem mG(g:Ie P aJ b4): ∀(L:List Ap) (A:A6) (m:V) (a:Act) (w:World) (C:Ren) (N:A6) (B:V),
 (∀u∈L,∃o,OG P ops G u o)->(L.map (·.AO)).Nodup->Cw C G A a->BA aJ C m w->aJ<=w.heap.size->(∀u∈L,u.k.Bt=true->base+u.AO<m.next/\C (base+u.AO)=none)->Ef b4 base L A m=some (N,B)->
 (∀e d c,CZ C c->(∀b,b<m.next->(∀u∈L,b≠base+u.AO)->c b=C b)->Cw c G N e->BA aJ c B d->Below aJ w d->wpOps P ops Q T e d)->wpOps P ops Q (L.map (·.AO)++T) a w
 | [],A,m,a,w,C,N,B,_,_,j,l,_,_,h,n=>by
   grind [Ef,CZ.refl,Below.refl]
 | u::L,A,m,a,w,C,N,B,p,q,j,l,r,s,h,n=>by
   obtain⟨F,bw,t,_,y⟩:=Iq h;obtain⟨o,z⟩:=p u (by simp);simp only[E1,K5]at q;rw[E1,Ih,wpOps_cons];have X:=Rj g t;refine sX g z j l r (λh=>(s u (by simp) h).1) (λh=>(s u (by simp) h).2) t λe d c D E H I v=> ?_;refine mG g L F bw e d c N B (λi f=>p i (by simp[f])) q.2 H I (Dh r v.size) (λi f Y=> ?_) y λJ K R M O S U W=> ?_
   ·grind
   ·exact n J K R (D.trans M) (λb hb x=>(O b (by omega) (λi f=>x i (by simp[f]))).trans (E b hb (x u (by simp)))) S U (v.trans W)
theorem a1i(Y:OG P ops G u o)(n:Cw C G A a)(E:BA aJ C m w)(Z:aJ<=w.heap.size)(F:base+u.AO<m.next)(H:C (base+u.AO)=none)(I:H4 u A m=true)

 (L: ∀M c e,CZ C e->(∀b,b≠base+u.AO->e b=C b)->Cw e G (Af A u.d (u.k.val (base+u.AO) A m)) M->BA aJ e (u.k.Cl (base+u.AO) A m) c->BA c.heap.size e (HC m) c->Below aJ w c->aF M c):wpOp P ops Q u.AO aF a w:=by
 obtain⟨N,O,R,p,S⟩:=Y;obtain⟨A1,d,g,k,bp⟩:=u;simp only at N O R p S F H L⊢;simp only[H4,AB,Rl]at I;obtain⟨⟨A2,q⟩,A3⟩:=I;subst A2;unfold wpOp;simp only[N];rw[x8 R n,if_pos (show Bf A none=true from rfl)];refine .inl ?_;unfold Oper.wp;split at q
 ·rename_i z bytes x y;obtain⟨r,c,e,A4,j,A5,A6,s,A7,A8⟩:=a70 O n E Z F H A3;have A9:BA c.heap.size e (HC m) c:=by
   have t: ∀b x,(HC m).W b=some x-> ∃f,m.W b=some f/\x=SC f:=by
    intro b x hb;unfold V.W at hb⊢;change (if b<m.next then _ else _)=_ at hb;split at hb
    ·grind [HC,Option.map_eq_some_iff]
    ·cases hb
   have AD:((K.app z bytes x y).Cl (base+A1) A m).next=m.next:=by
    simp only[K.Cl];split
    ·rfl
    ·split
     ·unfold GA;split
      ·split<;>rfl
      ·rfl
     ·unfold Dx;split<;>rfl
   refine⟨λb l hb=>by have:=s.Fq b l hb;rw[AD]at this;exact this,s.G9,λb x hb=> ?_,λb x J AL l AM hb B=> ?_,λb es hb=>(by cases hb),λb es hb=> ?_,λb x l hb B=>(by obtain⟨f,_,rfl⟩:=t b x hb;cases B)⟩
   ·obtain⟨f,D,rfl⟩:=t b x hb;obtain⟨l,T,AE,AF,_⟩:=E.G2 b f D;refine⟨l,j b l T,AE,λi v U=> ?_,λh=>by cases h⟩;obtain⟨AH,r,AJ,AK⟩:=AF i v U;exact⟨AH,r,by rw[A8 q b f l D T i (AX.1 U).1];exact AJ,AK.AG j⟩
   ·obtain⟨f,_,rfl⟩:=t b x hb;cases B
   ·obtain⟨D,_⟩:=V.Hp hb
    grind [SC]
  have X:=L (a.put d r) c e j A5 ((n.AG j).A0 S A6) s A9 A7;rcases A4 with y|⟨y,rfl⟩
  ·rw[y,Oper.upon_value,p];exact X
  ·rw[y,Oper.upon_skip,p];exact X
 ·cases q
theorem a2k{cJ:V}{g j:World}(G:A1=g.heap.size)(f:BA aJ C bw g)(z:BA A1 R cJ j)(m:CZ C R)(W:bw.next<=cJ.next)(hb:Below A1 g j):BA aJ R (bw.AE (cJ.next-bw.next)) j:=by
 subst G;have q: ∀b l,C b=some l->j.heap[l.c]?=g.heap[l.c]?:= λb l h=>hb.block _ (f.G9 b l h);have s: ∀b l p,C b=some l->R b=some p->p=l:= λb l p h H=>by have:=m b l h;rw[H]at this;cases this;rfl
 refine⟨λb l h=>by have:=z.Fq b l h;rw[V.M1];omega,z.G9,λb x d=> ?_,λb x J A l p d n t I u K=> ?_,λb es h=> ?_,λb es h=> ?_,λb x l d n u=> ?_⟩
 ·rw[V.AU]at d;obtain⟨l,a,w,y,r⟩:=f.G2 b x d;have B: ∀i,j.cell? ⟨l.c,l.o+i,none⟩=g.cell? ⟨l.c,l.o+i,none⟩:= λi=>by simp only[World.cell?,q b l a]
  have L: ∀i,j.frozen? ⟨l.c,l.o+i,none⟩=g.frozen? ⟨l.c,l.o+i,none⟩:= λi=>by simp only[World.frozen?,q b l a]
  refine⟨l,m b l a,w,λi v M=> ?_,λn=>⟨(r n).1,λi N=>by rw[B,L];exact(r n).2 i N⟩⟩;obtain⟨O,P,Q,S⟩:=y i v M;exact⟨O,P,by rw[B];exact Q,S.AG m⟩
 ·rw[V.AU]at d t;obtain⟨k,a,_⟩:=f.G2 b x d;obtain⟨D,E,_⟩:=f.G2 J A t;rw[s b k l a u,s J D p E K];exact f.MD b x J A k D d n t I a E
 ·obtain⟨l,e⟩:=f.NC b es h;exact⟨l,m b l e⟩
 ·obtain⟨F,T⟩:=V.Hp h;rw[V.AU]at F;obtain⟨l,U,bp,a,w,y,r⟩:=f.maps b es (V.E7 F T);exact⟨l,U,bp,m b l a,w,by rw[q b l a];exact y,r.AG m⟩
 ·rw[V.AU]at d;obtain⟨k,a,_⟩:=f.G2 b x d;rw[s b k l a u];exact(f.NU b x k d n a).Rb (q b k a)
theorem sw(f:Ie P aJ b4)(L:List Ap)(A:A6)(m:V)(a:Act)(w:World)(C:Ren)(N:A6)(B:V)
 (g: ∀u∈L,∃o,OG P ops G u o) (h:(L.map (·.AO)).Nodup) (i:Cw C G A a) (j:BA aJ C m w) (l:aJ<=w.heap.size) (n: ∀u∈L,u.k.Bt=true->base+u.AO<m.next/\C (base+u.AO)=none) (p:Ef b4 base L A m=some (N,B))
 (q: ∀e d c,CZ C c->(∀b,b<base->b<m.next->c b=C b)->Cw c G N e->BA aJ c B d->Below aJ w d->Q .normal e d):wpOps P ops Q (L.map (·.AO)) a w:=by
 have:=mG (T:=[]) (Q:=Q) f L A m a w C N B g h i j l n p λe d c r s t v x=>q e d c r (λb hb y=>s b y λu _=>by omega) t v x
 simp_all
def K.DA(k:K)(id:Nat)(A:A6)(m:V):List (Nat×Option Bw):=
 match k with
 | .IX z=>[(id,some ⟨z,true⟩)]
 | .JP x=>[(id,some ⟨H (O A x),true⟩)]
 | .HG _ _ z ps=>[(id,some ⟨G5 z A ps,true⟩)]
 | .store _ x v=>match O A x with
   | .pointer (some a)=>(match m.W a.block with|some b=>[(a.block,some ⟨C3 b.cells a.off (H (O A v)),b.own⟩)]|none=>[])
   |_=>[]
 | .MS x=>[(id,some ⟨SJ (Lb (O A x)),true⟩)]
 | .IA _ _ zero l _=>[(id,some ⟨(List.replicate (Bh (O A l)).toNat zero).flatten,true⟩)]
 | .KD _ _ zero _ l=>[(id,some ⟨(List.replicate (Bh (O A l)).toNat zero).flatten,true⟩)]
 | .app z _ x y=>if CQ (O A y)=0 then[]else if Dn m z (O A x) (CQ (O A y))then(match O A x with| .slice (some a) l _=>(match m.W a.block with|some b=>[(a.block,some ⟨C3 b.cells (a.off+l*z) (C7 m z (O A y)),b.own⟩)]|none=>[])|_=>[])else(match O A x with| .slice (some a) _ _=>[(a.block,none)]|_=>[])++[(id,some ⟨C7 m z (O A x)++C7 m z (O A y),true⟩)]
 |_=>[]
def Dk(m:V)(l:List (Nat×Option Bw)):V:=l.foldl (λm p=>m.A0 p.1 p.2) m
variable {P:Program} {A E:A6} {m cJ:V} {aJ:Nat} {b4:Callee} {base id:Nat} {k:K}
theorem zZ(d:k.Mg=false):k.Cl id A m=Dk m (k.DA id A m):=by
 cases k<;>simp only[K.Mg,Bool.true_eq_false]at d<;>simp only[K.Cl,K.DA,Dk,List.foldl_nil,IJ]
 ·grind [FJ]
 ·rename_i z f x y;split
  ·rfl
  ·generalize O A x=b;generalize Dn m z b (CQ (O A y))=e;cases e
   ·simp only[EI,if_false];cases b<;>try rfl
    rename_i p l c;cases p<;>rfl
   ·simp only[if_true];cases b<;>try rfl
    rename_i p l c;cases p with
    |none=>rfl
    |some a=>simp only[GA];cases m.W a.block<;>rfl
theorem Sx: ∀p∈k.DA id A m,(k.Bt=true/\p.1=id/\I (k.val id A m)=some id)\/ ∃x∈k.GO,I (O A x)=some p.1:=by
 intro p a;cases k<;>simp only[K.DA,EK,Gw]at a
 case IX=>subst a;exact .inl ⟨rfl,rfl,rfl⟩
 case JP=>subst a;exact .inl ⟨rfl,rfl,rfl⟩
 case HG=>subst a;exact .inl ⟨rfl,rfl,rfl⟩
 case MS=>subst a;exact .inl ⟨rfl,rfl,rfl⟩
 case IA=>subst a;exact .inl ⟨rfl,rfl,rfl⟩
 case KD=>subst a;exact .inl ⟨rfl,rfl,rfl⟩
 case store n x v=>
  grind [K.GO,I]
 case app z d x y=>
  split at a
  ·cases a
  ·rename_i b;split at a
   ·grind [K.GO,I]
   rename_i c;rcases Cg.1 a with h|h
   ·grind [K.GO,I]
   ·simp only[Gw]at h;subst h;exact .inl ⟨rfl,rfl,by simp[K.val,b,c,I]⟩
theorem jh: ∀(l:List (Nat×Option Bw)) (m:V) (b:Nat),(∀p∈l,p.1≠b)->(Dk m l).W b=m.W b
 |[],_,_,_=>rfl
 | p::l,m,b,h=>by show(Dk (m.A0 p.1 p.2) l).W b=_;rw[jh l _ b (λq a=>h q (by simp[a])),V.G1,if_neg (Ne.symm (h p (by simp)))]
theorem wb{a:Nat}{y:Option Bw}(h:a≠b):(m.A0 a x).A0 b y=(m.A0 b y).A0 a x:=by
 unfold V.A0
 grind
theorem rj: ∀(l:List (Nat×Option Bw)) (m:V) (b:Nat) (x:Option Bw),(∀p∈l,p.1≠b)->Dk (m.A0 b x) l=(Dk m l).A0 b x
 |[],_,_,_,_=>rfl
 | p::l,m,b,x,h=>by show Dk ((m.A0 b x).A0 p.1 p.2) l=(Dk (m.A0 p.1 p.2) l).A0 b x;rw[wb (Ne.symm (h p (by simp))),rj l _ b x (λq a=>h q (by simp[a]))]
theorem w0: ∀(l r:List (Nat×Option Bw)) (m:V),(∀p∈l,∀q∈r,p.1≠q.1)->Dk (Dk m l) r=Dk (Dk m r) l
 |[],_,_,_=>rfl
 | p::l,r,m,h=>by show Dk (Dk (m.A0 p.1 p.2) l) r=Dk ((Dk m r).A0 p.1 p.2) l;rw[w0 l r _ (λa b=>h a (by simp[b])),rj r m p.1 p.2 (λq c=>Ne.symm (h p (by simp) q c))]
theorem fx(h:m.W b=cJ.W b)(off n:Nat):CW m b off n=CW cJ b off n:=by unfold CW;rw[h]
theorem bf(f:k.Mg=false)(h: ∀x∈k.Fv,∀b,I (O A x)=some b->m.W b=cJ.W b):k.ok A m=k.ok A cJ/\k.val id A m=k.val id A cJ/\k.DA id A m=k.DA id A cJ:=by
 cases k<;>simp only[K.Mg,Bool.true_eq_false]at f<;>try exact⟨rfl,rfl,rfl⟩
 case E4 M n x=>
  have e:=h x (by simp[K.Fv]);cases d:O A x<;>simp only[K.ok,K.val,K.DA,d,Bx,DN,and_self]
  grind [I,fx]
 case Nt z n x=>
  have e:=h x (by simp[K.Fv]);cases d:O A x<;>simp only[K.ok,K.val,K.DA,d,Bx,and_self]
  grind [I]
 case store n x v=>
  grind [K.Fv,K.ok,K.val,K.DA,Bx,GN,I]
 case M6 x=>
  have e:=h x (by simp[K.Fv]);cases d:O A x<;>simp only[K.ok,K.val,K.DA,d,Bp,C7,and_self]
  grind [I,fx]
 case app z B x y=>
  have e:=h x (by simp[K.Fv]);have g:=h y (by simp[K.Fv]);have s: ∀v:Value,(∀b,I v=some b->m.W b=cJ.W b)->Bp m z v=Bp cJ z v/\Dl m v=Dl cJ v/\C7 m z v=C7 cJ z v/\ ∀n,Dn m z v n=Dn cJ z v n:=by
   intro v d;cases v<;>simp only[Bp,Dl,C7,Dn,and_self,implies_true];rename_i p l c;cases p with
   |none=>simp
   | some i=>obtain⟨b,off,j⟩:=i;cases j<;>grind [I,fx]
  obtain⟨o,q,r,t⟩:=s _ e;obtain⟨u,C,w,D⟩:=s _ g;simp only[K.ok,K.val,K.DA,o,q,r,t,u,w];refine⟨trivial,trivial,?_⟩;split
  ·rfl
  ·split
   ·cases d:O A x<;>try rfl
    rename_i p l c;cases p with
    |none=>rfl
    |some a=>rw[d]at e;simp only[e a.block rfl]
   ·rfl
theorem a1C(h:k.ok A m=true): ∀x∈k.Fv++k.GO,∀b,I (O A x)=some b->(m.W b).isSome=true:=by
 have c: ∀(v:Value) n,Bx m v n=true-> ∀b,I v=some b->(m.W b).isSome=true:=by
  grind [e7,I]
 have d: ∀(v:Value) z,Bp m z v=true-> ∀b,I v=some b->(m.W b).isSome=true:=by
  grind [P7,I]
 intro x a b hb;cases k<;>simp only[K.Fv,K.GO,NP,EK]at a
 case E4 M n y=>
  grind [K.ok]
 case Nt z n y=>
  grind [K.ok]
 case store n y v=>
  grind [K.ok]
 case M6 y=>
  grind [K.ok]
 case Cm z y=>
  grind [K.ok]
 grind [K.ok]
theorem OO{x:Operand}(h: ∀t,x= .tmp t->A t=E t):O A x=O E x:=by cases x<;>first|rfl|exact h _ rfl
theorem ca: ∀(ps:List (Nat×Nat×Operand)) (cs:List Value),(∀p∈ps,O A p.2.2=O E p.2.2)->I8 cs A ps=I8 cs E ps/\G5 cs A ps=G5 cs E ps
 |[],_,_=>⟨rfl,rfl⟩
 | (c,d,a)::ps,cs,h=>by
   have e:O A a=O E a:=h (c,d,a) (by simp);have f:=(ca ps cs λp b=>h p (by simp[b])).1;have g:=(ca ps (C3 cs c (H (O E a))) λp b=>h p (by simp[b])).2
   grind [I8,G5]
theorem Tz(h: ∀x∈l.toList,O A x=O E x):HW A l=HW E l/\Cq A l d=Cq E l d:=by
 cases l with
 |none=>exact⟨rfl,rfl⟩
 |some x=>have:=h x (by simp);simp[HW,Cq,this]
theorem OA(h: ∀x∈k.D6,O A x=O E x):k.ok A m=k.ok E m/\k.val id A m=k.val id E m/\k.DA id A m=k.DA id E m/\k.C2 A m=k.C2 E m:=by
 cases k<;>simp only[K.D6,CM,EK,or_false,forall_eq_or_imp,forall_eq,Cg]at h
 case PR z ps=>
  grind [ca,K.ok,K.val,K.DA,K.C2]
 case HG z n cs ps=>
  grind [ca,K.ok,K.val,K.DA,K.C2]
 case Yj x l r=>have a:= λd=>Tz (l:=l) (d:=d) λy b=>h.2 y (.inl b);have e:= λd=>Tz (l:=r) (d:=d) λy b=>h.2 y (.inr b);simp only[K.ok,K.val,K.DA,K.C2,h.1,(a 0).1,(e 0).1,λd=>(a d).2,λd=>(e d).2,and_self]
 case N7 z x l r=>have a:= λd=>Tz (l:=l) (d:=d) λy b=>h.2 y (.inl b);have e:= λd=>Tz (l:=r) (d:=d) λy b=>h.2 y (.inr b);simp only[K.ok,K.val,K.DA,K.C2,h.1,(a 0).1,(e 0).1,λd=>(a d).2,λd=>(e d).2,and_self]
 case S8 z x l r i=>have a:= λd=>Tz (l:=l) (d:=d) λy b=>h.2.2.2 y b;simp only[K.ok,K.val,K.DA,K.C2,h.1,h.2.1,h.2.2.1,(a 0).1,λd=>(a d).2,and_self]
 case QM i x xs=>
  have a: ∀(l:List Operand),(∀y∈l,O A y=O E y)->(l.all λy=>Bo (O A y))=(l.all λy=>Bo (O E y))/\
   ∀c,l.foldl (λc y=>if i then HI c (O A y)else H9 c (O A y)) c=l.foldl (λc y=>if i then HI c (O E y)else H9 c (O E y)) c:=by
   intro l;induction l with
   |nil=>intro _;exact⟨rfl,λ_=>rfl⟩
   | cons y l j=>
     simp_all
  grind [K.ok,K.val,K.DA,K.C2]
 case Q9 fn xs ys=>
  grind [List.map_congr_left,K.ok,K.val,K.DA,K.C2]
 case KC f g=>
  grind [List.map_congr_left,K.ok,K.val,K.DA,K.C2]
 case Iw x g=>
  grind [List.map_congr_left,K.ok,K.val,K.DA,K.C2]
 case Ip o x g=>have a:g.map (O A)=g.map (O E):=X7 h.2;simp only[K.ok,K.val,K.DA,K.C2,a,h.1,and_self]
 all_goals simp only[K.ok,K.val,K.DA,K.C2,h,and_self]
namespace ld
variable{A:A6}{k:K}{f:A6->V->Option (BM×A6×V)}{j b n z U base:Nat}{r:BM×A6×V}{y:Bw}{e es:List (Value×Value)}{v:Value}{M:Bool}{cs args:List Value}{S:Nat×List Value}{B:V}{bp:List (Operand×Operand)}{b4:Callee}{o:Ap}{X:List Fy}{P:Program}
theorem a7e{m:V}(h:k.F0=false):k.C2 A m=none:=by cases k<;>first|rfl|(simp[K.F0]at h)
theorem a5b{m:V}(h:Ed f (j+1) A m=some r):
 (∃F bw,f A m=some (.Cx,F,bw)/\Ed f j F bw=some r)\/(f A m=some r/\r.1≠ .Cx):=by
 grind [Ed]
structure Bc(id:Nat)(x:Option Bw)(m Z:V):Prop where
 eq:Z=m.A0 id x
 B7:id<m.next
 Gq:m.W id=none
variable {id:Nat} {x:Option Bw} {m Z:V}
theorem Bc.next(a:Bc id x m Z):Z.next=m.next:=by rw[a.eq];rfl
theorem Bc.mp(a:Bc id x m Z):Z.mp=m.mp:=by rw[a.eq];rfl
theorem Bc.DD(a:Bc id x m Z)(h:m.W b=some y):b≠id:= λc=>by subst c;rw[a.Gq]at h;cases h
theorem Bc.fa(a:Bc id x m Z)(h:b≠id):Z.W b=m.W b:=by rw[a.eq,V.G1,if_neg h]
theorem Bc.W(a:Bc id x m Z)(h:m.W b=some y):Z.W b=some y:=by rw[a.fa (a.DD h),h]
theorem Bc.BL(c:Bc id x m Z)(h:m.BL b=some e):Z.BL b=some e:=by
 unfold V.BL at h⊢;cases a:m.W b with
 |none=>rw[a]at h;cases h
 |some y=>rw[a]at h;rw[c.W a,c.mp];exact h
theorem Bc.nP(c:Bc id x m Z)(h:m.BL b=some e):b≠id:=by
 unfold V.BL at h;cases a:m.W b with
 |none=>rw[a]at h;cases h
 |some y=>exact c.DD a
theorem Bc.A0(a:Bc id x m Z)(hb:b≠id)(y:Option Bw):Bc id x (m.A0 b y) (Z.A0 b y) where
 eq:=by rw[a.eq];exact wb (by omega)
 B7:=a.B7
 Gq:=by rw[V.G1,if_neg (by omega)];exact a.Gq
theorem Bc.Cf(a:Bc id x m Z)(hb:b≠id)(e:List (Value×Value)):Bc id x (m.Cf b e) (Z.Cf b e) where
 eq:=by
  rw[a.eq];simp only[V.Cf,V.A0,V.mk.injEq,true_and,and_true]
  grind
 B7:=a.B7
 Gq:=by have:=a.Gq;simp only[V.W,V.Cf,show¬id=b by omega,if_false]at this⊢;exact this
theorem Bc.AE(a:Bc id x m Z)(k:Nat):Bc id x (m.AE k) (Z.AE k) where
 eq:=by
  rw[a.eq];simp only[V.AE,V.A0,V.mk.injEq,true_and,and_true];funext i;by_cases b:i=id
  ·subst b;simp[a.B7]
  ·simp[b]
 B7:=by have:=a.B7;show id<m.next+k;omega
 Gq:=by rw[V.AU];exact a.Gq
theorem Bc.Bx(c:Bc id x m Z)(h:Bx m v n=true):Bx Z v n=true:=by
 unfold DI.Bx at h⊢;split at h
 ·rename_i a;simp only[AB]at h⊢;refine⟨h.1,?_⟩;cases b:m.W a.block with
  |none=>rw[b]at h;simp at h
  |some x=>rw[b]at h;rw[c.W b];exact h.2
 ·cases h
theorem Bc.GN(c:Bc id x m Z)(h:GN m v=true):GN Z v=true:=by
 unfold DI.GN at h⊢;split at h
 ·rename_i a;cases b:m.W a.block with
  |none=>rw[b]at h;cases h
  |some x=>rw[b]at h;rw[c.W b];exact h
 ·cases h
theorem Bc.DN(c:Bc id x m Z)(h:DI.Bx m v n=true):DN Z M n v=DN m M n v:=by
 unfold DI.Bx at h;split at h
 ·rename_i a;simp only[AB]at h;cases b:m.W a.block with
  |none=>rw[b]at h;simp at h
  |some x=>simp only[DI.DN,CW,b,c.W b]
 ·cases h
theorem Bc.FJ(c:Bc id x m Z)(h:DI.Bx m v n=true):Bc id x (FJ m v cs) (FJ Z v cs):=by
 unfold DI.Bx at h;split at h
 ·rename_i a;simp only[AB]at h;cases b:m.W a.block with
  |none=>rw[b]at h;simp at h
  |some x=>simp only[DI.FJ,b,c.W b];exact c.A0 (c.DD b) _
 ·cases h
theorem Bc.Bp(d:Bc id x m Z)(h:Bp m z v=true):Bp Z z v=true:=by
 unfold DI.Bp at h⊢;split at h
 ·exact h
 ·rename_i a l c;simp only[AB]at h⊢;refine⟨h.1,?_⟩;cases b:m.W a.block with
  |none=>rw[b]at h;simp at h
  |some x=>rw[b]at h;rw[d.W b];exact h.2
 ·cases h
theorem Bc.Dl(d:Bc id x m Z)(h:Dl m v=true):Dl Z v=true:=by
 unfold DI.Dl at h⊢;split at h
 ·rfl
 ·rename_i a l c;cases b:m.W a.block with
  |none=>rw[b]at h;cases h
  |some x=>rw[b]at h;rw[d.W b];exact h
 ·cases h
theorem Bc.C7(d:Bc id x m Z)(h:DI.Bp m z v=true):C7 Z z v=C7 m z v:=by
 unfold DI.Bp at h;split at h
 ·rfl
 ·rename_i a l c;simp only[AB]at h;cases b:m.W a.block with
  |none=>rw[b]at h;simp at h
  |some x=>simp only[DI.C7,CW,b,d.W b]
 ·cases h
theorem Bc.Dx(b:Bc id x m Z)(h:DI.Bp m z v=true):Bc id x (Dx m v) (Dx Z v):=by
 unfold DI.Bp at h;split at h
 ·exact b
 ·rename_i a l c;simp only[AB]at h;cases d:m.W a.block with
  |none=>rw[d]at h;simp at h
  |some x=>exact b.A0 (b.DD d) _
 ·cases h
theorem Bc.Gj(b:Bc id x m Z)(h:DI.Bp m z v=true):Bc id x (Gj m cs v) (Gj Z cs v):=by
 unfold DI.Bp at h;split at h
 ·exact b
 ·rename_i a l c;simp only[AB]at h;cases d:m.W a.block with
  |none=>rw[d]at h;simp at h
  |some x=>simp only[DI.Gj,d,b.W d];exact b.A0 (b.DD d) _
 ·cases h
theorem Bc.Dn(e:Bc id x m Z)(h:DI.Bp m z v=true):Dn Z z v n=Dn m z v n:=by
 unfold DI.Bp at h;split at h
 ·rfl
 ·rename_i a l c;simp only[AB]at h;obtain⟨b,off,f⟩:=a;cases d:m.W b with
  |none=>simp only[d]at h;simp at h
  |some x=>cases f<;>simp only[DI.Dn,d,e.W d]
 ·cases h
theorem Bc.GA(b:Bc id x m Z)(h:DI.Bp m z v=true):Bc id x (GA m z v cs) (GA Z z v cs):=by
 unfold DI.Bp at h;split at h
 ·exact b
 ·rename_i a l c;simp only[AB]at h;cases d:m.W a.block with
  |none=>rw[d]at h;simp at h
  |some x=>simp only[DI.GA,d,b.W d];exact b.A0 (b.DD d) _
 ·cases h
theorem Bc.Et(a:Bc id x m Z)(h:Et m v=some es):Et Z v=some es:=by
 unfold DI.Et at h⊢;split at h
 ·exact h
 ·exact a.BL h
 ·cases h
theorem U3(a:Bc id x m Z)(h:k.ok A m=true):k.ok A Z=true:=by
 cases k with
 |Nt z n y=>simp only[K.ok,AB]at h⊢;exact⟨a.Bx h.1,h.2⟩
 |E4 M n y=>simp only[K.ok,AB]at h⊢;exact⟨a.Bx h.1,h.2⟩
 |store n x v=>simp only[K.ok,AB]at h⊢;exact⟨⟨⟨a.Bx h.1.1.1,a.GN h.1.1.2⟩,h.1.2⟩,h.2⟩
 |M6 x=>simp only[K.ok,AB]at h⊢;exact⟨a.Bp h.1,by rw[a.C7 h.1];exact h.2⟩
 |app z bytes x y=>simp only[K.ok,AB]at h⊢;exact⟨⟨⟨⟨⟨a.Bp h.1.1.1.1.1,a.Dl h.1.1.1.1.2⟩,a.Bp h.1.1.1.2⟩,h.1.1.2⟩,h.1.2⟩,h.2⟩
 |Cm z x=>simp only[K.ok,AB]at h⊢;exact⟨⟨a.Bp h.1.1,a.Dl h.1.2⟩,h.2⟩
 | Ll bp z o x d=>
   simp only[K.ok]at h⊢;cases c:DI.Et m (O A x)with
   |none=>rw[c]at h;cases h
   |some es=>rw[c]at h;rw[a.Et c];exact h
 | Kn bp x d v=>
   simp only[K.ok]at h⊢;split at h
   ·rename_i e b hb;cases c:m.BL b with
    |none=>rw[c]at h;cases h
    |some es=>rw[c]at h;rw[a.BL c];exact h
   ·cases h
 |_=>exact h
theorem XQ(a:Bc id x m Z)(h:k.ok A m=true):k.val U A Z=k.val U A m:=by
 cases k with
 |E4 M n y=>simp only[K.ok,AB]at h;exact a.DN h.1
 |M6 x=>simp only[K.ok,AB]at h;simp only[K.val,a.C7 h.1]
 | app z bytes x y=>simp only[K.ok,AB]at h;simp only[K.val,a.Dn h.1.1.1.1.1]
 | Ll bp z o x c=>
   simp only[K.ok]at h;cases b:DI.Et m (O A x)with
   |none=>rw[b]at h;cases h
   |some es=>simp only[K.val,b,a.Et b]
 |_=>rfl
theorem Wr(f:Bc id x m Z)(g:U≠id)(h:k.ok A m=true):Bc id x (k.Cl U A m) (k.Cl U A Z):=by
 cases k with
 |IX z=>exact f.A0 g _
 |JP x=>exact f.A0 g _
 |HG a b c d=>exact f.A0 g _
 |MS x=>exact f.A0 g _
 |KD a b c d e=>exact f.A0 g _
 |Cm z x=>simp only[K.ok,AB]at h;exact f.Gj h.1.1
 |IA a b c d e=>exact f.A0 g _
 |store n x v=>simp only[K.ok,AB]at h;exact f.FJ h.1.1.1
 | app z bytes x y=>
   simp only[K.ok,AB]at h;simp only[K.Cl,f.Dn h.1.1.1.1.1];split
   ·exact f
   ·rw[f.C7 h.1.1.1.1.1,f.C7 h.1.1.1.2];split
    ·exact f.GA h.1.1.1.1.1
    ·exact(f.Dx h.1.1.1.1.1).A0 g _
 |LB=>exact f.Cf g _
 | Kn bp x j v=>
   simp only[K.ok]at h;split at h
   ·rename_i l b hb;cases i:m.BL b with
    |none=>rw[i]at h;cases h
    |some es=>simp only[K.Cl,hb,Mx,i,f.BL i];exact f.Cf (f.nP i) _
   ·cases h
 |_=>exact f
theorem bz(b:Bc id x m Z)(h:k.C2 A m=some S):k.C2 A Z=some S:=by
 cases k with
 | Ip c x args=>
   simp only[K.C2]at h⊢;split at h
   ·split at h
    ·exact h
    ·split at h
     ·rename_i a;simp only[AB]at a;rw[if_pos (by simp only[AB];exact⟨b.Bx a.1,a.2⟩),b.DN a.1];exact h
     ·cases h
    ·cases h
   ·cases h
 |_=>exact h
theorem hJ{m Z:V}(h:k.C2 A m=none)(c:k.ok A m=true):k.C2 A Z=none:=by
 refine a7e ?_;cases k with
 |KC f a=>simp[K.ok]at c
 |Iw f a=>simp[K.ok]at c
 |Ip f a b=>simp[K.ok]at c
 |_=>rfl
def Yl(id:Nat)(x:Option Bw)(b4:Callee):Prop:= ∀f a m r B,b4 f a m=some (r,B)-> ∀Z,Bc id x m Z-> ∃cK,b4 f a Z=some (r,cK)/\Bc id x B cK
theorem fk{cK:V}(a:Bc id x m Z)(c:Bc id x B cK)(h:KO A bp m B):KO A bp Z cK:= λp e b hb=>by
 by_cases d:b=id
 ·subst d;rw[a.eq,c.eq,V.G1,V.G1,if_pos rfl,if_pos rfl,if_pos a.B7,if_pos c.B7]
 ·rw[a.fa d,c.fa d];exact h p e b hb
theorem jM(d:Yl id x b4)(e:Bc id x m Z)(hb:id<base){N:A6}(h:DK b4 base o A m=some (N,B))(a:Hv o A m B):
 ∃cK,DK b4 base o A Z=some (N,cK)/\Bc id x B cK/\Hv o A Z cK:=by
 unfold DK at h⊢;unfold Hv at a⊢;by_cases c:Bf A o.g=true
 ·rw[if_pos c]at h⊢
  replace a:=a c
  cases i:o.k.C2 A m with
  | none=>
    grind [hJ,U3,XQ,Wr]
  | some S=>
    obtain⟨f,args⟩:=S;rw[i]at h a;simp only at h a;cases b:b4 f args m with
    |none=>rw[b]at h;cases h
    | some j=>
      obtain⟨v,bw⟩:=j;rw[b]at h;cases h;obtain⟨cK,l,n⟩:=d _ _ _ _ _ b Z e
      grind [bz,fk]
 ·simp_all
theorem OF(b:Yl id x b4)(hb:id<base): ∀{L:List Ap} {A N:A6} {m B Z:V},Bc id x m Z->Ef b4 base L A m=some (N,B)-> ∃cK,Ef b4 base L A Z=some (N,cK)/\Bc id x B cK
 |[],_,_,_,_,Z,a,h=>by cases h;exact⟨Z,rfl,a⟩
 | _::_,_,_,_,_,Z,a,h=>by obtain⟨F,bw,c,d,e⟩:=Iq h;obtain⟨n,f,g,i⟩:=jM b a hb c d;obtain⟨j,k,l⟩:=OF b hb g e;exact⟨j,Ns f i k,l⟩
theorem UE(a: ∀A m e N B,f A m=some (e,N,B)-> ∀Z,Bc id x m Z-> ∃cK,f A Z=some (e,N,cK)/\Bc id x B cK):
 ∀{n:Nat} {A:A6} {m:V} {e:BM} {N:A6} {B Z:V},Ed f n A m=some (e,N,B)->Bc id x m Z-> ∃cK,Ed f n A Z=some (e,N,cK)/\Bc id x B cK
 |0,_,_,_,_,_,_,h,_=>by simp[Ed]at h
 | n+1,A,m,e,N,B,Z,h,d=>by
   rcases a5b h with⟨F,bw,b,c⟩|⟨b,c⟩
   ·obtain⟨o,g,i⟩:=a _ _ _ _ _ b Z d;obtain⟨j,k,l⟩:=UE a c i;exact⟨j,by simp only[Ed,g];exact k,l⟩
   ·grind [Ed]
theorem Bc.HC(a:Bc id x m Z):Bc id (x.map SC) (HC m) (HC Z) where
 eq:=by
  rw[a.eq];simp only[DI.HC,V.A0,V.mk.injEq,true_and,and_true]
  grind
 B7:=a.B7
 Gq:=by
  have:=a.Gq;unfold V.W at this⊢;have h:=a.B7
  simp_all [DI.HC]
theorem Bc.H6(d:Bc id x m Z)(h:H6 z m v=true):H6 z Z v=true:=by
 unfold DI.H6 at h⊢;split at h
 ·rename_i a l c;cases b:m.W a.block with
  |none=>rw[b]at h;cases h
  |some x=>rw[b]at h;rw[d.W b];exact h
 ·rfl
theorem Bc.H4(a:Bc id x m Z)(h:H4 o A m=true):H4 o A Z=true:=by
 unfold DI.H4 at h⊢;simp only[AB]at h⊢;refine⟨⟨h.1.1,?_⟩,U3 a h.2⟩;have:=h.1.2;split at this
 ·exact a.H6 this
 ·cases this
theorem HA(i: ∀x,Yl id x b4): ∀{c:D} {A N:A6} {m B Z:V} {e:BM},Bb b4 n c A m=some (e,N,B)->Bc id x m Z-> ∃cK,Bb b4 n c A Z=some (e,N,cK)/\Bc id x B cK
 | .skip,_,_,_,_,Z,_,h,d=>by cases h;exact⟨Z,rfl,d⟩
 | .FI ops,A,N,m,B,Z,e,h,d=>by
   simp only[Bb]at h⊢;split at h
   ·rename_i F bw w;cases h;have y:Bc id x (Cu ops m) (Cu ops Z):=by
     unfold Cu;split
     ·exact d.AE _
     ·exact d
    obtain⟨cK,g,r⟩:=OF (i x) (base:=m.next) d.B7 y w;refine⟨cK,?_,r⟩;rw[d.next,g]
   ·cases h
 | .Ky G o H,A,N,m,B,Z,e,h,d=>by
   simp only[Bb]at h⊢;split at h
   ·rename_i F bw l;split at h
    ·rename_i s;split at h
     ·rename_i E cJ p;cases h;obtain⟨t,q,j⟩:=OF (i x) (base:=m.next) d.B7 (d.AE _) l;have u:o.k.ok F bw=true:=(by unfold DI.H4 at s;simp only[AB]at s;exact s.2);obtain⟨z,v,r⟩:=OF (i _) (base:=m.next) d.B7 j.HC p;rw[d.next,q];simp only[j.H4 s,if_true,XQ j u,v,r.next,j.next];exact⟨_,rfl,(Wr j (by have:=d.B7;omega) u).AE _⟩
     ·cases h
    ·cases h
   ·cases h
 | .Ez a b,A,N,m,B,Z,e,h,d=>by
   simp only[Bb]at h⊢;split at h
   ·rename_i F bw l;obtain⟨t,q,j⟩:=HA i l d;obtain⟨z,v,r⟩:=HA i h j
    simp_all
   ·rename_i C;obtain⟨t,q,j⟩:=HA i h d
    simp_all
 | .Gh x a b,A,N,m,B,Z,e,h,d=>by
   simp only[Bb]at h⊢;split at h
   ·rename_i l;rw[if_pos l];split at h
    ·rename_i p;rw[if_pos p];exact HA i h d
    ·rename_i p;rw[if_neg p];exact HA i h d
   ·cases h
 | .block id c,A,N,m,B,Z,e,h,d=>by
   simp only[Bb]at h⊢;split at h
   ·rename_i l;obtain⟨t,q,j⟩:=HA i l d
    grind
   ·rename_i C;obtain⟨t,q,j⟩:=HA i h d
    simp_all
 | .loop c,A,N,m,B,Z,e,h,d=>by simp only[Bb]at h⊢;exact UE (f:=Bb b4 n c) (λA m e N B l Z d=>HA i l d) h d
 | .Ai id,_,_,_,_,Z,_,h,d=>by cases h;exact⟨Z,rfl,d⟩
 | .DO,_,_,_,_,Z,_,h,d=>by cases h;exact⟨Z,rfl,d⟩
theorem QB(a:Bc id x m Z){r:Fy}(h:IQ m A r=true):IQ Z A r=true/\Ik Z A r=Ik m A r:=by
 cases r with
 |AI t=>exact⟨rfl,rfl⟩
 | E2 t M n=>simp only[IQ,AB]at h⊢;exact⟨⟨a.Bx h.1,h.2⟩,a.DN h.1⟩
theorem gF(a:Bc id x m Z)(h:FM m A X=true):FM Z A X=true/\Fg Z A X=Fg m A X:=by
 have b: ∀r∈X,IQ m A r=true:=by simpa[FM]using h
 refine⟨by simp only[FM,BF];exact λr c=>(QB a (b r c)).1,?_⟩;unfold Fg;split
 ·exact(QB a (b _ (by simp))).2
 ·rw[X7 λr c=>(QB a (b r c)).2]
theorem kB(f:Bc id x m Z){r:Value}(h:L3 args m=some (r,B)): ∃cK,L3 args Z=some (r,cK)/\Bc id x B cK:=by
 obtain⟨s,i,y,rfl,g,rfl,rfl⟩:=aS h;simp only[Ok,AB]at g;obtain⟨a,b,c,d,e⟩:=g;have j:Ok Z s i y=true:=by simp only[Ok,AB];exact⟨f.Bp a,f.Dl b,f.Bp c,f.Dl d,e⟩
 have l: ∀k,k=m.next->k≠id:= λk n=>by have:=f.B7;omega
 refine⟨((Dx Z s).AE 1).A0 m.next (some ⟨C7 m 1 y++C7 m 1 s,true⟩),?_,((f.Dx a).AE 1).A0 (l _ rfl) _⟩;simp only[L3,j,if_true,ai,U6,f.next,f.C7 a,f.C7 c]
theorem UF: ∀n x,Yl id x (El P n)
 |0,_=> λf a m r B h=>by simp[El]at h
 | n+1,x=> λf a m r B h Z b=>by
   simp only[El]at h⊢;split at h
   ·rename_i g i;split at h
    ·rename_i c;rw[if_pos c];split at h
     ·cases h
     ·rename_i e N bw j d;obtain⟨k,l,o⟩:=HA (UF n) d b
      grind [gF]
     ·cases h
    ·cases h
   ·grind [kB]
end ld
end Go.DI
