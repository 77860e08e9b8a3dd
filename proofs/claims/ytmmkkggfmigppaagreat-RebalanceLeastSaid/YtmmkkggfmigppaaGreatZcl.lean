/- A part of the proof. -/
import Derived.Test.YtmmkkggfmigppaaGreatZck
set_option linter.all false
set_option maxRecDepth 8000
set_option maxHeartbeats 16000000
namespace Go.DI
open Go Go.RowKit
variable{E:Type}{z f b:Nat}{b3 v r:Value}{B args:List Value}{x:Bw}{bp:List (Operand×Operand)}{a7 H:Value->V->Prop}{o:Ap}{ops:List Ap}{aF:A6->V->Prop}{G Q:BM->A6->V->Prop}{c:D}{C:List Fy}{Fn:AN}
def C8{a:Type}(f:E->Option a):List E->Option (List a)
 |[]=>some []
 | x::xs=>match f x with
   | some y=>(match C8 f xs with
     |some ys=>some (y::ys)
     |none=>none)
   |none=>none
theorem RY{E b:Type}{f:E->Option b}: ∀{l:List E} {a:List b},C8 f l=some a->a.length=l.length/\ ∀(i:Nat) (y:b),a[i]?=some y-> ∃x,l[i]?=some x/\f x=some y
 |[],a,h=>by cases h;exact⟨rfl,λi y h=>by simp at h⟩
 | x::xs,a,h=>by
   simp only[C8]at h;cases c:f x with
   |none=>simp[c]at h
   | some y=>
     cases d:C8 f xs with
     |none=>simp[c,d]at h
     | some ys=>
       simp only[c,d,GY]at h;subst h;obtain⟨e,g⟩:=RY d
       grind
theorem dw{f:E->Option E}: ∀{l:List E},(∀x∈l,f x=some x)->C8 f l=some l
 |[],_=>rfl
 | x::xs,h=>by have a:C8 f xs=some xs:=dw λy b=>h y (Ty _ b);simp only[C8,h x (by simp),a]
def FE(z:Nat):Nat->List Value->List (List Value)
 |0,_=>[]
 |n+1,cs=>cs.take z::FE z n (cs.drop z)
theorem ur(z:Nat): ∀(n:Nat) (cs:List Value),(FE z n cs).length=n
 |0,_=>rfl
 |n+1,cs=>by simp[FE,ur z n]
theorem ns: ∀{n:Nat} {cs:List Value} {i:Nat} {r:List Value},(FE z n cs)[i]?=some r->i<n/\r=(cs.drop (i*z)).take z
 |0,cs,i,r,h=>by simp[FE]at h
 | n+1,cs,i,r,h=>by
   cases i with
   |zero=>simp[FE]at h;subst h;simp
   | succ i=>
     simp only[FE,RE]at h;obtain⟨a,b⟩:=ns h
     grind [List.drop_drop]
theorem e6: ∀{b5:List (List Value)},(∀r∈b5,r.length=z)->FE z b5.length b5.flatten=b5
 |[],_=>rfl
 | r::b5,h=>by
   simp_all [FE,e6]
def Co(v:Value):Bool:=BB v||Ec v
def Az:Nat->V->Value->Option Value
 |0,_,v=>if Co v then some v else none
 | n+1,t,v=>if Co v then some v else match v with
   | .slice (some a) l z=>match t.W a.block with
     | some x=>if a.spot.isNone&&decide (a.off+l*z<=x.cells.length)then
      (match C8 (C8 (Az n t)) (FE z l (x.cells.drop a.off))with
       |some b=>some (M b z)
       |none=>none)else none
     |none=>none
   | .pointer (some a)=>match t.W a.block with
     | some x=>if a.spot.isNone then
      (match C8 (Az n t) x.cells with
       |some c=>some (BR c a.off)
       |none=>none)else none
     |none=>none
   | .agg cs=>match C8 (Az n t) cs.toList with
     |some l=>some (.agg l.toArray)
     |none=>none
   | .tuple cs=>match C8 (Az n t) cs.toList with
     |some l=>some (.tuple l.toArray)
     |none=>none
   | .func (.func f) xs cs=>match C8 (Az n t) xs.toList,C8 (Az n t) cs.toList with
     |some l,some k=>some (.func (.func f) l.toArray k.toArray)
     |_,_=>none
   |_=>none
def As:Nat->V->Value->List Nat
 |0,_,_=>[]
 | n+1,t,v=>if Co v then[]else match v with
   | .slice (some a) _ _=>a.block::(match t.W a.block with
     |some x=>x.cells.flatMap (As n t)
     |none=>[])
   | .pointer (some a)=>a.block::(match t.W a.block with
     |some x=>x.cells.flatMap (As n t)
     |none=>[])
   | .agg cs=>cs.toList.flatMap (As n t)
   | .tuple cs=>cs.toList.flatMap (As n t)
   | .func _ xs cs=>xs.toList.flatMap (As n t)++cs.toList.flatMap (As n t)
   |_=>[]
theorem eh{u l:Ca}{J:C5}(d:Cs u l)(m:AW u J v b3)(n:Co v=true):AW l EX v b3:=by
 cases m with
 |BT h=>exact .BT h
 |Ql e f g k o=>exact .Ql e (d _ _ f) g k λi j r x y a b c=>(o i j r x y a b c).AG d (CA.refl _)
 |Oy e=>exact .Oy e
 |BR e f g k=>exact .BR e (d _ _ f) g λj x y a b=>(k j x y a b).AG d (CA.refl _)
 |_=>simp[Co,BB,Ec]at n
theorem S4{u q:Ca}{J:C5}{t m:V}(G:BI J u t m)(N:Cs u q): ∀(n:Nat) {v b3 r:Value},AW u J v b3->Az n t v=some r->(∀o∈As n t v,(t.W o).isSome=true-> ∀b cs w,J o=some b->m.W b=some ⟨cs,w⟩->q b=some cs)->AW q EX r b3
 | 0,v,b3,r,p,h,_=>by
   grind [Az,eh]
 | n+1,v,b3,r,p,h,d=>by
   simp only[Az]at h;simp only[As]at d;split at h
   ·next O=>cases h;exact eh N p O
   ·next O=>
    rw[if_neg O]at d;have B: ∀{xs ys Z:List Value},AJ u J xs ys->C8 (Az n t) xs=some Z->(∀o∈xs.flatMap (As n t),(t.W o).isSome=true-> ∀b cs w,J o=some b->m.W b=some ⟨cs,w⟩->q b=some cs)->AJ q EX Z ys:= λe c A5=>by obtain⟨H,I⟩:=RY c;refine⟨by rw[H,e.1],λi x y A6 C=> ?_⟩;obtain⟨A0,A1,A7⟩:=I i x A6;exact S4 G N n (e.2 i A0 y A1 C) A7 λo c=>A5 o (LM.2 ⟨A0,B9 A1,c⟩)
    split at h
    ·next a l z=>
     cases g:t.W a.block with
     |none=>simp[g]at h
     | some x=>
       simp only[g]at h d;split at h
       ·next hb=>
        simp only[AB,Ba]at hb;cases P:C8 (C8 (Az n t)) (FE z l (x.cells.drop a.off))with
        |none=>simp[P]at h
        | some A2=>
          simp only[P,GY]at h;subst h;obtain⟨K,A8⟩:=RY P;rw[ur]at K;rcases p.Fk with⟨b,s,A3,rfl⟩|⟨s,A3,A9,rfl⟩
          ·obtain⟨cs,w,Q,AD,L⟩:=G.Hc s g;have R:=d a.block (by simp) (by rw[g];rfl) b cs w s Q;have AE:a.spot=none:=(by simpa using hb.1);rw[<-K,AE];have A: ∀(i:Nat) r,A2[i]?=some r->i<l/\ ∃D,D=(x.cells.drop (a.off+i*z)).take z/\C8 (Az n t) D=some r:= λi r E=>by
            obtain⟨D,AF,AL⟩:=A8 i r E;obtain⟨S,M⟩:=ns AF
            simp_all
           refine .Ql rfl R (by rw[K,<-L.1];exact hb.2) (λi r E=> ?_) λi j r T y E U C=> ?_
           ·obtain⟨S,D,M,X⟩:=A i r E;rw[(RY X).1,M];simp;have:(i+1)*z<=l*z:=IF _ S
            grind
           ·obtain⟨S,D,M,X⟩:=A i r E;obtain⟨AG,F,AH⟩:=(RY X).2 j T U;rw[M,QO]at F;split at F
            ·rw[Pw]at F;refine S4 G N n (L.2 _ AG y F C) AH λo c=>d o ?_
             grind
            ·cases F
          ·subst A9;have:A2=[]:=MM K;subst this;exact .Oy rfl
       ·cases h
    ·next a=>
     cases g:t.W a.block with
     |none=>simp[g]at h
     | some x=>
       simp only[g]at h d;split at h
       ·cases A:C8 (Az n t) x.cells with
        |none=>simp[A]at h
        | some A4=>simp only[A,GY]at h;subst h;obtain⟨b,s,A3,rfl⟩:=p.Io;obtain⟨cs,w,Q,AD,L⟩:=G.Hc s g;have R:=d a.block (by simp) (by rw[g];rfl) b cs w s Q;have e:=B L A λo c=>d o (Ty _ c);have:=AW.BR (u:=q) (J:=EX) (off:=0) (k:=a.off) (bh:=A4) rfl R (by rw[e.1];omega) λj T y U C=>e.2 j T y U (by simpa using C);simpa using this
       ·cases h
    ·next cs=>
     cases c:C8 (Az n t) cs.toList with
     |none=>simp[c]at h
     | some l=>simp only[c,GY]at h;subst h;obtain⟨ys,rfl,e⟩:=p.K8;have:=(B e c d).agg;simpa using this
    ·next cs=>
     cases c:C8 (Az n t) cs.toList with
     |none=>simp[c]at h
     | some l=>simp only[c,GY]at h;subst h;obtain⟨ys,rfl,e⟩:=p.S1;have:=(B e c d).tuple;simpa using this
    ·next f xs cs=>
     cases c:C8 (Az n t) xs.toList with
     |none=>simp[c]at h
     | some l=>
       cases Y:C8 (Az n t) cs.toList with
       |none=>simp[c,Y]at h
       | some k=>simp only[c,Y,GY]at h;subst h;obtain⟨ys,ds,rfl,e,AK⟩:=p.QU;have H:=B e c λo h=>d o (Cg.2 (.inl h));have I:=B AK Y λo h=>d o (Cg.2 (.inr h));exact .func (by simpa using H.1) (by simpa using H.2) (by simpa using I.1) (by simpa using I.2)
    ·cases h
def QY(n:Nat)(t:V)(args:List Value):Option (List Value):=C8 (Az n t) args
def Jb(t:V):List Nat->V
 |[]=>t
 |o::l=>Jb (match t.W o with|some x=>t.A0 o (some ⟨x.cells,false⟩)|none=>t) l
def Cm(t:V)(l:List Nat):V:=⟨t.next,t.C1,λo=>if o∈l then none else t.mp o⟩
@[simp] theorem a0F(t:V):Cm t []=t:=by simp[Cm]
@[simp] theorem Rd(t:V)(l:List Nat)(o:Nat):(Cm t l).W o=t.W o:=rfl
@[simp] theorem aN5(t:V)(l:List Nat):(Cm t l).next=t.next:=rfl
theorem A2:(∀(m:V) (b:Nat) (x:Option Bw),(m.A0 b x).next=m.next)/\(∀(m:V) (k:Nat),(m.AE k).next=m.next+k)/\(∀(m:V) (b:Nat) (es:List (Value×Value)),(m.Cf b es).next=m.next)/\ ∀(t:V) (l:List Nat),(Cm t l).next=t.next:=⟨λ_ _ _=>rfl,λ_ _=>rfl,λ_ _ _=>rfl,λ_ _=>rfl⟩
@[simp] theorem aJJ(t:V):Jb t []=t:=rfl
@[simp] theorem Z8(t:V)(o:Nat)(l:List Nat):Jb t (o::l)=Jb (match t.W o with|some x=>t.A0 o (some ⟨x.cells,false⟩)|none=>t) l:=rfl
theorem j8: ∀(l:List Nat) (t:V),(Jb t l).next=t.next
 |[],t=>rfl
 | o::l,t=>by rw[Z8,j8 l];split<;>rfl
theorem St: ∀(l:List Nat) (t:V) (p:Nat) (x:Bw),(Jb t l).W p=some x-> ∃y,t.W p=some y/\x.cells=y.cells/\(x.own=true->y.own=true)/\(p∈l->x.own=false)
 |[],t,p,x,h=>⟨x,h,rfl,λh=>h,λh=>by simp at h⟩
 | o::l,t,p,x,h=>by
   rw[Z8]at h;obtain⟨y,a,b,c,d⟩:=St l _ p x h
   grind [AT,F,A3]
theorem gY: ∀(l:List Nat) (t:V),(Jb t l).mp=t.mp
 |[],t=>rfl
 | o::l,t=>by rw[Z8,gY l];split<;>rfl
section
variable (P:Program)
def It(u:Ca)(m:V):Prop:= ∀b cs,u b=some cs-> ∃w,m.W b=some ⟨cs,w⟩
def AL(f:Nat)(args:List Value)(r:Value):Prop:= ∀(u:Ca) (m:V) (B:List Value),It u m->AJ u EX args B->
 Aq P f B m λd a=>m.next<=a.next/\(∀b,b<m.next->a.W b=m.W b)/\ ∃c,Cs u c/\It c a/\AW c EX r d
def Bv(f:Nat)(args:List Value)(t:V)(a7:Value->V->Prop):Prop:= ∀(J:C5) (u:Ca) (B:List Value) (m:V),BI J u t m->AJ u J args B->
 Aq P f B m λe d=> ∃a b r c,a7 r c/\BI a b c d/\AW b a r e/\Be t.next m.next J u t m a b c d
def BY(c:D)(A:A6)(t:V)(Q:BM->A6->V->Prop):Prop:=Gi c=true-> ∀(J:C5) (u:Ca) (N:A6) (m:V),BI J u t m->D5 u J A N->
 BS P c N m λe h f=> ∃a b g d,Q e g d/\BI a b d f/\D5 b a g h/\Be t.next m.next J u t m a b d f
structure AK where
 f:Nat
 fn:List Value->Option Value
 ok: ∀args r,fn args=some r->AL P f args r
structure DB where
 f:Nat
 fn:List Value->V->Option (Value×V)
 ok: ∀args t r a,fn args t=some (r,a)-> ∀a7:Value->V->Prop,a7 r a->Bv P f args t a7
structure J9 where
 p:List (AK P)
 i:List (DB P)
variable {P}
def OS:List (DB P)->Nat->Bool
 |[],_=>false
 |s::l,f=>s.f==f||OS l f
def LH:List (DB P)->Nat->List Value->V->(Value->V->Prop)->Prop
 |[],_,_,_,_=>False
 | s::l,f,args,t,aF=>if s.f=f then(match s.fn args t with
   |some (r,a)=>aF r a
   |none=>False)else LH l f args t aF
def SH:List (AK P)->Nat->Bool
 |[],_=>false
 |s::l,f=>s.f==f||SH l f
def MZ:List (AK P)->Nat->List Value->(Value->Prop)->Prop
 |[],_,_,_=>False
 | s::l,f,args,a7=>if s.f=f then(match s.fn args with
   |some r=>a7 r
   |none=>False)else MZ l f args a7
def NM(a:List (AK P))(f:Nat)(args:List Value)(t:V)(aF:Value->V->Prop):Prop:=match QY 9 t args with
 |some ts=>MZ a f ts λr=>aF r (if Fp r then Cm t (args.flatMap (As 9 t))else Jb t (args.flatMap (As 9 t)))
 |none=>False
def Zj(t:V)(o:Nat):Bool:=match t.W o with|some x=> !x.cells.isEmpty|none=>false
def ER(t:V)(l:List Nat):V:=⟨t.next,λb=>if b∈l then none else t.C1 b,t.mp⟩
def FU(t bC:V)(l:List Nat):V:=⟨bC.next,λb=>if b∈l then t.C1 b else bC.C1 b,bC.mp⟩
def Fo(A:A6)(t:V):List (Operand×Operand)->List Nat
 |[]=>[]
 | p::l=>match I (O A p.1)with
   |some o=>if OX t o then o::Fo A t l else Fo A t l
   |none=>Fo A t l
def OZ(a:J9 P)(f:Nat)(args:List Value)(t:V):List Nat->(Value->V->Prop)->Prop
 |[],aF=>if OS a.i f then LH a.i f args t aF else Bv P f args t aF
 |o::l,aF=>(o::l).all (Zj t)=true/\if OS a.i f then LH a.i f args (ER t (o::l)) (λr bC=>aF r (FU t bC (o::l)))else Bv P f args (ER t (o::l)) λr bC=>aF r (FU t bC (o::l))
def Lc(a:J9 P)(f:Nat)(args:List Value)(t:V)(L:List Nat)(aF:Value->V->Prop):Prop:=
 if SH a.p f then NM a.p f args t aF else OZ a f args t L aF
def Vf(a:J9 P)(v:Value)(args:List Value)(t:V)(L:List Nat)(aF:Value->V->Prop):Prop:=match v with
 | .func (.func f) first b=>Lc a f (first.toList++args++b.toList) t L aF
 |_=>False
def EV(b:J9 P)(base:Nat)(o:Ap)(A:A6)(t:V)(aF:A6->V->Prop):Prop:=match o.k with
 | .KC f B=>Lc b f (B.map (O A)) t (Fo A t o.Gc) λr a=>aF (Af A o.d r) a
 | .Iw x B=>Vf b (O A x) (B.map (O A)) t (Fo A t o.Gc) λr a=>aF (Af A o.d r) a
 | .Ip _ _ _=>False
 |k=>k.Dq A t=true/\Du A t o.Gc=true/\aF (Af A o.d (k.E0 (base+o.AO) A t)) (k.Gz (base+o.AO) A t)
def B0(a:J9 P)(base:Nat):List Ap->A6->V->(A6->V->Prop)->Prop
 |[],A,t,aF=>aF A t
 |o::b,A,t,aF=>if Bf A o.g=true then EV a base o A t (λA t=>B0 a base b A t aF)else B0 a base b (Af A o.d undef) t aF
def ED(d:J9 P):D->A6->V->(BM->A6->V->Prop)->Prop
 | .skip,A,t,Q=>Q .Cx A t
 | .FI ops,A,t,Q=>B0 d t.next ops A (Cu ops t) (Q .Cx)
 | .Ky _ _ _,_,_,_=>False
 | .Ez a b,A,t,Q=>ED d a A t λe A t=>match e with
   | .Cx=>ED d b A t Q
   |e=>Q e A t
 | .Gh c a b,A,t,Q=>Kv (O A c)=true/\if Me (O A c)=true then ED d a A t Q else ED d b A t Q
 | .block id c,A,t,Q=>ED d c A t λe A t=>match e with
   | .Ai f=>if f=id then Q .Cx A t else Q (.Ai f) A t
   |e=>Q e A t
 | .loop c,A,t,Q=>BY P (.loop c) A t Q
 | .Ai id,A,t,Q=>Q (.Ai id) A t
 | .DO,A,t,Q=>Q .DO A t
end
variable {P:Program} {u:Ca} {J:C5} {t m:V}
theorem qS{l:List (DB P)}{f:Nat}{args:List Value}{t:V}{aF:Value->V->Prop}(h:LH l f args t aF):Bv P f args t aF:=by
 induction l with
 |nil=>exact h.elim
 | cons s l b=>
   simp only[LH]at h;split at h
   ·next e=>
    cases a:s.fn args t with
    |none=>rw[a]at h;exact h.elim
    |some c=>obtain⟨r,d⟩:=c;rw[a]at h;have:=s.ok args t r d a aF h;rw[e]at this;exact this
   ·exact b h
theorem AL.lp{ts:List Value}(h:AL P f ts r)(k:It u m)(y:AJ u EX ts B):Aq P f B m λl e=>m.next<=e.next/\(∀b,b<m.next->e.W b=m.W b/\(u b=none->e.mp b=m.mp b))/\
 ∃c,Cs u c/\It c e/\(∀b cs,c b=some cs->u b=some cs\/m.next<=b)/\AW c EX r l:=by
 obtain⟨p,i⟩: ∃p:V,p=⟨m.next,λb=>if(u b).isSome then m.C1 b else none,m.mp⟩:=⟨_,rfl⟩;have j:p.next=m.next:=by rw[i]
 have z:p.mp=m.mp:=by rw[i]
 have n: ∀b,p.W b=if(u b).isSome then m.W b else none:= λb=>by
  rw[i];simp only[V.W]
  grind
 have part:QR p m:=⟨j,z,λb x H=>by
  simp_all⟩
 have A:It u p:= λb cs hb=>by
  obtain⟨w,a⟩:=k b cs hb
  simp_all
 refine(Aq.frame part (h u p B A y)).AG λl e C=> ?_;obtain⟨I,⟨J,o,c,D,q,E⟩,d⟩:=C;refine⟨d.next,λb hb=>⟨?_,λF=>(d.Da b hb (by rw[n,F];rfl)).2.2⟩,c,D,λb cs hb=> ?_,λb cs hb=> ?_,E⟩
 ·cases g:p.W b with
  |none=>exact(d.Da b hb g).1
  |some x=>rw[part.W b x g];exact d.part.W b x (by rw[o b (by rw[j];exact hb),g])
 ·obtain⟨w,a⟩:=q b cs hb;exact⟨w,d.part.W b _ a⟩
 ·by_cases s:b<m.next
  ·left;obtain⟨w,a⟩:=q b cs hb;cases g:p.W b with
   |none=>rw[(d.Da b s g).2.1]at a;cases a
   | some x=>
     rw[o b (by rw[j];exact s)]at a;rw[n]at a;split at a
     ·next t=>
      cases v:u b with
      |none=>rw[v]at t;cases t
      | some G=>
        obtain⟨K,L⟩:=k b G v
        grind
     ·cases a
  ·exact .inr (by omega)
theorem aEt(h:AW u J v b3)(a:Fp v=true):b3=v:=by
 unfold Fp at a;split at a
 ·obtain⟨ys,rfl,b⟩:=h.K8;rename_i cs;have:ys.toList=cs.toList:=by
   apply LQ
   ·exact b.1.symm
   ·intro i d c;exact(b.2 i _ _ (AS c) (AS d)).DH (BF.1 a _ (Dc c))
  simp_all
 ·obtain⟨ys,rfl,b⟩:=h.S1;rename_i cs;have:ys.toList=cs.toList:=by
   apply LQ
   ·exact b.1.symm
   ·intro i d c;exact(b.2 i _ _ (AS c) (AS d)).DH (BF.1 a _ (Dc c))
  simp_all
 ·exact h.DH a
open Classical in
theorem hc(d:BI J u t m){X:List (AK P)}{f:Nat}{args B:List Value}(A7:AJ u J args B){aF:Value->V->Prop}(h:NM X f args t aF):
 Aq P f B m λA8 N=>(∀b,b<m.next->N.W b=m.W b)/\ ∃H r Y,aF r Y/\BI J H Y N/\AW H J r A8/\Be t.next m.next J u t m J H Y N:=by
 unfold NM at h;cases O:QY 9 t args with
 |none=>rw[O]at h;exact h.elim
 | some ts=>
   rw[O]at h;simp only at h;obtain⟨l,Z⟩: ∃l,l=args.flatMap (As 9 t):=⟨_,rfl⟩;rw[<-Z]at h;have AM: ∃r,AL P f ts r/\aF r (if Fp r then Cm t l else Jb t l):=by
    clear O Z;induction X with
    |nil=>exact h.elim
    | cons s X AN=>
      simp only[MZ]at h;split at h
      ·next e=>
       cases A0:s.fn ts with
       |none=>rw[A0]at h;exact h.elim
       |some r=>rw[A0]at h;exact⟨r,by have:=s.ok ts r A0;rw[e]at this;exact this,h⟩
      ·exact AN h
   obtain⟨r,AO,Q⟩:=AM;obtain⟨j,R⟩: ∃j:Ca,j= λb=>match u b with
    |some cs=>some cs
    |none=>if∃o,o∈l/\J o=some b/\(t.W o).isSome=true then(m.W b).map (·.cells)else none:=⟨_,rfl⟩
   have A9:Cs u j:= λb cs hb=>by rw[R];simp[hb]
   have A1: ∀b cs,j b=some cs->u b=some cs\/(∃o,o∈l/\J o=some b):= λb cs hb=>by
    grind
   have Af: ∀b cs,j b=some cs->u b=some cs\/Wv J t b:= λb cs hb=>by
    rw[R]at hb;simp only at hb;split at hb
    ·simp_all
    ·split at hb
     ·next c=>obtain⟨o,_,AP,AQ⟩:=c;obtain⟨x,q⟩:=ax.1 AQ;exact .inr ⟨o,x,AP,q⟩
     ·cases hb
   have AR:It j m:= λb cs hb=>by
    rw[R]at hb;simp only at hb;split at hb
    ·next c=>cases hb;exact(d.AZ b _ c).1
    ·split at hb
     ·cases I:m.W b with
      |none=>rw[I]at hb;cases hb
      |some x=>rw[I]at hb;cases hb;exact⟨x.own,rfl⟩
     ·cases hb
   have AS: ∀o∈l,(t.W o).isSome=true-> ∀b cs w,J o=some b->m.W b=some ⟨cs,w⟩->j b=some cs:= λo D AT b cs w K I=>by
    rw[R];simp only;cases A2:u b with
    |some ds=>obtain⟨⟨Ag,AB⟩,_⟩:=d.AZ b ds A2;rw[I]at AB;cases AB;rfl
    |none=>simp only;rw[if_pos ⟨o,D,K,AT⟩,I];rfl
   have AU:AJ j EX ts B:=(by obtain⟨c,g⟩:=RY O;refine⟨by rw[c,A7.1],λi x y q k=> ?_⟩;obtain⟨AD,AE,L⟩:=g i x q;exact S4 d A9 9 (A7.2 i AD y AE k) L λo D=>AS o (by rw[Z];exact LM.2 ⟨AD,B9 AE,D⟩));refine(AO.lp AR AU).AG λA8 N AV=> ?_;obtain⟨S,G,H,AX,AY,Aa,AF⟩:=AV;refine⟨λb hb=>(G b hb).1,?_⟩;by_cases T:Fp r=true
   ·rw[if_pos T]at Q;refine⟨u,r,_,Q,?_,by rw[aEt AF T];exact AW.Fp T,?_⟩
    ·refine⟨λo x q=> ?_,λo es L=> ?_,λo D=> ?_,d.inj,λo b h=>⟨(d.B7 o b h).1,Eo (d.B7 o b h).2 S⟩,λb cs hb=> ?_⟩
     ·rcases d.Eh o x q with⟨b,cs,w,c,g,v,M⟩|c
      ·exact .inl ⟨b,cs,w,c,by rw[(G b (d.B7 o b c).2).1,g],v,M⟩
      ·exact .inr c
     ·obtain⟨z,p⟩:=DQ L;have U:o∉l:= λA3=>by simp[Cm,A3]at p
      have A:t.mp o=some es:=(by simpa[Cm,U]using p);obtain⟨b,A4,c,g,v⟩:=d.maps o es (E7 z A);refine⟨b,A4,c,?_,v⟩;obtain⟨M,Ab⟩:=DQ g;have hb:=(d.B7 o b c).2;have A2:j b=none:=by
       cases A5:j b with
       |none=>rfl
       | some cs=>
         rcases A1 b cs A5 with n|⟨o',n,C⟩
         ·have:=(d.AZ b cs n).2 o _ c z;cases this
         ·rw[d.inj o' o b C c]at n;exact absurd n U
      grind [E7]
     ·show(if o∈l then none else t.mp o)=none;rw[d.Er o D];simp
     ·obtain⟨⟨w,c⟩,g⟩:=d.AZ b cs hb;exact⟨⟨w,by rw[(G b (F c)).1,c]⟩,g⟩
    ·exact⟨CA.refl _,Cs.refl _,λ_ _ h=> .inl h,λ_ _ h=> .inl h,Ao _,S,λb hb _=>(G b hb).1,λb hb E=>E,λb hb E=>E⟩
   ·rw[if_neg T]at Q;have A6:=A9.trans AX;refine⟨H,r,_,Q,?_,AF.AG (Cs.refl _) (CA.nil _),?_⟩
    ·refine⟨λo x q=> ?_,λo es L=> ?_,λo D=> ?_,d.inj,λo b h=>⟨by rw[j8];exact(d.B7 o b h).1,Eo (d.B7 o b h).2 S⟩,λb cs hb=> ?_⟩
     ·obtain⟨y,k,z,p,_⟩:=St l t o x q;rcases d.Eh o y k with⟨b,cs,w,c,g,v,M⟩|⟨c,g⟩
      ·exact .inl ⟨b,cs,w,c,by rw[(G b (d.B7 o b c).2).1,g],λh=>v (p h),by rw[z];exact M.AG A6 (CA.refl _)⟩
      ·grind
     ·obtain⟨z,p⟩:=DQ L;obtain⟨y,k,A,AH,Ac⟩:=St l t o _ z;have U:o∉l:= λA3=>by have:=Ac A3;cases this
      have Ad:y=⟨[],true⟩:=(by obtain⟨a,b⟩:=y;simp at A AH;simp[A,AH]);subst Ad;rw[gY]at p;obtain⟨b,A4,c,g,v⟩:=d.maps o es (E7 k p);refine⟨b,A4,c,?_,v.AG A6 (CA.refl _)⟩;obtain⟨M,Ab⟩:=DQ g;have hb:=(d.B7 o b c).2;have A2:j b=none:=by
       cases A5:j b with
       |none=>rfl
       | some cs=>
         rcases A1 b cs A5 with n|⟨o',n,C⟩
         ·have:=(d.AZ b cs n).2 o _ c k;cases this
         ·rw[d.inj o' o b C c]at n;exact absurd n U
      grind [E7]
     ·rw[gY];exact d.Er o D
     ·refine⟨AY b cs hb,λo x K q=> ?_⟩;obtain⟨y,k,z,p,A⟩:=St l t o x q;have Ah:=(d.B7 o b K).2;rcases Aa b cs hb with n|n
      ·rcases A1 b cs n with C|⟨o',C,Ae⟩
       ·have Ak:=(d.AZ b cs C).2 o y K k
        grind
       ·rw[d.inj o' o b Ae K]at C;exact A C
      ·omega
    ·refine⟨CA.refl _,A6,λ_ _ h=> .inl h,λb cs hb=> ?_,by rw[j8];exact Ao _,S,λb hb _=>(G b hb).1,λb hb E=> ?_,λb hb E=> ?_⟩
     ·grind
     ·obtain⟨o,x,c,g,v⟩:=E;obtain⟨y,k,z,p,A⟩:=St l t o x g;exact⟨o,y,c,k,p v⟩
     ·obtain⟨o,x,c,g⟩:=E;obtain⟨y,k,z,p,A⟩:=St l t o x g;exact⟨o,y,c,k⟩
variable {t bC:V} {l:List Nat}
@[simp] theorem aMe:(ER t l).next=t.next:=rfl
theorem pR(h:b∈l):(ER t l).W b=none:=by simp[ER,V.W,h]
theorem eF(h:b∉l):(ER t l).W b=t.W b:=by simp[ER,V.W,h]
theorem Pr(h:(ER t l).W b=some x):b∉l/\t.W b=some x:=by
 grind [pR,eF]
theorem a2J(h:b∉l):(ER t l).BL b=t.BL b:=by have a:(ER t l).W b=t.W b:=eF h;unfold V.BL;rw[a];rfl
theorem a4N(h:b∈l)(a:t.next<=bC.next)(hb:b<t.next):(FU t bC l).W b=t.W b:=by
 have:b<bC.next:=by omega
 simp[FU,V.W,h,hb,this]
theorem Va(h:b∉l):(FU t bC l).W b=bC.W b:=by simp[FU,V.W,h]
theorem a6B(h:b∉l):(FU t bC l).BL b=bC.BL b:=by have a:(FU t bC l).W b=bC.W b:=Va h;unfold V.BL;rw[a];rfl
variable {P:Program} {J:C5} {u:Ca} {t m:V} {A N:A6}
theorem pM(c:BI J u t m)(o:D5 u J A N)(k:bp.all (λp=>An p.1&&An p.2)=true){l:V}(d: ∀b,b<m.next->l.W b=m.W b):KO N bp m l:=by
 intro p q b hb;simp only[BF]at k;have n:=k p q;simp only[AB]at n;have g:=o.O n.1;generalize O A p.1=a at g;generalize O N p.1=r at g hb;cases g with
 | BT h=>unfold I at hb;split at hb<;>simp[BB]at h hb
 |AA f=>simp[I]at hb;subst hb;exact d _ (c.B7 _ _ f).2
 |slice f=>simp[I]at hb;subst hb;exact d _ (c.B7 _ _ f).2
 |map f=>simp[I]at hb;subst hb;exact d _ (c.B7 _ _ f).2
 |Ql e i=>simp[I]at hb;subst hb;obtain⟨⟨w,j⟩,_⟩:=c.AZ _ _ i;exact d _ (F j)
 |BR e i=>simp[I]at hb;subst hb;obtain⟨⟨w,j⟩,_⟩:=c.AZ _ _ i;exact d _ (F j)
 |_=>simp[I]at hb
theorem ve{l:List Nat}(V: ∀o∈l,∃x,t.W o=some x/\x.cells≠[])(h:Bv P f args (ER t l) a7)(i:BI J u t m)(X:AJ u J args B):
 Aq P f B m λR D=>(∀o∈l,∀b,J o=some b->D.W b=m.W b)/\ ∃E G r bC,a7 r bC/\BI E G (FU t bC l) D/\AW G E r R/\Be t.next m.next J u t m E G (FU t bC l) D:=by
 have Y:BI J u (ER t l) m:=⟨λo x c=>i.Eh o x (Pr c).2,λo es A=>by have hb:=(Pr (DQ A).1).1;rw[a2J hb]at A;exact i.maps o es A,i.Er,i.inj,i.B7,λb cs hb=>⟨(i.AZ b cs hb).1,λo x n c=>(i.AZ b cs hb).2 o x n (Pr c).2⟩⟩;refine(h J u B m Y X).AG λR D Z=> ?_;obtain⟨E,G,r,bC,A0,s,A1,d⟩:=Z;have A2:t.next<=bC.next:=d.Gm
 have H: ∀o∈l,∃x b cs w,t.W o=some x/\x.cells≠[]/\J o=some b/\m.W b=some ⟨cs,w⟩/\(x.own=true->w=true)/\AJ u J x.cells cs:= λo a=>by
  obtain⟨x,c,A3⟩:=V o a;rcases i.Eh o x c with⟨b,cs,w,C,v,a3,a4⟩|⟨_,v⟩
  ·grind
  ·exact absurd v A3
 have S: ∀o∈l,∀b,J o=some b-> ¬Wv J (ER t l) b:= λo a b hb ⟨p,x,A4,c⟩=>by have:=i.inj p o b A4 hb;subst this;rw[pR a]at c;cases c
 have T: ∀o∈l,∀b,J o=some b->D.W b=m.W b:= λo a b n=>d.DW b (i.B7 o b n).2 λ⟨p,z,j,g,_⟩=>S o a b n ⟨p,z,j,g⟩;have A8: ∀o∈l,bC.W o=none:= λo a=>by
  obtain⟨x,b,cs,w,C,v,a3,a4,M,N⟩:=H o a;cases A5:bC.W o with
  |none=>rfl
  |some y=>exact absurd (d.TZ b (i.B7 o b a3).2 ⟨o,y,d.e o b a3,A5⟩) (S o a b a3)
 have K: ∀o∈l,(FU t bC l).W o=t.W o:= λo a=>by
  grind [a4N,F]
 refine⟨T,E,G,r,bC,A0,?_,A1,?_⟩
 ·refine⟨λo x c=> ?_,λo es A=> ?_,s.Er,s.inj,s.B7,λb cs hb=>⟨(s.AZ b cs hb).1,λo x n c=> ?_⟩⟩
  ·by_cases a:o∈l
   ·rw[K o a]at c;obtain⟨y,b,cs,w,C,v,a3,a4,M,N⟩:=H o a;rw[C]at c;cases c;exact .inl ⟨b,cs,w,d.e o b a3,by rw[T o a b a3];exact a4,M,N.AG d.f d.e⟩
   ·rw[Va a]at c;exact s.Eh o x c
  ·by_cases a:o∈l
   ·grind [DQ]
   ·rw[a6B a]at A;exact s.maps o es A
  ·by_cases a:o∈l
   ·rw[K o a]at c;obtain⟨y,I,U,w,C,v,a3,a4,M,N⟩:=H o a;have k:=d.e o I a3;rw[n]at k;cases k;rcases d.fn b cs hb with q|q|q
    ·exact(i.AZ b cs q).2 o x a3 c
    ·have:=(i.B7 o b a3).2;omega
    ·grind
   ·rw[Va a]at c;exact(s.AZ b cs hb).2 o x n c
 ·refine⟨d.e,d.f,d.MR,λb cs hb=> ?_,A2,d.Gt,λb hb A6=>d.DW b hb λ⟨p,z,j,g,L⟩=>A6 ⟨p,z,j,(Pr g).2,L⟩,λb hb ⟨o,x,j,g,L⟩=> ?_,λb hb ⟨o,x,j,g⟩=> ?_⟩
  ·rcases d.fn b cs hb with q|q|⟨p,z,j,g⟩
   ·exact .inl q
   ·exact .inr (.inl q)
   ·exact .inr (.inr ⟨p,z,j,(Pr g).2⟩)
  ·by_cases a:o∈l
   ·obtain⟨y,I,U,w,C,v,a3,_⟩:=H o a;have k:=d.e o I a3;rw[j]at k;cases k;rw[K o a]at g;exact⟨o,x,a3,g,L⟩
   ·rw[Va a]at g;obtain⟨p,z,O,Q,A7⟩:=d.To b hb ⟨o,x,j,g,L⟩;exact⟨p,z,O,(Pr Q).2,A7⟩
  ·by_cases a:o∈l
   ·obtain⟨y,I,U,w,C,v,a3,_⟩:=H o a;have k:=d.e o I a3;rw[j]at k;cases k;rw[K o a]at g;exact⟨o,x,a3,g⟩
   ·rw[Va a]at g;obtain⟨p,z,O,Q⟩:=d.TZ b hb ⟨o,x,j,g⟩;exact⟨p,z,O,(Pr Q).2⟩
theorem bP(k:BI J u t m)(E:D5 u J A N){bp:List (Operand×Operand)}(n:bp.all (λp=>An p.1&&An p.2)=true){d:V}(v: ∀b,b<m.next-> ¬fH J t b->d.W b=m.W b)(y: ∀o∈Fo A t bp,∀b,J o=some b->d.W b=m.W b):KO N bp m d:=by
 intro p z b hb;simp only[BF]at n;have r:=n p z;simp only[AB]at r;have g:=E.O r.1;have B: ∀o,I (O A p.1)=some o->OX t o=true->o∈Fo A t bp:=by
  clear y hb g r n;induction bp with
  |nil=>cases z
  | cons q l L=>
    grind [Fo]
 generalize O A p.1=a at g B;generalize O N p.1=M at g hb;have key: ∀o,I a=some o->J o=some b->d.W b=m.W b:= λo G c=>by
  cases C:OX t o with
  |true=>exact y o (B o G C) b c
  | false=>refine v b (k.B7 o b c).2 λ⟨o',x,s,i,j⟩=> ?_;rw[k.inj o' o b s c]at i;simp[OX,i,j]at C
 have D: ∀cs,u b=some cs->d.W b=m.W b:= λcs f=>by obtain⟨⟨w,H⟩,K⟩:=k.AZ b cs f;exact v b (F H) λ⟨o',x,s,i,j⟩=>by rw[K o' x s i]at j;cases j
 cases g with
 | BT h=>unfold I at hb;split at hb<;>simp[BB]at h hb
 |AA c=>simp[I]at hb;subst hb;exact key _ rfl c
 |slice c=>simp[I]at hb;subst hb;exact key _ rfl c
 |map c=>simp[I]at hb;subst hb;exact key _ rfl c
 |Ql e f=>simp[I]at hb;subst hb;exact D _ f
 |BR e f=>simp[I]at hb;subst hb;exact D _ f
 |_=>simp[I]at hb
variable {P:Program} {u:Ca} {J:C5} {t m:V} {A N:A6}
theorem uG(e:BI J u t m)(w:D5 u J A N){bp:List (Operand×Operand)}(y:bp.all (λp=>An p.1&&An p.2)=true){z:J9 P}{f:Nat}{args B:List Value}(q:AJ u J args B){aF:Value->V->Prop}(h:Lc z f args t (Fo A t bp) aF):
 Aq P f B m λj c=>KO N bp m c/\ ∃a b r d,aF r d/\BI a b d c/\AW b a r j/\Be t.next m.next J u t m a b d c:=by
 unfold Lc at h;split at h
 ·refine(hc e q h).AG λj c k=> ?_
  grind [pM]
 ·cases n:Fo A t bp with
  | nil=>
    rw[n]at h;simp only[OZ]at h;have g:Bv P f args t aF:=by
     grind [qS]
    refine(g J u B m e q).AG λj c k=> ?_;obtain⟨a,b,r,d,g,s,v,i⟩:=k;exact⟨bP e w y i.DW (by rw[n];nofun),a,b,r,d,g,s,v,i⟩
  | cons o l=>
    rw[n]at h;simp only[OZ]at h;have C: ∀p∈o::l,∃x,t.W p=some x/\x.cells≠[]:= λp G=>by
     grind [Zj]
    have g:Bv P f args (ER t (o::l)) λr bC=>aF r (FU t bC (o::l)):=by
     grind [qS]
    refine(ve C g e q).AG λj c k=> ?_;obtain⟨D,a,b,E,d,F,s,v,i⟩:=k;exact⟨bP e w y i.DW (by rw[n];exact D),a,b,E,_,F,s,v,i⟩
def Oo(J:C5)(u:Ca)(t m:V)(base a:Nat)(ops:List Ap):Prop:= ∀o∈ops,o.k.Bt=true->KB J u t m (base+o.AO) (a+o.AO)
theorem nodup_cons(h:MK ((o::ops).map (·.AO))=true):(∀p∈ops,p.AO≠o.AO)/\MK (ops.map (·.AO))=true:=by
 grind [MK]
theorem aj{G:J9 P}{base l:Nat}: ∀{ops:List Ap} {J:C5} {u:Ca} {t m:V} {A N:A6} {aF:A6->V->Prop},ops.all Wm=true->MK (ops.map (·.AO))=true->BI J u t m->D5 u J A N->Oo J u t m base l ops->base<=t.next->l<=m.next->
 B0 G base ops A t aF->Bm P l ops N m λD w=> ∃a c y i,aF y i/\BI a c i w/\D5 c a y D/\Be base l J u t m a c i w
 | [],J,u,t,m,A,N,aF,_,_,F,z,_,_,_,h=>by rw[kt];exact⟨J,u,A,t,h,F,z,Be.refl⟩
 | o::ops,J,u,t,m,A,N,aF,Q,AT,F,z,U,hb,W,h=>by
   obtain⟨s,d,g,k,bp⟩:=o;simp only[Fz,AB]at Q;obtain⟨AU,X⟩:=nodup_cons AT;have R:=Q.1;simp only[Wm,AB]at R;have skip: ∀{g:Option (Nat×Bool)},B0 G base ops (Af A d undef) t aF->Bm P l ops (Af N d undef) m λD w=> ∃a c y i,aF y i/\BI a c i w/\D5 c a y D/\Be base l J u t m a c i w:= λh=>
    aj Q.2 X F (z.A0 AW.undef) (λo H S=>U o (by simp[H]) S) hb W h
   have AV:EV G base ⟨s,d,g,k,bp⟩ A t (λA t=>B0 G base ops A t aF)->Bm P l (⟨s,d,none,k,bp⟩::ops) N m λD w=> ∃a c y i,aF y i/\BI a c i w/\D5 c a y D/\Be base l J u t m a c i w:= λh=>by
    have after: ∀{I:Value} {E:V},(KO N bp m E/\ ∃a c r i,(B0 G base ops (Af A d r) i aF)/\BI a c i E/\AW c a r I/\Be t.next m.next J u t m a c i E)->
     M9 P l d bp ops N m (λD w=> ∃a c y i,aF y i/\BI a c i w/\D5 c a y D/\Be base l J u t m a c i w) I E:= λ{I E} ⟨Y,L,Z,r,bC,A1,AX,AY,C⟩=>by
     refine⟨Y,?_⟩;have A2:D5 Z L (Af A d r) (Af N d I):=(z.AG C.f C.e).A0 AY;have A3:Oo L Z bC E base l ops:= λo H S=>by
      have p:=U o (by simp[H]) S;refine⟨?_,λo' M=> ?_,?_,Eo p.Mt C.Gm,Eo p.LA C.Gt⟩
      ·cases A4:L (base+o.AO)with
       |none=>rfl
       | some b=>
         rcases C.MR _ _ A4 with v|⟨v,_⟩
         ·rw[p.e]at v;cases v
         ·have:=p.Mt;omega
      ·rcases C.MR _ _ M with v|⟨_,v⟩
       ·exact p.b _ v
       ·have:=p.LA;omega
      ·cases A4:Z (l+o.AO)with
       |none=>rfl
       | some cs=>
         rcases C.fn _ _ A4 with v|v|⟨o',_,v,_⟩
         ·rw[p.f]at v;cases v
         ·have:=p.LA;omega
         ·exact absurd v (p.b o')
     have A5:=aj Q.2 X AX A2 A3 (Dh hb C.Gm) (Dh W C.Gt) A1;obtain⟨n,A7,A8,A9,AD,AE,AF,AH,AJ,AK,AL,AM⟩:=A5;exact⟨n,A7,A8,A9,AD,AE,AF,AH,AJ,AK,AL,(C.Kr hb W).trans AM⟩
    have Aa: ∀{k:K},k.F0=false->OB k=true->(k.Bt=true->KB J u t m (base+s) (l+s))->(k.Dq A t=true/\Du A t bp=true/\B0 G base ops (Af A d (k.E0 (base+s) A t)) (k.Gz (base+s) A t) aF)->
     Bm P l (⟨s,d,none,k,bp⟩::ops) N m λD w=> ∃a c y i,aF y i/\BI a c i w/\D5 c a y D/\Be base l J u t m a c i w:= λ{k} AQ Y p h=>by
     rw[FR AQ];obtain⟨A1,L,q⟩:=wZ (h4:=base) (iv:=l) (id:=base+s) (mid:=l+s) F z AQ Y h.1 p (by omega) (by omega);refine⟨A1,tv F z R.2 h.2.1,?_⟩;have A2:D5 u L (Af A d (k.E0 (base+s) A t)) (Af N d (k.val (l+s) N m)):=(z.AG q.AZ.f q.AZ.e).A0 q.val;have A3:Oo L u (k.Gz (base+s) A t) (k.Cl (l+s) N m) base l ops:= λo H S=>by
      have p:=U o (by simp[H]) S;have AN:=AU o H;simp only at AN;refine⟨by rw[q.eQ _ (by omega)];exact p.e,λo' M=> ?_,p.f,Eo p.Mt q.AZ.Gm,Eo p.LA q.AZ.Gt⟩;by_cases e:o'=base+s
      ·subst e;rcases q.self with v|v
       ·rw[v]at M;exact p.b _ M
       ·grind
      ·rw[q.eQ _ e]at M;exact p.b _ M
     have A5:=aj Q.2 X q.q4 A2 A3 (Dh hb q.AZ.Gm) (Dh W q.AZ.Gt) h.2.2;obtain⟨n,A7,A8,A9,AD,AE,AF,AH,AJ,AK,AL,AM⟩:=A5;exact⟨n,A7,A8,A9,AD,AE,AF,AH,AJ,AK,AL,q.AZ.trans AM⟩
    have Ab:=U ⟨s,d,g,k,bp⟩ (by simp);have AR:=R.1;have T:=AR;simp only[OB,AB]at T;cases k with
    | KC f B=>rw[ks];exact(uG F z R.2 (z.PI T.1) h).AG λI E AP=>after AP
    | Iw x B=>
      simp only[EV,Vf]at h;simp only[K.D6,Fz,AB]at T;split at h
      ·next f first Ah AN=>have AS:=z.O T.1.1;rw[AN]at AS;obtain⟨ys,ds,e,Ac,Ad⟩:=AS.QU;rw[k8 e];exact(uG F z R.2 ((Ac.Iu (z.PI T.1.2)).Iu Ad) h).AG λI E AP=>after AP
      ·exact h.elim
    |Ip=>exact h.elim
    |_=>exact Aa rfl AR Ab h
   simp only[B0]at h;cases g with
   |none=>exact AV (by simpa[Bf]using h)
   | some g=>
     obtain⟨j,b⟩:=g;rw[dQ,jv z];split at h
     ·simp_all
     ·simp_all
theorem mP(a:BI J u t m)(k:Nat):BI J u (t.AE k) (m.AE k) where
 Eh o x d:=by
  by_cases h:o<t.next
  ·rw[AU h]at d;rcases a.Eh o x d with⟨b,cs,w,c,e,g⟩|c
   ·grind [AU,F]
   ·exact .inr c
  ·simp[V.W,V.AE,h]at d
 maps o es f:=by
  by_cases h:o<t.next
  ·rw[Ul h]at f;obtain⟨b,j,c,e,g⟩:=a.maps o es f;exact⟨b,j,c,by rw[Ul (a.B7 o b c).2,e],g⟩
  ·have:=(DQ f).1;simp[V.W,V.AE,h]at this
 Er:=a.Er
 inj:=a.inj
 B7 o b h:=by have:=a.B7 o b h;simp only[BC];omega
 AZ b cs h:=by obtain⟨⟨w,c⟩,e⟩:=a.AZ b cs h;refine⟨⟨w,by rw[AU (F c),c]⟩,λo x i d=> ?_⟩;rw[AU (a.B7 o b i).1]at d;exact e o x i d
theorem az(d:BI J u t m)(k:Nat):Be t.next m.next J u t m J u (t.AE k) (m.AE k) where
 e:=CA.refl _
 f:=Cs.refl _
 MR o b h:= .inl h
 fn b cs h:= .inl h
 Gm:=by simp
 Gt:=by simp
 DW b hb _:=AU hb
 To b hb:= λ⟨o,x,a,c,g⟩=>⟨o,x,a,by rw[AU (d.B7 o b a).1]at c;exact c,g⟩
 TZ b hb:= λ⟨o,x,a,c⟩=>⟨o,x,a,by rw[AU (d.B7 o b a).1]at c;exact c⟩
theorem aAS{s:J9 P}(a:Gi (.FI ops)=true)(c:BI J u t m)(v:D5 u J A N)(h:B0 s t.next ops A (Cu ops t) aF):
 Bm P m.next ops N (Cu ops m) λx j=> ∃d e l f,aF l f/\BI d e f j/\D5 e d l x/\Be t.next m.next J u t m d e f j:=by
 simp only[Gi,AB]at a;have y:BI J u (Cu ops t) (Cu ops m):=by
  grind [Cu,mP]
 have g:Be t.next m.next J u t m J u (Cu ops t) (Cu ops m):=by
  grind [Cu,az,Be.refl]
 have z:Oo J u (Cu ops t) (Cu ops m) t.next m.next ops:= λo p B=>by
  have q:(ops.any λo=>o.k.Bt)=true:=List.any_eq_true.2 ⟨o,p,B⟩;have r:o.AO<ops.length:=(by simpa using BF.1 a.2 o p);refine⟨?_,λo' C=> ?_,?_,by simp[Cu,q,r],by simp[Cu,q,r]⟩
  ·cases i:J (t.next+o.AO)with
   |none=>rfl
   |some b=>have:=(c.B7 _ _ i).1;omega
  ·have:=(c.B7 _ _ C).2;omega
  ·cases i:u (m.next+o.AO)with
   |none=>rfl
   |some cs=>obtain⟨⟨w,D⟩,_⟩:=c.AZ _ _ i;have:=F D;omega
 have:=aj a.1.1 a.1.2 y v z g.Gm g.Gt h;obtain⟨n,E,G,H,I,K,L,M,O,Q,R,S⟩:=this;exact⟨n,E,G,H,I,K,L,M,O,Q,R,g.trans S⟩
theorem Py{w:J9 P}: ∀{c:D} {A:A6} {t:V} {Q:BM->A6->V->Prop},ED w c A t Q->BY P c A t Q
 | .skip,A,t,Q,h=> λ_ J u N m f d=>by rw[iZ];exact⟨J,u,A,t,h,f,d,Be.refl⟩
 | .Ai id,A,t,Q,h=> λ_ J u N m f d=>by rw[hB];exact⟨J,u,A,t,h,f,d,Be.refl⟩
 | .DO,A,t,Q,h=> λ_ J u N m f d=>by rw[ho];exact⟨J,u,A,t,h,f,d,Be.refl⟩
 | .FI ops,A,t,Q,h=> λg J u N m f d=>by rw[gN];exact aAS g f d h
 | .Ky _ _ _,_,_,_,h=>h.elim
 | .Ez a b,A,t,Q,h=> λg J u N m f d=>by
   simp only[Gi,AB]at g;rw[bW];refine(Py (c:=a) h g.1 J u N m f d).AG λe s v n=> ?_;obtain⟨j,k,o,bC,l,i,q,p⟩:=n;cases e with
   | Cx=>rw[Wn];refine(Py (c:=b) l g.2 j k s v i q).AG λe H I n=> ?_;obtain⟨x,y,z,B,C,E,F,G⟩:=n;exact⟨x,y,z,B,C,E,F,p.trans (G.Kr p.Gm p.Gt)⟩
   |Ai id=>exact⟨j,k,o,bC,l,i,q,p⟩
   |DO=>exact⟨j,k,o,bC,l,i,q,p⟩
 | .Gh c a b,A,t,Q,h=> λg J u N m f d=>by
   simp only[Gi,AB]at g;rw[dF];have e:=sz (d.O g.1.1) h.1;rw[e];refine⟨h.1,?_⟩;have i:=h.2;split at i
   ·next r=>rw[if_pos r];exact Py (c:=a) i g.1.2 J u N m f d
   ·next r=>rw[if_neg r];exact Py (c:=b) i g.2 J u N m f d
 | .block id c,A,t,Q,h=> λg J u N m f d=>by
   rw[UG];refine(Py (c:=c) h g J u N m f d).AG λe s v n=> ?_;obtain⟨j,k,o,bC,l,i⟩:=n;cases e with
   |Cx=>exact⟨j,k,o,bC,l,i⟩
   |DO=>exact⟨j,k,o,bC,l,i⟩
   | Ai K=>
     grind [ZD]
 | .loop c,A,t,Q,h=>h
theorem BY.AG(h:BY P c A t Q)(f: ∀e A t,Q e A t->G e A t):BY P c A t G:= λa J u N m b d=>(h a J u N m b d).AG λe g i j=>by
 grind
theorem Bv.AG(h:Bv P f args t a7)(c: ∀r t,a7 r t->H r t):Bv P f args t H:= λJ u B m a b=>(h J u B m a b).AG λd e g=>by
 grind
theorem BU{an:J9 P}(h: ∀l:A6->V->Prop,(∀N b,BY P (.loop c) N b Q->l N b)->ED an c A t (Li l Q)):BY P (.loop c) A t Q:= λn J u N m p q=>by
 rw[z7];refine(Py (h (λN b=>BY P (.loop c) N b Q) (λ_ _ h=>h)) n J u N m p q).AG λe r s d=> ?_;obtain⟨f,g,o,bC,i,j,k,a⟩:=d;cases e with
 | Cx=>rw[pv];refine(i n f g r s j k).AG λe E F d=> ?_;obtain⟨v,w,x,y,z,B,C,D⟩:=d;exact⟨v,w,x,y,z,B,C,a.trans (D.Kr a.Gm a.Gt)⟩
 |Ai id=>exact⟨f,g,o,bC,i,j,k,a⟩
 |DO=>exact⟨f,g,o,bC,i,j,k,a⟩
def ay(C:List Fy)(a7:Value->V->Prop)(e:BM)(A:A6)(t:V):Prop:=match e with| .Ai _=>False|_=>FM t A C=true/\a7 (Fg t A C) t
theorem hj(c:BI J u t m)(b:D5 u J A N){r:Fy}(h:IQ t A r=true):IQ m N r=true/\AW u J (Ik t A r) (Ik m N r):=by
 cases r with
 |AI x=>exact⟨rfl,b x⟩
 | E2 x f n=>
   simp only[IQ,AB]at h⊢;have d:GW (A x)=false:=by have a:=h.1;cases e:A x<;>simp[e,Bx]at a<;>rfl
   have a:J6 t (A x) n=true:=(by rw[J6,d];exact h.1);refine⟨⟨VF c (b x) a,h.2⟩,?_⟩;have:=hI c (b x) a h.2;rw[Nw,d]at this;exact this
theorem ml(a:BI J u t m)(b:D5 u J A N)(h:FM t A C=true):FM m N C=true/\AW u J (Fg t A C) (Fg m N C):=by
 simp only[FM,BF]at h⊢;refine⟨λr c=>(hj a b (h r c)).1,?_⟩;have d:AJ u J (C.map (Ik t A)) (C.map (Ik m N)):=AJ.Sd _ _ _ λr c=>(hj a b (h r c)).2;unfold Fg;split
 ·exact(hj a b (h _ (by simp))).2
 ·exact d.tuple
theorem Ak{an:J9 P}(n:AR P f=some Fn)(o:Gi Fn.body=true)(p:args.length<=Fn.c6)(h:ED an Fn.body (Cp args) t (ay Fn.N5 a7)):Bv P f args t a7:= λJ u B m q g=>by
 rw[EG n (by rw[<-g.1];exact p)];refine(Py h o J u (Cp B) m q (D5.init g)).AG λe s v r=> ?_;obtain⟨i,j,w,bC,c,d,k,l⟩:=r;cases e with
 |Ai id=>exact c.elim
 |Cx=>obtain⟨a,b⟩:=ml d k c.1;exact⟨a,i,j,_,bC,c.2,d,b,l⟩
 |DO=>obtain⟨a,b⟩:=ml d k c.1;exact⟨a,i,j,_,bC,c.2,d,b,l⟩
def D0:V:=⟨0,λ_=>none,λ_=>none⟩
theorem rf(o:Nat):D0.W o=none:=by simp[D0,V.W]
theorem kc(c:It u m):BI EX u D0 m where
 Eh o x a:=by rw[rf]at a;cases a
 maps o es d:=by have:=(DQ d).1;rw[rf]at this;cases this
 Er o _:=rfl
 inj o o' b h:=by cases h
 B7 o b h:=by cases h
 AZ b cs h:=⟨c b cs h,λo x e=>by cases e⟩
open Classical in
theorem BG(h:Bv P f args D0 λv t=>Az 9 t v=some r):AL P f args r:= λu m B k l=>by
 refine(h EX u B m (kc k) l).AG λC g n=> ?_;obtain⟨p,i,v,D,q,c,s,d⟩:=n;refine⟨d.Gt,(λb hb=>d.DW b hb λ⟨o,x,e,_⟩=>by cases e),(λb=>match i b with
  |some cs=>some cs
  |none=>if∃o,p o=some b then(g.W b).map (·.cells)else none),λb cs hb=> ?_,λb cs hb=> ?_,?_⟩
 ·simp only[d.f b cs hb]
 ·simp only at hb;split at hb
  ·next y=>cases hb;exact(c.AZ b _ y).1
  ·split at hb
   ·cases a:g.W b with
    |none=>rw[a]at hb;cases hb
    |some x=>rw[a]at hb;cases hb;exact⟨x.own,rfl⟩
   ·cases hb
 ·refine S4 c (λb cs hb=>by simp only[hb]) 9 s q λo E F b cs w z a=> ?_;cases A:i b with
  |some ds=>obtain⟨⟨G,j⟩,_⟩:=c.AZ b ds A;rw[a]at j;cases j;rfl
  |none=>rw[if_pos ⟨o,z⟩,a];rfl
theorem Pa{d:Nat}(q:A d= .slice none 0 0)(h:BY P c (FT A d (.slice (some ⟨t.next,0,none⟩) 0 z)) ((t.AE 1).A0 t.next (some ⟨[],true⟩)) Q):BY P c A t Q:= λr J u N m f s=>by
 have l:J t.next=none:=by
  cases k:J t.next with
  |none=>rfl
  |some b=>have:=(f.B7 _ _ k).1;omega
 have v:BI J u ((t.AE 1).A0 t.next (some ⟨[],true⟩)) m:=by
  refine⟨λo x i=> ?_,λo es k=> ?_,f.Er,f.inj,λo b h=>⟨by have:=(f.B7 o b h).1;simp only[Ar,BC];omega,(f.B7 o b h).2⟩,λb cs hb=> ?_⟩
  ·by_cases g:o=t.next
   ·subst g;rw[AT (by simp)]at i
    grind
   ·rw[A3 g,V.AU]at i;exact f.Eh o x i
  ·by_cases g:o=t.next
   ·subst g;have:=(DQ k).2;rw[show((t.AE 1).A0 t.next (some ⟨[],true⟩)).mp=t.mp from rfl,f.Er _ l]at this;cases this
   ·rw[IS g]at k;obtain⟨a,j⟩:=DQ k;rw[V.AU]at a;exact f.maps o es (E7 a j)
  ·obtain⟨n,p⟩:=f.AZ b cs hb
   grind [A3,V.AU]
 have w:D5 u J (FT A d (.slice (some ⟨t.next,0,none⟩) 0 z)) N:= λx=>by
  have i:=s x;simp only[FT];split
  ·next e=>subst e;rw[q]at i;rw[i.DH rfl];exact .Qs (.inl rfl)
  ·exact i
 refine(h r J u N m v w).AG λe I K y=> ?_;obtain⟨B,C,D,bC,n,p,E,F⟩:=y;refine⟨B,C,D,bC,n,p,E,?_⟩;have G:Be t.next m.next J u t m J u ((t.AE 1).A0 t.next (some ⟨[],true⟩)) m:=⟨CA.refl _,Cs.refl _,λ_ _ h=> .inl h,λ_ _ h=> .inl h,by simp,Ao _,λ_ _ _=>rfl,λb hb=> λ⟨o,x,a,j,H⟩=>by
  have g:o≠t.next:= λe=>by subst e;rw[l]at a;cases a
  rw[A3 g,V.AU]at j;exact⟨o,x,a,j,H⟩,λb hb=> λ⟨o,x,a,j⟩=>by
  have g:o≠t.next:= λe=>by subst e;rw[l]at a;cases a
  rw[A3 g,V.AU]at j;exact⟨o,x,a,j⟩⟩
 exact G.trans (F.Kr (by simp) (Ao _))
end Go.DI
