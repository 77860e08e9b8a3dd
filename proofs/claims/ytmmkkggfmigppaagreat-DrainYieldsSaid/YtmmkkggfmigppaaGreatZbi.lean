/-
  A part of the proof, shortened by tools of ours.
-/
import Derived.Test.YtmmkkggfmigppaaGreatZbh
set_option linter.all false
set_option maxRecDepth 8000
set_option maxHeartbeats 16000000
namespace Go.DI
open Go Go.RowKit
def fR{dP pI:Type}(f:dP->Option pI):List dP->Option (List pI)
 |[]=>some []
 | x::xs=>match f x with
   | some y=>(match fR f xs with
     |some ys=>some (y::ys)
     |none=>none)
   |none=>none
theorem IE{dP pI:Type}{f:dP->Option pI}: ∀{l:List dP} {c7:List pI},fR f l=some c7->c7.length=l.length/\ ∀(i:Nat) (y:pI),c7[i]?=some y-> ∃x,l[i]?=some x/\f x=some y
 |[],c7,h=>by cases h;exact⟨rfl,λi y h=>by simp at h⟩
 | x::xs,c7,h=>by
   simp only[fR]at h;cases bb:f x with
   |none=>simp[bb]at h
   | some y=>
     cases ar:fR f xs with
     |none=>simp[bb,ar]at h
     | some ys=>
       simp only[bb,ar,mP]at h;subst h;obtain⟨A,E⟩:=IE ar;refine⟨by simp[A],λi I bE=> ?_⟩;cases i with
       |zero=>simp at bE;subst bE;exact⟨x,rfl,bb⟩
       |succ i=>exact E i I (by simpa using bE)
theorem Na{dP:Type}{f:dP->Option dP}: ∀{l:List dP},(∀x∈l,f x=some x)->fR f l=some l
 |[],_=>rfl
 | x::xs,h=>by have cj:fR f xs=some xs:=Na λy Z=>h y (Gx _ Z);simp only[fR,h x (by simp),cj]
def lH(I:Nat):Nat->List Value->List (List Value)
 |0,_=>[]
 |n+1,cs=>cs.take I::lH I n (cs.drop I)
theorem agt(I:Nat): ∀(n:Nat) (cs:List Value),(lH I n cs).length=n
 |0,_=>rfl
 |n+1,cs=>by simp[lH,agt I n]
theorem agr{I:Nat}: ∀{n:Nat} {cs:List Value} {i:Nat} {r:List Value},(lH I n cs)[i]?=some r->i<n/\r=(cs.drop (i*I)).take I
 |0,cs,i,r,h=>by simp[lH]at h
 | n+1,cs,i,r,h=>by
   cases i with
   |zero=>simp[lH]at h;subst h;simp
   | succ i=>simp only[lH,Jn]at h;obtain⟨A,E⟩:=agr h;refine⟨by omega,?_⟩;rw[E,DO,oC];congr 2;omega
theorem Vz{I:Nat}: ∀{bJ:List (List Value)},(∀r∈bJ,r.length=I)->lH I bJ.length bJ.flatten=bJ
 |[],_=>rfl
 | r::bJ,h=>by have A:=h r (by simp);simp only[m8,lH,td];rw[<-A,List.take_left,List.drop_left,A,Vz λx B=>h x (by simp[B])]
def hH(v:Value):Bool:=ew v||ly v
def dx:Nat->G->Value->Option Value
 |0,_,v=>if hH v then some v else none
 | n+1,t,v=>if hH v then some v else match v with
   | .slice (some a) l I=>match t.F a.block with
     | some x=>if a.spot.isNone&&decide (a.off+l*I<=x.cells.length)then
      (match fR (fR (dx n t)) (lH I l (x.cells.drop a.off))with
       |some bJ=>some (ai bJ I)
       |none=>none)else none
     |none=>none
   | .pointer (some a)=>match t.F a.block with
     | some x=>if a.spot.isNone then
      (match fR (dx n t) x.cells with
       |some c5=>some (fx c5 a.off)
       |none=>none)else none
     |none=>none
   | .agg cs=>match fR (dx n t) cs.toList with
     |some l=>some (.agg l.toArray)
     |none=>none
   | .tuple cs=>match fR (dx n t) cs.toList with
     |some l=>some (.tuple l.toArray)
     |none=>none
   | .func (.func f) xs cs=>match fR (dx n t) xs.toList,fR (dx n t) cs.toList with
     |some l,some k=>some (.func (.func f) l.toArray k.toArray)
     |_,_=>none
   |_=>none
def eC:Nat->G->Value->List Nat
 |0,_,_=>[]
 | n+1,t,v=>if hH v then[]else match v with
   | .slice (some a) _ _=>a.block::(match t.F a.block with
     |some x=>x.cells.flatMap (eC n t)
     |none=>[])
   | .pointer (some a)=>a.block::(match t.F a.block with
     |some x=>x.cells.flatMap (eC n t)
     |none=>[])
   | .agg cs=>cs.toList.flatMap (eC n t)
   | .tuple cs=>cs.toList.flatMap (eC n t)
   | .func _ xs cs=>xs.toList.flatMap (eC n t)++cs.toList.flatMap (eC n t)
   |_=>[]
theorem J1{u eo:fY}{J:e3}(df:g7 u eo){v bZ:Value}(M:cu u J v bZ)(av:hH v=true):cu eo kY v bZ:=by
 cases M with
 |c4 h=>exact .c4 h
 |jH e A E ao aS=>exact .jH e (df _ _ A) E ao λi j r x y a b c=>(aS i j r x y a b c).bt df (fN.refl _)
 |jI e=>exact .jI e
 |fx e A E ao=>exact .fx e (df _ _ A) E λj x y a b=>(ao j x y a b).bt df (fN.refl _)
 |_=>simp[hH,ew,ly]at av
theorem G4{u eo:fY}{J:e3}{t m:G}(H:ep J u t m)(df:g7 u eo): ∀(n:Nat) {v bZ r:Value},cu u J v bZ->dx n t v=some r->(∀o∈eC n t v,(t.F o).isSome=true-> ∀b cs w,J o=some b->m.F b=some ⟨cs,w⟩->eo b=some cs)->cu eo kY r bZ
 | 0,v,bZ,r,M,h,_=>by
   simp only[dx]at h;split at h
   ·next av=>cases h;exact J1 df M av
   ·cases h
 | n+1,v,bZ,r,M,h,ar=>by
   simp only[dx]at h;simp only[eC]at ar;split at h
   ·next av=>cases h;exact J1 df M av
   ·next av=>
    rw[if_neg av]at ar;have MP: ∀{xs ys cn:List Value},bM u J xs ys->fR (dx n t) xs=some cn->(∀o∈xs.flatMap (eC n t),(t.F o).isSome=true-> ∀b cs w,J o=some b->m.F b=some ⟨cs,w⟩->eo b=some cs)->bM eo kY cn ys:= λaA aC bV=>by obtain⟨A,E⟩:=IE aC;refine⟨by rw[A,aA.1],λi x y B Z=> ?_⟩;obtain⟨jZ,hh,aU⟩:=E i x B;exact G4 H df n (aA.2 i jZ y hh Z) aU λo aC=>bV o (wY.2 ⟨jZ,fX hh,aC⟩)
    split at h
    ·next a l I=>
     cases aH:t.F a.block with
     |none=>simp[aH]at h
     | some x=>
       simp only[aH]at h ar;split at h
       ·next hb=>
        simp only[a7,eF]at hb;cases Xx:fR (fR (dx n t)) (lH I l (x.cells.drop a.off))with
        |none=>simp[Xx]at h
        | some bJ=>
          simp only[Xx,mP]at h;subst h;obtain⟨aE,a5⟩:=IE Xx;rw[agt]at aE;rcases M.lv with⟨b,aG,aN,rfl⟩|⟨aG,aN,ct,rfl⟩
          ·obtain⟨cs,w,a9,bW,cA⟩:=H.mu aG aH;have sD:=ar a.block (by simp) (by rw[aH];rfl) b cs w aG a9;rw[<-aE];have sK: ∀(i:Nat) r,bJ[i]?=some r->i<l/\ ∃nX,nX=(x.cells.drop (a.off+i*I)).take I/\fR (dx n t) nX=some r:= λi r Y=>by
            obtain⟨nX,bB,cC⟩:=a5 i r Y;obtain⟨dO,gu⟩:=agr bB;exact⟨dO,nX,by rw[gu,DO],cC⟩
           refine .jH rfl sD (by rw[aE,<-cA.1];exact hb.2) (λi r Y=> ?_) λi j r bf y Y aV Z=> ?_
           ·obtain⟨dO,nX,gu,mF⟩:=sK i r Y;rw[(IE mF).1,gu];simp;have:(i+1)*I<=l*I:=zK _ dO;rw[oC]at this;omega
           ·obtain⟨dO,nX,gu,mF⟩:=sK i r Y;obtain⟨arA,qn,S9⟩:=(IE mF).2 j bf aV;rw[gu,ry]at qn;split at qn
            ·rw[zL]at qn;refine G4 H df n (cA.2 _ arA y qn Z) S9 λo aC=>ar o ?_;exact Gx _ (wY.2 ⟨arA,fX qn,aC⟩)
            ·cases qn
          ·subst ct;have:bJ=[]:=n2 aE;subst this;exact .jI rfl
       ·cases h
    ·next a=>
     cases aH:t.F a.block with
     |none=>simp[aH]at h
     | some x=>
       simp only[aH]at h ar;split at h
       ·cases sK:fR (dx n t) x.cells with
        |none=>simp[sK]at h
        | some c5=>simp only[sK,mP]at h;subst h;obtain⟨b,aG,aN,rfl⟩:=M.sO;obtain⟨cs,w,a9,bW,cA⟩:=H.mu aG aH;have sD:=ar a.block (by simp) (by rw[aH];rfl) b cs w aG a9;have aA:=MP cA sK λo aC=>ar o (Gx _ aC);have:=cu.fx (u:=eo) (J:=kY) (off:=0) (k:=a.off) (c5:=c5) rfl sD (by rw[aA.1];omega) λj bf y aV Z=>aA.2 j bf y aV (by simpa using Z);simpa using this
       ·cases h
    ·next cs=>
     cases aC:fR (dx n t) cs.toList with
     |none=>simp[aC]at h
     | some l=>simp only[aC,mP]at h;subst h;obtain⟨ys,rfl,aA⟩:=M.tQ;have:=(MP aA aC ar).agg;simpa using this
    ·next cs=>
     cases aC:fR (dx n t) cs.toList with
     |none=>simp[aC]at h
     | some l=>simp only[aC,mP]at h;subst h;obtain⟨ys,rfl,aA⟩:=M.ET;have:=(MP aA aC ar).tuple;simpa using this
    ·next f xs cs=>
     cases aC:fR (dx n t) xs.toList with
     |none=>simp[aC]at h
     | some l=>
       cases hp:fR (dx n t) cs.toList with
       |none=>simp[aC,hp]at h
       | some k=>simp only[aC,hp,mP]at h;subst h;obtain⟨ys,ds,rfl,aA,O⟩:=M.ES;have A:=MP aA aC λo h=>ar o (jP.2 (.inl h));have E:=MP O hp λo h=>ar o (jP.2 (.inr h));exact .func (by simpa using A.1) (by simpa using A.2) (by simpa using E.1) (by simpa using E.2)
    ·cases h
def Ef(n:Nat)(t:G)(args:List Value):Option (List Value):=fR (dx n t) args
def uh(t:G):List Nat->G
 |[]=>t
 |o::l=>uh (match t.F o with|some x=>t.aK o (some ⟨x.cells,false⟩)|none=>t) l
def hW(t:G)(l:List Nat):G:=⟨t.next,t.hc,λo=>if o∈l then none else t.mp o⟩
@[simp] theorem aur(t:G):hW t []=t:=by simp[hW]
@[simp] theorem aPf(t:G)(l:List Nat)(o:Nat):(hW t l).F o=t.F o:=rfl
@[simp] theorem auq(t:G)(l:List Nat):(hW t l).next=t.next:=rfl
theorem aw:(∀(m:G) (b:Nat) (x:Option en),(m.aK b x).next=m.next)/\(∀(m:G) (k:Nat),(m.bU k).next=m.next+k)/\(∀(m:G) (b:Nat) (es:List (Value×Value)),(m.hL b es).next=m.next)/\ ∀(t:G) (l:List Nat),(hW t l).next=t.next:=⟨λ_ _ _=>rfl,λ_ _=>rfl,λ_ _ _=>rfl,λ_ _=>rfl⟩
@[simp] theorem aYp(t:G):uh t []=t:=rfl
@[simp] theorem Uu(t:G)(o:Nat)(l:List Nat):uh t (o::l)=uh (match t.F o with|some x=>t.aK o (some ⟨x.cells,false⟩)|none=>t) l:=rfl
theorem adY: ∀(l:List Nat) (t:G),(uh t l).next=t.next
 |[],t=>rfl
 | o::l,t=>by rw[Uu,adY l];split<;>rfl
theorem I1: ∀(l:List Nat) (t:G) (p:Nat) (x:en),(uh t l).F p=some x-> ∃y,t.F p=some y/\x.cells=y.cells/\(x.own=true->y.own=true)/\(p∈l->x.own=false)
 |[],t,p,x,h=>⟨x,h,rfl,λh=>h,λh=>by simp at h⟩
 | o::l,t,p,x,h=>by
   rw[Uu]at h;obtain⟨y,A,E,ao,aS⟩:=I1 l _ p x h;cases aH:t.F o with
   | none=>
     rw[aH]at A;refine⟨y,A,E,ao,λae=> ?_⟩;rcases hv.1 ae with rfl|ae
     ·simp only at A;rw[aH]at A;cases A
     ·exact aS ae
   | some I=>
     rw[aH]at A;simp only at A;by_cases Xn:p=o
     ·subst Xn;rw[cb (aF aH)]at A;cases A;have bb:x.own=false:=by
       cases B:x.own with
       |false=>rfl
       |true=>have:=ao B;cases this
      exact⟨I,aH,E,(λB=>by rw[bb]at B;cases B),λ_=>bb⟩
     ·rw[aX Xn]at A;exact⟨y,A,E,ao,λae=>aS ((hv.1 ae).resolve_left Xn)⟩
theorem adX: ∀(l:List Nat) (t:G),(uh t l).mp=t.mp
 |[],t=>rfl
 | o::l,t=>by rw[Uu,adX l];split<;>rfl
section
variable (P:Program)
def sq(u:fY)(m:G):Prop:= ∀b cs,u b=some cs-> ∃w,m.F b=some ⟨cs,w⟩
def bP(f:Nat)(args:List Value)(r:Value):Prop:= ∀(u:fY) (m:G) (bz:List Value),sq u m->bM u kY args bz->
 eu P f bz m λeA U=>m.next<=U.next/\(∀b,b<m.next->U.F b=m.F b)/\ ∃cE,g7 u cE/\sq cE U/\cu cE kY r eA
def fg(f:Nat)(args:List Value)(t:G)(bu:Value->G->Prop):Prop:= ∀(J:e3) (u:fY) (bz:List Value) (m:G),ep J u t m->bM u J args bz->
 eu P f bz m λeA U=> ∃cV cE r X,bu r X/\ep cV cE X U/\cu cE cV r eA/\e4 t.next m.next J u t m cV cE X U
def ee(c:aB)(z:aD)(t:G)(Q:cO->aD->G->Prop):Prop:=pr c=true-> ∀(J:e3) (u:fY) (K:aD) (m:G),ep J u t m->hF u J z K->
 fJ P c K m λe k6 U=> ∃cV cE bT X,Q e bT X/\ep cV cE X U/\hF cE cV bT k6/\e4 t.next m.next J u t m cV cE X U
structure bF where
 f:Nat
 fn:List Value->Option Value
 ok: ∀args r,fn args=some r->bP P f args r
structure jg where
 f:Nat
 fn:List Value->G->Option (Value×G)
 ok: ∀args t r X,fn args t=some (r,X)-> ∀bu:Value->G->Prop,bu r X->fg P f args t bu
structure mq where
 p:List (bF P)
 i:List (jg P)
variable {P}
def Cb:List (jg P)->Nat->Bool
 |[],_=>false
 |s::l,f=>s.f==f||Cb l f
def wQ:List (jg P)->Nat->List Value->G->(Value->G->Prop)->Prop
 |[],_,_,_,_=>False
 | s::l,f,args,t,aR=>if s.f=f then(match s.fn args t with
   |some (r,X)=>aR r X
   |none=>False)else wQ l f args t aR
def G8:List (bF P)->Nat->Bool
 |[],_=>false
 |s::l,f=>s.f==f||G8 l f
def ye:List (bF P)->Nat->List Value->(Value->Prop)->Prop
 |[],_,_,_=>False
 | s::l,f,args,bu=>if s.f=f then(match s.fn args with
   |some r=>bu r
   |none=>False)else ye l f args bu
def zp(ay:List (bF P))(f:Nat)(args:List Value)(t:G)(aR:Value->G->Prop):Prop:=match Ef 9 t args with
 |some ts=>ye ay f ts λr=>aR r (if nf r then hW t (args.flatMap (eC 9 t))else uh t (args.flatMap (eC 9 t)))
 |none=>False
def TA(t:G)(o:Nat):Bool:=match t.F o with|some x=> !x.cells.isEmpty|none=>false
def lI(t:G)(l:List Nat):G:=⟨t.next,λb=>if b∈l then none else t.hc b,t.mp⟩
def lO(t bd:G)(l:List Nat):G:=⟨bd.next,λb=>if b∈l then t.hc b else bd.hc b,bd.mp⟩
def nr(z:aD)(t:G):List (Operand×Operand)->List Nat
 |[]=>[]
 | p::l=>match aa (S z p.1)with
   |some o=>if C2 t o then o::nr z t l else nr z t l
   |none=>nr z t l
def BO(ay:mq P)(f:Nat)(args:List Value)(t:G):List Nat->(Value->G->Prop)->Prop
 |[],aR=>if Cb ay.i f then wQ ay.i f args t aR else fg P f args t aR
 |o::l,aR=>(o::l).all (TA t)=true/\if Cb ay.i f then wQ ay.i f args (lI t (o::l)) (λr bd=>aR r (lO t bd (o::l)))else fg P f args (lI t (o::l)) λr bd=>aR r (lO t bd (o::l))
def xe(ay:mq P)(f:Nat)(args:List Value)(t:G)(L:List Nat)(aR:Value->G->Prop):Prop:=
 if G8 ay.p f then zp ay.p f args t aR else BO ay f args t L aR
def JZ(ay:mq P)(v:Value)(args:List Value)(t:G)(L:List Nat)(aR:Value->G->Prop):Prop:=match v with
 | .func (.func f) first ks=>xe ay f (first.toList++args++ks.toList) t L aR
 |_=>False
def kc(ay:mq P)(base:Nat)(o:cS)(z:aD)(t:G)(aR:aD->G->Prop):Prop:=match o.k with
 | .l2 f bz=>xe ay f (bz.map (S z)) t (nr z t o.bc) λr X=>aR (c0 z o.d r) X
 | .nc x bz=>JZ ay (S z x) (bz.map (S z)) t (nr z t o.bc) λr X=>aR (c0 z o.d r) X
 | .mE _ _ _=>False
 |k=>k.js z t=true/\iZ z t o.bc=true/\aR (c0 z o.d (k.jY (base+o.aY) z t)) (k.pn (base+o.aY) z t)
def dn(ay:mq P)(base:Nat):List cS->aD->G->(aD->G->Prop)->Prop
 |[],z,t,aR=>aR z t
 |o::bK,z,t,aR=>if e9 z o.g=true then kc ay base o z t (λz t=>dn ay base bK z t aR)else dn ay base bK (c0 z o.d undef) t aR
def iK(ay:mq P):aB->aD->G->(cO->aD->G->Prop)->Prop
 | .skip,z,t,Q=>Q .eR z t
 | .kN ops,z,t,Q=>dn ay t.next ops z (h9 ops t) (Q .eR)
 | .ve _ _ _,_,_,_=>False
 | .kB a b,z,t,Q=>iK ay a z t λe z t=>match e with
   | .eR=>iK ay b z t Q
   |e=>Q e z t
 | .nG c a b,z,t,Q=>wA (S z c)=true/\if yt (S z c)=true then iK ay a z t Q else iK ay b z t Q
 | .block id c,z,t,Q=>iK ay c z t λe z t=>match e with
   | .cF kl=>if kl=id then Q .eR z t else Q (.cF kl) z t
   |e=>Q e z t
 | .loop c,z,t,Q=>ee P (.loop c) z t Q
 | .cF id,z,t,Q=>Q (.cF id) z t
 | .fi,z,t,Q=>Q .fi z t
end
section
variable {P:Program} {u:fY} {J:e3} {t m:G}
theorem aqY{l:List (jg P)}{f:Nat}{args:List Value}{t:G}{aR:Value->G->Prop}(h:wQ l f args t aR):fg P f args t aR:=by
 induction l with
 |nil=>exact h.elim
 | cons s l cj=>
   simp only[wQ]at h;split at h
   ·next e=>
    cases bb:s.fn args t with
    |none=>rw[bb]at h;exact h.elim
    |some aGV=>obtain⟨r,X⟩:=aGV;rw[bb]at h;have:=s.ok args t r X bb aR h;rw[e]at this;exact this
   ·exact cj h
theorem bP.aeq{f:Nat}{ts bz:List Value}{r:Value}(h:bP P f ts r)(df:sq u m)(ag:bM u kY ts bz):eu P f bz m λeA U=>m.next<=U.next/\(∀b,b<m.next->U.F b=m.F b/\(u b=none->U.mp b=m.mp b))/\
 ∃cE,g7 u cE/\sq cE U/\(∀b cs,cE b=some cs->u b=some cs\/m.next<=b)/\cu cE kY r eA:=by
 obtain⟨p,ae⟩: ∃p:G,p=⟨m.next,λb=>if(u b).isSome then m.hc b else none,m.mp⟩:=⟨_,rfl⟩;have pv:p.next=m.next:=by rw[ae]
 have Nk:p.mp=m.mp:=by rw[ae]
 have mf: ∀b,p.F b=if(u b).isSome then m.F b else none:= λb=>by
  rw[ae];simp only[G.F];split
  ·rfl
  ·split<;>rfl
 have part:BE p m:=⟨pv,Nk,λb x B=>by
  rw[mf]at B;split at B
  ·exact B
  ·cases B⟩
 have KG:sq u p:= λb cs hb=>by obtain⟨w,aQ⟩:=df b cs hb;exact⟨w,by rw[mf,hb];exact aQ⟩
 refine(eu.frame part (h u p bz KG ag)).bt λeA U bV=> ?_;obtain⟨jV,⟨A,E,cE,ao,aS,bI⟩,bK⟩:=bV;refine⟨bK.next,λb hb=>⟨?_,λaj=>(bK.jd b hb (by rw[mf,aj];rfl)).2.2⟩,cE,ao,λb cs hb=> ?_,λb cs hb=> ?_,bI⟩
 ·cases aH:p.F b with
  |none=>exact(bK.jd b hb aH).1
  |some x=>rw[part.F b x aH];exact bK.part.F b x (by rw[E b (by rw[pv];exact hb),aH])
 ·obtain⟨w,aQ⟩:=aS b cs hb;exact⟨w,bK.part.F b _ aQ⟩
 ·by_cases dA:b<m.next
  ·left;obtain⟨w,aQ⟩:=aS b cs hb;cases aH:p.F b with
   |none=>rw[(bK.jd b dA aH).2.1]at aQ;cases aQ
   | some x=>
     rw[E b (by rw[pv];exact dA)]at aQ;rw[mf]at aQ;split at aQ
     ·next H=>
      cases qZ:u b with
      |none=>rw[qZ]at H;cases H
      | some nH=>obtain⟨w',kJ⟩:=df b nH qZ;rw[kJ]at aQ;cases aQ;rfl
     ·cases aQ
  ·exact .inr (by omega)
theorem avq{v bZ:Value}(h:cu u J v bZ)(bb:nf v=true):bZ=v:=by
 unfold nf at bb;split at bb
 ·obtain⟨ys,rfl,aA⟩:=h.tQ;rename_i cs;have:ys.toList=cs.toList:=by
   apply Bv
   ·exact aA.1.symm
   ·intro i A E;exact(aA.2 i _ _ (c6 E) (c6 A)).hB (ei.1 bb _ (kp E))
  rw[<-tc (xs:=ys),this]
 ·obtain⟨ys,rfl,aA⟩:=h.ET;rename_i cs;have:ys.toList=cs.toList:=by
   apply Bv
   ·exact aA.1.symm
   ·intro i A E;exact(aA.2 i _ _ (c6 E) (c6 A)).hB (ei.1 bb _ (kp E))
  rw[<-tc (xs:=ys),this]
 ·exact h.hB bb
open Classical in
theorem acg(H:ep J u t m){ay:List (bF P)}{f:Nat}{args bz:List Value}(ag:bM u J args bz){aR:Value->G->Prop}(h:zp ay f args t aR):
 eu P f bz m λeA U=>(∀b,b<m.next->U.F b=m.F b)/\ ∃cE r X,aR r X/\ep J cE X U/\cu cE J r eA/\e4 t.next m.next J u t m J cE X U:=by
 unfold zp at h;cases bE:Ef 9 t args with
 |none=>rw[bE]at h;exact h.elim
 | some ts=>
   rw[bE]at h;simp only at h;obtain⟨l,aA⟩: ∃l,l=args.flatMap (eC 9 t):=⟨_,rfl⟩;rw[<-aA]at h;have hX: ∃r,bP P f ts r/\aR r (if nf r then hW t l else uh t l):=by
    clear bE aA;induction ay with
    |nil=>exact h.elim
    | cons s ay cj=>
      simp only[ye]at h;split at h
      ·next e=>
       cases bb:s.fn ts with
       |none=>rw[bb]at h;exact h.elim
       |some r=>rw[bb]at h;exact⟨r,by have:=s.ok ts r bb;rw[e]at this;exact this,h⟩
      ·exact cj h
   obtain⟨r,ar,dH⟩:=hX;obtain⟨eo,KE⟩: ∃eo:fY,eo= λb=>match u b with
    |some cs=>some cs
    |none=>if∃o,o∈l/\J o=some b/\(t.F o).isSome=true then(m.F b).map (·.cells)else none:=⟨_,rfl⟩
   have ej:g7 u eo:= λb cs hb=>by rw[KE];simp[hb]
   have eD: ∀b cs,eo b=some cs->u b=some cs\/(∃o,o∈l/\J o=some b):= λb cs hb=>by
    rw[KE]at hb;simp only at hb;split at hb
    ·next A=>rw[A];exact .inl hb
    ·split at hb
     ·next A=>obtain⟨o,bB,cC,_⟩:=A;exact .inr ⟨o,bB,cC⟩
     ·cases hb
   have rO: ∀b cs,eo b=some cs->u b=some cs\/Jr J t b:= λb cs hb=>by
    rw[KE]at hb;simp only at hb;split at hb
    ·next A=>rw[A];exact .inl hb
    ·split at hb
     ·next A=>obtain⟨o,_,cC,dO⟩:=A;obtain⟨x,B⟩:=Ou.1 dO;exact .inr ⟨o,x,cC,B⟩
     ·cases hb
   have gg:sq eo m:= λb cs hb=>by
    rw[KE]at hb;simp only at hb;split at hb
    ·next A=>cases hb;exact(H.b0 b _ A).1
    ·split at hb
     ·cases aH:m.F b with
      |none=>rw[aH]at hb;cases hb
      |some x=>rw[aH]at hb;cases hb;exact⟨x.own,rfl⟩
     ·cases hb
   have lJ: ∀o∈l,(t.F o).isSome=true-> ∀b cs w,J o=some b->m.F b=some ⟨cs,w⟩->eo b=some cs:= λo aC fw b cs w cp aH=>by
    rw[KE];simp only;cases mz:u b with
    |some ds=>obtain⟨⟨w',kJ⟩,_⟩:=H.b0 b ds mz;rw[aH]at kJ;cases kJ;rfl
    |none=>simp only;rw[if_pos ⟨o,aC,cp,fw⟩,aH];rfl
   have WE:bM eo kY ts bz:=(by obtain⟨A,E⟩:=IE bE;refine⟨by rw[A,ag.1],λi x y B Z=> ?_⟩;obtain⟨jZ,hh,aU⟩:=E i x B;exact G4 H ej 9 (ag.2 i jZ y hh Z) aU λo aC=>lJ o (by rw[aA];exact wY.2 ⟨jZ,fX hh,aC⟩));refine(ar.aeq gg WE).bt λeA U bV=> ?_;obtain⟨aE,a5,cE,ch,dT,gj,ft⟩:=bV;refine⟨λb hb=>(a5 b hb).1,?_⟩;by_cases dV:nf r=true
   ·rw[if_pos dV]at dH;refine⟨u,r,_,dH,?_,by rw[avq ft dV];exact cu.nf dV,?_⟩
    ·refine⟨λo x B=> ?_,λo es aU=> ?_,λo aC=> ?_,H.inj,λo b h=>⟨(H.cU o b h).1,qE (H.cU o b h).2 aE⟩,λb cs hb=> ?_⟩
     ·rcases H.jc o x B with⟨b,cs,w,A,E,ao,aS⟩|A
      ·exact .inl ⟨b,cs,w,A,by rw[(a5 b (H.cU o b A).2).1,E],ao,aS⟩
      ·exact .inr A
     ·obtain⟨aG,aN⟩:=ji aU;have xB:o∉l:= λal=>by simp[hW,al]at aN
      have ct:t.mp o=some es:=(by simpa[hW,xB]using aN);obtain⟨b,de,A,E,ao⟩:=H.maps o es (kT aG ct);refine⟨b,de,A,?_,ao⟩;obtain⟨aS,bI⟩:=ji E;have hb:=(H.cU o b A).2;have mz:eo b=none:=by
       cases bg:eo b with
       |none=>rfl
       | some cs=>
         rcases eD b cs bg with cZ|⟨o',cZ,eg⟩
         ·have:=(H.b0 b cs cZ).2 o _ A aG;cases this
         ·rw[H.inj o' o b eg A]at cZ;exact absurd cZ xB
      exact kT (by rw[(a5 b hb).1];exact aS) (by rw[(a5 b hb).2 mz];exact bI)
     ·show(if o∈l then none else t.mp o)=none;rw[H.jA o aC];simp
     ·obtain⟨⟨w,A⟩,E⟩:=H.b0 b cs hb;exact⟨⟨w,by rw[(a5 b (aF A)).1,A]⟩,E⟩
    ·exact⟨fN.refl _,g7.refl _,λ_ _ h=> .inl h,λ_ _ h=> .inl h,c8 _,aE,λb hb _=>(a5 b hb).1,λb hb aQ=>aQ,λb hb aQ=>aQ⟩
   ·rw[if_neg dV]at dH;have Wv:=ej.trans ch;refine⟨cE,r,_,dH,?_,ft.bt (g7.refl _) (fN.nil _),?_⟩
    ·refine⟨λo x B=> ?_,λo es aU=> ?_,λo aC=> ?_,H.inj,λo b h=>⟨by rw[adY];exact(H.cU o b h).1,qE (H.cU o b h).2 aE⟩,λb cs hb=> ?_⟩
     ·obtain⟨y,Z,aG,aN,_⟩:=I1 l t o x B;rcases H.jc o y Z with⟨b,cs,w,A,E,ao,aS⟩|⟨A,E⟩
      ·exact .inl ⟨b,cs,w,A,by rw[(a5 b (H.cU o b A).2).1,E],λh=>ao (aN h),by rw[aG];exact aS.bt Wv (fN.refl _)⟩
      ·exact .inr ⟨A,by rw[aG,E]⟩
     ·obtain⟨aG,aN⟩:=ji aU;obtain⟨y,Z,ct,gC,mx⟩:=I1 l t o _ aG;have xB:o∉l:= λal=>by have:=mx al;cases this
      have y2:y=⟨[],true⟩:=(by obtain⟨a,b⟩:=y;simp at ct gC;simp[ct,gC]);subst y2;rw[adX]at aN;obtain⟨b,de,A,E,ao⟩:=H.maps o es (kT Z aN);refine⟨b,de,A,?_,ao.bt Wv (fN.refl _)⟩;obtain⟨aS,bI⟩:=ji E;have hb:=(H.cU o b A).2;have mz:eo b=none:=by
       cases bg:eo b with
       |none=>rfl
       | some cs=>
         rcases eD b cs bg with cZ|⟨o',cZ,eg⟩
         ·have:=(H.b0 b cs cZ).2 o _ A Z;cases this
         ·rw[H.inj o' o b eg A]at cZ;exact absurd cZ xB
      exact kT (by rw[(a5 b hb).1];exact aS) (by rw[(a5 b hb).2 mz];exact bI)
     ·rw[adX];exact H.jA o aC
     ·refine⟨dT b cs hb,λo x cp B=> ?_⟩;obtain⟨y,Z,aG,aN,ct⟩:=I1 l t o x B;have iL:=(H.cU o b cp).2;rcases gj b cs hb with cZ|cZ
      ·rcases eD b cs cZ with eg|⟨o',eg,hf⟩
       ·have jj:=(H.b0 b cs eg).2 o y cp Z;cases hh:x.own with
        |false=>rfl
        |true=>rw[aN hh]at jj;cases jj
       ·rw[H.inj o' o b hf cp]at eg;exact ct eg
      ·omega
    ·refine⟨fN.refl _,Wv,λ_ _ h=> .inl h,λb cs hb=> ?_,by rw[adY];exact c8 _,aE,λb hb _=>(a5 b hb).1,λb hb aQ=> ?_,λb hb aQ=> ?_⟩
     ·rcases gj b cs hb with cZ|cZ
      ·rcases rO b cs cZ with eg|eg
       ·exact .inl eg
       ·exact .inr (.inr eg)
      ·exact .inr (.inl cZ)
     ·obtain⟨o,x,A,E,ao⟩:=aQ;obtain⟨y,Z,aG,aN,ct⟩:=I1 l t o x E;exact⟨o,y,A,Z,aN ao⟩
     ·obtain⟨o,x,A,E⟩:=aQ;obtain⟨y,Z,aG,aN,ct⟩:=I1 l t o x E;exact⟨o,y,A,Z⟩
end
section
variable {t bd:G} {l:List Nat}
@[simp] theorem agG:(lI t l).next=t.next:=rfl
theorem agF{b:Nat}(h:b∈l):(lI t l).F b=none:=by simp[lI,G.F,h]
theorem J6{b:Nat}(h:b∉l):(lI t l).F b=t.F b:=by simp[lI,G.F,h]
theorem D7{b:Nat}{x:en}(h:(lI t l).F b=some x):b∉l/\t.F b=some x:=by
 by_cases hb:b∈l
 ·rw[agF hb]at h;cases h
 ·rw[J6 hb]at h;exact⟨hb,h⟩
theorem auB{b:Nat}(h:b∉l):(lI t l).fC b=t.fC b:=by have A:(lI t l).F b=t.F b:=J6 h;unfold G.fC;rw[A];rfl
theorem anU{b:Nat}(h:b∈l)(aj:t.next<=bd.next)(hb:b<t.next):(lO t bd l).F b=t.F b:=by
 have:b<bd.next:=by omega
 simp[lO,G.F,h,hb,this]
theorem Fs{b:Nat}(h:b∉l):(lO t bd l).F b=bd.F b:=by simp[lO,G.F,h]
theorem aCJ{b:Nat}(h:b∉l):(lO t bd l).fC b=bd.fC b:=by have A:(lO t bd l).F b=bd.F b:=Fs h;unfold G.fC;rw[A];rfl
end
section
variable {P:Program} {J:e3} {u:fY} {t m:G} {z K:aD}
theorem an2(H:ep J u t m)(b4:hF u J z K){bc:List (Operand×Operand)}(ag:bc.all (λp=>di p.1&&di p.2)=true){U:G}(O: ∀b,b<m.next->U.F b=m.F b):vd K bc m U:=by
 intro p ae b hb;simp only[ei]at ag;have E:=ag p ae;simp only[a7]at E;have M:=b4.S E.1;generalize S z p.1=a at M;generalize S K p.1=ev at M hb;cases M with
 | c4 h=>unfold aa at hb;split at hb<;>simp[ew]at h hb
 |bC cp=>simp[aa]at hb;subst hb;exact O _ (H.cU _ _ cp).2
 |slice cp=>simp[aa]at hb;subst hb;exact O _ (H.cU _ _ cp).2
 |map cp=>simp[aa]at hb;subst hb;exact O _ (H.cU _ _ cp).2
 |jH e df=>simp[aa]at hb;subst hb;obtain⟨⟨w,ao⟩,_⟩:=H.b0 _ _ df;exact O _ (aF ao)
 |fx e df=>simp[aa]at hb;subst hb;obtain⟨⟨w,ao⟩,_⟩:=H.b0 _ _ df;exact O _ (aF ao)
 |_=>simp[aa]at hb
theorem ahi{f:Nat}{args bz:List Value}{bu:Value->G->Prop}{l:List Nat}(aA: ∀o∈l,∃x,t.F o=some x/\x.cells≠[])(h:fg P f args (lI t l) bu)(H:ep J u t m)(ag:bM u J args bz):
 eu P f bz m λeA bn=>(∀o∈l,∀b,J o=some b->bn.F b=m.F b)/\ ∃cW eo r bd,bu r bd/\ep cW eo (lO t bd l) bn/\cu eo cW r eA/\e4 t.next m.next J u t m cW eo (lO t bd l) bn:=by
 have Ld:ep J u (lI t l) m:=⟨λo x B=>H.jc o x (D7 B).2,λo es aU=>by have hb:=(D7 (ji aU).1).1;rw[auB hb]at aU;exact H.maps o es aU,H.jA,H.inj,H.cU,λb cs hb=>⟨(H.b0 b cs hb).1,λo x cp B=>(H.b0 b cs hb).2 o x cp (D7 B).2⟩⟩;refine(h J u bz m Ld ag).bt λeA bn bV=> ?_;obtain⟨cW,eo,r,bd,A,E,ao,aS⟩:=bV;have aj:t.next<=bd.next:=aS.lk
 have ix: ∀o∈l,∃x b cs w,t.F o=some x/\x.cells≠[]/\J o=some b/\m.F b=some ⟨cs,w⟩/\(x.own=true->w=true)/\bM u J x.cells cs:= λo aC=>by
  obtain⟨x,B,av⟩:=aA o aC;rcases H.jc o x B with⟨b,cs,w,br,bQ,a3,a4⟩|⟨_,bQ⟩
  ·exact⟨x,b,cs,w,B,av,br,bQ,a3,a4⟩
  ·exact absurd bQ av
 have abK: ∀o∈l,∀b,J o=some b-> ¬Jr J (lI t l) b:= λo aC b hb ⟨p,x,ae,B⟩=>by have:=H.inj p o b ae hb;subst this;rw[agF aC]at B;cases B
 have an3: ∀o∈l,∀b,J o=some b->bn.F b=m.F b:= λo aC b cp=>aS.dg b (H.cU o b cp).2 λ⟨p,I,a9,bW,_⟩=>abK o aC b cp ⟨p,I,a9,bW⟩;have aPC: ∀o∈l,bd.F o=none:= λo aC=>by
  obtain⟨x,b,cs,w,br,bQ,a3,a4,fz,jh⟩:=ix o aC;cases aH:bd.F o with
  |none=>rfl
  |some y=>exact absurd (aS.tn b (H.cU o b a3).2 ⟨o,y,aS.e o b a3,aH⟩) (abK o aC b a3)
 have Ku: ∀o∈l,(lO t bd l).F o=t.F o:= λo aC=>by obtain⟨x,b,cs,w,br,_⟩:=ix o aC;exact anU aC aj (aF br)
 refine⟨an3,cW,eo,r,bd,A,?_,ao,?_⟩
 ·refine⟨λo x B=> ?_,λo es aU=> ?_,E.jA,E.inj,E.cU,λb cs hb=>⟨(E.b0 b cs hb).1,λo x cp B=> ?_⟩⟩
  ·by_cases aC:o∈l
   ·rw[Ku o aC]at B;obtain⟨y,b,cs,w,br,bQ,a3,a4,fz,jh⟩:=ix o aC;rw[br]at B;cases B;exact .inl ⟨b,cs,w,aS.e o b a3,by rw[an3 o aC b a3];exact a4,fz,jh.bt aS.f aS.e⟩
   ·rw[Fs aC]at B;exact E.jc o x B
  ·by_cases aC:o∈l
   ·have:=(ji aU).1;rw[Ku o aC]at this;obtain⟨y,Z,av⟩:=aA o aC;rw[Z]at this;cases this;exact absurd rfl av
   ·rw[aCJ aC]at aU;exact E.maps o es aU
  ·by_cases aC:o∈l
   ·rw[Ku o aC]at B;obtain⟨y,cB,nH,w,br,bQ,a3,a4,fz,jh⟩:=ix o aC;have iL:=aS.e o cB a3;rw[cp]at iL;cases iL;rcases aS.fn b cs hb with q|q|q
    ·exact(H.b0 b cs q).2 o x a3 B
    ·have:=(H.cU o b a3).2;omega
    ·exact absurd q (abK o aC b a3)
   ·rw[Fs aC]at B;exact(E.b0 b cs hb).2 o x cp B
 ·refine⟨aS.e,aS.f,aS.la,λb cs hb=> ?_,aj,aS.lR,λb hb aQ=>aS.dg b hb λ⟨p,I,a9,bW,cA⟩=>aQ ⟨p,I,a9,(D7 bW).2,cA⟩,λb hb ⟨o,x,a9,bW,cA⟩=> ?_,λb hb ⟨o,x,a9,bW⟩=> ?_⟩
  ·rcases aS.fn b cs hb with q|q|⟨p,I,a9,bW⟩
   ·exact .inl q
   ·exact .inr (.inl q)
   ·exact .inr (.inr ⟨p,I,a9,(D7 bW).2⟩)
  ·by_cases aC:o∈l
   ·obtain⟨y,cB,nH,w,br,bQ,a3,_⟩:=ix o aC;have iL:=aS.e o cB a3;rw[a9]at iL;cases iL;rw[Ku o aC]at bW;exact⟨o,x,a3,bW,cA⟩
   ·rw[Fs aC]at bW;obtain⟨p,I,eK,gp,kZ⟩:=aS.sg b hb ⟨o,x,a9,bW,cA⟩;exact⟨p,I,eK,(D7 gp).2,kZ⟩
  ·by_cases aC:o∈l
   ·obtain⟨y,cB,nH,w,br,bQ,a3,_⟩:=ix o aC;have iL:=aS.e o cB a3;rw[a9]at iL;cases iL;rw[Ku o aC]at bW;exact⟨o,x,a3,bW⟩
   ·rw[Fs aC]at bW;obtain⟨p,I,eK,gp⟩:=aS.tn b hb ⟨o,x,a9,bW⟩;exact⟨p,I,eK,(D7 gp).2⟩
theorem Tc(H:ep J u t m)(b4:hF u J z K){bc:List (Operand×Operand)}(ag:bc.all (λp=>di p.1&&di p.2)=true){U:G}(O: ∀b,b<m.next-> ¬OK J t b->U.F b=m.F b)(B: ∀o∈nr z t bc,∀b,J o=some b->U.F b=m.F b):vd K bc m U:=by
 intro p ae b hb;simp only[ei]at ag;have E:=ag p ae;simp only[a7]at E;have M:=b4.S E.1;have A: ∀o,aa (S z p.1)=some o->C2 t o=true->o∈nr z t bc:=by
  clear B hb M E ag;induction bc with
  |nil=>cases ae
  | cons q l cj=>
    intro o aC aQ;unfold nr;rcases hv.1 ae with rfl|ae
    ·rw[aC];simp only;rw[if_pos aQ];exact List.mem_cons_self
    ·have:=cj ae o aC aQ;split
     ·split
      ·exact Gx _ this
      ·exact this
     ·exact this
 generalize S z p.1=a at M A;generalize S K p.1=ev at M hb;have key: ∀o,aa a=some o->J o=some b->U.F b=m.F b:= λo aC cp=>by
  cases aQ:C2 t o with
  |true=>exact B o (A o aC aQ) b cp
  | false=>refine O b (H.cU o b cp).2 λ⟨o',x,aG,aN,ct⟩=> ?_;rw[H.inj o' o b aG cp]at aN;simp[C2,aN,ct]at aQ
 have an5: ∀cs,u b=some cs->U.F b=m.F b:= λcs df=>by obtain⟨⟨w,ao⟩,aS⟩:=H.b0 b cs df;exact O b (aF ao) λ⟨o',x,aG,aN,ct⟩=>by rw[aS o' x aG aN]at ct;cases ct
 cases M with
 | c4 h=>unfold aa at hb;split at hb<;>simp[ew]at h hb
 |bC cp=>simp[aa]at hb;subst hb;exact key _ rfl cp
 |slice cp=>simp[aa]at hb;subst hb;exact key _ rfl cp
 |map cp=>simp[aa]at hb;subst hb;exact key _ rfl cp
 |jH e df=>simp[aa]at hb;subst hb;exact an5 _ df
 |fx e df=>simp[aa]at hb;subst hb;exact an5 _ df
 |_=>simp[aa]at hb
end
section
variable {P:Program} {u:fY} {J:e3} {t m:G} {z K:aD}
theorem agh(H:ep J u t m)(b4:hF u J z K){bc:List (Operand×Operand)}(hA:bc.all (λp=>di p.1&&di p.2)=true){ay:mq P}{f:Nat}{args bz:List Value}(ag:bM u J args bz){aR:Value->G->Prop}(h:xe ay f args t (nr z t bc) aR):
 eu P f bz m λeA U=>vd K bc m U/\ ∃cV cE r X,aR r X/\ep cV cE X U/\cu cE cV r eA/\e4 t.next m.next J u t m cV cE X U:=by
 unfold xe at h;split at h
 ·refine(acg H ag h).bt λeA U bV=> ?_;obtain⟨A,cE,r,X,E,ao,aS,bI⟩:=bV;exact⟨an2 H b4 hA A,J,cE,r,X,E,ao,aS,bI⟩
 ·cases jx:nr z t bc with
  | nil=>
    rw[jx]at h;simp only[BO]at h;have E:fg P f args t aR:=by
     split at h
     ·exact aqY h
     ·exact h
    refine(E J u bz m H ag).bt λeA U bV=> ?_;obtain⟨cV,cE,r,X,E,ao,aS,bI⟩:=bV;exact⟨Tc H b4 hA bI.dg (by rw[jx];nofun),cV,cE,r,X,E,ao,aS,bI⟩
  | cons o l=>
    rw[jx]at h;simp only[BO]at h;have Xa: ∀p∈o::l,∃x,t.F p=some x/\x.cells≠[]:= λp ae=>by
     have:=ei.1 h.1 p ae;unfold TA at this;split at this
     ·next x B=>exact⟨x,B,λe=>by rw[e]at this;simp at this⟩
     ·cases this
    have E:fg P f args (lI t (o::l)) λr bd=>aR r (lO t bd (o::l)):=by
     have ao:=h.2;split at ao
     ·exact aqY ao
     ·exact ao
    refine(ahi Xa E H ag).bt λeA U bV=> ?_;obtain⟨bB,cV,cE,nX,X,O,ao,aS,bI⟩:=bV;exact⟨Tc H b4 hA bI.dg (by rw[jx];exact bB),cV,cE,nX,_,O,ao,aS,bI⟩
def BB(J:e3)(u:fY)(t m:G)(base hi:Nat)(ops:List cS):Prop:= ∀o∈ops,o.k.fD=true->tk J u t m (base+o.aY) (hi+o.aY)
theorem nodup_cons{o:cS}{ops:List cS}(h:zf ((o::ops).map (·.aY))=true):(∀p∈ops,p.aY≠o.aY)/\zf (ops.map (·.aY))=true:=by simp only[lW,zf,a7]at h;refine⟨λp ae e=> ?_,h.2⟩;have A:=h.1;simp at A;exact A p ae e
theorem UM{ay:mq P}{base hi:Nat}: ∀{ops:List cS} {J:e3} {u:fY} {t m:G} {z K:aD} {aR:aD->G->Prop},ops.all M6=true->zf (ops.map (·.aY))=true->ep J u t m->hF u J z K->BB J u t m base hi ops->base<=t.next->hi<=m.next->
 dn ay base ops z t aR->fG P hi ops K m λk6 U=> ∃cV cE bT X,aR bT X/\ep cV cE X U/\hF cE cV bT k6/\e4 base hi J u t m cV cE X U
 | [],J,u,t,m,z,K,aR,_,_,H,b4,_,_,_,h=>by rw[aeN];exact⟨J,u,z,t,h,H,b4,e4.refl⟩
 | o::ops,J,u,t,m,z,K,aR,ax,eM,H,b4,kv,hb,q3,h=>by
   obtain⟨aY,d,g,k,bc⟩:=o;simp only[m9,a7]at ax;obtain⟨bx,Ez⟩:=nodup_cons eM;have yX:=ax.1;simp only[M6,a7]at yX;have skip: ∀{g:Option (Nat×Bool)},dn ay base ops (c0 z d undef) t aR->fG P hi ops (c0 K d undef) m λk6 U=> ∃cV cE bT X,aR bT X/\ep cV cE X U/\hF cE cV bT k6/\e4 base hi J u t m cV cE X U:= λh=>
    UM ax.2 Ez H (b4.aK cu.undef) (λo aC ag=>kv o (by simp[aC]) ag) hb q3 h
   have AR:kc ay base ⟨aY,d,g,k,bc⟩ z t (λz t=>dn ay base ops z t aR)->fG P hi (⟨aY,d,none,k,bc⟩::ops) K m λk6 U=> ∃cV cE bT X,aR bT X/\ep cV cE X U/\hF cE cV bT k6/\e4 base hi J u t m cV cE X U:= λh=>by
    have after: ∀{eA:Value} {bn:G},(vd K bc m bn/\ ∃cV cE r X,(dn ay base ops (c0 z d r) X aR)/\ep cV cE X bn/\cu cE cV r eA/\e4 t.next m.next J u t m cV cE X bn)->
     xd P hi d bc ops K m (λk6 U=> ∃cV cE bT X,aR bT X/\ep cV cE X U/\hF cE cV bT k6/\e4 base hi J u t m cV cE X U) eA bn:= λ{eA bn} ⟨O,cW,eo,r,bd,A,E,ao,aS⟩=>by
     refine⟨O,?_⟩;have EO:hF eo cW (c0 z d r) (c0 K d eA):=(b4.bt aS.f aS.e).aK ao;have Et:BB cW eo bd bn base hi ops:= λo aC ag=>by
      have aj:=kv o (by simp[aC]) ag;refine⟨?_,λo' jk=> ?_,?_,qE aj.uj aS.lk,qE aj.tZ aS.lR⟩
      ·cases aU:cW (base+o.aY)with
       |none=>rfl
       | some b=>
         rcases aS.la _ _ aU with bI|⟨bI,_⟩
         ·rw[aj.e]at bI;cases bI
         ·have:=aj.uj;omega
      ·rcases aS.la _ _ jk with bI|⟨_,bI⟩
       ·exact aj.b _ bI
       ·have:=aj.tZ;omega
      ·cases aU:eo (hi+o.aY)with
       |none=>rfl
       | some cs=>
         rcases aS.fn _ _ aU with bI|bI|⟨o',_,bI,_⟩
         ·rw[aj.f]at bI;cases bI
         ·have:=aj.tZ;omega
         ·exact absurd bI (aj.b o')
     have cj:=UM ax.2 Ez E EO Et (mR hb aS.lk) (mR q3 aS.lR) A;obtain⟨n,aT,cK,jl,gF,kg,c2,dR,a9,bW,cA,fV⟩:=cj;exact⟨n,aT,cK,jl,gF,kg,c2,dR,a9,bW,cA,(aS.wV hb q3).trans fV⟩
    have ab4: ∀{k:an},k.lx=false->AU k=true->(k.fD=true->tk J u t m (base+aY) (hi+aY))->(k.js z t=true/\iZ z t bc=true/\dn ay base ops (c0 z d (k.jY (base+aY) z t)) (k.pn (base+aY) z t) aR)->
     fG P hi (⟨aY,d,none,k,bc⟩::ops) K m λk6 U=> ∃cV cE bT X,aR bT X/\ep cV cE X U/\hF cE cV bT k6/\e4 base hi J u t m cV cE X U:= λ{k} av O aj h=>by
     rw[nA av];obtain⟨A,cW,q⟩:=apa (ht:=base) (hU:=hi) (id:=base+aY) (mid:=hi+aY) H b4 av O h.1 aj (by omega) (by omega);refine⟨A,agx H b4 yX.2 h.2.1,?_⟩;have EO:hF u cW (c0 z d (k.jY (base+aY) z t)) (c0 K d (k.val (hi+aY) K m)):=(b4.bt q.b0.f q.b0.e).aK q.val;have Et:BB cW u (k.pn (base+aY) z t) (k.hr (hi+aY) K m) base hi ops:= λo aC ag=>by
      have aj:=kv o (by simp[aC]) ag;have B:=bx o aC;simp only at B;refine⟨by rw[q.Nf _ (by omega)];exact aj.e,λo' jk=> ?_,aj.f,qE aj.uj q.b0.lk,qE aj.tZ q.b0.lR⟩;by_cases e:o'=base+aY
      ·subst e;rcases q.self with bI|bI
       ·rw[bI]at jk;exact aj.b _ jk
       ·rw[bI]at jk;simp only[mP]at jk;omega
      ·rw[q.Nf _ e]at jk;exact aj.b _ jk
     have cj:=UM ax.2 Ez q.Uv EO Et (mR hb q.b0.lk) (mR q3 q.b0.lR) h.2.2;obtain⟨n,aT,cK,jl,gF,kg,c2,dR,a9,bW,cA,fV⟩:=cj;exact⟨n,aT,cK,jl,gF,kg,c2,dR,a9,bW,cA,q.b0.trans fV⟩
    have sH:=kv ⟨aY,d,g,k,bc⟩ (by simp);have xy:=yX.1;have b2:=xy;simp only[AU,a7]at b2;cases k with
    | l2 f bz=>rw[aeL];exact(agh H b4 yX.2 (b4.B0 b2.1) h).bt λeA bn bV=>after bV
    | nc x bz=>
      simp only[kc,JZ]at h;simp only[an.h0,m9,a7]at b2;split at h
      ·next f first ks B=>have M:=b4.S b2.1.1;rw[B]at M;obtain⟨ys,ds,e,hS,jn⟩:=M.ES;rw[aeM e];exact(agh H b4 yX.2 ((hS.p8 (b4.B0 b2.1.2)).p8 jn) h).bt λeA bn bV=>after bV
      ·exact h.elim
    |mE=>exact h.elim
    |_=>exact ab4 rfl xy sH h
   simp only[dn]at h;cases g with
   |none=>exact AR (by simpa[e9]using h)
   | some g=>
     obtain⟨j,b⟩:=g;rw[US,aez b4];split at h
     ·next aQ=>rw[if_pos aQ];exact AR h
     ·next aQ=>rw[if_neg aQ];exact skip (g:=none) h
theorem OY(H:ep J u t m)(k:Nat):ep J u (t.bU k) (m.bU k) where
 jc o x B:=by
  by_cases h:o<t.next
  ·rw[cl h]at B;rcases H.jc o x B with⟨b,cs,w,A,E,ao⟩|A
   ·exact .inl ⟨b,cs,w,A,by rw[cl (aF E),E],ao⟩
   ·exact .inr A
  ·simp[G.F,G.bU,h]at B
 maps o es aU:=by
  by_cases h:o<t.next
  ·rw[Wf h]at aU;obtain⟨b,de,A,E,ao⟩:=H.maps o es aU;exact⟨b,de,A,by rw[Wf (H.cU o b A).2,E],ao⟩
  ·have:=(ji aU).1;simp[G.F,G.bU,h]at this
 jA:=H.jA
 inj:=H.inj
 cU o b h:=by have:=H.cU o b h;simp only[fq];omega
 b0 b cs h:=by obtain⟨⟨w,A⟩,E⟩:=H.b0 b cs h;refine⟨⟨w,by rw[cl (aF A),A]⟩,λo x cp B=> ?_⟩;rw[cl (H.cU o b cp).1]at B;exact E o x cp B
theorem JT(H:ep J u t m)(k:Nat):e4 t.next m.next J u t m J u (t.bU k) (m.bU k) where
 e:=fN.refl _
 f:=g7.refl _
 la o b h:= .inl h
 fn b cs h:= .inl h
 lk:=by simp
 lR:=by simp
 dg b hb _:=cl hb
 sg b hb:= λ⟨o,x,A,E,ao⟩=>⟨o,x,A,by rw[cl (H.cU o b A).1]at E;exact E,ao⟩
 tn b hb:= λ⟨o,x,A,E⟩=>⟨o,x,A,by rw[cl (H.cU o b A).1]at E;exact E⟩
theorem aGc{ay:mq P}{ops:List cS}(ax:pr (.kN ops)=true)(H:ep J u t m)(b4:hF u J z K){aR:aD->G->Prop}(h:dn ay t.next ops z (h9 ops t) aR):
 fG P m.next ops K (h9 ops m) λk6 U=> ∃cV cE bT X,aR bT X/\ep cV cE X U/\hF cE cV bT k6/\e4 t.next m.next J u t m cV cE X U:=by
 simp only[pr,a7]at ax;have mD:ep J u (h9 ops t) (h9 ops m):=by
  unfold h9;split
  ·exact OY H _
  ·exact H
 have v8:e4 t.next m.next J u t m J u (h9 ops t) (h9 ops m):=by
  unfold h9;split
  ·exact JT H _
  ·exact e4.refl
 have yO:BB J u (h9 ops t) (h9 ops m) t.next m.next ops:= λo aC ag=>by
  have KV:(ops.any λo=>o.k.fD)=true:=Jj.2 ⟨o,aC,ag⟩;have tI:o.aY<ops.length:=(by simpa using ei.1 ax.2 o aC);refine⟨?_,λo' jk=> ?_,?_,by simp[h9,KV,tI],by simp[h9,KV,tI]⟩
  ·cases aU:J (t.next+o.aY)with
   |none=>rfl
   |some b=>have:=(H.cU _ _ aU).1;omega
  ·have:=(H.cU _ _ jk).2;omega
  ·cases aU:u (m.next+o.aY)with
   |none=>rfl
   |some cs=>obtain⟨⟨w,A⟩,_⟩:=H.b0 _ _ aU;have:=aF A;omega
 have:=UM ax.1.1 ax.1.2 mD b4 yO v8.lk v8.lR h;obtain⟨n,aT,cK,jl,gF,kg,c2,dR,a9,bW,cA,fV⟩:=this;exact⟨n,aT,cK,jl,gF,kg,c2,dR,a9,bW,cA,v8.trans fV⟩
theorem Gk{ay:mq P}: ∀{c:aB} {z:aD} {t:G} {Q:cO->aD->G->Prop},iK ay c z t Q->ee P c z t Q
 | .skip,z,t,Q,h=> λ_ J u K m H b4=>by rw[aeK];exact⟨J,u,z,t,h,H,b4,e4.refl⟩
 | .cF id,z,t,Q,h=> λ_ J u K m H b4=>by rw[aeH];exact⟨J,u,z,t,h,H,b4,e4.refl⟩
 | .fi,z,t,Q,h=> λ_ J u K m H b4=>by rw[aeJ];exact⟨J,u,z,t,h,H,b4,e4.refl⟩
 | .kN ops,z,t,Q,h=> λax J u K m H b4=>by rw[aeI];exact aGc ax H b4 h
 | .ve _ _ _,_,_,_,h=>h.elim
 | .kB a b,z,t,Q,h=> λax J u K m H b4=>by
   simp only[pr,a7]at ax;rw[UQ];refine(Gk (c:=a) h ax.1 J u K m H b4).bt λe aT bn bV=> ?_;obtain⟨cW,eo,bT,bd,A,E,ao,aS⟩:=bV;cases e with
   | eR=>rw[N2];refine(Gk (c:=b) A ax.2 cW eo aT bn E ao).bt λe bY cK bV=> ?_;obtain⟨gF,kg,c2,dR,aE,a5,ch,dT⟩:=bV;exact⟨gF,kg,c2,dR,aE,a5,ch,aS.trans (dT.wV aS.lk aS.lR)⟩
   |cF id=>exact⟨cW,eo,bT,bd,A,E,ao,aS⟩
   |fi=>exact⟨cW,eo,bT,bd,A,E,ao,aS⟩
 | .nG c a b,z,t,Q,h=> λax J u K m H b4=>by
   simp only[pr,a7]at ax;rw[UP];have e:=anJ (b4.S ax.1.1) h.1;rw[e];refine⟨h.1,?_⟩;have E:=h.2;split at E
   ·next av=>rw[if_pos av];exact Gk (c:=a) E ax.1.2 J u K m H b4
   ·next av=>rw[if_neg av];exact Gk (c:=b) E ax.2 J u K m H b4
 | .block id c,z,t,Q,h=> λax J u K m H b4=>by
   rw[Od];refine(Gk (c:=c) h ax J u K m H b4).bt λe aT bn bV=> ?_;obtain⟨cW,eo,bT,bd,A,E⟩:=bV;cases e with
   |eR=>exact⟨cW,eo,bT,bd,A,E⟩
   |fi=>exact⟨cW,eo,bT,bd,A,E⟩
   | cF kl=>
     rw[GO];simp only at A;split at A
     ·next e=>rw[if_pos e];exact⟨cW,eo,bT,bd,A,E⟩
     ·next e=>rw[if_neg e];exact⟨cW,eo,bT,bd,A,E⟩
 | .loop c,z,t,Q,h=>h
theorem ee.bt{c:aB}{Q BF:cO->aD->G->Prop}(h:ee P c z t Q)(bg: ∀e z t,Q e z t->BF e z t):ee P c z t BF:= λax J u K m H b4=>(h ax J u K m H b4).bt λe aT bn bV=>by obtain⟨cW,eo,bT,bd,A,E⟩:=bV;exact⟨cW,eo,bT,bd,bg _ _ _ A,E⟩
theorem fg.bt{f:Nat}{args:List Value}{bu uy:Value->G->Prop}(h:fg P f args t bu)(bg: ∀r t,bu r t->uy r t):fg P f args t uy:= λJ u bz m H ag=>(h J u bz m H ag).bt λeA bn bV=>by obtain⟨cW,eo,r,bd,A,E⟩:=bV;exact⟨cW,eo,r,bd,bg _ _ A,E⟩
theorem eS{ay:mq P}{c:aB}{Q:cO->aD->G->Prop}(h: ∀bO:aD->G->Prop,(∀K X,ee P (.loop c) K X Q->bO K X)->iK ay c z t (sS bO Q)):ee P (.loop c) z t Q:= λax J u K m H b4=>by
 rw[ar2];refine(Gk (h (λK X=>ee P (.loop c) K X Q) (λ_ _ h=>h)) ax J u K m H b4).bt λe aT bn bV=> ?_;obtain⟨cW,eo,bT,bd,A,E,ao,aS⟩:=bV;cases e with
 | eR=>rw[aog];refine(A ax cW eo aT bn E ao).bt λe bY cK bV=> ?_;obtain⟨gF,kg,c2,dR,aE,a5,ch,dT⟩:=bV;exact⟨gF,kg,c2,dR,aE,a5,ch,aS.trans (dT.wV aS.lk aS.lR)⟩
 |cF id=>exact⟨cW,eo,bT,bd,A,E,ao,aS⟩
 |fi=>exact⟨cW,eo,bT,bd,A,E,ao,aS⟩
def A2(cH:List ln)(bu:Value->G->Prop)(e:cO)(z:aD)(t:G):Prop:=match e with| .cF _=>False|_=>mL t z cH=true/\bu (m3 t z cH) t
theorem acC(H:ep J u t m)(b4:hF u J z K){r:ln}(h:r6 t z r=true):r6 m K r=true/\cu u J (sZ t z r) (sZ m K r):=by
 cases r with
 |bL x=>exact⟨rfl,b4 x⟩
 | hy x dE n=>
   simp only[r6,a7]at h⊢;have pU:oV (z x)=false:=by have A:=h.1;cases B:z x<;>simp[B,g2]at A<;>rfl
   have A:sv t (z x) n=true:=(by rw[sv,pU];exact h.1);refine⟨⟨JF H (b4 x) A,h.2⟩,?_⟩;have:=abm H (b4 x) A h.2;rw[AP,pU]at this;exact this
theorem acE(H:ep J u t m)(b4:hF u J z K){cH:List ln}(h:mL t z cH=true):mL m K cH=true/\cu u J (m3 t z cH) (m3 m K cH):=by
 simp only[mL,ei]at h⊢;refine⟨λr ar=>(acC H b4 (h r ar)).1,?_⟩;have aA:bM u J (cH.map (sZ t z)) (cH.map (sZ m K)):=bM.Io _ _ _ λr ar=>(acC H b4 (h r ar)).2;unfold m3;split
 ·exact(acC H b4 (h _ (by simp))).2
 ·exact aA.tuple
theorem c3{ay:mq P}{f:Nat}{Fn:ca}(df:cm P f=some Fn)(ax:pr Fn.body=true){args:List Value}(aA:args.length<=Fn.da){bu:Value->G->Prop}(h:iK ay Fn.body (ij args) t (A2 Fn.j5 bu)):fg P f args t bu:= λJ u bz m H ag=>by
 rw[nz df (by rw[<-ag.1];exact aA)];refine(Gk h ax J u (ij bz) m H (hF.init ag)).bt λe aT bn bV=> ?_;obtain⟨cW,eo,bT,bd,A,E,ao,aS⟩:=bV;cases e with
 |cF id=>exact A.elim
 |eR=>obtain⟨a,b⟩:=acE E ao A.1;exact⟨a,cW,eo,_,bd,A.2,E,b,aS⟩
 |fi=>obtain⟨a,b⟩:=acE E ao A.1;exact⟨a,cW,eo,_,bd,A.2,E,b,aS⟩
def fE:G:=⟨0,λ_=>none,λ_=>none⟩
theorem abx(o:Nat):fE.F o=none:=by simp[fE,G.F]
theorem adZ(df:sq u m):ep kY u fE m where
 jc o x B:=by rw[abx]at B;cases B
 maps o es aU:=by have:=(ji aU).1;rw[abx]at this;cases this
 jA o _:=rfl
 inj o o' b h:=by cases h
 cU o b h:=by cases h
 b0 b cs h:=⟨df b cs h,λo x cp=>by cases cp⟩
open Classical in
theorem dJ{f:Nat}{args:List Value}{r:Value}(h:fg P f args fE λv t=>dx 9 t v=some r):bP P f args r:= λu m bz df ag=>by
 refine(h kY u bz m (adZ df) ag).bt λeA U bV=> ?_;obtain⟨cV,cE,v,X,A,E,ao,aS⟩:=bV;refine⟨aS.lR,(λb hb=>aS.dg b hb λ⟨o,x,e,_⟩=>by cases e),(λb=>match cE b with
  |some cs=>some cs
  |none=>if∃o,cV o=some b then(U.F b).map (·.cells)else none),λb cs hb=> ?_,λb cs hb=> ?_,?_⟩
 ·simp only[aS.f b cs hb]
 ·simp only at hb;split at hb
  ·next bI=>cases hb;exact(E.b0 b _ bI).1
  ·split at hb
   ·cases aH:U.F b with
    |none=>rw[aH]at hb;cases hb
    |some x=>rw[aH]at hb;cases hb;exact⟨x.own,rfl⟩
   ·cases hb
 ·refine G4 E (λb cs hb=>by simp only[hb]) 9 ao A λo aC fw b cs w cp aH=> ?_;cases mz:cE b with
  |some ds=>obtain⟨⟨w',kJ⟩,_⟩:=E.b0 b ds mz;rw[aH]at kJ;cases kJ;rfl
  |none=>rw[if_pos ⟨o,cp⟩,aH];rfl
theorem ur{c:aB}{Q:cO->aD->G->Prop}{d I:Nat}(bX:z d= .slice none 0 0)(h:ee P c (k3 z d (.slice (some ⟨t.next,0,none⟩) 0 I)) ((t.bU 1).aK t.next (some ⟨[],true⟩)) Q):ee P c z t Q:= λax J u K m H b4=>by
 have cp:J t.next=none:=by
  cases aU:J t.next with
  |none=>rfl
  |some b=>have:=(H.cU _ _ aU).1;omega
 have mD:ep J u ((t.bU 1).aK t.next (some ⟨[],true⟩)) m:=by
  refine⟨λo x B=> ?_,λo es aU=> ?_,H.jA,H.inj,λo b h=>⟨by have:=(H.cU o b h).1;simp only[eT,fq];omega,(H.cU o b h).2⟩,λb cs hb=> ?_⟩
  ·by_cases aC:o=t.next
   ·subst aC;rw[cb (by simp)]at B;cases B;exact .inr ⟨cp,rfl⟩
   ·rw[aX aC,G.cl]at B;exact H.jc o x B
  ·by_cases aC:o=t.next
   ·subst aC;have:=(ji aU).2;rw[show((t.bU 1).aK t.next (some ⟨[],true⟩)).mp=t.mp from rfl,H.jA _ cp]at this;cases this
   ·rw[vX aC]at aU;obtain⟨aG,aN⟩:=ji aU;rw[G.cl]at aG;exact H.maps o es (kT aG aN)
  ·obtain⟨A,E⟩:=H.b0 b cs hb;refine⟨A,λo x Wu B=> ?_⟩;have aC:o≠t.next:= λe=>by subst e;rw[cp]at Wu;cases Wu
   rw[aX aC,G.cl]at B;exact E o x Wu B
 have ayu:hF u J (k3 z d (.slice (some ⟨t.next,0,none⟩) 0 I)) K:= λx=>by
  have B:=b4 x;simp only[k3];split
  ·next e=>subst e;rw[bX]at B;rw[B.hB rfl];exact .sb
  ·exact B
 refine(h ax J u K m mD ayu).bt λe aT bn bV=> ?_;obtain⟨cW,eo,bT,bd,A,E,ao,aS⟩:=bV;refine⟨cW,eo,bT,bd,A,E,ao,?_⟩;have awu:e4 t.next m.next J u t m J u ((t.bU 1).aK t.next (some ⟨[],true⟩)) m:=⟨fN.refl _,g7.refl _,λ_ _ h=> .inl h,λ_ _ h=> .inl h,by simp,c8 _,λ_ _ _=>rfl,λb hb=> λ⟨o,x,aG,aN,ct⟩=>by
  have aC:o≠t.next:= λe=>by subst e;rw[cp]at aG;cases aG
  rw[aX aC,G.cl]at aN;exact⟨o,x,aG,aN,ct⟩,λb hb=> λ⟨o,x,aG,aN⟩=>by
  have aC:o≠t.next:= λe=>by subst e;rw[cp]at aG;cases aG
  rw[aX aC,G.cl]at aN;exact⟨o,x,aG,aN⟩⟩
 exact awu.trans (aS.wV (by simp) (c8 _))
end
end Go.DI
