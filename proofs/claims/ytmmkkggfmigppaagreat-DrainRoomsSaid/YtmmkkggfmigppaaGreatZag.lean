/-
  A part of the proof of the statement, in texts that tools of ours (wip/shrink.py, irpack.py, relax.py, minify.py, join.py, lay.py) have shortened.
-/
import Derived.Test.YtmmkkggfmigppaaGreatZaf
set_option linter.all false
set_option maxRecDepth 8000
set_option maxHeartbeats 16000000
namespace Go.DI
open Go Go.RowKit
def ft{c4 kF:Type}(f:c4->Option kF):List c4->Option (List kF)
  |[]=>some []
  | x::xs=>match f x with
    | some y=>(match ft f xs with
      |some ys=>some (y::ys)
      |none=>none)
    |none=>none
theorem Dk{c4 kF:Type}{f:c4->Option kF}: ∀{l:List c4} {de:List kF},ft f l=some de->de.length=l.length/\ ∀(i:Nat) (y:kF),de[i]?=some y-> ∃x,l[i]?=some x/\f x=some y
  |[],de,h=>by cases h;exact⟨rfl,λi y h=>by simp at h⟩
  | x::xs,de,h=>by
    simp only[ft]at h;cases a6:f x with
    |none=>simp[a6]at h
    | some y=>
      cases az:ft f xs with
      |none=>simp[a6,az]at h
      | some ys=>
        simp only[a6,az,ll]at h;subst h;obtain⟨D,H⟩:=Dk az;refine⟨by simp[D],λi I bD=> ?_⟩;cases i with
        |zero=>simp at bD;subst bD;exact⟨x,rfl,a6⟩
        |succ i=>exact H i I (by simpa using bD)
theorem HD{c4:Type}{f:c4->Option c4}: ∀{l:List c4},(∀x∈l,f x=some x)->ft f l=some l
  |[],_=>rfl
  | x::xs,h=>by have cc:ft f xs=some xs:=HD λy ag=>h y (Ba _ ag);simp only[ft,h x (by simp),cc]
def kJ(I:Nat):Nat->List Value->List (List Value)
  |0,_=>[]
  |n+1,cs=>cs.take I::kJ I n (cs.drop I)
theorem VV(I:Nat): ∀(n:Nat) (cs:List Value),(kJ I n cs).length=n
  |0,_=>rfl
  |n+1,cs=>by simp[kJ,VV I n]
theorem VT{I:Nat}: ∀{n:Nat} {cs:List Value} {i:Nat} {r:List Value},(kJ I n cs)[i]?=some r->i<n/\r=(cs.drop (i*I)).take I
  |0,cs,i,r,h=>by simp[kJ]at h
  | n+1,cs,i,r,h=>by
    cases i with
    |zero=>simp[kJ]at h;subst h;simp
    | succ i=>simp only[kJ,DY]at h;obtain⟨D,H⟩:=VT h;refine⟨by omega,?_⟩;rw[H,yK,k0];congr 2;omega
theorem Ox{I:Nat}: ∀{a8:List (List Value)},(∀r∈a8,r.length=I)->kJ I a8.length a8.flatten=a8
  |[],_=>rfl
  | r::a8,h=>by have D:=h r (by simp);simp only[pS,kJ,rp];rw[<-D,List.take_left,List.drop_left,D,Ox λx G=>h x (by simp[G])]
def gN(v:Value):Bool:=dQ v||jP v
def dO:Nat->W->Value->Option Value
  |0,_,v=>if gN v then some v else none
  | n+1,t,v=>if gN v then some v else match v with
    | .slice (some a) l I=>match t.X a.block with
      | some x=>if a.spot.isNone&&decide (a.off+l*I<=x.cells.length)then
          (match ft (ft (dO n t)) (kJ I l (x.cells.drop a.off))with
            |some a8=>some (aw a8 I)
            |none=>none)else none
      |none=>none
    | .pointer (some a)=>match t.X a.block with
      | some x=>if a.spot.isNone then
          (match ft (dO n t) x.cells with
            |some cJ=>some (eL cJ a.off)
            |none=>none)else none
      |none=>none
    | .agg cs=>match ft (dO n t) cs.toList with
      |some l=>some (.agg l.toArray)
      |none=>none
    | .tuple cs=>match ft (dO n t) cs.toList with
      |some l=>some (.tuple l.toArray)
      |none=>none
    | .func (.func f) xs cs=>match ft (dO n t) xs.toList,ft (dO n t) cs.toList with
      |some l,some k=>some (.func (.func f) l.toArray k.toArray)
      |_,_=>none
    |_=>none
def ed:Nat->W->Value->List Nat
  |0,_,_=>[]
  | n+1,t,v=>if gN v then[]else match v with
    | .slice (some a) _ _=>a.block::(match t.X a.block with
      |some x=>x.cells.flatMap (ed n t)
      |none=>[])
    | .pointer (some a)=>a.block::(match t.X a.block with
      |some x=>x.cells.flatMap (ed n t)
      |none=>[])
    | .agg cs=>cs.toList.flatMap (ed n t)
    | .tuple cs=>cs.toList.flatMap (ed n t)
    | .func _ xs cs=>xs.toList.flatMap (ed n t)++cs.toList.flatMap (ed n t)
    |_=>[]
theorem EC{u dt:fz}{K:eC}(dv:gV u dt){v bu:Value}(ad:bV u K v bu)(ar:gN v=true):bV dt kT v bu:=by
  cases ad with
  |cy h=>exact .cy h
  |hT e D H aq aE=>exact .hT e (dv _ _ D) H aq λi j r x y a b c=>(aE i j r x y a b c).b6 dv (fy.refl _)
  |hf e=>exact .hf e
  |eL e D H aq=>exact .eL e (dv _ _ D) H λj x y a b=>(aq j x y a b).b6 dv (fy.refl _)
  |_=>simp[gN,dQ,jP]at ar
theorem ER{u dt:fz}{K:eC}{t m:W}(M:dN K u t m)(dv:gV u dt): ∀(n:Nat) {v bu r:Value},bV u K v bu->dO n t v=some r->(∀o∈ed n t v,(t.X o).isSome=true-> ∀b cs w,K o=some b->m.X b=some ⟨cs,w⟩->dt b=some cs)->bV dt kT r bu
  | 0,v,bu,r,ad,h,_=>by
    simp only[dO]at h;split at h
    · next ar=>cases h;exact EC dv ad ar
    · cases h
  | n+1,v,bu,r,ad,h,az=>by
    simp only[dO]at h;simp only[ed]at az;split at h
    · next ar=>cases h;exact EC dv ad ar
    · next ar=>
      rw[if_neg ar]at az;have Hs: ∀{xs ys b5:List Value},bj u K xs ys->ft (dO n t) xs=some b5->(∀o∈xs.flatMap (ed n t),(t.X o).isSome=true-> ∀b cs w,K o=some b->m.X b=some ⟨cs,w⟩->dt b=some cs)->bj dt kT b5 ys:= λaD aC aH=>by obtain⟨D,H⟩:=Dk aC;refine⟨by rw[D,aD.1],λi x y G ag=> ?_⟩;obtain⟨ck,fJ,bb⟩:=H i x G;exact ER M dv n (aD.2 i ck y fJ ag) bb λo aC=>aH o (tK.2 ⟨ck,hF fJ,aC⟩)
      split at h
      · next a l I=>
        cases aF:t.X a.block with
        |none=>simp[aF]at h
        | some x=>
          simp only[aF]at h az;split at h
          · next hb=>
            simp only[aY,eO]at hb;cases PM:ft (ft (dO n t)) (kJ I l (x.cells.drop a.off))with
            |none=>simp[PM]at h
            | some a8=>
              simp only[PM,ll]at h;subst h;obtain⟨aQ,a7⟩:=Dk PM;rw[VV]at aQ;rcases ad.mc with⟨b,aK,aR,rfl⟩|⟨aK,aR,cB,rfl⟩
              · obtain⟨cs,w,a3,br,bX⟩:=M.pc aK aF;have Pl:=az a.block (by simp) (by rw[aF];rfl) b cs w aK a3;rw[<-aQ];have qX: ∀(i:Nat) r,a8[i]?=some r->i<l/\ ∃mj,mj=(x.cells.drop (a.off+i*I)).take I/\ft (dO n t) mj=some r:= λi r ak=>by
                  obtain⟨mj,ec,gY⟩:=a7 i r ak;obtain⟨hU,s6⟩:=VT ec;exact⟨hU,mj,by rw[s6,yK],gY⟩
                refine .hT rfl Pl (by rw[aQ,<-bX.1];exact hb.2) (λi r ak=> ?_) λi j r bo y ak b1 ag=> ?_
                · obtain⟨hU,mj,s6,Ad⟩:=qX i r ak;rw[(Dk Ad).1,s6];simp;have:(i+1)*I<=l*I:=sn _ hU;rw[k0]at this;omega
                · obtain⟨hU,mj,s6,Ad⟩:=qX i r ak;obtain⟨afF,uz,Ml⟩:=(Dk Ad).2 j bo b1;rw[s6,tI]at uz;split at uz
                  · rw[wP]at uz;refine ER M dv n (bX.2 _ afF y uz ag) Ml λo aC=>az o ?_;exact Ba _ (tK.2 ⟨afF,hF uz,aC⟩)
                  · cases uz
              · subst cB;have:a8=[]:=yE aQ;subst this;exact .hf rfl
          · cases h
      · next a=>
        cases aF:t.X a.block with
        |none=>simp[aF]at h
        | some x=>
          simp only[aF]at h az;split at h
          · cases qX:ft (dO n t) x.cells with
            |none=>simp[qX]at h
            | some cJ=>simp only[qX,ll]at h;subst h;obtain⟨b,aK,aR,rfl⟩:=ad.pv;obtain⟨cs,w,a3,br,bX⟩:=M.pc aK aF;have Pl:=az a.block (by simp) (by rw[aF];rfl) b cs w aK a3;have aD:=Hs bX qX λo aC=>az o (Ba _ aC);have:=bV.eL (u:=dt) (K:=kT) (off:=0) (k:=a.off) (cJ:=cJ) rfl Pl (by rw[aD.1];omega) λj bo y b1 ag=>aD.2 j bo y b1 (by simpa using ag);simpa using this
          · cases h
      · next cs=>
        cases aC:ft (dO n t) cs.toList with
        |none=>simp[aC]at h
        | some l=>simp only[aC,ll]at h;subst h;obtain⟨ys,rfl,aD⟩:=ad.q0;have:=(Hs aD aC az).agg;simpa using this
      · next cs=>
        cases aC:ft (dO n t) cs.toList with
        |none=>simp[aC]at h
        | some l=>simp only[aC,ll]at h;subst h;obtain⟨ys,rfl,aD⟩:=ad.zA;have:=(Hs aD aC az).tuple;simpa using this
      · next f xs cs=>
        cases aC:ft (dO n t) xs.toList with
        |none=>simp[aC]at h
        | some l=>
          cases Fm:ft (dO n t) cs.toList with
          |none=>simp[aC,Fm]at h
          | some k=>simp only[aC,Fm,ll]at h;subst h;obtain⟨ys,ds,rfl,aD,aa⟩:=ad.zz;have D:=Hs aD aC λo h=>az o (kE.2 (.inl h));have H:=Hs aa Fm λo h=>az o (kE.2 (.inr h));exact .func (by simpa using D.1) (by simpa using D.2) (by simpa using H.1) (by simpa using H.2)
      · cases h
def yZ(n:Nat)(t:W)(args:List Value):Option (List Value):=ft (dO n t) args
def qu(t:W):List Nat->W
  |[]=>t
  |o::l=>qu (match t.X o with|some x=>t.a0 o (some ⟨x.cells,false⟩)|none=>t) l
def hl(t:W)(l:List Nat):W:=⟨t.next,t.ix,λo=>if o∈l then none else t.mp o⟩
@[simp] theorem ahL(t:W):hl t []=t:=by simp[hl]
@[simp] theorem aDC(t:W)(l:List Nat)(o:Nat):(hl t l).X o=t.X o:=rfl
@[simp] theorem aDD(t:W)(l:List Nat):(hl t l).next=t.next:=rfl
theorem ab:(∀(m:W) (b:Nat) (x:Option fq),(m.a0 b x).next=m.next)/\(∀(m:W) (k:Nat),(m.dp k).next=m.next+k)/\(∀(m:W) (b:Nat) (a9:List (Value×Value)),(m.gL b a9).next=m.next)/\ ∀(t:W) (l:List Nat),(hl t l).next=t.next:=⟨λ_ _ _=>rfl,λ_ _=>rfl,λ_ _ _=>rfl,λ_ _=>rfl⟩
@[simp] theorem aLc(t:W):qu t []=t:=rfl
@[simp] theorem Ns(t:W)(o:Nat)(l:List Nat):qu t (o::l)=qu (match t.X o with|some x=>t.a0 o (some ⟨x.cells,false⟩)|none=>t) l:=rfl
theorem T1: ∀(l:List Nat) (t:W),(qu t l).next=t.next
  |[],t=>rfl
  | o::l,t=>by rw[Ns,T1 l];split<;>rfl
theorem DE: ∀(l:List Nat) (t:W) (p:Nat) (x:fq),(qu t l).X p=some x-> ∃y,t.X p=some y/\x.cells=y.cells/\(x.own=true->y.own=true)/\(p∈l->x.own=false)
  |[],t,p,x,h=>⟨x,h,rfl,λh=>h,λh=>by simp at h⟩
  | o::l,t,p,x,h=>by
    rw[Ns]at h;obtain⟨y,D,H,aq,aE⟩:=DE l _ p x h;cases aF:t.X o with
    | none=>
      rw[aF]at D;refine⟨y,D,H,aq,λai=> ?_⟩;rcases gT.1 ai with rfl|ai
      · simp only at D;rw[aF]at D;cases D
      · exact aE ai
    | some I=>
      rw[aF]at D;simp only at D;by_cases PJ:p=o
      · subst PJ;rw[ej (bn aF)]at D;cases D;have a6:x.own=false:=by
          cases G:x.own with
          |false=>rfl
          |true=>have:=aq G;cases this
        exact⟨I,aF,H,(λG=>by rw[a6]at G;cases G),λ_=>a6⟩
      · rw[bW PJ]at D;exact⟨y,D,H,aq,λai=>aE ((gT.1 ai).resolve_left PJ)⟩
theorem T0: ∀(l:List Nat) (t:W),(qu t l).mp=t.mp
  |[],t=>rfl
  | o::l,t=>by rw[Ns,T0 l];split<;>rfl
section
variable (P:Program)
def tO(u:fz)(m:W):Prop:= ∀b cs,u b=some cs-> ∃w,m.X b=some ⟨cs,w⟩
def bK(f:Nat)(args:List Value)(r:Value):Prop:= ∀(u:fz) (m:W) (bz:List Value),tO u m->bj u kT args bz->
  gd P f bz m λdV an=>m.next<=an.next/\(∀b,b<m.next->an.X b=m.X b)/\ ∃cr,gV u cr/\tO cr an/\bV cr kT r dV
def fA(f:Nat)(args:List Value)(t:W)(cd:Value->W->Prop):Prop:= ∀(K:eC) (u:fz) (bz:List Value) (m:W),dN K u t m->bj u K args bz->
  gd P f bz m λdV an=> ∃cz cr r aJ,cd r aJ/\dN cz cr aJ an/\bV cr cz r dV/\eD t.next m.next K u t m cz cr aJ an
def fl(c:J)(z:aM)(t:W)(Q:du->aM->W->Prop):Prop:=mM c=true-> ∀(K:eC) (u:fz) (ae:aM) (m:W),dN K u t m->gF u K z ae->
  hG P c ae m λe jx an=> ∃cz cr bI aJ,Q e bI aJ/\dN cz cr aJ an/\gF cr cz bI jx/\eD t.next m.next K u t m cz cr aJ an
structure bE where
  f:Nat
  fn:List Value->Option Value
  ok: ∀args r,fn args=some r->bK P f args r
structure iQ where
  f:Nat
  fn:List Value->W->Option (Value×W)
  ok: ∀args t r aJ,fn args t=some (r,aJ)-> ∀cd:Value->W->Prop,cd r aJ->fA P f args t cd
structure nw where
  p:List (bE P)
  i:List (iQ P)
variable {P}
def xi:List (iQ P)->Nat->Bool
  |[],_=>false
  |s::l,f=>s.f==f||xi l f
def sd:List (iQ P)->Nat->List Value->W->(Value->W->Prop)->Prop
  |[],_,_,_,_=>False
  | s::l,f,args,t,aT=>if s.f=f then(match s.fn args t with
    |some (r,aJ)=>aT r aJ
    |none=>False)else sd l f args t aT
def BK:List (bE P)->Nat->Bool
  |[],_=>false
  |s::l,f=>s.f==f||BK l f
def tw:List (bE P)->Nat->List Value->(Value->Prop)->Prop
  |[],_,_,_=>False
  | s::l,f,args,cd=>if s.f=f then(match s.fn args with
    |some r=>cd r
    |none=>False)else tw l f args cd
def uM(aB:List (bE P))(f:Nat)(args:List Value)(t:W)(aT:Value->W->Prop):Prop:=match yZ 9 t args with
  |some ts=>tw aB f ts λr=>aT r (if my r then hl t (args.flatMap (ed 9 t))else qu t (args.flatMap (ed 9 t)))
  |none=>False
def MK(t:W)(o:Nat):Bool:=match t.X o with|some x=> !x.cells.isEmpty|none=>false
def kc(t:W)(l:List Nat):W:=⟨t.next,λb=>if b∈l then none else t.ix b,t.mp⟩
def lP(t bF:W)(l:List Nat):W:=⟨bF.next,λb=>if b∈l then t.ix b else bF.ix b,bF.mp⟩
def lf(z:aM)(t:W):List (Operand×Operand)->List Nat
  |[]=>[]
  | p::l=>match N (Y z p.1)with
    |some o=>if tm t o then o::lf z t l else lf z t l
    |none=>lf z t l
def w5(aB:nw P)(f:Nat)(args:List Value)(t:W):List Nat->(Value->W->Prop)->Prop
  |[],aT=>if xi aB.i f then sd aB.i f args t aT else fA P f args t aT
  |o::l,aT=>(o::l).all (MK t)=true/\if xi aB.i f then sd aB.i f args (kc t (o::l)) (λr bF=>aT r (lP t bF (o::l)))else fA P f args (kc t (o::l)) λr bF=>aT r (lP t bF (o::l))
def sA(aB:nw P)(f:Nat)(args:List Value)(t:W)(L:List Nat)(aT:Value->W->Prop):Prop:=
  if BK aB.p f then uM aB.p f args t aT else w5 aB f args t L aT
def EA(aB:nw P)(v:Value)(args:List Value)(t:W)(L:List Nat)(aT:Value->W->Prop):Prop:=match v with
  | .func (.func f) first l3=>sA aB f (first.toList++args++l3.toList) t L aT
  |_=>False
def iN(aB:nw P)(base:Nat)(o:bp)(z:aM)(t:W)(aT:aM->W->Prop):Prop:=match o.k with
  | .dm f bz=>sA aB f (bz.map (Y z)) t (lf z t o.a4) λr aJ=>aT (c0 z o.d r) aJ
  | .iy x bz=>EA aB (Y z x) (bz.map (Y z)) t (lf z t o.a4) λr aJ=>aT (c0 z o.d r) aJ
  | .kv _ _ _=>False
  |k=>k.hW z t=true/\hO z t o.a4=true/\aT (c0 z o.d (k.ic (base+o.aN) z t)) (k.mJ (base+o.aN) z t)
def c8(aB:nw P)(base:Nat):List bp->aM->W->(aM->W->Prop)->Prop
  |[],z,t,aT=>aT z t
  |o::bR,z,t,aT=>if eA z o.g=true then iN aB base o z t (λz t=>c8 aB base bR z t aT)else c8 aB base bR (c0 z o.d undef) t aT
def iR(aB:nw P):J->aM->W->(du->aM->W->Prop)->Prop
  | .skip,z,t,Q=>Q .er z t
  | .F ops,z,t,Q=>c8 aB t.next ops z (gW ops t) (Q .er)
  | .qh _ _ _,_,_,_=>False
  | .B a b,z,t,Q=>iR aB a z t λe z t=>match e with
    | .er=>iR aB b z t Q
    |e=>Q e z t
  | .aV c a b,z,t,Q=>rX (Y z c)=true/\if tU (Y z c)=true then iR aB a z t Q else iR aB b z t Q
  | .block id c,z,t,Q=>iR aB c z t λe z t=>match e with
    | .bh iB=>if iB=id then Q .er z t else Q (.bh iB) z t
    |e=>Q e z t
  | .loop c,z,t,Q=>fl P (.loop c) z t Q
  | .bh id,z,t,Q=>Q (.bh id) z t
  | .aI,z,t,Q=>Q .aI z t
end
section
variable {P:Program} {u:fz} {K:eC} {t m:W}
theorem aff{l:List (iQ P)}{f:Nat}{args:List Value}{t:W}{aT:Value->W->Prop}(h:sd l f args t aT):fA P f args t aT:=by
  induction l with
  |nil=>exact h.elim
  | cons s l cc=>
    simp only[sd]at h;split at h
    · next e=>
      cases a6:s.fn args t with
      |none=>rw[a6]at h;exact h.elim
      |some aw4=>obtain⟨r,aJ⟩:=aw4;rw[a6]at h;have:=s.ok args t r aJ a6 aT h;rw[e]at this;exact this
    · exact cc h
theorem bK.ayU{f:Nat}{ts bz:List Value}{r:Value}(h:bK P f ts r)(dv:tO u m)(ax:bj u kT ts bz):gd P f bz m λdV an=>m.next<=an.next/\(∀b,b<m.next->an.X b=m.X b/\(u b=none->an.mp b=m.mp b))/\
    ∃cr,gV u cr/\tO cr an/\(∀b cs,cr b=some cs->u b=some cs\/m.next<=b)/\bV cr kT r dV:=by
  obtain⟨p,ai⟩: ∃p:W,p=⟨m.next,λb=>if(u b).isSome then m.ix b else none,m.mp⟩:=⟨_,rfl⟩;have uK:p.next=m.next:=by rw[ai]
  have SW:p.mp=m.mp:=by rw[ai]
  have q7: ∀b,p.X b=if(u b).isSome then m.X b else none:= λb=>by
    rw[ai];simp only[W.X];split
    · rfl
    · split<;>rfl
  have part:vf p m:=⟨uK,SW,λb x G=>by
    rw[q7]at G;split at G
    · exact G
    · cases G⟩
  have Pg:tO u p:= λb cs hb=>by obtain⟨w,aZ⟩:=dv b cs hb;exact⟨w,by rw[q7,hb];exact aZ⟩
  refine(gd.frame part (h u p bz Pg ax)).b6 λdV an aH=> ?_;obtain⟨lD,⟨D,H,cr,aq,aE,bq⟩,bR⟩:=aH;refine⟨bR.next,λb hb=>⟨?_,λau=>(bR.uG b hb (by rw[q7,au];rfl)).2.2⟩,cr,aq,λb cs hb=> ?_,λb cs hb=> ?_,bq⟩
  · cases aF:p.X b with
    |none=>exact(bR.uG b hb aF).1
    |some x=>rw[part.X b x aF];exact bR.part.X b x (by rw[H b (by rw[uK];exact hb),aF])
  · obtain⟨w,aZ⟩:=aE b cs hb;exact⟨w,bR.part.X b _ aZ⟩
  · by_cases ek:b<m.next
    · left;obtain⟨w,aZ⟩:=aE b cs hb;cases aF:p.X b with
      |none=>rw[(bR.uG b ek aF).2.1]at aZ;cases aZ
      | some x=>
        rw[H b (by rw[uK];exact ek)]at aZ;rw[q7]at aZ;split at aZ
        · next M=>
          cases Xa:u b with
          |none=>rw[Xa]at M;cases M
          | some k6=>obtain⟨cN,mb⟩:=dv b k6 Xa;rw[mb]at aZ;cases aZ;rfl
        · cases aZ
    · exact .inr (by omega)
theorem air{v bu:Value}(h:bV u K v bu)(a6:my v=true):bu=v:=by
  unfold my at a6;split at a6
  · obtain⟨ys,rfl,aD⟩:=h.q0;rename_i cs;have:ys.toList=cs.toList:=by
      apply List.ext_getElem
      · exact aD.1.symm
      · intro i D H;exact(aD.2 i _ _ (dD H) (dD D)).hC (eQ.1 a6 _ (nv H))
    rw[<-pQ (xs:=ys),this]
  · obtain⟨ys,rfl,aD⟩:=h.zA;rename_i cs;have:ys.toList=cs.toList:=by
      apply List.ext_getElem
      · exact aD.1.symm
      · intro i D H;exact(aD.2 i _ _ (dD H) (dD D)).hC (eQ.1 a6 _ (nv H))
    rw[<-pQ (xs:=ys),this]
  · exact h.hC a6
open Classical in
theorem SY(M:dN K u t m){aB:List (bE P)}{f:Nat}{args bz:List Value}(ax:bj u K args bz){aT:Value->W->Prop}(h:uM aB f args t aT):
    gd P f bz m λdV an=>(∀b,b<m.next->an.X b=m.X b)/\ ∃cr r aJ,aT r aJ/\dN K cr aJ an/\bV cr K r dV/\eD t.next m.next K u t m K cr aJ an:=by
  unfold uM at h;cases bD:yZ 9 t args with
  |none=>rw[bD]at h;exact h.elim
  | some ts=>
    rw[bD]at h;simp only at h;obtain⟨l,aD⟩: ∃l,l=args.flatMap (ed 9 t):=⟨_,rfl⟩;rw[<-aD]at h;have gQ: ∃r,bK P f ts r/\aT r (if my r then hl t l else qu t l):=by
      clear bD aD;induction aB with
      |nil=>exact h.elim
      | cons s aB cc=>
        simp only[tw]at h;split at h
        · next e=>
          cases a6:s.fn ts with
          |none=>rw[a6]at h;exact h.elim
          |some r=>rw[a6]at h;exact⟨r,by have:=s.ok ts r a6;rw[e]at this;exact this,h⟩
        · exact cc h
    obtain⟨r,az,dY⟩:=gQ;obtain⟨dt,E6⟩: ∃dt:fz,dt= λb=>match u b with
      |some cs=>some cs
      |none=>if∃o,o∈l/\K o=some b/\(t.X o).isSome=true then(m.X b).map (·.cells)else none:=⟨_,rfl⟩
    have db:gV u dt:= λb cs hb=>by rw[E6];simp[hb]
    have dx: ∀b cs,dt b=some cs->u b=some cs\/(∃o,o∈l/\K o=some b):= λb cs hb=>by
      rw[E6]at hb;simp only at hb;split at hb
      · next D=>rw[D];exact .inl hb
      · split at hb
        · next D=>obtain⟨o,ec,gY,_⟩:=D;exact .inr ⟨o,ec,gY⟩
        · cases hb
    have BA: ∀b cs,dt b=some cs->u b=some cs\/Bh K t b:= λb cs hb=>by
      rw[E6]at hb;simp only at hb;split at hb
      · next D=>rw[D];exact .inl hb
      · split at hb
        · next D=>obtain⟨o,_,gY,hU⟩:=D;obtain⟨x,G⟩:=II.1 hU;exact .inr ⟨o,x,gY,G⟩
        · cases hb
    have f3:tO dt m:= λb cs hb=>by
      rw[E6]at hb;simp only at hb;split at hb
      · next D=>cases hb;exact(M.bA b _ D).1
      · split at hb
        · cases aF:m.X b with
          |none=>rw[aF]at hb;cases hb
          |some x=>rw[aF]at hb;cases hb;exact⟨x.own,rfl⟩
        · cases hb
    have kq: ∀o∈l,(t.X o).isSome=true-> ∀b cs w,K o=some b->m.X b=some ⟨cs,w⟩->dt b=some cs:= λo aC fc b cs w bQ aF=>by
      rw[E6];simp only;cases lM:u b with
      |some ds=>obtain⟨⟨cN,mb⟩,_⟩:=M.bA b ds lM;rw[aF]at mb;cases mb;rfl
      |none=>simp only;rw[if_pos ⟨o,aC,bQ,fc⟩,aF];rfl
    have ai4:bj dt kT ts bz:=(by obtain⟨D,H⟩:=Dk bD;refine⟨by rw[D,ax.1],λi x y G ag=> ?_⟩;obtain⟨ck,fJ,bb⟩:=H i x G;exact ER M db 9 (ax.2 i ck y fJ ag) bb λo aC=>kq o (by rw[aD];exact tK.2 ⟨ck,hF fJ,aC⟩));refine(az.ayU f3 ai4).b6 λdV an aH=> ?_;obtain⟨aQ,a7,cr,cD,dI,gi,fj⟩:=aH;refine⟨λb hb=>(a7 b hb).1,?_⟩;by_cases fC:my r=true
    · rw[if_pos fC]at dY;refine⟨u,r,_,dY,?_,by rw[air fj fC];exact bV.my fC,?_⟩
      · refine⟨λo x G=> ?_,λo a9 bb=> ?_,λo aC=> ?_,M.inj,λo b h=>⟨(M.c2 o b h).1,oY (M.c2 o b h).2 aQ⟩,λb cs hb=> ?_⟩
        · rcases M.hK o x G with⟨b,cs,w,D,H,aq,aE⟩|D
          · exact .inl ⟨b,cs,w,D,by rw[(a7 b (M.c2 o b D).2).1,H],aq,aE⟩
          · exact .inr D
        · obtain⟨aK,aR⟩:=hR bb;have zo:o∉l:= λav=>by simp[hl,av]at aR
          have cB:t.mp o=some a9:=(by simpa[hl,zo]using aR);obtain⟨b,c1,D,H,aq⟩:=M.maps o a9 (jM aK cB);refine⟨b,c1,D,?_,aq⟩;obtain⟨aE,bq⟩:=hR H;have hb:=(M.c2 o b D).2;have lM:dt b=none:=by
            cases bc:dt b with
            |none=>rfl
            | some cs=>
              rcases dx b cs bc with cP|⟨o',cP,fB⟩
              · have:=(M.bA b cs cP).2 o _ D aK;cases this
              · rw[M.inj o' o b fB D]at cP;exact absurd cP zo
          exact jM (by rw[(a7 b hb).1];exact aE) (by rw[(a7 b hb).2 lM];exact bq)
        · show(if o∈l then none else t.mp o)=none;rw[M.h3 o aC];simp
        · obtain⟨⟨w,D⟩,H⟩:=M.bA b cs hb;exact⟨⟨w,by rw[(a7 b (bn D)).1,D]⟩,H⟩
      · exact⟨fy.refl _,gV.refl _,λ_ _ h=> .inl h,λ_ _ h=> .inl h,dW _,aQ,λb hb _=>(a7 b hb).1,λb hb aZ=>aZ,λb hb aZ=>aZ⟩
    · rw[if_neg fC]at dY;have Pe:=db.trans cD;refine⟨cr,r,_,dY,?_,fj.b6 (gV.refl _) (fy.nil _),?_⟩
      · refine⟨λo x G=> ?_,λo a9 bb=> ?_,λo aC=> ?_,M.inj,λo b h=>⟨by rw[T1];exact(M.c2 o b h).1,oY (M.c2 o b h).2 aQ⟩,λb cs hb=> ?_⟩
        · obtain⟨y,ag,aK,aR,_⟩:=DE l t o x G;rcases M.hK o y ag with⟨b,cs,w,D,H,aq,aE⟩|⟨D,H⟩
          · exact .inl ⟨b,cs,w,D,by rw[(a7 b (M.c2 o b D).2).1,H],λh=>aq (aR h),by rw[aK];exact aE.b6 Pe (fy.refl _)⟩
          · exact .inr ⟨D,by rw[aK,H]⟩
        · obtain⟨aK,aR⟩:=hR bb;obtain⟨y,ag,cB,gX,mx⟩:=DE l t o _ aK;have zo:o∉l:= λav=>by have:=mx av;cases this
          have sU:y=⟨[],true⟩:=(by obtain⟨a,b⟩:=y;simp at cB gX;simp[cB,gX]);subst sU;rw[T0]at aR;obtain⟨b,c1,D,H,aq⟩:=M.maps o a9 (jM ag aR);refine⟨b,c1,D,?_,aq.b6 Pe (fy.refl _)⟩;obtain⟨aE,bq⟩:=hR H;have hb:=(M.c2 o b D).2;have lM:dt b=none:=by
            cases bc:dt b with
            |none=>rfl
            | some cs=>
              rcases dx b cs bc with cP|⟨o',cP,fB⟩
              · have:=(M.bA b cs cP).2 o _ D ag;cases this
              · rw[M.inj o' o b fB D]at cP;exact absurd cP zo
          exact jM (by rw[(a7 b hb).1];exact aE) (by rw[(a7 b hb).2 lM];exact bq)
        · rw[T0];exact M.h3 o aC
        · refine⟨dI b cs hb,λo x bQ G=> ?_⟩;obtain⟨y,ag,aK,aR,cB⟩:=DE l t o x G;have fN:=(M.c2 o b bQ).2;rcases gi b cs hb with cP|cP
          · rcases dx b cs cP with fB|⟨o',fB,hA⟩
            · have iz:=(M.bA b cs fB).2 o y bQ ag;cases fJ:x.own with
              |false=>rfl
              |true=>rw[aR fJ]at iz;cases iz
            · rw[M.inj o' o b hA bQ]at fB;exact cB fB
          · omega
      · refine⟨fy.refl _,Pe,λ_ _ h=> .inl h,λb cs hb=> ?_,by rw[T1];exact dW _,aQ,λb hb _=>(a7 b hb).1,λb hb aZ=> ?_,λb hb aZ=> ?_⟩
        · rcases gi b cs hb with cP|cP
          · rcases BA b cs cP with fB|fB
            · exact .inl fB
            · exact .inr (.inr fB)
          · exact .inr (.inl cP)
        · obtain⟨o,x,D,H,aq⟩:=aZ;obtain⟨y,ag,aK,aR,cB⟩:=DE l t o x H;exact⟨o,y,D,ag,aR aq⟩
        · obtain⟨o,x,D,H⟩:=aZ;obtain⟨y,ag,aK,aR,cB⟩:=DE l t o x H;exact⟨o,y,D,ag⟩
end
section
variable {t bF:W} {l:List Nat}
@[simp] theorem aDE:(kc t l).next=t.next:=rfl
theorem OA{b:Nat}(h:b∈l):(kc t l).X b=none:=by simp[kc,W.X,h]
theorem Jx{b:Nat}(h:b∉l):(kc t l).X b=t.X b:=by simp[kc,W.X,h]
theorem p3{b:Nat}{x:fq}(h:(kc t l).X b=some x):b∉l/\t.X b=some x:=by
  by_cases hb:b∈l
  · rw[OA hb]at h;cases h
  · rw[Jx hb]at h;exact⟨hb,h⟩
theorem OB{b:Nat}(h:b∉l):(kc t l).eK b=t.eK b:=by have D:(kc t l).X b=t.X b:=Jx h;unfold W.eK;rw[D];rfl
theorem adk{b:Nat}(h:b∈l)(au:t.next<=bF.next)(hb:b<t.next):(lP t bF l).X b=t.X b:=by
  have:b<bF.next:=by omega
  simp[lP,W.X,h,hb,this]
theorem uy{b:Nat}(h:b∉l):(lP t bF l).X b=bF.X b:=by simp[lP,W.X,h]
theorem Sf{b:Nat}(h:b∉l):(lP t bF l).eK b=bF.eK b:=by have D:(lP t bF l).X b=bF.X b:=uy h;unfold W.eK;rw[D];rfl
end
section
variable {P:Program} {K:eC} {u:fz} {t m:W} {z ae:aM}
theorem adp(M:dN K u t m)(bB:gF u K z ae){a4:List (Operand×Operand)}(ax:a4.all (λp=>cO p.1&&cO p.2)=true){an:W}(aa: ∀b,b<m.next->an.X b=m.X b):qg ae a4 m an:=by
  intro p ai b hb;simp only[eQ]at ax;have H:=ax p ai;simp only[aY]at H;have ad:=bB.Y H.1;generalize Y z p.1=a at ad;generalize Y ae p.1=dF at ad hb;cases ad with
  | cy h=>unfold N at hb;split at hb<;>simp[dQ]at h hb
  |cF bQ=>simp[N]at hb;subst hb;exact aa _ (M.c2 _ _ bQ).2
  |slice bQ=>simp[N]at hb;subst hb;exact aa _ (M.c2 _ _ bQ).2
  |map bQ=>simp[N]at hb;subst hb;exact aa _ (M.c2 _ _ bQ).2
  |hT e dv=>simp[N]at hb;subst hb;obtain⟨⟨w,aq⟩,_⟩:=M.bA _ _ dv;exact aa _ (bn aq)
  |eL e dv=>simp[N]at hb;subst hb;obtain⟨⟨w,aq⟩,_⟩:=M.bA _ _ dv;exact aa _ (bn aq)
  |_=>simp[N]at hb
theorem Wx{f:Nat}{args bz:List Value}{cd:Value->W->Prop}{l:List Nat}(aD: ∀o∈l,∃x,t.X o=some x/\x.cells≠[])(h:fA P f args (kc t l) cd)(M:dN K u t m)(ax:bj u K args bz):
    gd P f bz m λdV bg=>(∀o∈l,∀b,K o=some b->bg.X b=m.X b)/\ ∃cq dt r bF,cd r bF/\dN cq dt (lP t bF l) bg/\bV dt cq r dV/\eD t.next m.next K u t m cq dt (lP t bF l) bg:=by
  have zs:dN K u (kc t l) m:=⟨λo x G=>M.hK o x (p3 G).2,λo a9 bb=>by have hb:=(p3 (hR bb).1).1;rw[OB hb]at bb;exact M.maps o a9 bb,M.h3,M.inj,M.c2,λb cs hb=>⟨(M.bA b cs hb).1,λo x bQ G=>(M.bA b cs hb).2 o x bQ (p3 G).2⟩⟩;refine(h K u bz m zs ax).b6 λdV bg aH=> ?_;obtain⟨cq,dt,r,bF,D,H,aq,aE⟩:=aH;have au:t.next<=bF.next:=aE.je
  have g2: ∀o∈l,∃x b cs w,t.X o=some x/\x.cells≠[]/\K o=some b/\m.X b=some ⟨cs,w⟩/\(x.own=true->w=true)/\bj u K x.cells cs:= λo aC=>by
    obtain⟨x,G,ar⟩:=aD o aC;rcases M.hK o x G with⟨b,cs,w,bw,bJ,cb,eI⟩|⟨_,bJ⟩
    · exact⟨x,b,cs,w,G,ar,bw,bJ,cb,eI⟩
    · exact absurd bJ ar
  have Ao: ∀o∈l,∀b,K o=some b-> ¬Bh K (kc t l) b:= λo aC b hb ⟨p,x,ai,G⟩=>by have:=M.inj p o b ai hb;subst this;rw[OA aC]at G;cases G
  have adq: ∀o∈l,∀b,K o=some b->bg.X b=m.X b:= λo aC b bQ=>aE.la b (M.c2 o b bQ).2 λ⟨p,I,a3,br,_⟩=>Ao o aC b bQ ⟨p,I,a3,br⟩;have OT: ∀o∈l,bF.X o=none:= λo aC=>by
    obtain⟨x,b,cs,w,bw,bJ,cb,eI,fm,hy⟩:=g2 o aC;cases aF:bF.X o with
    |none=>rfl
    |some y=>exact absurd (aE.mX b (M.c2 o b cb).2 ⟨o,y,aE.e o b cb,aF⟩) (Ao o aC b cb)
  have rK: ∀o∈l,(lP t bF l).X o=t.X o:= λo aC=>by obtain⟨x,b,cs,w,bw,_⟩:=g2 o aC;exact adk aC au (bn bw)
  refine⟨adq,cq,dt,r,bF,D,?_,aq,?_⟩
  · refine⟨λo x G=> ?_,λo a9 bb=> ?_,H.h3,H.inj,H.c2,λb cs hb=>⟨(H.bA b cs hb).1,λo x bQ G=> ?_⟩⟩
    · by_cases aC:o∈l
      · rw[rK o aC]at G;obtain⟨y,b,cs,w,bw,bJ,cb,eI,fm,hy⟩:=g2 o aC;rw[bw]at G;cases G;exact .inl ⟨b,cs,w,aE.e o b cb,by rw[adq o aC b cb];exact eI,fm,hy.b6 aE.f aE.e⟩
      · rw[uy aC]at G;exact H.hK o x G
    · by_cases aC:o∈l
      · have:=(hR bb).1;rw[rK o aC]at this;obtain⟨y,ag,ar⟩:=aD o aC;rw[ag]at this;cases this;exact absurd rfl ar
      · rw[Sf aC]at bb;exact H.maps o a9 bb
    · by_cases aC:o∈l
      · rw[rK o aC]at G;obtain⟨y,ca,k6,w,bw,bJ,cb,eI,fm,hy⟩:=g2 o aC;have fN:=aE.e o ca cb;rw[bQ]at fN;cases fN;rcases aE.fn b cs hb with q|q|q
        · exact(M.bA b cs q).2 o x cb G
        · have:=(M.c2 o b cb).2;omega
        · exact absurd q (Ao o aC b cb)
      · rw[uy aC]at G;exact(H.bA b cs hb).2 o x bQ G
  · refine⟨aE.e,aE.f,aE.iJ,λb cs hb=> ?_,au,aE.jE,λb hb aZ=>aE.la b hb λ⟨p,I,a3,br,bX⟩=>aZ ⟨p,I,a3,(p3 br).2,bX⟩,λb hb ⟨o,x,a3,br,bX⟩=> ?_,λb hb ⟨o,x,a3,br⟩=> ?_⟩
    · rcases aE.fn b cs hb with q|q|⟨p,I,a3,br⟩
      · exact .inl q
      · exact .inr (.inl q)
      · exact .inr (.inr ⟨p,I,a3,(p3 br).2⟩)
    · by_cases aC:o∈l
      · obtain⟨y,ca,k6,w,bw,bJ,cb,_⟩:=g2 o aC;have fN:=aE.e o ca cb;rw[a3]at fN;cases fN;rw[rK o aC]at br;exact⟨o,x,cb,br,bX⟩
      · rw[uy aC]at br;obtain⟨p,I,fL,g8,jt⟩:=aE.nu b hb ⟨o,x,a3,br,bX⟩;exact⟨p,I,fL,(p3 g8).2,jt⟩
    · by_cases aC:o∈l
      · obtain⟨y,ca,k6,w,bw,bJ,cb,_⟩:=g2 o aC;have fN:=aE.e o ca cb;rw[a3]at fN;cases fN;rw[rK o aC]at br;exact⟨o,x,cb,br⟩
      · rw[uy aC]at br;obtain⟨p,I,fL,g8⟩:=aE.mX b hb ⟨o,x,a3,br⟩;exact⟨p,I,fL,(p3 g8).2⟩
theorem Mp(M:dN K u t m)(bB:gF u K z ae){a4:List (Operand×Operand)}(ax:a4.all (λp=>cO p.1&&cO p.2)=true){an:W}(aa: ∀b,b<m.next-> ¬Ef K t b->an.X b=m.X b)(G: ∀o∈lf z t a4,∀b,K o=some b->an.X b=m.X b):qg ae a4 m an:=by
  intro p ai b hb;simp only[eQ]at ax;have H:=ax p ai;simp only[aY]at H;have ad:=bB.Y H.1;have D: ∀o,N (Y z p.1)=some o->tm t o=true->o∈lf z t a4:=by
    clear G hb ad H ax;induction a4 with
    |nil=>cases ai
    | cons q l cc=>
      intro o aC aZ;unfold lf;rcases gT.1 ai with rfl|ai
      · rw[aC];simp only;rw[if_pos aZ];exact List.mem_cons_self
      · have:=cc ai o aC aZ;split
        · split
          · exact Ba _ this
          · exact this
        · exact this
  generalize Y z p.1=a at ad D;generalize Y ae p.1=dF at ad hb;have key: ∀o,N a=some o->K o=some b->an.X b=m.X b:= λo aC bQ=>by
    cases aZ:tm t o with
    |true=>exact G o (D o aC aZ) b bQ
    | false=>refine aa b (M.c2 o b bQ).2 λ⟨o',x,aK,aR,cB⟩=> ?_;rw[M.inj o' o b aK bQ]at aR;simp[tm,aR,cB]at aZ
  have Ho: ∀cs,u b=some cs->an.X b=m.X b:= λcs dv=>by obtain⟨⟨w,aq⟩,aE⟩:=M.bA b cs dv;exact aa b (bn aq) λ⟨o',x,aK,aR,cB⟩=>by rw[aE o' x aK aR]at cB;cases cB
  cases ad with
  | cy h=>unfold N at hb;split at hb<;>simp[dQ]at h hb
  |cF bQ=>simp[N]at hb;subst hb;exact key _ rfl bQ
  |slice bQ=>simp[N]at hb;subst hb;exact key _ rfl bQ
  |map bQ=>simp[N]at hb;subst hb;exact key _ rfl bQ
  |hT e dv=>simp[N]at hb;subst hb;exact Ho _ dv
  |eL e dv=>simp[N]at hb;subst hb;exact Ho _ dv
  |_=>simp[N]at hb
end
section
variable {P:Program} {u:fz} {K:eC} {t m:W} {z ae:aM}
theorem aGs(M:dN K u t m)(bB:gF u K z ae){a4:List (Operand×Operand)}(ax:a4.all (λp=>cO p.1&&cO p.2)=true)(h:Hn z t a4=true){an:W}(aa: ∀b,b<m.next-> ¬Ef K t b->an.X b=m.X b):qg ae a4 m an:=by
  intro p ai b hb;simp only[Hn,eQ]at h ax;have D:=h p ai;have H:=ax p ai;simp only[aY]at H;have ad:=bB.Y H.1;generalize Y z p.1=a at ad D;generalize Y ae p.1=dF at ad hb;have key: ∀o,N a=some o->K o=some b->an.X b=m.X b:= λo aC bQ=>by rw[aC]at D;refine aa b (M.c2 o b bQ).2 λ⟨o',x,aK,aR,cB⟩=> ?_;rw[M.inj o' o b aK bQ]at aR;simp[tm,aR,cB]at D
  have Ho: ∀cs,u b=some cs->an.X b=m.X b:= λcs dv=>by obtain⟨⟨w,aq⟩,aE⟩:=M.bA b cs dv;exact aa b (bn aq) λ⟨o',x,aK,aR,cB⟩=>by rw[aE o' x aK aR]at cB;cases cB
  cases ad with
  | cy h=>unfold N at hb;split at hb<;>simp[dQ]at h hb
  |cF bQ=>simp[N]at hb;subst hb;exact key _ rfl bQ
  |slice bQ=>simp[N]at hb;subst hb;exact key _ rfl bQ
  |map bQ=>simp[N]at hb;subst hb;exact key _ rfl bQ
  |hT e dv=>simp[N]at hb;subst hb;exact Ho _ dv
  |eL e dv=>simp[N]at hb;subst hb;exact Ho _ dv
  |_=>simp[N]at hb
theorem VL(M:dN K u t m)(bB:gF u K z ae){a4:List (Operand×Operand)}(g5:a4.all (λp=>cO p.1&&cO p.2)=true){aB:nw P}{f:Nat}{args bz:List Value}(ax:bj u K args bz){aT:Value->W->Prop}(h:sA aB f args t (lf z t a4) aT):
    gd P f bz m λdV an=>qg ae a4 m an/\ ∃cz cr r aJ,aT r aJ/\dN cz cr aJ an/\bV cr cz r dV/\eD t.next m.next K u t m cz cr aJ an:=by
  unfold sA at h;split at h
  · refine(SY M ax h).b6 λdV an aH=> ?_;obtain⟨D,cr,r,aJ,H,aq,aE,bq⟩:=aH;exact⟨adp M bB g5 D,K,cr,r,aJ,H,aq,aE,bq⟩
  · cases eZ:lf z t a4 with
    | nil=>
      rw[eZ]at h;simp only[w5]at h;have H:fA P f args t aT:=by
        split at h
        · exact aff h
        · exact h
      refine(H K u bz m M ax).b6 λdV an aH=> ?_;obtain⟨cz,cr,r,aJ,H,aq,aE,bq⟩:=aH;exact⟨Mp M bB g5 bq.la (by rw[eZ];nofun),cz,cr,r,aJ,H,aq,aE,bq⟩
    | cons o l=>
      rw[eZ]at h;simp only[w5]at h;have PC: ∀p∈o::l,∃x,t.X p=some x/\x.cells≠[]:= λp ai=>by
        have:=eQ.1 h.1 p ai;unfold MK at this;split at this
        · next x G=>exact⟨x,G,λe=>by rw[e]at this;simp at this⟩
        · cases this
      have H:fA P f args (kc t (o::l)) λr bF=>aT r (lP t bF (o::l)):=by
        have aq:=h.2;split at aq
        · exact aff aq
        · exact aq
      refine(Wx PC H M ax).b6 λdV an aH=> ?_;obtain⟨ec,cz,cr,mj,aJ,aa,aq,aE,bq⟩:=aH;exact⟨Mp M bB g5 bq.la (by rw[eZ];exact ec),cz,cr,mj,_,aa,aq,aE,bq⟩
def wY(K:eC)(u:fz)(t m:W)(base gr:Nat)(ops:List bp):Prop:= ∀o∈ops,o.k.eW=true->qC K u t m (base+o.aN) (gr+o.aN)
theorem nodup_cons{o:bp}{ops:List bp}(h:uE ((o::ops).map (·.aN))=true):(∀p∈ops,p.aN≠o.aN)/\uE (ops.map (·.aN))=true:=by simp only[ln,uE,aY]at h;refine⟨λp ai e=> ?_,h.2⟩;have D:=h.1;simp at D;exact D p ai e
theorem NI{aB:nw P}{base gr:Nat}: ∀{ops:List bp} {K:eC} {u:fz} {t m:W} {z ae:aM} {aT:aM->W->Prop},ops.all HA=true->uE (ops.map (·.aN))=true->dN K u t m->gF u K z ae->wY K u t m base gr ops->base<=t.next->gr<=m.next->
    c8 aB base ops z t aT->hc P gr ops ae m λjx an=> ∃cz cr bI aJ,aT bI aJ/\dN cz cr aJ an/\gF cr cz bI jx/\eD base gr K u t m cz cr aJ an
  | [],K,u,t,m,z,ae,aT,_,_,M,bB,_,_,_,h=>by rw[UD];exact⟨K,u,z,t,h,M,bB,eD.refl⟩
  | o::ops,K,u,t,m,z,ae,aT,ao,hS,M,bB,fe,hb,rS,h=>by
    obtain⟨aN,d,g,k,a4⟩:=o;simp only[mW,aY]at ao;obtain⟨cW,zl⟩:=nodup_cons hS;have ui:=ao.1;simp only[HA,aY]at ui;have skip: ∀{g:Option (Nat×Bool)},c8 aB base ops (c0 z d undef) t aT->hc P gr ops (c0 ae d undef) m λjx an=> ∃cz cr bI aJ,aT bI aJ/\dN cz cr aJ an/\gF cr cz bI jx/\eD base gr K u t m cz cr aJ an:= λh=>
      NI ao.2 zl M (bB.a0 bV.undef) (λo aC ax=>fe o (by simp[aC]) ax) hb rS h
    have wb:iN aB base ⟨aN,d,g,k,a4⟩ z t (λz t=>c8 aB base ops z t aT)->hc P gr (⟨aN,d,none,k,a4⟩::ops) ae m λjx an=> ∃cz cr bI aJ,aT bI aJ/\dN cz cr aJ an/\gF cr cz bI jx/\eD base gr K u t m cz cr aJ an:= λh=>by
      have after: ∀{dV:Value} {bg:W},(qg ae a4 m bg/\ ∃cz cr r aJ,(c8 aB base ops (c0 z d r) aJ aT)/\dN cz cr aJ bg/\bV cr cz r dV/\eD t.next m.next K u t m cz cr aJ bg)->
          vk P gr d a4 ops ae m (λjx an=> ∃cz cr bI aJ,aT bI aJ/\dN cz cr aJ an/\gF cr cz bI jx/\eD base gr K u t m cz cr aJ an) dV bg:= λ{dV bg} ⟨aa,cq,dt,r,bF,D,H,aq,aE⟩=>by
        refine⟨aa,?_⟩;have zx:gF dt cq (c0 z d r) (c0 ae d dV):=(bB.b6 aE.f aE.e).a0 aq;have za:wY cq dt bF bg base gr ops:= λo aC ax=>by
          have au:=fe o (by simp[aC]) ax;refine⟨?_,λo' l8=> ?_,?_,oY au.sh aE.je,oY au.qi aE.jE⟩
          · cases bb:cq (base+o.aN)with
            |none=>rfl
            | some b=>
              rcases aE.iJ _ _ bb with bq|⟨bq,_⟩
              · rw[au.e]at bq;cases bq
              · have:=au.sh;omega
          · rcases aE.iJ _ _ l8 with bq|⟨_,bq⟩
            · exact au.b _ bq
            · have:=au.qi;omega
          · cases bb:dt (gr+o.aN)with
            |none=>rfl
            | some cs=>
              rcases aE.fn _ _ bb with bq|bq|⟨o',_,bq,_⟩
              · rw[au.f]at bq;cases bq
              · have:=au.qi;omega
              · exact absurd bq (au.b o')
        have cc:=NI ao.2 zl H zx za (kZ hb aE.je) (kZ rS aE.jE) D;obtain⟨n,bl,dH,hs,fM,ig,dj,iH,a3,br,bX,e1⟩:=cc;exact⟨n,bl,dH,hs,fM,ig,dj,iH,a3,br,bX,(aE.uX hb rS).trans e1⟩
      have SQ: ∀{k:af},k.jO=false->wi k=true->(k.eW=true->qC K u t m (base+aN) (gr+aN))->(k.hW z t=true/\hO z t a4=true/\c8 aB base ops (c0 z d (k.ic (base+aN) z t)) (k.mJ (base+aN) z t) aT)->
          hc P gr (⟨aN,d,none,k,a4⟩::ops) ae m λjx an=> ∃cz cr bI aJ,aT bI aJ/\dN cz cr aJ an/\gF cr cz bI jx/\eD base gr K u t m cz cr aJ an:= λ{k} ar aa au h=>by
        rw[uY ar];obtain⟨D,cq,q⟩:=aec (gE:=base) (hg:=gr) (id:=base+aN) (mid:=gr+aN) M bB ar aa h.1 au (by omega) (by omega);refine⟨D,VZ M bB ui.2 h.2.1,?_⟩;have zx:gF u cq (c0 z d (k.ic (base+aN) z t)) (c0 ae d (k.val (gr+aN) ae m)):=(bB.b6 q.bA.f q.bA.e).a0 q.val;have za:wY cq u (k.mJ (base+aN) z t) (k.gu (gr+aN) ae m) base gr ops:= λo aC ax=>by
          have au:=fe o (by simp[aC]) ax;have G:=cW o aC;simp only at G;refine⟨by rw[q.HH _ (by omega)];exact au.e,λo' l8=> ?_,au.f,oY au.sh q.bA.je,oY au.qi q.bA.jE⟩;by_cases e:o'=base+aN
          · subst e;rcases q.self with bq|bq
            · rw[bq]at l8;exact au.b _ l8
            · rw[bq]at l8;simp only[ll]at l8;omega
          · rw[q.HH _ e]at l8;exact au.b _ l8
        have cc:=NI ao.2 zl q.T2 zx za (kZ hb q.bA.je) (kZ rS q.bA.jE) h.2.2;obtain⟨n,bl,dH,hs,fM,ig,dj,iH,a3,br,bX,e1⟩:=cc;exact⟨n,bl,dH,hs,fM,ig,dj,iH,a3,br,bX,q.bA.trans e1⟩
      have vD:=fe ⟨aN,d,g,k,a4⟩ (by simp);have zd:=ui.1;have bx:=zd;simp only[wi,aY]at bx;cases k with
      | dm f bz=>rw[UC];exact(VL M bB ui.2 (bB.xe bx.1) h).b6 λdV bg aH=>after aH
      | iy x bz=>
        simp only[iN,EA]at h;simp only[af.gR,mW,aY]at bx;split at h
        · next f first l3 G=>have ad:=bB.Y bx.1.1;rw[G]at ad;obtain⟨ys,ds,e,jo,jq⟩:=ad.zz;rw[afY e];exact(VL M bB ui.2 ((jo.oq (bB.xe bx.1.2)).oq jq) h).b6 λdV bg aH=>after aH
        · exact h.elim
      |kv=>exact h.elim
      |_=>exact SQ rfl zd vD h
    simp only[c8]at h;cases g with
    |none=>exact wb (by simpa[eA]using h)
    | some g=>
      obtain⟨j,b⟩:=g;rw[NR,Ur bB];split at h
      · next aZ=>rw[if_pos aZ];exact wb h
      · next aZ=>rw[if_neg aZ];exact skip (g:=none) h
theorem Ok(M:dN K u t m)(k:Nat):dN K u (t.dp k) (m.dp k) where
  hK o x G:=by
    by_cases h:o<t.next
    · rw[e6 h]at G;rcases M.hK o x G with⟨b,cs,w,D,H,aq⟩|D
      · exact .inl ⟨b,cs,w,D,by rw[e6 (bn H),H],aq⟩
      · exact .inr D
    · simp[W.X,W.dp,h]at G
  maps o a9 bb:=by
    by_cases h:o<t.next
    · rw[O1 h]at bb;obtain⟨b,c1,D,H,aq⟩:=M.maps o a9 bb;exact⟨b,c1,D,by rw[O1 (M.c2 o b D).2,H],aq⟩
    · have:=(hR bb).1;simp[W.X,W.dp,h]at this
  h3:=M.h3
  inj:=M.inj
  c2 o b h:=by have:=M.c2 o b h;simp only[Aq];omega
  bA b cs h:=by obtain⟨⟨w,D⟩,H⟩:=M.bA b cs h;refine⟨⟨w,by rw[e6 (bn D),D]⟩,λo x bQ G=> ?_⟩;rw[e6 (M.c2 o b bQ).1]at G;exact H o x bQ G
theorem Jd(M:dN K u t m)(k:Nat):eD t.next m.next K u t m K u (t.dp k) (m.dp k) where
  e:=fy.refl _
  f:=gV.refl _
  iJ o b h:= .inl h
  fn b cs h:= .inl h
  je:=by simp
  jE:=by simp
  la b hb _:=e6 hb
  nu b hb:= λ⟨o,x,D,H,aq⟩=>⟨o,x,D,by rw[e6 (M.c2 o b D).1]at H;exact H,aq⟩
  mX b hb:= λ⟨o,x,D,H⟩=>⟨o,x,D,by rw[e6 (M.c2 o b D).1]at H;exact H⟩
theorem awB{aB:nw P}{ops:List bp}(ao:mM (.F ops)=true)(M:dN K u t m)(bB:gF u K z ae){aT:aM->W->Prop}(h:c8 aB t.next ops z (gW ops t) aT):
    hc P m.next ops ae (gW ops m) λjx an=> ∃cz cr bI aJ,aT bI aJ/\dN cz cr aJ an/\gF cr cz bI jx/\eD t.next m.next K u t m cz cr aJ an:=by
  simp only[mM,aY]at ao;have uj:dN K u (gW ops t) (gW ops m):=by
    unfold gW;split
    · exact Ok M _
    · exact M
  have rN:eD t.next m.next K u t m K u (gW ops t) (gW ops m):=by
    unfold gW;split
    · exact Jd M _
    · exact eD.refl
  have vB:wY K u (gW ops t) (gW ops m) t.next m.next ops:= λo aC ax=>by
    have E7:(ops.any λo=>o.k.eW)=true:=List.any_eq_true.2 ⟨o,aC,ax⟩;have p9:o.aN<ops.length:=(by simpa using eQ.1 ao.2 o aC);refine⟨?_,λo' l8=> ?_,?_,by simp[gW,E7,p9],by simp[gW,E7,p9]⟩
    · cases bb:K (t.next+o.aN)with
      |none=>rfl
      |some b=>have:=(M.c2 _ _ bb).1;omega
    · have:=(M.c2 _ _ l8).2;omega
    · cases bb:u (m.next+o.aN)with
      |none=>rfl
      |some cs=>obtain⟨⟨w,D⟩,_⟩:=M.bA _ _ bb;have:=bn D;omega
  have:=NI ao.1.1 ao.1.2 uj bB vB rN.je rN.jE h;obtain⟨n,bl,dH,hs,fM,ig,dj,iH,a3,br,bX,e1⟩:=this;exact⟨n,bl,dH,hs,fM,ig,dj,iH,a3,br,bX,rN.trans e1⟩
theorem A2{aB:nw P}: ∀{c:J} {z:aM} {t:W} {Q:du->aM->W->Prop},iR aB c z t Q->fl P c z t Q
  | .skip,z,t,Q,h=> λ_ K u ae m M bB=>by rw[UB];exact⟨K,u,z,t,h,M,bB,eD.refl⟩
  | .bh id,z,t,Q,h=> λ_ K u ae m M bB=>by rw[Uy];exact⟨K,u,z,t,h,M,bB,eD.refl⟩
  | .aI,z,t,Q,h=> λ_ K u ae m M bB=>by rw[UA];exact⟨K,u,z,t,h,M,bB,eD.refl⟩
  | .F ops,z,t,Q,h=> λao K u ae m M bB=>by rw[Uz];exact awB ao M bB h
  | .qh _ _ _,_,_,_,h=>h.elim
  | .B a b,z,t,Q,h=> λao K u ae m M bB=>by
    simp only[mM,aY]at ao;rw[NP];refine(A2 (c:=a) h ao.1 K u ae m M bB).b6 λe bl bg aH=> ?_;obtain⟨cq,dt,bI,bF,D,H,aq,aE⟩:=aH;cases e with
    | er=>rw[Ub];refine(A2 (c:=b) D ao.2 cq dt bl bg H aq).b6 λe eU dH aH=> ?_;obtain⟨fM,ig,dj,iH,aQ,a7,cD,dI⟩:=aH;exact⟨fM,ig,dj,iH,aQ,a7,cD,aE.trans (dI.uX aE.je aE.jE)⟩
    |bh id=>exact⟨cq,dt,bI,bF,D,H,aq,aE⟩
    |aI=>exact⟨cq,dt,bI,bF,D,H,aq,aE⟩
  | .aV c a b,z,t,Q,h=> λao K u ae m M bB=>by
    simp only[mM,aY]at ao;rw[NO];have e:=ada (bB.Y ao.1.1) h.1;rw[e];refine⟨h.1,?_⟩;have H:=h.2;split at H
    · next ar=>rw[if_pos ar];exact A2 (c:=a) H ao.1.2 K u ae m M bB
    · next ar=>rw[if_neg ar];exact A2 (c:=b) H ao.2 K u ae m M bB
  | .block id c,z,t,Q,h=> λao K u ae m M bB=>by
    rw[Ix];refine(A2 (c:=c) h ao K u ae m M bB).b6 λe bl bg aH=> ?_;obtain⟨cq,dt,bI,bF,D,H⟩:=aH;cases e with
    |er=>exact⟨cq,dt,bI,bF,D,H⟩
    |aI=>exact⟨cq,dt,bI,bF,D,H⟩
    | bh iB=>
      rw[Br];simp only at D;split at D
      · next e=>rw[if_pos e];exact⟨cq,dt,bI,bF,D,H⟩
      · next e=>rw[if_neg e];exact⟨cq,dt,bI,bF,D,H⟩
  | .loop c,z,t,Q,h=>h
theorem fl.b6{c:J}{Q w0:du->aM->W->Prop}(h:fl P c z t Q)(bc: ∀e z t,Q e z t->w0 e z t):fl P c z t w0:= λao K u ae m M bB=>(h ao K u ae m M bB).b6 λe bl bg aH=>by obtain⟨cq,dt,bI,bF,D,H⟩:=aH;exact⟨cq,dt,bI,bF,bc _ _ _ D,H⟩
theorem fA.b6{f:Nat}{args:List Value}{cd mr:Value->W->Prop}(h:fA P f args t cd)(bc: ∀r t,cd r t->mr r t):fA P f args t mr:= λK u bz m M ax=>(h K u bz m M ax).b6 λdV bg aH=>by obtain⟨cq,dt,r,bF,D,H⟩:=aH;exact⟨cq,dt,r,bF,bc _ _ D,H⟩
theorem eu{aB:nw P}{c:J}{Q:du->aM->W->Prop}(h: ∀cx:aM->W->Prop,(∀ae aJ,fl P (.loop c) ae aJ Q->cx ae aJ)->iR aB c z t (x4 cx Q)):fl P (.loop c) z t Q:= λao K u ae m M bB=>by
  rw[afX];refine(A2 (h (λae aJ=>fl P (.loop c) ae aJ Q) (λ_ _ h=>h)) ao K u ae m M bB).b6 λe bl bg aH=> ?_;obtain⟨cq,dt,bI,bF,D,H,aq,aE⟩:=aH;cases e with
  | er=>rw[adx];refine(D ao cq dt bl bg H aq).b6 λe eU dH aH=> ?_;obtain⟨fM,ig,dj,iH,aQ,a7,cD,dI⟩:=aH;exact⟨fM,ig,dj,iH,aQ,a7,cD,aE.trans (dI.uX aE.je aE.jE)⟩
  |bh id=>exact⟨cq,dt,bI,bF,D,H,aq,aE⟩
  |aI=>exact⟨cq,dt,bI,bF,D,H,aq,aE⟩
theorem fA.drop{f:Nat}{args:List Value}{cd mr:Value->W->Prop}(h:fA P f args t cd)(ay: ∀r aJ,cd r aJ-> ∃sf,mr r sf/\sf.next=aJ.next/\sf.mp=aJ.mp/\ ∀b x,sf.X b=some x->aJ.X b=some x):fA P f args t mr:= λK u bz m M ax=>(h K u bz m M ax).b6 λdV bg aH=>by
  obtain⟨cq,dt,r,bF,D,H,aq,aE⟩:=aH;obtain⟨iH,aQ,a7,cD,dI⟩:=ay r bF D;have rL: ∀o a9,iH.eK o=some a9->bF.eK o=some a9:= λo a9 bb=>by obtain⟨aK,aR⟩:=hR bb;exact jM (dI _ _ aK) (by rw[<-cD];exact aR)
  refine⟨cq,dt,r,iH,aQ,⟨λo x G=>H.hK o x (dI o x G),λo a9 bb=>H.maps o a9 (rL o a9 bb),λo aC=>by rw[cD];exact H.h3 o aC,H.inj,λo b hb=>by rw[a7];exact H.c2 o b hb,λb cs hb=>⟨(H.bA b cs hb).1,λo x bQ G=>(H.bA b cs hb).2 o x bQ (dI o x G)⟩⟩,aq,?_⟩;exact⟨aE.e,aE.f,aE.iJ,aE.fn,by rw[a7];exact aE.je,aE.jE,aE.la,λb hb ⟨o,x,a3,br,bX⟩=>aE.nu b hb ⟨o,x,a3,dI _ _ br,bX⟩,λb hb ⟨o,x,a3,br⟩=>aE.mX b hb ⟨o,x,a3,dI _ _ br⟩⟩
def aeJ(cl:List k3)(cd:Value->W->Prop)(e:du)(z:aM)(t:W):Prop:=match e with| .bh _=>False|_=>kU t z cl=true/\cd (lj t z cl) t
theorem S5(M:dN K u t m)(bB:gF u K z ae){r:k3}(h:oQ t z r=true):oQ m ae r=true/\bV u K (pG t z r) (pG m ae r):=by
  cases r with
  |bL x=>exact⟨rfl,bB x⟩
  | hZ x dd n=>
    simp only[oQ,aY]at h⊢;have m5:md (z x)=false:=by have D:=h.1;cases G:z x<;>simp[G,gn]at D<;>rfl
    have D:o8 t (z x) n=true:=(by rw[o8,m5];exact h.1);refine⟨⟨Eh M (bB x) D,h.2⟩,?_⟩;have:=Sq M (bB x) D h.2;rw[v9,m5]at this;exact this
theorem S7(M:dN K u t m)(bB:gF u K z ae){cl:List k3}(h:kU t z cl=true):kU m ae cl=true/\bV u K (lj t z cl) (lj m ae cl):=by
  simp only[kU,eQ]at h⊢;refine⟨λr az=>(S5 M bB (h r az)).1,?_⟩;have aD:bj u K (cl.map (pG t z)) (cl.map (pG m ae)):=bj.Db _ _ _ λr az=>(S5 M bB (h r az)).2;unfold lj;split
  · exact(S5 M bB (h _ (by simp))).2
  · exact aD.tuple
theorem dM{aB:nw P}{f:Nat}{Fn:bU}(dv:b3 P f=some Fn)(ao:mM Fn.body=true){args:List Value}(aD:args.length<=Fn.cQ){cd:Value->W->Prop}(h:iR aB Fn.body (jl args) t (aeJ Fn.jc cd)):fA P f args t cd:= λK u bz m M ax=>by
  rw[si dv (by rw[<-ax.1];exact aD)];refine(A2 h ao K u (jl bz) m M (gF.init ax)).b6 λe bl bg aH=> ?_;obtain⟨cq,dt,bI,bF,D,H,aq,aE⟩:=aH;cases e with
  |bh id=>exact D.elim
  |er=>obtain⟨a,b⟩:=S7 H aq D.1;exact⟨a,cq,dt,_,bF,D.2,H,b,aE⟩
  |aI=>obtain⟨a,b⟩:=S7 H aq D.1;exact⟨a,cq,dt,_,bF,D.2,H,b,aE⟩
def g6:W:=⟨0,λ_=>none,λ_=>none⟩
theorem Sv(o:Nat):g6.X o=none:=by simp[g6,W.X]
theorem ae4(dv:tO u m):dN kT u g6 m where
  hK o x G:=by rw[Sv]at G;cases G
  maps o a9 bb:=by have:=(hR bb).1;rw[Sv]at this;cases this
  h3 o _:=rfl
  inj o o' b h:=by cases h
  c2 o b h:=by cases h
  bA b cs h:=⟨dv b cs h,λo x bQ=>by cases bQ⟩
open Classical in
theorem et{f:Nat}{args:List Value}{r:Value}(h:fA P f args g6 λv t=>dO 9 t v=some r):bK P f args r:= λu m bz dv ax=>by
  refine(h kT u bz m (ae4 dv) ax).b6 λdV an aH=> ?_;obtain⟨cz,cr,v,aJ,D,H,aq,aE⟩:=aH;refine⟨aE.jE,(λb hb=>aE.la b hb λ⟨o,x,e,_⟩=>by cases e),(λb=>match cr b with
    |some cs=>some cs
    |none=>if∃o,cz o=some b then(an.X b).map (·.cells)else none),λb cs hb=> ?_,λb cs hb=> ?_,?_⟩
  · simp only[aE.f b cs hb]
  · simp only at hb;split at hb
    · next bq=>cases hb;exact(H.bA b _ bq).1
    · split at hb
      · cases aF:an.X b with
        |none=>rw[aF]at hb;cases hb
        |some x=>rw[aF]at hb;cases hb;exact⟨x.own,rfl⟩
      · cases hb
  · refine ER H (λb cs hb=>by simp only[hb]) 9 aq D λo aC fc b cs w bQ aF=> ?_;cases lM:cr b with
    |some ds=>obtain⟨⟨cN,mb⟩,_⟩:=H.bA b ds lM;rw[aF]at mb;cases mb;rfl
    |none=>rw[if_pos ⟨o,bQ⟩,aF];rfl
theorem yB{c:J}{Q:du->aM->W->Prop}{d I:Nat}(cR:z d= .slice none 0 0)(h:fl P c (mm z d (.slice (some ⟨t.next,0,none⟩) 0 I)) ((t.dp 1).a0 t.next (some ⟨[],true⟩)) Q):fl P c z t Q:= λao K u ae m M bB=>by
  have bQ:K t.next=none:=by
    cases bb:K t.next with
    |none=>rfl
    |some b=>have:=(M.c2 _ _ bb).1;omega
  have uj:dN K u ((t.dp 1).a0 t.next (some ⟨[],true⟩)) m:=by
    refine⟨λo x G=> ?_,λo a9 bb=> ?_,M.h3,M.inj,λo b h=>⟨by have:=(M.c2 o b h).1;simp only[mg,Aq];omega,(M.c2 o b h).2⟩,λb cs hb=> ?_⟩
    · by_cases aC:o=t.next
      · subst aC;rw[ej (by simp)]at G;cases G;exact .inr ⟨bQ,rfl⟩
      · rw[bW aC,W.e6]at G;exact M.hK o x G
    · by_cases aC:o=t.next
      · subst aC;have:=(hR bb).2;rw[show((t.dp 1).a0 t.next (some ⟨[],true⟩)).mp=t.mp from rfl,M.h3 _ bQ]at this;cases this
      · rw[sH aC]at bb;obtain⟨aK,aR⟩:=hR bb;rw[W.e6]at aK;exact M.maps o a9 (jM aK aR)
    · obtain⟨D,H⟩:=M.bA b cs hb;refine⟨D,λo x Pc G=> ?_⟩;have aC:o≠t.next:= λe=>by subst e;rw[bQ]at Pc;cases Pc
      rw[bW aC,W.e6]at G;exact H o x Pc G
  have akq:gF u K (mm z d (.slice (some ⟨t.next,0,none⟩) 0 I)) ae:= λx=>by
    have G:=bB x;simp only[mm];split
    · next e=>subst e;rw[cR]at G;rw[G.hC rfl];exact .oU
    · exact G
  refine(h ao K u ae m uj akq).b6 λe bl bg aH=> ?_;obtain⟨cq,dt,bI,bF,D,H,aq,aE⟩:=aH;refine⟨cq,dt,bI,bF,D,H,aq,?_⟩;have aiP:eD t.next m.next K u t m K u ((t.dp 1).a0 t.next (some ⟨[],true⟩)) m:=⟨fy.refl _,gV.refl _,λ_ _ h=> .inl h,λ_ _ h=> .inl h,by simp,dW _,λ_ _ _=>rfl,λb hb=> λ⟨o,x,aK,aR,cB⟩=>by
    have aC:o≠t.next:= λe=>by subst e;rw[bQ]at aK;cases aK
    rw[bW aC,W.e6]at aR;exact⟨o,x,aK,aR,cB⟩,λb hb=> λ⟨o,x,aK,aR⟩=>by
    have aC:o≠t.next:= λe=>by subst e;rw[bQ]at aK;cases aK
    rw[bW aC,W.e6]at aR;exact⟨o,x,aK,aR⟩⟩
  exact aiP.trans (aE.uX (by simp) (dW _))
end
open Go
section
variable {P:Program} {aB:nw P} {yr:List (bE P)} {Nt:List (iQ P)} {base aN:Nat} {d:Option Nat} {bR:List bp} {z:aM} {t:W} {aT:aM->W->Prop} {a4:List (Operand×Operand)} {Q:du->aM->W->Prop}
def NG(aB:nw P)(b:J)(Q:du->aM->W->Prop)(e:du)(z:aM)(t:W):Prop:=match e with
  | .er=>iR aB b z t Q
  |e=>Q e z t
@[simp] theorem aLT{b:J}:NG aB b Q .er z t=iR aB b z t Q:=propext j5
@[simp] theorem aLS{b:J}{id:Nat}:NG aB b Q (.bh id) z t=Q (.bh id) z t:=propext j5
@[simp] theorem aLU{b:J}:NG aB b Q .aI z t=Q .aI z t:=propext j5
@[simp] theorem aIv{u:List k3}{cd:Value->W->Prop}:aeJ u cd .aI z t=(kU t z u=true/\cd (lj t z u) t):=propext j5
@[simp] theorem aL5:iR aB .skip z t Q=Q .er z t:=propext j5
@[simp] theorem aL0{id:Nat}:iR aB (.bh id) z t Q=Q (.bh id) z t:=propext j5
@[simp] theorem aL3:iR aB .aI z t Q=Q .aI z t:=propext j5
@[simp] theorem aL2{ops:List bp}:iR aB (.F ops) z t Q=c8 aB t.next ops z (gW ops t) (Q .er):=propext j5
@[simp] theorem aL4{a b:J}:iR aB (.B a b) z t Q=iR aB a z t (NG aB b Q):=propext j5
@[simp] theorem aLZ{c:Operand}{a b:J}:iR aB (.aV c a b) z t Q=(rX (Y z c)=true/\if tU (Y z c)=true then iR aB a z t Q else iR aB b z t Q):=propext j5
@[simp] theorem aLY{id:Nat}{c:J}:iR aB (.block id c) z t Q=iR aB c z t (Et id Q):=propext j5
@[simp] theorem aL1{c:J}:iR aB (.loop c) z t Q=fl P (.loop c) z t Q:=propext j5
@[simp] theorem aMw:c8 aB base [] z t aT=aT z t:=propext j5
@[simp] theorem aMk{k:af}{j:Nat}{b:Bool}:c8 aB base (⟨aN,d,some (j,b),k,a4⟩::bR) z t aT=if eA z (some (j,b))=true then c8 aB base (⟨aN,d,none,k,a4⟩::bR) z t aT else c8 aB base bR (c0 z d undef) t aT:=by simp only[c8];rfl
def Si(aB:nw P)(base:Nat)(d:Option Nat)(bR:List bp)(z:aM)(aT:aM->W->Prop)(r:Value)(t:W):Prop:=c8 aB base bR (c0 z d r) t aT
@[simp] theorem aGp{r:Value}:Si aB base d bR z aT r t=c8 aB base bR (c0 z d r) t aT:=propext j5
@[simp] theorem aMd{f:Nat}{bz:List Operand}:c8 aB base (⟨aN,d,none,.dm f bz,a4⟩::bR) z t aT=sA aB f (bz.map (Y z)) t (lf z t a4) (Si aB base d bR z aT):=by simp only[c8,eA,if_true];rfl
@[simp] theorem aMe{x:Operand}{bz:List Operand}:c8 aB base (⟨aN,d,none,.iy x bz,a4⟩::bR) z t aT=EA aB (Y z x) (bz.map (Y z)) t (lf z t a4) (Si aB base d bR z aT):=by simp only[c8,eA,if_true];rfl
@[simp] theorem aDe{f:Nat}{first l3:Array Value}{args:List Value}{L:List Nat}{aT:Value->W->Prop}:EA aB (.func (.func f) first l3) args t L aT=sA aB f (first.toList++args++l3.toList) t L aT:=propext j5
@[simp] theorem aMu(x:Operand):c8 aB base (⟨aN,d,none,.nf x,a4⟩::bR) z t aT=(hO z t a4=true/\c8 aB base bR (c0 z d (Y z x)) (t) aT):=by simp only[c8,eA,if_true,iN,af.hW,af.ok,true_and];rfl
@[simp] theorem aMy(c a b:Operand):c8 aB base (⟨aN,d,none,.pE c a b,a4⟩::bR) z t aT=(rX (Y z c)=true/\(hO z t a4=true/\c8 aB base bR (c0 z d (if tU (Y z c)=true then Y z a else Y z b)) (t) aT)):=by simp only[c8,eA,if_true,iN];rfl
@[simp] theorem aMx(x:Operand):c8 aB base (⟨aN,d,none,.ti x,a4⟩::bR) z t aT=(z2 (Y z x)=true/\(hO z t a4=true/\c8 aB base bR (c0 z d (Y z x)) (t) aT)):=by simp only[c8,eA,if_true,iN];rfl
@[simp] theorem aL6(I:List Value):c8 aB base (⟨aN,d,none,.dz I,a4⟩::bR) z t aT=(hO z t a4=true/\c8 aB base bR (c0 z d (.pointer (some ⟨base+aN,0,none⟩))) (t.a0 (base+aN) (some ⟨I,true⟩)) aT):=by simp only[c8,eA,if_true,iN,af.hW,af.ok,true_and];rfl
@[simp] theorem aMa(x:Operand):c8 aB base (⟨aN,d,none,.l0 x,a4⟩::bR) z t aT=(U (Y z x)=true/\(hO z t a4=true/\c8 aB base bR (c0 z d (.pointer (some ⟨base+aN,0,none⟩))) (t.a0 (base+aN) (some ⟨O (Y z x),true⟩)) aT)):=by simp only[c8,eA,if_true,iN];rfl
@[simp] theorem aMc(I:List Value)(ps:List (Nat×Nat×Operand)):c8 aB base (⟨aN,d,none,.eY I ps,a4⟩::bR) z t aT=(pD I z ps=true/\(hO z t a4=true/\c8 aB base bR (c0 z d (.agg (lE I z ps).toArray)) (t) aT)):=by simp only[c8,eA,if_true,iN];rfl
@[simp] theorem aMb(I n:Nat)(cs:List Value)(ps:List (Nat×Nat×Operand)):c8 aB base (⟨aN,d,none,.fR I n cs ps,a4⟩::bR) z t aT=(pD cs z ps=true/\(hO z t a4=true/\c8 aB base bR (c0 z d (.slice (some ⟨base+aN,0,none⟩) n I)) (t.a0 (base+aN) (some ⟨lE cs z ps,true⟩)) aT)):=by simp only[c8,eA,if_true,iN];rfl
@[simp] theorem aMo(dd:Bool)(n:Nat)(x:Operand):c8 aB base (⟨aN,d,none,.kx dd n x,a4⟩::bR) z t aT=((o8 t (Y z x) n&&(dd||decide (n=1)))=true/\(hO z t a4=true/\c8 aB base bR (c0 z d (v9 t dd n (Y z x))) (t) aT)):=by simp only[c8,eA,if_true,iN];rfl
@[simp] theorem aMB(n:Nat)(x v:Operand):c8 aB base (⟨aN,d,none,.store n x v,a4⟩::bR) z t aT=((gn t (Y z x) n&&o9 t (Y z x)&&U (Y z v)&&decide ((O (Y z v)).length=n))=true/\(hO z t a4=true/\c8 aB base bR (c0 z d (undef)) (nq t (Y z x) (O (Y z v))) aT)):=by simp only[c8,eA,if_true,iN];rfl
@[simp] theorem aL9(op:BinOp)(c:su)(x y:Operand):c8 aB base (⟨aN,d,none,.fg op c x y,a4⟩::bR) z t aT=((lK (Y z x)&&lK (Y z y)&&qG op c (Y z x) (Y z y))=true/\(hO z t a4=true/\c8 aB base bR (c0 z d (kI op (Y z x) (Y z y))) (t) aT)):=by simp only[c8,eA,if_true,iN];rfl
@[simp] theorem aMC(op:UnOp)(x:Operand):c8 aB base (⟨aN,d,none,.qv op x,a4⟩::bR) z t aT=(wL op (Y z x)=true/\(hO z t a4=true/\c8 aB base bR (c0 z d (A3 op (Y z x))) (t) aT)):=by simp only[c8,eA,if_true,iN];rfl
@[simp] theorem aMh(k:IntKind)(x:Operand):c8 aB base (⟨aN,d,none,.rz k x,a4⟩::bR) z t aT=(eT (Y z x)=true/\(hO z t a4=true/\c8 aB base bR (c0 z d (.int k (k.wrap (eG (Y z x))))) (t) aT)):=by simp only[c8,eA,if_true,iN];rfl
@[simp] theorem aMg(x:Operand):c8 aB base (⟨aN,d,none,.mw x,a4⟩::bR) z t aT=((kB t 1 (Y z x)&&(k5 t 1 (Y z x)).all z4)=true/\(hO z t a4=true/\c8 aB base bR (c0 z d (.string (toBytes (k5 t 1 (Y z x))))) (t) aT)):=by simp only[c8,eA,if_true,iN];rfl
@[simp] theorem aMA(I:Nat)(x:Operand)(cp ak:Option Operand):c8 aB base (⟨aN,d,none,.mQ I x cp ak,a4⟩::bR) z t aT=((kW I (Y z x)&&nj z cp&&nj z ak&&decide (0<=gK z cp 0)&&decide (gK z cp 0<=gK z ak (jQ (Y z x)))&&decide (gK z ak (jQ (Y z x))<=jQ (Y z x)))=true/\(hO z t a4=true/\c8 aB base bR (c0 z d (rj (Y z x) I (gK z cp 0).toNat (gK z ak (jQ (Y z x))).toNat)) (t) aT)):=by simp only[c8,eA,if_true,iN];rfl
@[simp] theorem aMz(I n:Nat)(x:Operand):c8 aB base (⟨aN,d,none,.oT I n x,a4⟩::bR) z t aT=((gn t (Y z x) (n*I)&&decide (n<=maxLen))=true/\(hO z t a4=true/\c8 aB base bR (c0 z d (Ej (Y z x) I n)) (t) aT)):=by simp only[c8,eA,if_true,iN];rfl
@[simp] theorem aMs(I bytes:Nat)(j6:List Value)(l c:Operand):c8 aB base (⟨aN,d,none,.jY I bytes j6 l c,a4⟩::bR) z t aT=((eT (Y z l)&&eT (Y z c)&&decide (0<=eG (Y z l))&&decide (eG (Y z l)<=eG (Y z c))&&decide (eG (Y z c)*(bytes:Int)<=140737488355328)&&decide (eG (Y z c)<=9223372036854775807)&&decide (0<I))=true/\(hO z t a4=true/\c8 aB base bR (c0 z d (.slice (some ⟨base+aN,0,none⟩) (eG (Y z l)).toNat I)) (t.a0 (base+aN) (some ⟨(List.replicate (eG (Y z l)).toNat j6).flatten,true⟩)) aT)):=by simp only[c8,eA,if_true,iN];rfl
@[simp] theorem aMj(off:Nat)(x:Operand):c8 aB base (⟨aN,d,none,.rF off x,a4⟩::bR) z t aT=(oP (Y z x)=true/\(hO z t a4=true/\c8 aB base bR (c0 z d (uL (Y z x) off)) (t) aT)):=by simp only[c8,eA,if_true,iN];rfl
@[simp] theorem aMl(I:Nat)(x i:Operand):c8 aB base (⟨aN,d,none,.qc I x i,a4⟩::bR) z t aT=((kW I (Y z x)&&eT (Y z i)&&decide (0<=eG (Y z i))&&decide (eG (Y z i)<jQ (Y z x)))=true/\(hO z t a4=true/\c8 aB base bR (c0 z d (yn (Y z x) I (eG (Y z i)))) (t) aT)):=by simp only[c8,eA,if_true,iN];rfl
@[simp] theorem aMm(I len:Nat)(x i:Operand):c8 aB base (⟨aN,d,none,.oD I len x i,a4⟩::bR) z t aT=((oP (Y z x)&&eT (Y z i)&&decide (0<=eG (Y z i))&&decide (eG (Y z i)<(len:Int)))=true/\(hO z t a4=true/\c8 aB base bR (c0 z d (uL (Y z x) ((eG (Y z i)).toNat*I))) (t) aT)):=by simp only[c8,eA,if_true,iN];rfl
@[simp] theorem aMi(i:Nat)(x:Operand):c8 aB base (⟨aN,d,none,.ext i x,a4⟩::bR) z t aT=(DQ (Y z x) i=true/\(hO z t a4=true/\c8 aB base bR (c0 z d (A1 (Y z x) i)) (t) aT)):=by simp only[c8,eA,if_true,iN];rfl
@[simp] theorem aMn(x:Operand):c8 aB base (⟨aN,d,none,.r2 x,a4⟩::bR) z t aT=(xZ (Y z x)=true/\(hO z t a4=true/\c8 aB base bR (c0 z d (.int .i64 (jQ (Y z x)))) (t) aT)):=by simp only[c8,eA,if_true,iN];rfl
@[simp] theorem aL7(I bytes:Nat)(x y:Operand):c8 aB base (⟨aN,d,none,.app I bytes x y,a4⟩::bR) z t aT=((fP t I (Y z x)&&jS t (Y z x)&&kB t I (Y z y)&&decide (0<I)&&decide ((gv (Y z x)+j3 (Y z y))*bytes<=140737488355328)&&decide (gv (Y z x)+j3 (Y z y)<=9223372036854775807))=true/\(hO z t a4=true/\c8 aB base bR (c0 z d (if j3 (Y z y)=0 then Y z x else .slice (some ⟨base+aN,0,none⟩) (gv (Y z x)+j3 (Y z y)) I)) (if j3 (Y z y)=0 then t else(kf t (Y z x)).a0 (base+aN) (some ⟨fZ t I (Y z x)++k5 t I (Y z y),true⟩)) aT)):=by simp only[c8,eA,if_true,iN];rfl
@[simp] theorem aMf(x:Operand):c8 aB base (⟨aN,d,none,.vl x,a4⟩::bR) z t aT=(xW (Y z x)=true/\(hO z t a4=true/\c8 aB base bR (c0 z d (.int .i64 0)) (t) aT)):=by simp only[c8,eA,if_true,iN];rfl
@[simp] theorem aL8(I bytes:Nat)(j6:List Value)(x n:Operand):c8 aB base (⟨aN,d,none,.lZ I bytes j6 x n,a4⟩::bR) z t aT=((xW (Y z x)&&eT (Y z n)&&decide (0<eG (Y z n))&&decide (eG (Y z n)*(bytes:Int)<=140737488355328)&&decide (eG (Y z n)<=9223372036854775807)&&decide (0<I))=true/\(hO z t a4=true/\c8 aB base bR (c0 z d (.slice (some ⟨base+aN,0,none⟩) (eG (Y z n)).toNat I)) (t.a0 (base+aN) (some ⟨(List.replicate (eG (Y z n)).toNat j6).flatten,true⟩)) aT)):=by simp only[c8,eA,if_true,iN];rfl
@[simp] theorem aMp(fk:Bool)(x:Operand)(xs:List Operand):c8 aB base (⟨aN,d,none,.oJ fk x xs,a4⟩::bR) z t aT=((eT (Y z x)&&xs.all λy=>eT (Y z y))=true/\(hO z t a4=true/\c8 aB base bR (c0 z d (xs.foldl (λdC y=>if fk then nG dC (Y z y)else nH dC (Y z y)) (Y z x))) (t) aT)):=by simp only[c8,eA,if_true,iN];rfl
@[simp] theorem aMq(nS:TypeId)(x:Operand):c8 aB base (⟨aN,d,none,.wc nS x,a4⟩::bR) z t aT=(hO z t a4=true/\c8 aB base bR (c0 z d (.iface nS (Y z x))) (t) aT):=by simp only[c8,eA,if_true,iN,af.hW,af.ok,true_and];rfl
@[simp] theorem aMr:c8 aB base (⟨aN,d,none,.nc,a4⟩::bR) z t aT=(hO z t a4=true/\c8 aB base bR (c0 z d (.map (some (base+aN)))) (t.gL (base+aN) []) aT):=by simp only[c8,eA,if_true,iN,af.hW,af.ok,true_and];rfl
@[simp] theorem aMt(fK:j8)(zero:Value)(o:Bool)(x k:Operand):c8 aB base (⟨aN,d,none,.nd fK zero o x k,a4⟩::bR) z t aT=(adM fK t (Y z x) (Y z k)=true/\(hO z t a4=true/\c8 aB base bR (c0 z d (adN zero o t (Y z x) (Y z k))) (t) aT)):=by simp only[c8,eA,if_true,iN];rfl
@[simp] theorem aMv(fK:j8)(x k v:Operand):c8 aB base (⟨aN,d,none,.lR fK x k v,a4⟩::bR) z t aT=(adU fK t (Y z x) (Y z k) (Y z v)=true/\(hO z t a4=true/\c8 aB base bR (c0 z d (undef)) (adT t (Y z x) (Y z k) (Y z v)) aT)):=by simp only[c8,eA,if_true,iN];rfl
@[simp] theorem aCx{cJ:List Value}{k n:Nat}:o8 t (eL cJ k) n=decide (k+n<=cJ.length):=by simp[o8]
@[simp] theorem aCy{a o n:Nat}:o8 t (.pointer (some ⟨a,o,none⟩)) n=(match t.X a with|some x=>decide (o+n<=x.cells.length)|none=>false):=rfl
@[simp] theorem aGL{cJ:List Value}{k n:Nat}{dd:Bool}:v9 t dd n (eL cJ k)=if dd then .agg ((cJ.drop k).take n).toArray else((cJ.drop k).take 1).headD undef:=by simp[v9]
@[simp] theorem aGM{a o n:Nat}{dd:Bool}:v9 t dd n (.pointer (some ⟨a,o,none⟩))=if dd then .agg (hk t a o n).toArray else(hk t a o 1).headD undef:=rfl
@[simp] theorem aHM{cJ:List Value}{k:Nat}:oP (eL cJ k)=true:=rfl
@[simp] theorem aHN{a o:Nat}:oP (.pointer (some ⟨a,o,none⟩))=true:=rfl
@[simp] theorem aHK{cJ:List Value}{k n:Nat}:uL (eL cJ k) n=eL cJ (k+n):=by simp[uL]
@[simp] theorem aHL{a o n:Nat}:uL (.pointer (some ⟨a,o,none⟩)) n= .pointer (some ⟨a,o+n,none⟩):=rfl
section
variable {a8:List (List Value)} {I jf l c n:Nat} {a:Option Addr} {dU:Addr} {s:ByteArray} {i:Int}
@[simp] theorem aF4:xZ (aw a8 I)=true:=rfl
@[simp] theorem aF5:xZ (.slice a l c)=true:=rfl
@[simp] theorem aGz:jQ (aw a8 I)=a8.length:=by simp[jQ]
@[simp] theorem aGA:jQ (.slice a l c)=l:=rfl
@[simp] theorem aLg:j3 (aw a8 I)=a8.length:=by simp[j3]
@[simp] theorem aLh:j3 (.slice a l c)=l:=rfl
@[simp] theorem aLi:kW jf (aw a8 I)=(I==jf):=by simp[kW]
@[simp] theorem aLk{b o:Nat}:kW I (.slice (some ⟨b,o,none⟩) l c)=(c==I):=by simp[kW,hD]
@[simp] theorem aLj:kW I (.slice none 0 0)=true:=rfl
@[simp] theorem aLn{h:Nat}:rj (aw a8 I) jf l h=aw ((a8.take h).drop l) jf:=by simp[rj]
@[simp] theorem aLp{b o h:Nat}:rj (.slice (some ⟨b,o,none⟩) n c) I l h= .slice (some ⟨b,o+l*I,none⟩) (h-l) c:=rfl
@[simp] theorem aLo{h:Nat}:rj (.slice none n c) I l h= .slice none 0 0:=rfl
@[simp] theorem aLd:yn (aw a8 I) jf i=eL (a8.getD i.toNat []) 0:=by simp[yn]
@[simp] theorem aLe{b o:Nat}:yn (.slice (some ⟨b,o,none⟩) l c) I i= .pointer (some ⟨b,o+i.toNat*I,none⟩):=rfl
@[simp] theorem aLv:kB t jf (aw a8 I)=(I==jf):=by simp[kB]
@[simp] theorem aLx{b o:Nat}:kB t I (.slice (some ⟨b,o,none⟩) l c)=(c==I&&(match t.X b with|some x=>decide (o+l*I<=x.cells.length)|none=>false)):=rfl
@[simp] theorem aLw:kB t I (.slice none 0 0)=true:=rfl
@[simp] theorem aDq:k5 t jf (aw a8 I)=a8.flatten:=by simp[k5]
@[simp] theorem aDs{b o:Nat}:k5 t I (.slice (some ⟨b,o,none⟩) l c)=hk t b o (l*I):=rfl
@[simp] theorem aDr:k5 t I (.slice none l c)=[]:=rfl
end
@[simp] theorem aGd{k:IntKind}{n:Int}:jP (.int k n)=false:=rfl
@[simp] theorem aGa{b:Bool}:jP (.bool b)=false:=rfl
@[simp] theorem aGj{b:ByteArray}:jP (.string b)=false:=rfl
@[simp] theorem aGh{a:Option Addr}:jP (.pointer a)=false:=rfl
@[simp] theorem aGi{a:Option Addr}{l c:Nat}:jP (.slice a l c)=false:=rfl
@[simp] theorem aGe{a:Option Nat}:jP (.map a)=false:=rfl
@[simp] theorem aF9{a:Array Value}:jP (.agg a)=false:=rfl
@[simp] theorem aGk{a:Array Value}:jP (.tuple a)=false:=rfl
@[simp] theorem aGl:jP undef=false:=rfl
@[simp] theorem aGb{f:Nat}{a b:Array Value}:jP (.func (.func f) a b)=false:=rfl
@[simp] theorem aGf:jP .nilFunc=false:=rfl
@[simp] theorem aGg:jP .nilIface=false:=rfl
@[simp] theorem aGc{t:TypeId}{v:Value}:jP (.iface t v)=false:=rfl
@[simp] theorem aCF{k:IntKind}{n:Int}:lK (.int k n)=true:=rfl
@[simp] theorem aCD{b:Bool}:lK (.bool b)=true:=rfl
@[simp] theorem aCJ{b:ByteArray}:lK (.string b)=true:=rfl
@[simp] theorem aCI{a:Option Addr}:lK (.pointer a)=true:=rfl
@[simp] theorem aCG{l c:Nat}:lK (.slice none l c)=true:=rfl
@[simp] theorem aCE{f:Nat}{a b:Array Value}:lK (.func (.func f) a b)=true:=rfl
@[simp] theorem aCH:lK .nilFunc=true:=rfl
@[simp high] theorem aMM{a8:List (List Value)}{I:Nat}:O (aw a8 I)=[aw a8 I]:=rfl
@[simp high] theorem aML{cJ:List Value}{I:Nat}:O (eL cJ I)=[eL cJ I]:=rfl
@[simp high] theorem aG5{a8:List (List Value)}{I:Nat}:U (aw a8 I)=true:=rfl
@[simp high] theorem aG4{cJ:List Value}{I:Nat}:U (eL cJ I)=true:=rfl
@[simp high] theorem aHo{a8:List (List Value)}{I:Nat}:S (aw a8 I)=true:=rfl
@[simp high] theorem aDR{a8:List (List Value)}{I:Nat}:dQ (aw a8 I)=false:=rfl
@[simp high] theorem aDQ{cJ:List Value}{I:Nat}:dQ (eL cJ I)=false:=rfl
@[simp high] theorem aF3{cJ:List Value}{I:Nat}:z2 (eL cJ I)=true:=rfl
@[simp high] theorem aCM{a8:List (List Value)}{I:Nat}:N (aw a8 I)=none:=rfl
@[simp high] theorem aCL{cJ:List Value}{I:Nat}:N (eL cJ I)=none:=rfl
@[simp] theorem aDA:hO z t []=true:=rfl
@[simp] theorem aDz{x y:Operand}:hO z t ((x,y)::a4)=(I6 t (Y z x) (Y z y)&&hO z t a4):=rfl
@[simp] theorem aGr:Hn z t []=true:=rfl
@[simp] theorem aGq{x:Operand×Operand}:Hn z t (x::a4)=((match N (Y z x.1)with|some o=> !tm t o|none=>true)&&Hn z t a4):=rfl
section
variable {k:IntKind} {n:Int} {b:Bool} {s:ByteArray} {a:Option Addr} {l c f:Nat} {xs ys:Array Value} {v:Value} {nS:TypeId} {mp:Option Nat}
@[simp] theorem aMR:O (.int k n)=[.int k n]:=rfl
@[simp] theorem aHa:U (.int k n)=true:=rfl
@[simp] theorem aHt:S (.int k n)=true:=rfl
@[simp] theorem aMO:O (.bool b)=[.bool b]:=rfl
@[simp] theorem aG7:U (.bool b)=true:=rfl
@[simp] theorem aHq:S (.bool b)=true:=rfl
@[simp] theorem aMX:O (.string s)=[.string s]:=rfl
@[simp] theorem aHg:U (.string s)=true:=rfl
@[simp] theorem aHz:S (.string s)=true:=rfl
@[simp] theorem aMV:O (.pointer a)=[.pointer a]:=rfl
@[simp] theorem aHe:U (.pointer a)=true:=rfl
@[simp] theorem aHx:S (.pointer a)=true:=rfl
@[simp] theorem aMW:O (.slice a l c)=[.slice a l c]:=rfl
@[simp] theorem aHf:U (.slice a l c)=true:=rfl
@[simp] theorem aHy:S (.slice a l c)=true:=rfl
@[simp] theorem aMS:O (.map mp)=[.map mp]:=rfl
@[simp] theorem aHb:U (.map mp)=true:=rfl
@[simp] theorem aHu:S (.map mp)=true:=rfl
@[simp] theorem aMP:O (.func (.func f) xs ys)=[.func (.func f) xs ys]:=rfl
@[simp] theorem aG8:U (.func (.func f) xs ys)=true:=rfl
@[simp] theorem aHr:S (.func (.func f) xs ys)=true:=rfl
@[simp] theorem aMT:O (.nilFunc)=[.nilFunc]:=rfl
@[simp] theorem aHc:U (.nilFunc)=true:=rfl
@[simp] theorem aHv:S (.nilFunc)=true:=rfl
@[simp] theorem aMU:O (.nilIface)=[.nilIface]:=rfl
@[simp] theorem aHd:U (.nilIface)=true:=rfl
@[simp] theorem aHw:S (.nilIface)=true:=rfl
@[simp] theorem aMQ:O (.iface nS v)=[.iface nS v]:=rfl
@[simp] theorem aG9:U (.iface nS v)=true:=rfl
@[simp] theorem aHs:S (.iface nS v)=true:=rfl
@[simp] theorem aMN:O (.agg xs)=xs.toList:=rfl
@[simp] theorem aG6:U (.agg xs)=true:=rfl
@[simp] theorem aHp:S (.agg xs)=false:=rfl
@[simp] theorem aHh:U (.tuple xs)=false:=rfl
@[simp] theorem aCR:N (.int k n)=none:=rfl
@[simp] theorem aCO:N (.bool b)=none:=rfl
@[simp] theorem aC0:N (.string s)=none:=rfl
@[simp] theorem aCP:N (.func (.func f) xs ys)=none:=rfl
@[simp] theorem aCT:N (.nilFunc)=none:=rfl
@[simp] theorem aCU:N (.nilIface)=none:=rfl
@[simp] theorem aCQ:N (.iface nS v)=none:=rfl
@[simp] theorem aCN:N (.agg xs)=none:=rfl
@[simp] theorem aC1:N (.tuple xs)=none:=rfl
@[simp] theorem aCY{dU:Addr}:N (.pointer (some dU))=some dU.block:=rfl
@[simp] theorem aCX:N (.pointer none)=none:=rfl
@[simp] theorem aCZ{dU:Addr}:N (.slice (some dU) l c)=some dU.block:=rfl
@[simp] theorem aCV:N (.slice none l c)=none:=rfl
@[simp] theorem aCS:N (.map (some l))=some l:=rfl
@[simp] theorem aCW:N (.map none)=none:=rfl
end
@[simp] theorem aDd{f:Nat}{args:List Value}{L:List Nat}{aT:Value->W->Prop}:sA aB f args t L aT=if BK aB.p f=true then uM aB.p f args t aT else w5 aB f args t L aT:=by simp only[sA]
@[simp] theorem aDc{f:Nat}{args:List Value}{aT:Value->W->Prop}:w5 aB f args t [] aT=if xi aB.i f=true then sd aB.i f args t aT else fA P f args t aT:=propext j5
@[simp] theorem aDb{f o:Nat}{l:List Nat}{args:List Value}{aT:Value->W->Prop}:w5 aB f args t (o::l) aT=((o::l).all (MK t)=true/\if xi aB.i f=true then sd aB.i f args (kc t (o::l)) (λr bF=>aT r (lP t bF (o::l)))else fA P f args (kc t (o::l)) λr bF=>aT r (lP t bF (o::l))):=propext j5
@[simp] theorem aHF:lf z t []=[]:=rfl
@[simp] theorem aHE{x:Operand×Operand}:lf z t (x::a4)=(match N (Y z x.1)with|some o=>if tm t o=true then o::lf z t a4 else lf z t a4|none=>lf z t a4):=rfl
@[simp] theorem aHm{o:Nat}:MK t o=(match t.X o with|some x=> !x.cells.isEmpty|none=>false):=rfl
theorem V5{o b:Nat}(h:b≠o):(kc t [o]).X b=t.X b:=Jx (by simpa using h)
theorem adl{o b:Nat}{x:Option fq}(h:b≠o):lP t ((kc t [o]).a0 b x) [o]=t.a0 b x:=by
  unfold lP kc W.a0;simp only[W.mk.injEq,and_true,true_and,oX];funext i;by_cases e:i=o
  · subst e;rw[if_pos rfl,if_neg (λq=>h q.symm)]
  · rw[if_neg e];by_cases aR:i=b
    · rw[if_pos aR,if_pos aR]
    · rw[if_neg aR,if_neg aR,if_neg e]
@[simp] theorem aEz{f:Nat}:xi ([]:List (iQ P)) f=false:=rfl
@[simp] theorem aEy{s:iQ P}{f:Nat}:xi (s::Nt) f=(s.f==f||xi Nt f):=rfl
def Uj(o:Option (Value×W))(aT:Value->W->Prop):Prop:=match o with
  |some (r,t)=>aT r t
  |none=>False
@[simp] theorem aMJ{r:Value}{aT:Value->W->Prop}:Uj (some (r,t)) aT=aT r t:=propext j5
@[simp] theorem aLI{s:iQ P}{f:Nat}{args:List Value}{aT:Value->W->Prop}:sd (s::Nt) f args t aT=if s.f=f then Uj (s.fn args t) aT else sd Nt f args t aT:=propext j5
@[simp] theorem aEB{f:Nat}:BK ([]:List (bE P)) f=false:=rfl
@[simp] theorem aEA{s:bE P}{f:Nat}:BK (s::yr) f=(s.f==f||BK yr f):=rfl
def afK(o:Option Value)(cd:Value->Prop):Prop:=match o with
  |some r=>cd r
  |none=>False
@[simp] theorem aMK{r:Value}{cd:Value->Prop}:afK (some r) cd=cd r:=propext j5
@[simp] theorem aLK{s:bE P}{f:Nat}{args:List Value}{cd:Value->Prop}:tw (s::yr) f args cd=if s.f=f then afK (s.fn args) cd else tw yr f args cd:=propext j5
def Dl(args:List Value)(t:W)(aT:Value->W->Prop)(r:Value):Prop:=aT r (if my r=true then hl t (args.flatMap (ed 9 t))else qu t (args.flatMap (ed 9 t)))
@[simp low] theorem aHQ{args:List Value}{aT:Value->W->Prop}{r:Value}:Dl args t aT r=aT r (if my r=true then hl t (args.flatMap (ed 9 t))else qu t (args.flatMap (ed 9 t))):=propext j5
@[simp] theorem aHP{args:List Value}{aT:Value->W->Prop}{b:Bool}:Dl args t aT (.bool b)=aT (.bool b) (hl t (args.flatMap (ed 9 t))):=propext j5
@[simp] theorem aHR{args:List Value}{aT:Value->W->Prop}{k:IntKind}{n:Int}:Dl args t aT (.int k n)=aT (.int k n) (hl t (args.flatMap (ed 9 t))):=propext j5
@[simp] theorem aHS{args:List Value}{aT:Value->W->Prop}{s:ByteArray}:Dl args t aT (.string s)=aT (.string s) (hl t (args.flatMap (ed 9 t))):=propext j5
@[simp] theorem aHO{args:List Value}{aT:Value->W->Prop}{a8:List (List Value)}{I:Nat}:Dl args t aT (aw a8 I)=aT (aw a8 I) (qu t (args.flatMap (ed 9 t))):=propext j5
def afg(o:Option (List Value))(aB:List (bE P))(f:Nat)(cd:Value->Prop):Prop:=match o with
  |some ts=>tw aB f ts cd
  |none=>False
@[simp] theorem aLJ{ts:List Value}{f:Nat}{cd:Value->Prop}:afg (some ts) yr f cd=tw yr f ts cd:=propext j5
@[simp] theorem aHT{f:Nat}{args:List Value}{aT:Value->W->Prop}:uM yr f args t aT=afg (yZ 9 t args) yr f (Dl args t aT):=propext j5
open Classical in
noncomputable def bE.dR(f:Nat)(cf:Type)(bP:cf->Prop)(enc:cf->List Value)(jc:cf->Value)(ok: ∀x,bP x->bK P f (enc x) (jc x)):bE P:=
  ⟨f,λargs=>if h: ∃x,bP x/\enc x=args then some (jc h.choose)else none,λargs r h=>by
    split at h
    · next G=>cases h;have:=ok _ G.choose_spec.1;rw[G.choose_spec.2]at this;exact this
    · cases h⟩
theorem bE.eH{f:Nat}{cf:Type}{bP:cf->Prop}{enc:cf->List Value}{jc:cf->Value}{ok: ∀x,bP x->bK P f (enc x) (jc x)}{x:cf}(ai:bP x)(ak: ∀y,enc y=enc x->y=x):(bE.dR f cf bP enc jc ok).fn (enc x)=some (jc x):=by have gQ: ∃y,bP y/\enc y=enc x:=⟨x,ai,rfl⟩;simp only[bE.dR,dif_pos gQ];rw[ak _ gQ.choose_spec.2]
@[simp] theorem bE.aHn{f:Nat}{cf:Type}{bP:cf->Prop}{enc:cf->List Value}{jc:cf->Value}{ok: ∀x,bP x->bK P f (enc x) (jc x)}:(bE.dR f cf bP enc jc ok).f=f:=rfl
@[simp] theorem aEh{n:Nat}{args:List Value}:yZ n t args=ft (dO n t) args:=rfl
@[simp] theorem aHC{c4 kF:Type}{f:c4->Option kF}:ft f []=some []:=rfl
@[simp] theorem avX{c4 kF:Type}{f:c4->Option kF}{x:c4}{xs:List c4}:ft f (x::xs)=match f x with
  | some y=>(match ft f xs with
    |some ys=>some (y::ys)
    |none=>none)
  |none=>none:=rfl
theorem yY{n:Nat}{v:Value}(h:gN v=true):dO n t v=some v:=by cases n<;>simp[dO,h]
theorem yh{n:Nat}{v:Value}(h:gN v=true):ed n t v=[]:=by cases n<;>simp[ed,h]
@[simp] theorem aD8{n:Nat}{k:IntKind}{x:Int}:dO n t (.int k x)=some (.int k x):=yY rfl
@[simp] theorem aIh{n:Nat}{k:IntKind}{x:Int}:ed n t (.int k x)=[]:=yh rfl
@[simp] theorem aDj{k:IntKind}{x:Int}:gN (.int k x)=true:=rfl
@[simp] theorem aD1{n:Nat}{b:Bool}:dO n t (.bool b)=some (.bool b):=yY rfl
@[simp] theorem aIa{n:Nat}{b:Bool}:ed n t (.bool b)=[]:=yh rfl
@[simp] theorem aDi{b:Bool}:gN (.bool b)=true:=rfl
@[simp] theorem aEa{n:Nat}{s:ByteArray}:dO n t (.string s)=some (.string s):=yY rfl
@[simp] theorem aIj{n:Nat}{s:ByteArray}:ed n t (.string s)=[]:=yh rfl
@[simp] theorem aDp{s:ByteArray}:gN (.string s)=true:=rfl
@[simp] theorem aD9{n:Nat}:dO n t (.slice none 0 0)=some (.slice none 0 0):=yY rfl
@[simp] theorem aIi{n:Nat}:ed n t (.slice none 0 0)=[]:=yh rfl
@[simp] theorem aDm:gN (.slice none 0 0)=true:=rfl
@[simp] theorem aDo:gN (.pointer none)=true:=rfl
@[simp] theorem aDk:gN (.nilFunc)=true:=rfl
@[simp] theorem aDl:gN (.nilIface)=true:=rfl
@[simp] theorem aDn:gN (.map none)=true:=rfl
@[simp] theorem aDU{n:Nat}{a8:List (List Value)}{I:Nat}:dO n t (aw a8 I)=some (aw a8 I):=yY rfl
@[simp] theorem aH3{n:Nat}{a8:List (List Value)}{I:Nat}:ed n t (aw a8 I)=[]:=yh rfl
@[simp] theorem aDh{a8:List (List Value)}{I:Nat}:gN (aw a8 I)=true:=rfl
@[simp] theorem aDg{cJ:List Value}{I:Nat}:gN (eL cJ I)=true:=rfl
theorem OV{n b o l I:Nat}:dO (n+1) t (.slice (some ⟨b,o,none⟩) l I)=match t.X b with
  | some x=>if o+l*I<=x.cells.length then(match ft (ft (dO n t)) (kJ I l (x.cells.drop o))with
    |some a8=>some (aw a8 I)
    |none=>none)else none
  |none=>none:=by
  simp only[dO,gN,dQ,jP,Bool.or_false,jv,if_false,Option.isNone_none,ru,eO]<;>rfl
@[simp] theorem aD0{cs:Array Value}:dO 9 t (.agg cs)=match ft (dO 8 t) cs.toList with
  |some l=>some (.agg l.toArray)
  |none=>none:=rfl
@[simp] theorem aEg{cs:Array Value}:dO 9 t (.tuple cs)=match ft (dO 8 t) cs.toList with
  |some l=>some (.tuple l.toArray)
  |none=>none:=rfl
@[simp] theorem aD7{f:Nat}{xs cs:Array Value}:dO 9 t (.func (.func f) xs cs)=match ft (dO 8 t) xs.toList,ft (dO 8 t) cs.toList with
  |some l,some k=>some (.func (.func f) l.toArray k.toArray)
  |_,_=>none:=rfl
theorem qM{b o l I:Nat}:dO 9 t (.slice (some ⟨b,o,none⟩) l I)=match t.X b with
  | some x=>if o+l*I<=x.cells.length then(match ft (ft (dO 8 t)) (kJ I l (x.cells.drop o))with
    |some a8=>some (aw a8 I)
    |none=>none)else none
  |none=>none:=OV
@[simp] theorem aH9{cs:Array Value}:ed 9 t (.agg cs)=cs.toList.flatMap (ed 8 t):=rfl
@[simp] theorem aIp{cs:Array Value}:ed 9 t (.tuple cs)=cs.toList.flatMap (ed 8 t):=rfl
@[simp] theorem aIg{f:Nat}{xs cs:Array Value}:ed 9 t (.func (.func f) xs cs)=xs.toList.flatMap (ed 8 t)++cs.toList.flatMap (ed 8 t):=rfl
theorem ql{b o l I:Nat}:ed 9 t (.slice (some ⟨b,o,none⟩) l I)=b::(match t.X b with
  |some x=>x.cells.flatMap (ed 8 t)
  |none=>[]):=rfl
@[simp] theorem aDZ{cs:Array Value}:dO 8 t (.agg cs)=match ft (dO 7 t) cs.toList with
  |some l=>some (.agg l.toArray)
  |none=>none:=rfl
@[simp] theorem aEf{cs:Array Value}:dO 8 t (.tuple cs)=match ft (dO 7 t) cs.toList with
  |some l=>some (.tuple l.toArray)
  |none=>none:=rfl
@[simp] theorem aD6{f:Nat}{xs cs:Array Value}:dO 8 t (.func (.func f) xs cs)=match ft (dO 7 t) xs.toList,ft (dO 7 t) cs.toList with
  |some l,some k=>some (.func (.func f) l.toArray k.toArray)
  |_,_=>none:=rfl
theorem aiG{b o l I:Nat}:dO 8 t (.slice (some ⟨b,o,none⟩) l I)=match t.X b with
  | some x=>if o+l*I<=x.cells.length then(match ft (ft (dO 7 t)) (kJ I l (x.cells.drop o))with
    |some a8=>some (aw a8 I)
    |none=>none)else none
  |none=>none:=OV
@[simp] theorem aH8{cs:Array Value}:ed 8 t (.agg cs)=cs.toList.flatMap (ed 7 t):=rfl
@[simp] theorem aIo{cs:Array Value}:ed 8 t (.tuple cs)=cs.toList.flatMap (ed 7 t):=rfl
@[simp] theorem aIf{f:Nat}{xs cs:Array Value}:ed 8 t (.func (.func f) xs cs)=xs.toList.flatMap (ed 7 t)++cs.toList.flatMap (ed 7 t):=rfl
theorem awy{b o l I:Nat}:ed 8 t (.slice (some ⟨b,o,none⟩) l I)=b::(match t.X b with
  |some x=>x.cells.flatMap (ed 7 t)
  |none=>[]):=rfl
@[simp] theorem aDY{cs:Array Value}:dO 7 t (.agg cs)=match ft (dO 6 t) cs.toList with
  |some l=>some (.agg l.toArray)
  |none=>none:=rfl
@[simp] theorem aEe{cs:Array Value}:dO 7 t (.tuple cs)=match ft (dO 6 t) cs.toList with
  |some l=>some (.tuple l.toArray)
  |none=>none:=rfl
@[simp] theorem aD5{f:Nat}{xs cs:Array Value}:dO 7 t (.func (.func f) xs cs)=match ft (dO 6 t) xs.toList,ft (dO 6 t) cs.toList with
  |some l,some k=>some (.func (.func f) l.toArray k.toArray)
  |_,_=>none:=rfl
@[simp] theorem aH7{cs:Array Value}:ed 7 t (.agg cs)=cs.toList.flatMap (ed 6 t):=rfl
@[simp] theorem aIn{cs:Array Value}:ed 7 t (.tuple cs)=cs.toList.flatMap (ed 6 t):=rfl
@[simp] theorem aIe{f:Nat}{xs cs:Array Value}:ed 7 t (.func (.func f) xs cs)=xs.toList.flatMap (ed 6 t)++cs.toList.flatMap (ed 6 t):=rfl
@[simp] theorem aDX{cs:Array Value}:dO 6 t (.agg cs)=match ft (dO 5 t) cs.toList with
  |some l=>some (.agg l.toArray)
  |none=>none:=rfl
@[simp] theorem aEd{cs:Array Value}:dO 6 t (.tuple cs)=match ft (dO 5 t) cs.toList with
  |some l=>some (.tuple l.toArray)
  |none=>none:=rfl
@[simp] theorem aD4{f:Nat}{xs cs:Array Value}:dO 6 t (.func (.func f) xs cs)=match ft (dO 5 t) xs.toList,ft (dO 5 t) cs.toList with
  |some l,some k=>some (.func (.func f) l.toArray k.toArray)
  |_,_=>none:=rfl
@[simp] theorem aH6{cs:Array Value}:ed 6 t (.agg cs)=cs.toList.flatMap (ed 5 t):=rfl
@[simp] theorem aIm{cs:Array Value}:ed 6 t (.tuple cs)=cs.toList.flatMap (ed 5 t):=rfl
@[simp] theorem aId{f:Nat}{xs cs:Array Value}:ed 6 t (.func (.func f) xs cs)=xs.toList.flatMap (ed 5 t)++cs.toList.flatMap (ed 5 t):=rfl
@[simp] theorem aDW{cs:Array Value}:dO 5 t (.agg cs)=match ft (dO 4 t) cs.toList with
  |some l=>some (.agg l.toArray)
  |none=>none:=rfl
@[simp] theorem aEc{cs:Array Value}:dO 5 t (.tuple cs)=match ft (dO 4 t) cs.toList with
  |some l=>some (.tuple l.toArray)
  |none=>none:=rfl
@[simp] theorem aD3{f:Nat}{xs cs:Array Value}:dO 5 t (.func (.func f) xs cs)=match ft (dO 4 t) xs.toList,ft (dO 4 t) cs.toList with
  |some l,some k=>some (.func (.func f) l.toArray k.toArray)
  |_,_=>none:=rfl
@[simp] theorem aH5{cs:Array Value}:ed 5 t (.agg cs)=cs.toList.flatMap (ed 4 t):=rfl
@[simp] theorem aIl{cs:Array Value}:ed 5 t (.tuple cs)=cs.toList.flatMap (ed 4 t):=rfl
@[simp] theorem aIc{f:Nat}{xs cs:Array Value}:ed 5 t (.func (.func f) xs cs)=xs.toList.flatMap (ed 4 t)++cs.toList.flatMap (ed 4 t):=rfl
@[simp] theorem aDV{cs:Array Value}:dO 4 t (.agg cs)=match ft (dO 3 t) cs.toList with
  |some l=>some (.agg l.toArray)
  |none=>none:=rfl
@[simp] theorem aEb{cs:Array Value}:dO 4 t (.tuple cs)=match ft (dO 3 t) cs.toList with
  |some l=>some (.tuple l.toArray)
  |none=>none:=rfl
@[simp] theorem aD2{f:Nat}{xs cs:Array Value}:dO 4 t (.func (.func f) xs cs)=match ft (dO 3 t) xs.toList,ft (dO 3 t) cs.toList with
  |some l,some k=>some (.func (.func f) l.toArray k.toArray)
  |_,_=>none:=rfl
@[simp] theorem aH4{cs:Array Value}:ed 4 t (.agg cs)=cs.toList.flatMap (ed 3 t):=rfl
@[simp] theorem aIk{cs:Array Value}:ed 4 t (.tuple cs)=cs.toList.flatMap (ed 3 t):=rfl
@[simp] theorem aIb{f:Nat}{xs cs:Array Value}:ed 4 t (.func (.func f) xs cs)=xs.toList.flatMap (ed 3 t)++cs.toList.flatMap (ed 3 t):=rfl
@[simp] theorem aDt{I:Nat}{cs:List Value}:kJ I 0 cs=[]:=rfl
@[simp] theorem aDu{I:Nat}{cs:List Value}:kJ I 1 cs=[cs.take I]:=rfl
@[simp] theorem aDv{I:Nat}{cs:List Value}:kJ I 2 cs=[cs.take I,(cs.drop I).take I]:=rfl
@[simp] theorem aDw{I:Nat}{cs:List Value}:kJ I 3 cs=[cs.take I,(cs.drop I).take I,((cs.drop I).drop I).take I]:=rfl
@[simp] theorem aDx{I:Nat}{cs:List Value}:kJ I 4 cs=[cs.take I,(cs.drop I).take I,((cs.drop I).drop I).take I,(((cs.drop I).drop I).drop I).take I]:=rfl
@[simp] theorem aDy{I:Nat}{cs:List Value}:kJ I 5 cs=[cs.take I,(cs.drop I).take I,((cs.drop I).drop I).take I,(((cs.drop I).drop I).drop I).take I,((((cs.drop I).drop I).drop I).drop I).take I]:=rfl
@[simp] theorem aGS:g6.next=0:=rfl
@[simp] theorem aGR{o:Nat}:g6.X o=none:=Sv o
theorem sG{a8:List (List Value)}{n o l I:Nat}{w:Bool}(aF:t.X o=some ⟨a8.flatten,w⟩)(aD:l=a8.length)(az: ∀r∈a8,r.length=I/\ ∀v∈r,gN v=true):dO (n+1) t (.slice (some ⟨o,0,none⟩) l I)=some (aw a8 I):=by subst aD;have bD: ∀r∈a8,r.length=I:= λr h=>(az r h).1;have H:ft (ft (dO n t)) a8=some a8:=HD λr h=>HD λv ad=>yY ((az r h).2 v ad);have aq:(a8.flatten).length=a8.length*I:=rG bD;simp[dO,gN,dQ,jP,aF,Ox bD,H,aq]
theorem MX{cs:List Value}{n:Nat}(az: ∀v∈cs,gN v=true):cs.flatMap (ed n t)=[]:=by rw[List.flatMap_eq_nil_iff];exact λv ad=>yh (az v ad)
end
@[simp] theorem aIA{d gJ:List Value}{l:List (List Value)}:(gJ::l)[0]?.getD d=gJ:=rfl
@[simp] theorem aIB{d gJ bw:List Value}{l:List (List Value)}:(gJ::bw::l)[1]?.getD d=bw:=rfl
@[simp] theorem aIC{d gJ bw bJ:List Value}{l:List (List Value)}:(gJ::bw::bJ::l)[2]?.getD d=bJ:=rfl
attribute [simp] I6 Es tm EY EX sH O1 mz
end Go.DI
